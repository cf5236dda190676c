import Derived.Test.YtplfijdonikaoaaL25A
import Derived.Test.YtplfijdonikaoaaScrB
set_option linter.unusedVariables false
set_option linter.unusedSimpArgs false
namespace Go.Proofs.Ytplfijdonikaoaa.screenMirrors
open Go Go.Sx Go.ChangeShapes Go.WideShapes Go.ChangeAt Go.RowKit

theorem own : ownKnob Try.prog.godebug = none := by kernel_rfl
theorem mixed : Try.prog.follows .mixedOrders = true := by kernel_rfl
theorem laid : laidOutB Try.prog = true := by kernel_rfl
theorem entersF : Enters Try.prog 5 Try.f5 := ⟨Try.func5, by kernel_rfl, by kernel_rfl⟩

theorem list6 {l : List Value} (h : l.length = 6) : ∃ x0 x1 x2 x3 x4 x5, l = [x0, x1, x2, x3, x4, x5] := by
  match l, h with
  | [x0, x1, x2, x3, x4, x5], _ => exact ⟨x0, x1, x2, x3, x4, x5, rfl⟩

open Go.Fx
theorem bodyTrue (a0_0 : Int) (a0_1 : Int) (a0_2 : Int) (a0_3 : Int) (a0_4 : Int) (a0_5 : Int) (a1 : Int) (a2 : Int) (h_a0_0 : -9223372036854775808 ≤ a0_0 ∧ a0_0 ≤ 9223372036854775807) (h_a0_1 : -9223372036854775808 ≤ a0_1 ∧ a0_1 ≤ 9223372036854775807) (h_a0_2 : -9223372036854775808 ≤ a0_2 ∧ a0_2 ≤ 9223372036854775807) (h_a0_3 : -9223372036854775808 ≤ a0_3 ∧ a0_3 ≤ 9223372036854775807) (h_a0_4 : -9223372036854775808 ≤ a0_4 ∧ a0_4 ≤ 9223372036854775807) (h_a0_5 : -9223372036854775808 ≤ a0_5 ∧ a0_5 ≤ 9223372036854775807) (h_a1 : -9223372036854775808 ≤ a1 ∧ a1 ≤ 9223372036854775807) (h_a2 : -9223372036854775808 ≤ a2 ∧ a2 ≤ 9223372036854775807) :
    bodyK cM1 Try.prog 9 Try.f5 [.agg [.lit (.int .i64 a0_0), .lit (.int .i64 a0_1), .lit (.int .i64 a0_2), .lit (.int .i64 a0_3), .lit (.int .i64 a0_4), .lit (.int .i64 a0_5)], .lit (.int .i64 a1), .lit (.int .i64 a2)] Sx.empty boolOf = some true := by
  have e : bodyK cM1 Try.prog 9 Try.f5 [.agg [.lit (.int .i64 a0_0), .lit (.int .i64 a0_1), .lit (.int .i64 a0_2), .lit (.int .i64 a0_3), .lit (.int .i64 a0_4), .lit (.int .i64 a0_5)], .lit (.int .i64 a1), .lit (.int .i64 a2)] Sx.empty boolOf =
    (bif !okSp a0_0 a0_1 a0_2 a0_3 a0_4 a0_5 a1 a2 then some true else
     bif okSp (wi (0 - a0_0)) (wi (0 - a0_1)) a0_2 a0_3 a0_4 a0_5 a1 a2 then
     bif decide (wi (wi (b0 (okSp a0_0 a0_1 a0_2 a0_3 a0_4 a0_5 a1 a2) (spX (dW a0_3) a0_0 a1) + b0 (okSp (wi (0 - a0_0)) (wi (0 - a0_1)) a0_2 a0_3 a0_4 a0_5 a1 a2) (spX (dW a0_3) (wi (0 - a0_0)) a1)) - wi (256 * a1)) ≥ 0) then
     bif decide (wi (wi (b0 (okSp a0_0 a0_1 a0_2 a0_3 a0_4 a0_5 a1 a2) (spX (dW a0_3) a0_0 a1) + b0 (okSp (wi (0 - a0_0)) (wi (0 - a0_1)) a0_2 a0_3 a0_4 a0_5 a1 a2) (spX (dW a0_3) (wi (0 - a0_0)) a1)) - wi (256 * a1)) ≤ 1) then
     bif decide (wi (wi (b0 (okSp a0_0 a0_1 a0_2 a0_3 a0_4 a0_5 a1 a2) (spY (dW a0_3) a0_1 a2) + b0 (okSp (wi (0 - a0_0)) (wi (0 - a0_1)) a0_2 a0_3 a0_4 a0_5 a1 a2) (spY (dW a0_3) (wi (0 - a0_1)) a2)) - wi (256 * a2)) ≥ 0) then
     bif decide (wi (wi (b0 (okSp a0_0 a0_1 a0_2 a0_3 a0_4 a0_5 a1 a2) (spY (dW a0_3) a0_1 a2) + b0 (okSp (wi (0 - a0_0)) (wi (0 - a0_1)) a0_2 a0_3 a0_4 a0_5 a1 a2) (spY (dW a0_3) (wi (0 - a0_1)) a2)) - wi (256 * a2)) ≤ 1) then
     bif b0 (okSp a0_0 a0_1 a0_2 a0_3 a0_4 a0_5 a1 a2) (spZ (dW a0_3) a0_2) == b0 (okSp (wi (0 - a0_0)) (wi (0 - a0_1)) a0_2 a0_3 a0_4 a0_5 a1 a2) (spZ (dW a0_3) a0_2) then
     bif b0 (okSp a0_0 a0_1 a0_2 a0_3 a0_4 a0_5 a1 a2) (dW a0_3) == b0 (okSp (wi (0 - a0_0)) (wi (0 - a0_1)) a0_2 a0_3 a0_4 a0_5 a1 a2) (dW a0_3) then some true else some false else some false else some false else some false else some false else some false else some false) := by kernel_rfl
  rw [e]
  clear e
  cases hk : okSp a0_0 a0_1 a0_2 a0_3 a0_4 a0_5 a1 a2
  · rfl
  obtain ⟨h0, h1, h2, h3, h4, h5, h6⟩ := okSp_iff.1 hk
  have r0 := nI_iff.1 h0
  have r1 := nI_iff.1 h1
  have e0 : wi (0 - a0_0) = -a0_0 := by rw [wi_id (by omega) (by omega)]; omega
  have e1 : wi (0 - a0_1) = -a0_1 := by rw [wi_id (by omega) (by omega)]; omega
  have hk' : okSp (-a0_0) (-a0_1) a0_2 a0_3 a0_4 a0_5 a1 a2 = true := okSp_iff.2 ⟨by rw [nI_neg]; exact h0, by rw [nI_neg]; exact h1, h2, h3, h4, h5, h6⟩
  obtain ⟨d0, d1⟩ := dW_bd h3
  obtain ⟨w0, w1, w2, w3⟩ := szB_iff.1 h4
  rw [e0, e1, hk']
  simp only [b0, cond_true, Bool.not_true, cond_false, beq_self_eq_true]
  generalize dW a0_3 = D at *
  have x1 := spX_bd (n := a0_0) d0 d1 w0 w1
  have x2 := spX_bd (n := -a0_0) d0 d1 w0 w1
  have y1 := spY_bd (n := a0_1) d0 d1 w2 w3
  have y2 := spY_bd (n := -a0_1) d0 d1 w2 w3
  have mx := mirror_x D a0_0 a1 (by omega)
  have my := mirror_y D a0_1 a2 (by omega)
  generalize spX D a0_0 a1 = X at *
  generalize spX D (-a0_0) a1 = X' at *
  generalize spY D a0_1 a2 = Y at *
  generalize spY D (-a0_1) a2 = Y' at *
  have eX : wi (wi (X + X') - wi (256 * a1)) = X + X' - 256 * a1 := by rw [wi_id (n := X + X') (by omega) (by omega), wi_id (n := 256 * a1) (by omega) (by omega), wi_id (by omega) (by omega)]
  have eY : wi (wi (Y + Y') - wi (256 * a2)) = Y + Y' - 256 * a2 := by rw [wi_id (n := Y + Y') (by omega) (by omega), wi_id (n := 256 * a2) (by omega) (by omega), wi_id (by omega) (by omega)]
  simp only [cond_eq_ite, decide_eq_true_eq, eX, eY]
  rw [if_pos (by omega), if_pos (by omega), if_pos (by omega), if_pos (by omega)]

theorem walk (a0_0 : Int) (a0_1 : Int) (a0_2 : Int) (a0_3 : Int) (a0_4 : Int) (a0_5 : Int) (a1 : Int) (a2 : Int) (h_a0_0 : -9223372036854775808 ≤ a0_0 ∧ a0_0 ≤ 9223372036854775807) (h_a0_1 : -9223372036854775808 ≤ a0_1 ∧ a0_1 ≤ 9223372036854775807) (h_a0_2 : -9223372036854775808 ≤ a0_2 ∧ a0_2 ≤ 9223372036854775807) (h_a0_3 : -9223372036854775808 ≤ a0_3 ∧ a0_3 ≤ 9223372036854775807) (h_a0_4 : -9223372036854775808 ≤ a0_4 ∧ a0_4 ≤ 9223372036854775807) (h_a0_5 : -9223372036854775808 ≤ a0_5 ∧ a0_5 ≤ 9223372036854775807) (h_a1 : -9223372036854775808 ≤ a1 ∧ a1 ≤ 9223372036854775807) (h_a2 : -9223372036854775808 ≤ a2 ∧ a2 ≤ 9223372036854775807)  (w : World)  :
    Calls Try.prog 5 #[.agg #[.int .i64 a0_0, .int .i64 a0_1, .int .i64 a0_2, .int .i64 a0_3, .int .i64 a0_4, .int .i64 a0_5], .int .i64 a1, .int .i64 a2] w fun e w' => e = .returned (.bool true) ∧ Below w.heap.size w w' := by
  have h := law_of cM1_sound mixed entersF (bodyTrue a0_0 a0_1 a0_2 a0_3 a0_4 a0_5 a1 a2 h_a0_0 h_a0_1 h_a0_2 h_a0_3 h_a0_4 h_a0_5 h_a1 h_a2) (E := ⟨fun _ => 0, fun _ => undef⟩) (w := w) (RepM.empty ⟨fun _ => 0, fun _ => undef⟩ w) (by kernel_rfl) (by kernel_rfl)
  exact h

theorem walkV (W : World) (base : Nat) (v0 : Value) (v1 : Value) (v2 : Value) (hv0 : Value.okWide Try.prog W .any base 25 v0) (hv1 : Value.okWide Try.prog W .any base 3 v1) (hv2 : Value.okWide Try.prog W .any base 3 v2)  : Calls Try.prog 5 #[v0, v1, v2] W fun e w' => e = .returned (.bool true) ∧ Below W.heap.size W w' := by
  obtain ⟨cs0, rfl, hl0, hc0⟩ := ok_agg (P := Try.prog) (t := 25) (ts := [3, 3, 3, 3, 3, 3]) (by kernel_rfl) (by kernel_rfl) (by kernel_rfl) hv0
  obtain ⟨c0_0, c0_1, c0_2, c0_3, c0_4, c0_5, rfl⟩ := list6 hl0
  obtain ⟨a0_0, rfl, b0_0, b0_0'⟩ := cell_int Try.underlying3 (hc0 0 3 _ rfl rfl)
  obtain ⟨a0_1, rfl, b0_1, b0_1'⟩ := cell_int Try.underlying3 (hc0 1 3 _ rfl rfl)
  obtain ⟨a0_2, rfl, b0_2, b0_2'⟩ := cell_int Try.underlying3 (hc0 2 3 _ rfl rfl)
  obtain ⟨a0_3, rfl, b0_3, b0_3'⟩ := cell_int Try.underlying3 (hc0 3 3 _ rfl rfl)
  obtain ⟨a0_4, rfl, b0_4, b0_4'⟩ := cell_int Try.underlying3 (hc0 4 3 _ rfl rfl)
  obtain ⟨a0_5, rfl, b0_5, b0_5'⟩ := cell_int Try.underlying3 (hc0 5 3 _ rfl rfl)
  obtain ⟨a1, rfl, b1, b1'⟩ := ok_int Try.underlying3 hv1
  obtain ⟨a2, rfl, b2, b2'⟩ := ok_int Try.underlying3 hv2
  exact walk a0_0 a0_1 a0_2 a0_3 a0_4 a0_5 a1 a2 ⟨b0_0, b0_0'⟩ ⟨b0_1, b0_1'⟩ ⟨b0_2, b0_2'⟩ ⟨b0_3, b0_3'⟩ ⟨b0_4, b0_4'⟩ ⟨b0_5, b0_5'⟩ ⟨b1, b1'⟩ ⟨b2, b2'⟩  W 

set_option maxRecDepth 100000 in
theorem lifted (os : Os) (started : os.Started) (H : Type) (enc : TypeId × Value → H) :
    ReturnsInHanded {} Try.checked os 5 .any (Rows.screenMirrorsSpec.pre6 enc Try.prog Try.f5 Rows.screenMirrorsRow.domain false) (Rows.screenMirrorsSpec.post enc Try.prog Try.f5 false true false false) := by
  refine returnsInHanded_of_change (C := Try.checked) own started (by kernel_rfl) Try.func5
    (ChangeSpec.witness6 (enc := enc) (C := Try.checked) false ⟨#[], #[.agg #[.int .i64 0, .int .i64 0, .int .i64 0, .int .i64 0, .int .i64 0, .int .i64 0], .int .i64 0, .int .i64 0], []⟩ 8 (by kernel_rfl) (by kernel_rfl) (by kernel_rfl) (by kernel_rfl)) ?_
  intro W base args ds gs before hval0 hW _ _
  have hval : ∀ (j : Nat) t v, Try.f5.params[j]? = some t → args[j]? = some v → Value.okWide Try.prog W .any base t v := hval0
  have hW' := hW
  obtain ⟨p, q, hA0, _, rfl, _, _⟩ := hW
  have hA : DataW.TrodAll enc Try.prog W 0 (fun _ => true) true Try.f5.params.toList args.toList ds p := hA0
  rw [Try.params5] at hA hval
  obtain ⟨v0, vs0, d0, ds0, p0, q0, hargs, rfl, rfl, h0, r0⟩ := trodAll_cons hA
  obtain ⟨v1, vs1, d1, ds1, p1, q1, rfl, rfl, rfl, h1, r1⟩ := trodAll_cons r0
  obtain ⟨v2, vs2, d2, ds2, p2, q2, rfl, rfl, rfl, h2, r2⟩ := trodAll_cons r1
  obtain ⟨rfl, rfl, rfl⟩ := trodAll_nil r2
  obtain rfl : args = #[v0, v1, v2] := by cases args; simp_all
  refine (walkV W base v0 v1 v2 (hval 0 25 v0 rfl rfl) (hval 1 3 v1 rfl rfl) (hval 2 3 v2 rfl rfl) ).mono fun e W' ⟨he, hb⟩ => ?_
  subst he
  exact ⟨_, rfl, law_post (tb := 4) hW' rfl rfl laid (by kernel_rfl) rfl Try.underlying4 hb⟩

theorem over : Rows.screenMirrorsRow.holds Try.pinned (OpenSpec.ofChange Rows.screenMirrorsSpec) :=
  OpenClaim.holds_of_wide 5 Try.f5 rfl rfl rfl rfl rfl rfl rfl ⟨rfl, rfl, rfl, rfl, rfl⟩ rfl rfl rfl rfl rfl (by kernel_rfl) Try.func5 (by kernel_rfl)
    (of_decide_eq_true (by kernel_rfl)) (by unfold Func.isWrapper; first | (rw [if_pos (by decide +kernel)]; kernel_rfl) | (rw [if_neg (by decide +kernel)]; exact ⟨rfl, rfl⟩))
    (fun os started H enc _ => lifted os started H enc)

theorem proved : Rows.ScreenMirrorsSaid := over
end Go.Proofs.Ytplfijdonikaoaa.screenMirrors

