/- Of all inputs the law answers true; no condition. -/
import Derived.Test.YtpgheiegpcggbaaR1G
set_option linter.unusedVariables false
set_option linter.unusedSimpArgs false
namespace Go.Proofs.Ytpgheiegpcggbaa.hueGoes
open Go Go.Sx Go.ChangeShapes Go.WideShapes Go.ChangeAt Go.RowKit

theorem own : ownKnob Try.prog.godebug = none := by kernel_rfl
theorem mixed : Try.prog.follows .mixedOrders = true := by kernel_rfl
theorem laid : laidOutB Try.prog = true := by kernel_rfl
theorem entersF : Enters Try.prog 9 Try.f9 := ⟨Try.func9, by kernel_rfl, by kernel_rfl⟩

theorem list4 {l : List Value} (h : l.length = 4) : ∃ x0 x1 x2 x3, l = [x0, x1, x2, x3] := by
  match l, h with
  | [x0, x1, x2, x3], _ => exact ⟨x0, x1, x2, x3, rfl⟩

def gB (a b x y z : Int) : Bool := bif (bif (bif decide (a ≤ b) then decide (x > y) else false) then true else (bif decide (a ≥ b) then decide (x < y) else false)) then true else x != z
theorem lpt_id {t : Int} (h : 0 ≤ t) (h' : t ≤ 256) : lpt t = t := by
  unfold lpt
  rw [if_neg (show ¬ 0 > t by omega), if_neg (by omega)]
theorem gB_eq {a b s t : Int} (ha : By a) (hb : By b) (h0 : 0 ≤ s) (h1 : s ≤ t) (h2 : t ≤ 256) : gB a b (lpz a b s) (lpz a b t) (lpz b a (W (256 - s))) = false := by
  have hz : lpz b a (W (256 - s)) = lpz a b s := by
    rw [W_id (by omega) (by omega), lpz_eq hb ha, lpz_eq ha hb, lpt_id (show 0 ≤ 256 - s by omega) (by omega), lpt_id h0 (by omega)]
    congr 1
    grind
  have hup : a ≤ b → lpz a b s ≤ lpz a b t := fun h => by
    rw [lpz_eq ha hb, lpz_eq ha hb, lpt_id h0 (by omega), lpt_id (by omega) h2]
    have := Int.mul_nonneg (show 0 ≤ t - s by omega) (show 0 ≤ b - a by omega)
    have e : (256 - t) * a + t * b = (256 - s) * a + s * b + (t - s) * (b - a) := by grind
    omega
  have hdn : a ≥ b → lpz a b t ≤ lpz a b s := fun h => by
    rw [lpz_eq ha hb, lpz_eq ha hb, lpt_id h0 (by omega), lpt_id (by omega) h2]
    have := Int.mul_nonneg (show 0 ≤ t - s by omega) (show 0 ≤ a - b by omega)
    have e : (256 - s) * a + s * b = (256 - t) * a + t * b + (t - s) * (a - b) := by grind
    omega
  unfold gB
  rw [hz]
  generalize lpz a b s = x at *
  generalize lpz a b t = y at *
  by_cases h : a ≤ b
  · have := hup h
    rw [decide_eq_true h, decide_eq_false (show ¬ x > y by omega)]
    by_cases g : a ≥ b
    · have := hdn g
      rw [decide_eq_true g, decide_eq_false (show ¬ x < y by omega)]
      simp
    · rw [decide_eq_false g]; simp
  · have := hdn (by omega)
    rw [decide_eq_false h, decide_eq_true (show a ≥ b by omega), decide_eq_false (show ¬ x < y by omega)]
    simp
theorem bodyTrue (a0_0 : Int) (a0_1 : Int) (a0_2 : Int) (a0_3 : Int) (a1_0 : Int) (a1_1 : Int) (a1_2 : Int) (a1_3 : Int) (a2 : Int) (a3 : Int) (h_a0_0 : 0 ≤ a0_0 ∧ a0_0 ≤ 255) (h_a0_1 : 0 ≤ a0_1 ∧ a0_1 ≤ 255) (h_a0_2 : 0 ≤ a0_2 ∧ a0_2 ≤ 255) (h_a0_3 : 0 ≤ a0_3 ∧ a0_3 ≤ 255) (h_a1_0 : 0 ≤ a1_0 ∧ a1_0 ≤ 255) (h_a1_1 : 0 ≤ a1_1 ∧ a1_1 ≤ 255) (h_a1_2 : 0 ≤ a1_2 ∧ a1_2 ≤ 255) (h_a1_3 : 0 ≤ a1_3 ∧ a1_3 ≤ 255) (h_a2 : -9223372036854775808 ≤ a2 ∧ a2 ≤ 9223372036854775807) (h_a3 : -9223372036854775808 ≤ a3 ∧ a3 ≤ 9223372036854775807) :
    bodyK ch.withJoin Try.prog 9 Try.f9 [.agg [.lit (.int .u8 a0_0), .lit (.int .u8 a0_1), .lit (.int .u8 a0_2), .lit (.int .u8 a0_3)], .agg [.lit (.int .u8 a1_0), .lit (.int .u8 a1_1), .lit (.int .u8 a1_2), .lit (.int .u8 a1_3)], .lit (.int .i64 a2), .lit (.int .i64 a3)] Sx.empty boolOf = some true := by
  have e : bodyK ch.withJoin Try.prog 9 Try.f9 [.agg [.lit (.int .u8 a0_0), .lit (.int .u8 a0_1), .lit (.int .u8 a0_2), .lit (.int .u8 a0_3)], .agg [.lit (.int .u8 a1_0), .lit (.int .u8 a1_1), .lit (.int .u8 a1_2), .lit (.int .u8 a1_3)], .lit (.int .i64 a2), .lit (.int .i64 a3)] Sx.empty boolOf =
    (bif (bif (bif decide (a2 < 0) then true else decide (a2 > a3)) then true else decide (a3 > 256)) then some true else
      bif gB a0_0 a1_0 (lpz a0_0 a1_0 a2) (lpz a0_0 a1_0 a3) (lpz a1_0 a0_0 (W (256 - a2))) then some false else
      bif gB a0_1 a1_1 (lpz a0_1 a1_1 a2) (lpz a0_1 a1_1 a3) (lpz a1_1 a0_1 (W (256 - a2))) then some false else
      bif gB a0_2 a1_2 (lpz a0_2 a1_2 a2) (lpz a0_2 a1_2 a3) (lpz a1_2 a0_2 (W (256 - a2))) then some false else
      bif gB a0_3 a1_3 (lpz a0_3 a1_3 a2) (lpz a0_3 a1_3 a3) (lpz a1_3 a0_3 (W (256 - a2))) then some false else some true) := by kernel_rfl
  rw [e]
  clear e
  by_cases g1 : a2 < 0
  · rw [decide_eq_true g1]; rfl
  by_cases g2 : a2 > a3
  · rw [decide_eq_true g2]; cases decide (a2 < 0) <;> rfl
  by_cases g3 : a3 > 256
  · rw [decide_eq_true g3]; cases decide (a2 < 0) <;> cases decide (a2 > a3) <;> rfl
  rw [gB_eq h_a0_0 h_a1_0 (by omega) (by omega) (by omega), gB_eq h_a0_1 h_a1_1 (by omega) (by omega) (by omega), gB_eq h_a0_2 h_a1_2 (by omega) (by omega) (by omega), gB_eq h_a0_3 h_a1_3 (by omega) (by omega) (by omega)]
  rw [decide_eq_false g1, decide_eq_false g2, decide_eq_false g3]
  rfl

theorem walk (a0_0 : Int) (a0_1 : Int) (a0_2 : Int) (a0_3 : Int) (a1_0 : Int) (a1_1 : Int) (a1_2 : Int) (a1_3 : Int) (a2 : Int) (a3 : Int) (h_a0_0 : 0 ≤ a0_0 ∧ a0_0 ≤ 255) (h_a0_1 : 0 ≤ a0_1 ∧ a0_1 ≤ 255) (h_a0_2 : 0 ≤ a0_2 ∧ a0_2 ≤ 255) (h_a0_3 : 0 ≤ a0_3 ∧ a0_3 ≤ 255) (h_a1_0 : 0 ≤ a1_0 ∧ a1_0 ≤ 255) (h_a1_1 : 0 ≤ a1_1 ∧ a1_1 ≤ 255) (h_a1_2 : 0 ≤ a1_2 ∧ a1_2 ≤ 255) (h_a1_3 : 0 ≤ a1_3 ∧ a1_3 ≤ 255) (h_a2 : -9223372036854775808 ≤ a2 ∧ a2 ≤ 9223372036854775807) (h_a3 : -9223372036854775808 ≤ a3 ∧ a3 ≤ 9223372036854775807) (w : World) :
    Calls Try.prog 9 #[.agg #[.int .u8 a0_0, .int .u8 a0_1, .int .u8 a0_2, .int .u8 a0_3], .agg #[.int .u8 a1_0, .int .u8 a1_1, .int .u8 a1_2, .int .u8 a1_3], .int .i64 a2, .int .i64 a3] w fun e w' => e = .returned (.bool true) ∧ Below w.heap.size w w' := by
  have h := law_of (CallSem.withJoin_sound ch_sound) mixed entersF (bodyTrue a0_0 a0_1 a0_2 a0_3 a1_0 a1_1 a1_2 a1_3 a2 a3 h_a0_0 h_a0_1 h_a0_2 h_a0_3 h_a1_0 h_a1_1 h_a1_2 h_a1_3 h_a2 h_a3) (E := ⟨fun _ => 0, fun _ => undef⟩) (RepM.empty _ w) (by kernel_rfl) (by kernel_rfl)
  exact h

theorem walkV (W : World) (base : Nat) (v0 : Value) (v1 : Value) (v2 : Value) (v3 : Value) (hv0 : Value.okWide Try.prog W .any base 23 v0) (hv1 : Value.okWide Try.prog W .any base 23 v1) (hv2 : Value.okWide Try.prog W .any base 3 v2) (hv3 : Value.okWide Try.prog W .any base 3 v3) : Calls Try.prog 9 #[v0, v1, v2, v3] W fun e w' => e = .returned (.bool true) ∧ Below W.heap.size W w' := by
  obtain ⟨cs0, rfl, hl0, hc0⟩ := ok_agg (P := Try.prog) (t := 23) (ts := [5, 5, 5, 5]) (by kernel_rfl) (by kernel_rfl) (by kernel_rfl) hv0
  obtain ⟨c0_0, c0_1, c0_2, c0_3, rfl⟩ := list4 hl0
  obtain ⟨a0_0, rfl, b0_0, b0_0'⟩ := cell_int Try.underlying5 (hc0 0 5 _ rfl rfl)
  obtain ⟨a0_1, rfl, b0_1, b0_1'⟩ := cell_int Try.underlying5 (hc0 1 5 _ rfl rfl)
  obtain ⟨a0_2, rfl, b0_2, b0_2'⟩ := cell_int Try.underlying5 (hc0 2 5 _ rfl rfl)
  obtain ⟨a0_3, rfl, b0_3, b0_3'⟩ := cell_int Try.underlying5 (hc0 3 5 _ rfl rfl)
  obtain ⟨cs1, rfl, hl1, hc1⟩ := ok_agg (P := Try.prog) (t := 23) (ts := [5, 5, 5, 5]) (by kernel_rfl) (by kernel_rfl) (by kernel_rfl) hv1
  obtain ⟨c1_0, c1_1, c1_2, c1_3, rfl⟩ := list4 hl1
  obtain ⟨a1_0, rfl, b1_0, b1_0'⟩ := cell_int Try.underlying5 (hc1 0 5 _ rfl rfl)
  obtain ⟨a1_1, rfl, b1_1, b1_1'⟩ := cell_int Try.underlying5 (hc1 1 5 _ rfl rfl)
  obtain ⟨a1_2, rfl, b1_2, b1_2'⟩ := cell_int Try.underlying5 (hc1 2 5 _ rfl rfl)
  obtain ⟨a1_3, rfl, b1_3, b1_3'⟩ := cell_int Try.underlying5 (hc1 3 5 _ rfl rfl)
  obtain ⟨a2, rfl, b2, b2'⟩ := ok_int Try.underlying3 hv2
  obtain ⟨a3, rfl, b3, b3'⟩ := ok_int Try.underlying3 hv3
  exact walk a0_0 a0_1 a0_2 a0_3 a1_0 a1_1 a1_2 a1_3 a2 a3 ⟨b0_0, b0_0'⟩ ⟨b0_1, b0_1'⟩ ⟨b0_2, b0_2'⟩ ⟨b0_3, b0_3'⟩ ⟨b1_0, b1_0'⟩ ⟨b1_1, b1_1'⟩ ⟨b1_2, b1_2'⟩ ⟨b1_3, b1_3'⟩ ⟨b2, b2'⟩ ⟨b3, b3'⟩ W

set_option maxRecDepth 100000 in
theorem lifted (os : Os) (started : os.Started) (H : Type) (enc : TypeId × Value → H) :
    ReturnsInHanded {} Try.checked os 9 .any (Rows.hueGoesSpec.pre6 enc Try.prog Try.f9 Rows.hueGoesRow.domain false) (Rows.hueGoesSpec.post enc Try.prog Try.f9 false true false false) := by
  refine returnsInHanded_of_change (C := Try.checked) own started (by kernel_rfl) Try.func9
    (ChangeSpec.witness6 (enc := enc) (C := Try.checked) false ⟨#[], #[.agg #[.int .u8 0, .int .u8 0, .int .u8 0, .int .u8 0], .agg #[.int .u8 0, .int .u8 0, .int .u8 0, .int .u8 0], .int .i64 0, .int .i64 0], []⟩ 8 (by kernel_rfl) (by kernel_rfl) (by kernel_rfl) (by kernel_rfl)) ?_
  intro W base args ds gs before hval0 hW _ _
  have hval : ∀ (j : Nat) t v, Try.f9.params[j]? = some t → args[j]? = some v → Value.okWide Try.prog W .any base t v := hval0
  have hW' := hW
  obtain ⟨p, q, hA0, _, rfl, _, _⟩ := hW
  have hA : DataW.TrodAll enc Try.prog W 0 (fun _ => true) true Try.f9.params.toList args.toList ds p := hA0
  rw [Try.params9] at hA hval
  obtain ⟨v0, vs0, d0, ds0, p0, q0, hargs, rfl, rfl, h0, r0⟩ := trodAll_cons hA
  obtain ⟨v1, vs1, d1, ds1, p1, q1, rfl, rfl, rfl, h1, r1⟩ := trodAll_cons r0
  obtain ⟨v2, vs2, d2, ds2, p2, q2, rfl, rfl, rfl, h2, r2⟩ := trodAll_cons r1
  obtain ⟨v3, vs3, d3, ds3, p3, q3, rfl, rfl, rfl, h3, r3⟩ := trodAll_cons r2
  obtain ⟨rfl, rfl, rfl⟩ := trodAll_nil r3
  obtain rfl : args = #[v0, v1, v2, v3] := by cases args; simp_all
  refine (walkV W base v0 v1 v2 v3 (hval 0 23 v0 rfl rfl) (hval 1 23 v1 rfl rfl) (hval 2 3 v2 rfl rfl) (hval 3 3 v3 rfl rfl)).mono fun e W' ⟨he, hb⟩ => ?_
  subst he
  exact ⟨_, rfl, law_post (tb := 4) hW' rfl rfl laid (by kernel_rfl) rfl Try.underlying4 hb⟩

theorem over : Rows.hueGoesRow.holds Try.pinned (OpenSpec.ofChange Rows.hueGoesSpec) :=
  OpenClaim.holds_of_wide 9 Try.f9 rfl rfl rfl rfl rfl rfl rfl ⟨rfl, rfl, rfl, rfl, rfl⟩ rfl rfl rfl rfl rfl (by kernel_rfl) Try.func9 (by kernel_rfl)
    (of_decide_eq_true (by kernel_rfl)) (by unfold Func.isWrapper; first | (rw [if_pos (by decide +kernel)]; kernel_rfl) | (rw [if_neg (by decide +kernel)]; exact ⟨rfl, rfl⟩))
    (fun os started H enc _ => lifted os started H enc)

theorem proved : Rows.HueGoesSaid := over
end Go.Proofs.Ytpgheiegpcggbaa.hueGoes

