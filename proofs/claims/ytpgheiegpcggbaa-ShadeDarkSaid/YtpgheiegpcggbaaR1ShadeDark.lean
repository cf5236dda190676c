/- Of every two colours and either state of the fetch, the law ShadeDark answers true. No condition. -/
import Derived.Test.YtpgheiegpcggbaaR1P
set_option linter.unusedVariables false
set_option linter.unusedSimpArgs false
namespace Go.Proofs.Ytpgheiegpcggbaa.shadeDark
open Go Go.Sx Go.ChangeShapes Go.WideShapes Go.ChangeAt Go.RowKit

theorem own : ownKnob Try.prog.godebug = none := by kernel_rfl
theorem mixed : Try.prog.follows .mixedOrders = true := by kernel_rfl
theorem laid : laidOutB Try.prog = true := by kernel_rfl
theorem entersF : Enters Try.prog 5 Try.f5 := ⟨Try.func5, by kernel_rfl, by kernel_rfl⟩

theorem list4 {l : List Value} (h : l.length = 4) : ∃ x0 x1 x2 x3, l = [x0, x1, x2, x3] := by
  match l, h with
  | [x0, x1, x2, x3], _ => exact ⟨x0, x1, x2, x3, rfl⟩

theorem mins (a b x : Int) (h : x ≤ a) (h' : x ≤ b) : decide (x > if b < a then b else a) = false := by
  rw [decide_eq_false_iff_not]; split <;> omega

theorem bodyTrue (a0_0 : Int) (a0_1 : Int) (a0_2 : Int) (a0_3 : Int) (a1_0 : Int) (a1_1 : Int) (a1_2 : Int) (a1_3 : Int) (a2 : Bool) (h_a0_0 : 0 ≤ a0_0 ∧ a0_0 ≤ 255) (h_a0_1 : 0 ≤ a0_1 ∧ a0_1 ≤ 255) (h_a0_2 : 0 ≤ a0_2 ∧ a0_2 ≤ 255) (h_a0_3 : 0 ≤ a0_3 ∧ a0_3 ≤ 255) (h_a1_0 : 0 ≤ a1_0 ∧ a1_0 ≤ 255) (h_a1_1 : 0 ≤ a1_1 ∧ a1_1 ≤ 255) (h_a1_2 : 0 ≤ a1_2 ∧ a1_2 ≤ 255) (h_a1_3 : 0 ≤ a1_3 ∧ a1_3 ≤ 255) :
    bodyK calls Try.prog 5 Try.f5 [.agg [.lit (.int .u8 a0_0), .lit (.int .u8 a0_1), .lit (.int .u8 a0_2), .lit (.int .u8 a0_3)], .agg [.lit (.int .u8 a1_0), .lit (.int .u8 a1_1), .lit (.int .u8 a1_2), .lit (.int .u8 a1_3)], .lit (.bool a2)] Sx.empty boolOf = some true := by
  have e : bodyK calls Try.prog 5 Try.f5 [.agg [.lit (.int .u8 a0_0), .lit (.int .u8 a0_1), .lit (.int .u8 a0_2), .lit (.int .u8 a0_3)], .agg [.lit (.int .u8 a1_0), .lit (.int .u8 a1_1), .lit (.int .u8 a1_2), .lit (.int .u8 a1_3)], .lit (.bool a2)] Sx.empty boolOf =
    (bif decide (tmz a1_0 a0_0 > if a1_0 < a0_0 then a1_0 else a0_0) then some false else
     bif decide (tmz a1_1 a0_1 > if a1_1 < a0_1 then a1_1 else a0_1) then some false else
     bif decide (tmz a1_2 a0_2 > if a1_2 < a0_2 then a1_2 else a0_2) then some false else
     bif decide (tmz a1_3 a0_3 > if a1_3 < a0_3 then a1_3 else a0_3) then some false else
     bif tmz a1_0 0 == 0 && (tmz a1_1 0 == 0 && (tmz a1_2 0 == 0 && (tmz a1_3 0 == 0 && true))) then
       (bif tmz a1_0 a0_0 == tmz a0_0 a1_0 && (tmz a1_1 a0_1 == tmz a0_1 a1_1 && (tmz a1_2 a0_2 == tmz a0_2 a1_2 && (tmz a1_3 a0_3 == tmz a0_3 a1_3 && true))) then some true else some false)
     else some false) := by kernel_rfl
  have t0 := tmz_le h_a1_0.1 h_a1_0.2 h_a0_0.1 h_a0_0.2
  have t1 := tmz_le h_a1_1.1 h_a1_1.2 h_a0_1.1 h_a0_1.2
  have t2 := tmz_le h_a1_2.1 h_a1_2.2 h_a0_2.1 h_a0_2.2
  have t3 := tmz_le h_a1_3.1 h_a1_3.2 h_a0_3.1 h_a0_3.2
  rw [e, mins _ _ _ t0.2.2 t0.2.1, mins _ _ _ t1.2.2 t1.2.1, mins _ _ _ t2.2.2 t2.2.1, mins _ _ _ t3.2.2 t3.2.1, tmz_zero h_a1_0.1 h_a1_0.2, tmz_zero h_a1_1.1 h_a1_1.2, tmz_zero h_a1_2.1 h_a1_2.2, tmz_zero h_a1_3.1 h_a1_3.2,
    tmz_comm h_a1_0.1 h_a1_0.2 h_a0_0.1 h_a0_0.2, tmz_comm h_a1_1.1 h_a1_1.2 h_a0_1.1 h_a0_1.2, tmz_comm h_a1_2.1 h_a1_2.2 h_a0_2.1 h_a0_2.2, tmz_comm h_a1_3.1 h_a1_3.2 h_a0_3.1 h_a0_3.2]
  simp

theorem walk (a0_0 : Int) (a0_1 : Int) (a0_2 : Int) (a0_3 : Int) (a1_0 : Int) (a1_1 : Int) (a1_2 : Int) (a1_3 : Int) (a2 : Bool) (h_a0_0 : 0 ≤ a0_0 ∧ a0_0 ≤ 255) (h_a0_1 : 0 ≤ a0_1 ∧ a0_1 ≤ 255) (h_a0_2 : 0 ≤ a0_2 ∧ a0_2 ≤ 255) (h_a0_3 : 0 ≤ a0_3 ∧ a0_3 ≤ 255) (h_a1_0 : 0 ≤ a1_0 ∧ a1_0 ≤ 255) (h_a1_1 : 0 ≤ a1_1 ∧ a1_1 ≤ 255) (h_a1_2 : 0 ≤ a1_2 ∧ a1_2 ≤ 255) (h_a1_3 : 0 ≤ a1_3 ∧ a1_3 ≤ 255) (w : World) :
    Calls Try.prog 5 #[.agg #[.int .u8 a0_0, .int .u8 a0_1, .int .u8 a0_2, .int .u8 a0_3], .agg #[.int .u8 a1_0, .int .u8 a1_1, .int .u8 a1_2, .int .u8 a1_3], .bool a2] w fun e w' => e = .returned (.bool true) ∧ Below w.heap.size w w' := by
  have h := law_of calls_sound mixed entersF (bodyTrue a0_0 a0_1 a0_2 a0_3 a1_0 a1_1 a1_2 a1_3 a2 h_a0_0 h_a0_1 h_a0_2 h_a0_3 h_a1_0 h_a1_1 h_a1_2 h_a1_3) (E := ⟨fun _ => 0, fun _ => undef⟩) (RepM.empty _ w) (by kernel_rfl) (by kernel_rfl)
  exact h

theorem walkV (W : World) (base : Nat) (v0 : Value) (v1 : Value) (v2 : Value) (hv0 : Value.okWide Try.prog W .any base 23 v0) (hv1 : Value.okWide Try.prog W .any base 23 v1) (hv2 : Value.okWide Try.prog W .any base 4 v2) : Calls Try.prog 5 #[v0, v1, v2] W fun e w' => e = .returned (.bool true) ∧ Below W.heap.size W w' := by
  obtain ⟨cs0, rfl, hl0, hc0⟩ := ok_agg (P := Try.prog) (t := 23) (ts := [5, 5, 5, 5]) (by kernel_rfl) (by kernel_rfl) (by kernel_rfl) hv0
  obtain ⟨c0_0, c0_1, c0_2, c0_3, rfl⟩ := list4 hl0
  obtain ⟨a0_0, rfl, b0_0, b0_0'⟩ := cell_int Try.underlying5 (hc0 0 5 _ rfl rfl)
  obtain ⟨a0_1, rfl, b0_1, b0_1'⟩ := cell_int Try.underlying5 (hc0 1 5 _ rfl rfl)
  obtain ⟨a0_2, rfl, b0_2, b0_2'⟩ := cell_int Try.underlying5 (hc0 2 5 _ rfl rfl)
  obtain ⟨a0_3, rfl, b0_3, b0_3'⟩ := cell_int Try.underlying5 (hc0 3 5 _ rfl rfl)
  obtain ⟨cs1, rfl, hl1, hc1⟩ := ok_agg (P := Try.prog) (t := 23) (ts := [5, 5, 5, 5]) (by kernel_rfl) (by kernel_rfl) (by kernel_rfl) hv1
  obtain ⟨c1_0, c1_1, c1_2, c1_3, rfl⟩ := list4 hl1
  obtain ⟨a1_0, rfl, b1_0, b1_0'⟩ := cell_int Try.underlying5 (hc1 0 5 _ rfl rfl)
  obtain ⟨a1_1, rfl, b1_1, b1_1'⟩ := cell_int Try.underlying5 (hc1 1 5 _ rfl rfl)
  obtain ⟨a1_2, rfl, b1_2, b1_2'⟩ := cell_int Try.underlying5 (hc1 2 5 _ rfl rfl)
  obtain ⟨a1_3, rfl, b1_3, b1_3'⟩ := cell_int Try.underlying5 (hc1 3 5 _ rfl rfl)
  obtain ⟨a2, rfl⟩ := ok_bool Try.underlying4 hv2
  exact walk a0_0 a0_1 a0_2 a0_3 a1_0 a1_1 a1_2 a1_3 a2 ⟨b0_0, b0_0'⟩ ⟨b0_1, b0_1'⟩ ⟨b0_2, b0_2'⟩ ⟨b0_3, b0_3'⟩ ⟨b1_0, b1_0'⟩ ⟨b1_1, b1_1'⟩ ⟨b1_2, b1_2'⟩ ⟨b1_3, b1_3'⟩ W

set_option maxRecDepth 100000 in
theorem lifted (os : Os) (started : os.Started) (H : Type) (enc : TypeId × Value → H) :
    ReturnsInHanded {} Try.checked os 5 .any (Rows.shadeDarkSpec.pre6 enc Try.prog Try.f5 Rows.shadeDarkRow.domain false) (Rows.shadeDarkSpec.post enc Try.prog Try.f5 false true false false) := by
  refine returnsInHanded_of_change (C := Try.checked) own started (by kernel_rfl) Try.func5
    (ChangeSpec.witness6 (enc := enc) (C := Try.checked) false ⟨#[], #[.agg #[.int .u8 0, .int .u8 0, .int .u8 0, .int .u8 0], .agg #[.int .u8 0, .int .u8 0, .int .u8 0, .int .u8 0], .bool false], []⟩ 8 (by kernel_rfl) (by kernel_rfl) (by kernel_rfl) (by kernel_rfl)) ?_
  intro W base args ds gs before hval0 hW _ _
  have hval : ∀ (j : Nat) t v, Try.f5.params[j]? = some t → args[j]? = some v → Value.okWide Try.prog W .any base t v := hval0
  have hW' := hW
  obtain ⟨p, q, hA0, _, rfl, _, _⟩ := hW
  have hA : DataW.TrodAll enc Try.prog W 0 (fun _ => true) true Try.f5.params.toList args.toList ds p := hA0
  rw [Try.params5] at hA hval
  obtain ⟨v0, vs0, d0, ds0, p0, q0, hargs, rfl, rfl, h0, r0⟩ := trodAll_cons hA
  obtain ⟨v1, vs1, d1, ds1, p1, q1, rfl, rfl, rfl, h1, r1⟩ := trodAll_cons r0
  obtain ⟨v2, vs2, d2, ds2, p2, q2, rfl, rfl, rfl, h2, r2⟩ := trodAll_cons r1
  obtain ⟨rfl, rfl, rfl⟩ := trodAll_nil r2
  obtain rfl : args = #[v0, v1, v2] := by cases args; simp_all
  refine (walkV W base v0 v1 v2 (hval 0 23 v0 rfl rfl) (hval 1 23 v1 rfl rfl) (hval 2 4 v2 rfl rfl)).mono fun e W' ⟨he, hb⟩ => ?_
  subst he
  exact ⟨_, rfl, law_post (tb := 4) hW' rfl rfl laid (by kernel_rfl) rfl Try.underlying4 hb⟩

theorem over : Rows.shadeDarkRow.holds Try.pinned (OpenSpec.ofChange Rows.shadeDarkSpec) :=
  OpenClaim.holds_of_wide 5 Try.f5 rfl rfl rfl rfl rfl rfl rfl ⟨rfl, rfl, rfl, rfl, rfl⟩ rfl rfl rfl rfl rfl (by kernel_rfl) Try.func5 (by kernel_rfl)
    (of_decide_eq_true (by kernel_rfl)) (by unfold Func.isWrapper; first | (rw [if_pos (by decide +kernel)]; kernel_rfl) | (rw [if_neg (by decide +kernel)]; exact ⟨rfl, rfl⟩))
    (fun os started H enc _ => lifted os started H enc)

theorem proved : Rows.ShadeDarkSaid := over
end Go.Proofs.Ytpgheiegpcggbaa.shadeDark

