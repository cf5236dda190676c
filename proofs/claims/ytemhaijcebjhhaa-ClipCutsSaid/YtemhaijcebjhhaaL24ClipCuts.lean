import Derived.Test.YtemhaijcebjhhaaL24L
import Derived.Test.YtemhaijcebjhhaaClipC
set_option linter.unusedVariables false
set_option linter.unusedSimpArgs false
namespace Go.Proofs.Ytemhaijcebjhhaa.clipCuts
open Go Go.Sx Go.ChangeShapes Go.WideShapes Go.ChangeAt Go.RowKit

theorem own : ownKnob Try.prog.godebug = none := by kernel_rfl
theorem mixed : Try.prog.follows .mixedOrders = true := by kernel_rfl
theorem laid : laidOutB Try.prog = true := by kernel_rfl
theorem entersF : Enters Try.prog 5 Try.f5 := ⟨Try.func5, by kernel_rfl, by kernel_rfl⟩

theorem list6 {l : List Value} (h : l.length = 6) : ∃ x0 x1 x2 x3 x4 x5, l = [x0, x1, x2, x3, x4, x5] := by
  match l, h with
  | [x0, x1, x2, x3, x4, x5], _ => exact ⟨x0, x1, x2, x3, x4, x5, rfl⟩

open Go.Fx
theorem bodyTrue (a0_0 : Int) (a0_1 : Int) (a0_2 : Int) (a0_3 : Int) (a0_4 : Int) (a0_5 : Int) (a1_0 : Int) (a1_1 : Int) (a1_2 : Int) (a1_3 : Int) (a1_4 : Int) (a1_5 : Int) (a2 : Int) (h_a0_0 : -9223372036854775808 ≤ a0_0 ∧ a0_0 ≤ 9223372036854775807) (h_a0_1 : -9223372036854775808 ≤ a0_1 ∧ a0_1 ≤ 9223372036854775807) (h_a0_2 : -9223372036854775808 ≤ a0_2 ∧ a0_2 ≤ 9223372036854775807) (h_a0_3 : -9223372036854775808 ≤ a0_3 ∧ a0_3 ≤ 9223372036854775807) (h_a0_4 : -9223372036854775808 ≤ a0_4 ∧ a0_4 ≤ 9223372036854775807) (h_a0_5 : -9223372036854775808 ≤ a0_5 ∧ a0_5 ≤ 9223372036854775807) (h_a1_0 : -9223372036854775808 ≤ a1_0 ∧ a1_0 ≤ 9223372036854775807) (h_a1_1 : -9223372036854775808 ≤ a1_1 ∧ a1_1 ≤ 9223372036854775807) (h_a1_2 : -9223372036854775808 ≤ a1_2 ∧ a1_2 ≤ 9223372036854775807) (h_a1_3 : -9223372036854775808 ≤ a1_3 ∧ a1_3 ≤ 9223372036854775807) (h_a1_4 : -9223372036854775808 ≤ a1_4 ∧ a1_4 ≤ 9223372036854775807) (h_a1_5 : -9223372036854775808 ≤ a1_5 ∧ a1_5 ≤ 9223372036854775807) (h_a2 : -9223372036854775808 ≤ a2 ∧ a2 ≤ 9223372036854775807) :
    bodyK cL Try.prog 24 Try.f5 [.agg [.lit (.int .i64 a0_0), .lit (.int .i64 a0_1), .lit (.int .i64 a0_2), .lit (.int .i64 a0_3), .lit (.int .i64 a0_4), .lit (.int .i64 a0_5)], .agg [.lit (.int .i64 a1_0), .lit (.int .i64 a1_1), .lit (.int .i64 a1_2), .lit (.int .i64 a1_3), .lit (.int .i64 a1_4), .lit (.int .i64 a1_5)], .lit (.int .i64 a2)] Sx.empty boolOf = some true := by
  have e : bodyK cL Try.prog 24 Try.f5 [.agg [.lit (.int .i64 a0_0), .lit (.int .i64 a0_1), .lit (.int .i64 a0_2), .lit (.int .i64 a0_3), .lit (.int .i64 a0_4), .lit (.int .i64 a0_5)], .agg [.lit (.int .i64 a1_0), .lit (.int .i64 a1_1), .lit (.int .i64 a1_2), .lit (.int .i64 a1_3), .lit (.int .i64 a1_4), .lit (.int .i64 a1_5)], .lit (.int .i64 a2)] Sx.empty boolOf = cutsT a0_0 a0_1 a0_2 a0_3 a0_4 a0_5 a1_0 a1_1 a1_2 a1_3 a1_4 a1_5 a2 := by kernel_rfl
  rw [e]
  exact cutsT_true _ _ _ _ _ _ _ _ _ _ _ _ _

theorem walk (a0_0 : Int) (a0_1 : Int) (a0_2 : Int) (a0_3 : Int) (a0_4 : Int) (a0_5 : Int) (a1_0 : Int) (a1_1 : Int) (a1_2 : Int) (a1_3 : Int) (a1_4 : Int) (a1_5 : Int) (a2 : Int) (h_a0_0 : -9223372036854775808 ≤ a0_0 ∧ a0_0 ≤ 9223372036854775807) (h_a0_1 : -9223372036854775808 ≤ a0_1 ∧ a0_1 ≤ 9223372036854775807) (h_a0_2 : -9223372036854775808 ≤ a0_2 ∧ a0_2 ≤ 9223372036854775807) (h_a0_3 : -9223372036854775808 ≤ a0_3 ∧ a0_3 ≤ 9223372036854775807) (h_a0_4 : -9223372036854775808 ≤ a0_4 ∧ a0_4 ≤ 9223372036854775807) (h_a0_5 : -9223372036854775808 ≤ a0_5 ∧ a0_5 ≤ 9223372036854775807) (h_a1_0 : -9223372036854775808 ≤ a1_0 ∧ a1_0 ≤ 9223372036854775807) (h_a1_1 : -9223372036854775808 ≤ a1_1 ∧ a1_1 ≤ 9223372036854775807) (h_a1_2 : -9223372036854775808 ≤ a1_2 ∧ a1_2 ≤ 9223372036854775807) (h_a1_3 : -9223372036854775808 ≤ a1_3 ∧ a1_3 ≤ 9223372036854775807) (h_a1_4 : -9223372036854775808 ≤ a1_4 ∧ a1_4 ≤ 9223372036854775807) (h_a1_5 : -9223372036854775808 ≤ a1_5 ∧ a1_5 ≤ 9223372036854775807) (h_a2 : -9223372036854775808 ≤ a2 ∧ a2 ≤ 9223372036854775807)  (w : World)  :
    Calls Try.prog 5 #[.agg #[.int .i64 a0_0, .int .i64 a0_1, .int .i64 a0_2, .int .i64 a0_3, .int .i64 a0_4, .int .i64 a0_5], .agg #[.int .i64 a1_0, .int .i64 a1_1, .int .i64 a1_2, .int .i64 a1_3, .int .i64 a1_4, .int .i64 a1_5], .int .i64 a2] w fun e w' => e = .returned (.bool true) ∧ Below w.heap.size w w' := by
  have h := law_of cL_sound mixed entersF (bodyTrue a0_0 a0_1 a0_2 a0_3 a0_4 a0_5 a1_0 a1_1 a1_2 a1_3 a1_4 a1_5 a2 h_a0_0 h_a0_1 h_a0_2 h_a0_3 h_a0_4 h_a0_5 h_a1_0 h_a1_1 h_a1_2 h_a1_3 h_a1_4 h_a1_5 h_a2) (E := ⟨fun _ => 0, fun _ => undef⟩) (w := w) (RepM.empty ⟨fun _ => 0, fun _ => undef⟩ w) (by kernel_rfl) (by kernel_rfl)
  exact h

theorem walkV (W : World) (base : Nat) (v0 : Value) (v1 : Value) (v2 : Value) (hv0 : Value.okWide Try.prog W .any base 28 v0) (hv1 : Value.okWide Try.prog W .any base 28 v1) (hv2 : Value.okWide Try.prog W .any base 3 v2)  : Calls Try.prog 5 #[v0, v1, v2] W fun e w' => e = .returned (.bool true) ∧ Below W.heap.size W w' := by
  obtain ⟨cs0, rfl, hl0, hc0⟩ := ok_agg (P := Try.prog) (t := 28) (ts := [3, 3, 3, 3, 3, 3]) (by kernel_rfl) (by kernel_rfl) (by kernel_rfl) hv0
  obtain ⟨c0_0, c0_1, c0_2, c0_3, c0_4, c0_5, rfl⟩ := list6 hl0
  obtain ⟨a0_0, rfl, b0_0, b0_0'⟩ := cell_int Try.underlying3 (hc0 0 3 _ rfl rfl)
  obtain ⟨a0_1, rfl, b0_1, b0_1'⟩ := cell_int Try.underlying3 (hc0 1 3 _ rfl rfl)
  obtain ⟨a0_2, rfl, b0_2, b0_2'⟩ := cell_int Try.underlying3 (hc0 2 3 _ rfl rfl)
  obtain ⟨a0_3, rfl, b0_3, b0_3'⟩ := cell_int Try.underlying3 (hc0 3 3 _ rfl rfl)
  obtain ⟨a0_4, rfl, b0_4, b0_4'⟩ := cell_int Try.underlying3 (hc0 4 3 _ rfl rfl)
  obtain ⟨a0_5, rfl, b0_5, b0_5'⟩ := cell_int Try.underlying3 (hc0 5 3 _ rfl rfl)
  obtain ⟨cs1, rfl, hl1, hc1⟩ := ok_agg (P := Try.prog) (t := 28) (ts := [3, 3, 3, 3, 3, 3]) (by kernel_rfl) (by kernel_rfl) (by kernel_rfl) hv1
  obtain ⟨c1_0, c1_1, c1_2, c1_3, c1_4, c1_5, rfl⟩ := list6 hl1
  obtain ⟨a1_0, rfl, b1_0, b1_0'⟩ := cell_int Try.underlying3 (hc1 0 3 _ rfl rfl)
  obtain ⟨a1_1, rfl, b1_1, b1_1'⟩ := cell_int Try.underlying3 (hc1 1 3 _ rfl rfl)
  obtain ⟨a1_2, rfl, b1_2, b1_2'⟩ := cell_int Try.underlying3 (hc1 2 3 _ rfl rfl)
  obtain ⟨a1_3, rfl, b1_3, b1_3'⟩ := cell_int Try.underlying3 (hc1 3 3 _ rfl rfl)
  obtain ⟨a1_4, rfl, b1_4, b1_4'⟩ := cell_int Try.underlying3 (hc1 4 3 _ rfl rfl)
  obtain ⟨a1_5, rfl, b1_5, b1_5'⟩ := cell_int Try.underlying3 (hc1 5 3 _ rfl rfl)
  obtain ⟨a2, rfl, b2, b2'⟩ := ok_int Try.underlying3 hv2
  exact walk a0_0 a0_1 a0_2 a0_3 a0_4 a0_5 a1_0 a1_1 a1_2 a1_3 a1_4 a1_5 a2 ⟨b0_0, b0_0'⟩ ⟨b0_1, b0_1'⟩ ⟨b0_2, b0_2'⟩ ⟨b0_3, b0_3'⟩ ⟨b0_4, b0_4'⟩ ⟨b0_5, b0_5'⟩ ⟨b1_0, b1_0'⟩ ⟨b1_1, b1_1'⟩ ⟨b1_2, b1_2'⟩ ⟨b1_3, b1_3'⟩ ⟨b1_4, b1_4'⟩ ⟨b1_5, b1_5'⟩ ⟨b2, b2'⟩  W 

set_option maxRecDepth 100000 in
theorem lifted (os : Os) (started : os.Started) (H : Type) (enc : TypeId × Value → H) :
    ReturnsInHanded {} Try.checked os 5 .any (Rows.clipCutsSpec.pre6 enc Try.prog Try.f5 Rows.clipCutsRow.domain false) (Rows.clipCutsSpec.post enc Try.prog Try.f5 false true false false) := by
  refine returnsInHanded_of_change (C := Try.checked) own started (by kernel_rfl) Try.func5
    (ChangeSpec.witness6 (enc := enc) (C := Try.checked) false ⟨#[], #[.agg #[.int .i64 0, .int .i64 0, .int .i64 0, .int .i64 0, .int .i64 0, .int .i64 0], .agg #[.int .i64 0, .int .i64 0, .int .i64 0, .int .i64 0, .int .i64 0, .int .i64 0], .int .i64 0], []⟩ 8 (by kernel_rfl) (by kernel_rfl) (by kernel_rfl) (by kernel_rfl)) ?_
  intro W base args ds gs before hval0 hW _ _
  have hval : ∀ (j : Nat) t v, Try.f5.params[j]? = some t → args[j]? = some v → Value.okWide Try.prog W .any base t v := hval0
  have hW' := hW
  obtain ⟨p, q, hA0, _, rfl, _, _⟩ := hW
  have hA : DataW.TrodAll enc Try.prog W 0 (fun _ => true) true Try.f5.params.toList args.toList ds p := hA0
  rw [Try.params5] at hA hval
  obtain ⟨v0, vs0, d0, ds0, p0, q0, hargs, rfl, rfl, h0, r0⟩ := trodAll_cons hA
  obtain ⟨v1, vs1, d1, ds1, p1, q1, rfl, rfl, rfl, h1, r1⟩ := trodAll_cons r0
  obtain ⟨v2, vs2, d2, ds2, p2, q2, rfl, rfl, rfl, h2, r2⟩ := trodAll_cons r1
  obtain ⟨rfl, rfl, rfl⟩ := trodAll_nil r2
  obtain rfl : args = #[v0, v1, v2] := by cases args; simp_all
  refine (walkV W base v0 v1 v2 (hval 0 28 v0 rfl rfl) (hval 1 28 v1 rfl rfl) (hval 2 3 v2 rfl rfl) ).mono fun e W' ⟨he, hb⟩ => ?_
  subst he
  exact ⟨_, rfl, law_post (tb := 4) hW' rfl rfl laid (by kernel_rfl) rfl Try.underlying4 hb⟩

theorem over : Rows.clipCutsRow.holds Try.pinned (OpenSpec.ofChange Rows.clipCutsSpec) :=
  OpenClaim.holds_of_wide 5 Try.f5 rfl rfl rfl rfl rfl rfl rfl ⟨rfl, rfl, rfl, rfl, rfl⟩ rfl rfl rfl rfl rfl (by kernel_rfl) Try.func5 (by kernel_rfl)
    (of_decide_eq_true (by kernel_rfl)) (by unfold Func.isWrapper; first | (rw [if_pos (by decide +kernel)]; kernel_rfl) | (rw [if_neg (by decide +kernel)]; exact ⟨rfl, rfl⟩))
    (fun os started H enc _ => lifted os started H enc)

theorem proved : Rows.ClipCutsSaid := over
end Go.Proofs.Ytemhaijcebjhhaa.clipCuts

