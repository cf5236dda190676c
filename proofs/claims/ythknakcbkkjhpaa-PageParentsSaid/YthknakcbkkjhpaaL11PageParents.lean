import Derived.Test.YthknakcbkkjhpaaL11P
set_option linter.unusedVariables false
set_option linter.unusedSimpArgs false
namespace Go.Proofs.Ythknakcbkkjhpaa.pageParents
open Go Go.Sx Go.ChangeShapes Go.WideShapes Go.ChangeAt Go.RowKit

theorem own : ownKnob Try.prog.godebug = none := by kernel_rfl
theorem mixed : Try.prog.follows .mixedOrders = true := by kernel_rfl
theorem laid : laidOutB Try.prog = true := by kernel_rfl
theorem entersF : Sx.Enters Try.prog 4 Try.f4 := ⟨Try.func4, by kernel_rfl, by kernel_rfl⟩


theorem bodyTrue (a0 : Int) (a1 : Int) (h_a0 : -9223372036854775808 ≤ a0 ∧ a0 ≤ 9223372036854775807) (h_a1 : -9223372036854775808 ≤ a1 ∧ a1 ≤ 9223372036854775807) :
    bodyK (cPa a0) Try.prog 9 Try.f4 [.lit (.int .i64 a0), .lit (.int .i64 a1)] Sx.empty boolOf = some true := by
  exact par_true a0 a1

theorem walk (a0 : Int) (a1 : Int) (h_a0 : -9223372036854775808 ≤ a0 ∧ a0 ≤ 9223372036854775807) (h_a1 : -9223372036854775808 ≤ a1 ∧ a1 ≤ 9223372036854775807)  (w : World)  :
    Calls Try.prog 4 #[.int .i64 a0, .int .i64 a1] w fun e w' => e = .returned (.bool true) ∧ Below w.heap.size w w' := by
  have h := law_of (cPa_sound a0) mixed entersF (bodyTrue a0 a1 h_a0 h_a1) (E := ⟨fun _ => 0, fun _ => undef⟩) (w := w) (RepM.empty ⟨fun _ => 0, fun _ => undef⟩ w) (by kernel_rfl) (by kernel_rfl) (cPa_loops a0)
  exact h

theorem walkV (W : World) (base : Nat) (v0 : Value) (v1 : Value) (hv0 : Value.okWide Try.prog W .any base 3 v0) (hv1 : Value.okWide Try.prog W .any base 3 v1)  : Calls Try.prog 4 #[v0, v1] W fun e w' => e = .returned (.bool true) ∧ Below W.heap.size W w' := by
  obtain ⟨a0, rfl, b0, b0'⟩ := ok_int Try.underlying3 hv0
  obtain ⟨a1, rfl, b1, b1'⟩ := ok_int Try.underlying3 hv1
  exact walk a0 a1 ⟨b0, b0'⟩ ⟨b1, b1'⟩  W 

set_option maxRecDepth 100000 in
theorem lifted (os : Os) (started : os.Started) (H : Type) (enc : TypeId × Value → H) :
    ReturnsInHanded {} Try.checked os 4 .any (Rows.pageParentsSpec.pre6 enc Try.prog Try.f4 Rows.pageParentsRow.domain false) (Rows.pageParentsSpec.post enc Try.prog Try.f4 false true false false) := by
  refine returnsInHanded_of_change (C := Try.checked) own started (by kernel_rfl) Try.func4
    (ChangeSpec.witness6 (enc := enc) (C := Try.checked) false ⟨#[], #[.int .i64 0, .int .i64 0], []⟩ 8 (by kernel_rfl) (by kernel_rfl) (by kernel_rfl) (by kernel_rfl)) ?_
  intro W base args ds gs before hval0 hW _ _
  have hval : ∀ (j : Nat) t v, Try.f4.params[j]? = some t → args[j]? = some v → Value.okWide Try.prog W .any base t v := hval0
  have hW' := hW
  obtain ⟨p, q, hA0, _, rfl, _, _⟩ := hW
  have hA : DataW.TrodAll enc Try.prog W 0 (fun _ => true) true Try.f4.params.toList args.toList ds p := hA0
  rw [Try.params4] at hA hval
  obtain ⟨v0, vs0, d0, ds0, p0, q0, hargs, rfl, rfl, h0, r0⟩ := trodAll_cons hA
  obtain ⟨v1, vs1, d1, ds1, p1, q1, rfl, rfl, rfl, h1, r1⟩ := trodAll_cons r0
  obtain ⟨rfl, rfl, rfl⟩ := trodAll_nil r1
  obtain rfl : args = #[v0, v1] := by cases args; simp_all
  refine (walkV W base v0 v1 (hval 0 3 v0 rfl rfl) (hval 1 3 v1 rfl rfl) ).mono fun e W' ⟨he, hb⟩ => ?_
  subst he
  exact ⟨_, rfl, law_post (tb := 4) hW' rfl rfl laid (by kernel_rfl) rfl Try.underlying4 hb⟩

theorem over : Rows.pageParentsRow.holds Try.pinned (OpenSpec.ofChange Rows.pageParentsSpec) :=
  OpenClaim.holds_of_wide 4 Try.f4 rfl rfl rfl rfl rfl rfl rfl ⟨rfl, rfl, rfl, rfl, rfl⟩ rfl rfl rfl rfl rfl (by kernel_rfl) Try.func4 (by kernel_rfl)
    (of_decide_eq_true (by kernel_rfl)) (by unfold Func.isWrapper; first | (rw [if_pos (by decide +kernel)]; kernel_rfl) | (rw [if_neg (by decide +kernel)]; exact ⟨rfl, rfl⟩))
    (fun os started H enc _ => lifted os started H enc)

theorem proved : Rows.PageParentsSaid := over
end Go.Proofs.Ythknakcbkkjhpaa.pageParents

