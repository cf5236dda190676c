import Derived.Test.YticmpcloehnoaaaL9zd
import Derived.Test.YticmpcloehnoaaaSxThree
set_option linter.unusedVariables false
set_option linter.unusedSimpArgs false
namespace Go.Proofs.Yticmpcloehnoaaa.extentActs
open Go Go.Sx Go.ChangeShapes Go.WideShapes Go.ChangeAt Go.RowKit

theorem own : ownKnob Try.prog.godebug = none := by kernel_rfl
theorem mixed : Try.prog.follows .mixedOrders = true := by kernel_rfl
theorem laid : laidOutB Try.prog = true := by kernel_rfl
theorem entersF : Sx.Enters Try.prog 3 Try.f3 := ⟨Try.func3, by kernel_rfl, by kernel_rfl⟩


theorem bodyTrue (a0 : Int) (el1 : TypeId) (L1 : List AV) (a2 : Int) (h_a0 : -9223372036854775808 ≤ a0 ∧ a0 ≤ 9223372036854775807) (h_L1 : ∀ x, x ∈ L1 → elemOk true [.int .i64, .int .i64, .int .i64] x) (h_a2 : -9223372036854775808 ≤ a2 ∧ a2 ≤ 9223372036854775807) :
    bodyK cAc' Try.prog 9 Try.f3 [.lit (.int .i64 a0), .vec 0, .lit (.int .i64 a2)] ⟨[], [some ⟨el1, true, [.int .i64, .int .i64, .int .i64], 0, false, false, L1⟩]⟩ boolOf = some true := by
  exact (ac_T _ _ _ _).trans (acTree_true _ _ _)

theorem walk (a0 : Int) (el1 : TypeId) (L1 : List AV) (a2 : Int) (h_a0 : -9223372036854775808 ≤ a0 ∧ a0 ≤ 9223372036854775807) (h_L1 : ∀ x, x ∈ L1 → elemOk true [.int .i64, .int .i64, .int .i64] x) (h_a2 : -9223372036854775808 ≤ a2 ∧ a2 ≤ 9223372036854775807) (v1 : Value) (w : World) (hR : RepM (Env.addV ⟨fun _ => 0, fun _ => undef⟩ 0 v1) (Bs.of w) ⟨[], [some ⟨el1, true, [.int .i64, .int .i64, .int .i64], 0, false, false, L1⟩]⟩ w) :
    Calls Try.prog 3 #[.int .i64 a0, v1, .int .i64 a2] w fun e w' => e = .returned (.bool true) ∧ Below w.heap.size w w' := by
  have h := law_of cAc_sound mixed entersF (bodyTrue a0 el1 L1 a2 h_a0 h_L1 h_a2) (E := (Env.addV ⟨fun _ => 0, fun _ => undef⟩ 0 v1)) (w := w) hR (by kernel_rfl) (by kernel_rfl) cAc_loops
  exact h

theorem walkV (W : World) (base : Nat) (v0 : Value) (v1 : Value) (v2 : Value) (hv0 : Value.okWide Try.prog W .any base 3 v0) (hv1 : Value.okWide Try.prog W .any base 22 v1) (hv2 : Value.okWide Try.prog W .any base 3 v2) (hs1 : SliceArg W true [.int .i64, .int .i64, .int .i64] v1) : Calls Try.prog 3 #[v0, v1, v2] W fun e w' => e = .returned (.bool true) ∧ Below W.heap.size W w' := by
  obtain ⟨a0, rfl, b0, b0'⟩ := ok_int Try.underlying3 hv0
  obtain ⟨el1, L1, hL1, hr1⟩ := hs1
  obtain ⟨a2, rfl, b2, b2'⟩ := ok_int Try.underlying3 hv2
  exact walk a0 el1 L1 a2 ⟨b0, b0'⟩ hL1 ⟨b2, b2'⟩ v1 W (hr1 _ _ (RepM.empty ⟨fun _ => 0, fun _ => undef⟩ W))

set_option maxRecDepth 100000 in
theorem lifted (os : Os) (started : os.Started) (H : Type) (enc : TypeId × Value → H) :
    ReturnsInHanded {} Try.checked os 3 .any (Rows.extentActsSpec.pre6 enc Try.prog Try.f3 Rows.extentActsRow.domain false) (Rows.extentActsSpec.post enc Try.prog Try.f3 false true false false) := by
  refine returnsInHanded_of_change (C := Try.checked) own started (by kernel_rfl) Try.func3
    (ChangeSpec.witness6 (enc := enc) (C := Try.checked) false ⟨#[], #[.int .i64 0, .slice none 0 0, .int .i64 0], []⟩ 8 (by kernel_rfl) (by kernel_rfl) (by kernel_rfl) (by kernel_rfl)) ?_
  intro W base args ds gs before hval0 hW _ _
  have hval : ∀ (j : Nat) t v, Try.f3.params[j]? = some t → args[j]? = some v → Value.okWide Try.prog W .any base t v := hval0
  have hW' := hW
  obtain ⟨p, q, hA0, _, rfl, _, _⟩ := hW
  have hA : DataW.TrodAll enc Try.prog W 0 (fun _ => true) true Try.f3.params.toList args.toList ds p := hA0
  rw [Try.params3] at hA hval
  obtain ⟨v0, vs0, d0, ds0, p0, q0, hargs, rfl, rfl, h0, r0⟩ := trodAll_cons hA
  obtain ⟨v1, vs1, d1, ds1, p1, q1, rfl, rfl, rfl, h1, r1⟩ := trodAll_cons r0
  obtain ⟨v2, vs2, d2, ds2, p2, q2, rfl, rfl, rfl, h2, r2⟩ := trodAll_cons r1
  obtain ⟨rfl, rfl, rfl⟩ := trodAll_nil r2
  obtain rfl : args = #[v0, v1, v2] := by cases args; simp_all
  refine (walkV W base v0 v1 v2 (hval 0 3 v0 rfl rfl) (hval 1 22 v1 rfl rfl) (hval 2 3 v2 rfl rfl) (arg_slice (d := 9) true Try.underlying22 (by kernel_rfl) (by kernel_rfl) (by decide) (by decide) (hval 1 22 v1 rfl rfl) h1)).mono fun e W' ⟨he, hb⟩ => ?_
  subst he
  exact ⟨_, rfl, law_post (tb := 4) hW' rfl rfl laid (by kernel_rfl) rfl Try.underlying4 hb⟩

theorem over : Rows.extentActsRow.holds Try.pinned (OpenSpec.ofChange Rows.extentActsSpec) :=
  OpenClaim.holds_of_wide 3 Try.f3 rfl rfl rfl rfl rfl rfl rfl ⟨rfl, rfl, rfl, rfl, rfl⟩ rfl rfl rfl rfl rfl (by kernel_rfl) Try.func3 (by kernel_rfl)
    (of_decide_eq_true (by kernel_rfl)) (by unfold Func.isWrapper; first | (rw [if_pos (by decide +kernel)]; kernel_rfl) | (rw [if_neg (by decide +kernel)]; exact ⟨rfl, rfl⟩))
    (fun os started H enc _ => lifted os started H enc)

theorem proved : Rows.ExtentActsSaid := over
end Go.Proofs.Yticmpcloehnoaaa.extentActs

