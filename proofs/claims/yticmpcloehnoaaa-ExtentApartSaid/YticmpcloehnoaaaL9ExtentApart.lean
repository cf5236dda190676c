import Derived.Test.YticmpcloehnoaaaL9zb
import Derived.Test.YticmpcloehnoaaaSxThree
set_option linter.unusedVariables false
set_option linter.unusedSimpArgs false
namespace Go.Proofs.Yticmpcloehnoaaa.extentApart
open Go Go.Sx Go.ChangeShapes Go.WideShapes Go.ChangeAt Go.RowKit

theorem own : ownKnob Try.prog.godebug = none := by kernel_rfl
theorem mixed : Try.prog.follows .mixedOrders = true := by kernel_rfl
theorem laid : laidOutB Try.prog = true := by kernel_rfl
theorem entersF : Sx.Enters Try.prog 4 Try.f4 := ⟨Try.func4, by kernel_rfl, by kernel_rfl⟩


theorem bodyTrue (a0 : Int) (el1 : TypeId) (L1 : List AV) (el2 : TypeId) (L2 : List AV) (h_a0 : -9223372036854775808 ≤ a0 ∧ a0 ≤ 9223372036854775807) (h_L1 : ∀ x, x ∈ L1 → elemOk false [.int .i64] x) (h_L2 : ∀ x, x ∈ L2 → elemOk false [.bool] x) :
    bodyK cAp Try.prog 9 Try.f4 [.lit (.int .i64 a0), .vec 0, .vec 1] ⟨[], [some ⟨el1, false, [.int .i64], 0, false, false, L1⟩, some ⟨el2, false, [.bool], 1, false, false, L2⟩]⟩ boolOf = some true := by
  exact (ap_T _ _ _ _ _).trans (apTree_true _ _ _)

theorem walk (a0 : Int) (el1 : TypeId) (L1 : List AV) (el2 : TypeId) (L2 : List AV) (h_a0 : -9223372036854775808 ≤ a0 ∧ a0 ≤ 9223372036854775807) (h_L1 : ∀ x, x ∈ L1 → elemOk false [.int .i64] x) (h_L2 : ∀ x, x ∈ L2 → elemOk false [.bool] x) (v1 : Value) (v2 : Value) (w : World) (hR : RepM (Env.addV (Env.addV ⟨fun _ => 0, fun _ => undef⟩ 0 v1) 1 v2) (Bs.of w) ⟨[], [some ⟨el1, false, [.int .i64], 0, false, false, L1⟩, some ⟨el2, false, [.bool], 1, false, false, L2⟩]⟩ w) :
    Calls Try.prog 4 #[.int .i64 a0, v1, v2] w fun e w' => e = .returned (.bool true) ∧ Below w.heap.size w w' := by
  have h := law_of cAp_sound mixed entersF (bodyTrue a0 el1 L1 el2 L2 h_a0 h_L1 h_L2) (E := (Env.addV (Env.addV ⟨fun _ => 0, fun _ => undef⟩ 0 v1) 1 v2)) (w := w) hR (by kernel_rfl) (by kernel_rfl) cAp_loops
  exact h

theorem walkV (W : World) (base : Nat) (v0 : Value) (v1 : Value) (v2 : Value) (hv0 : Value.okWide Try.prog W .any base 3 v0) (hv1 : Value.okWide Try.prog W .any base 45 v1) (hv2 : Value.okWide Try.prog W .any base 46 v2) (hs1 : SliceArg W false [.int .i64] v1) (hs2 : SliceArg W false [.bool] v2) : Calls Try.prog 4 #[v0, v1, v2] W fun e w' => e = .returned (.bool true) ∧ Below W.heap.size W w' := by
  obtain ⟨a0, rfl, b0, b0'⟩ := ok_int Try.underlying3 hv0
  obtain ⟨el1, L1, hL1, hr1⟩ := hs1
  obtain ⟨el2, L2, hL2, hr2⟩ := hs2
  exact walk a0 el1 L1 el2 L2 ⟨b0, b0'⟩ hL1 hL2 v1 v2 W (hr2 _ _ (hr1 _ _ (RepM.empty ⟨fun _ => 0, fun _ => undef⟩ W)))

set_option maxRecDepth 100000 in
theorem lifted (os : Os) (started : os.Started) (H : Type) (enc : TypeId × Value → H) :
    ReturnsInHanded {} Try.checked os 4 .any (Rows.extentApartSpec.pre6 enc Try.prog Try.f4 Rows.extentApartRow.domain false) (Rows.extentApartSpec.post enc Try.prog Try.f4 false true false false) := by
  refine returnsInHanded_of_change (C := Try.checked) own started (by kernel_rfl) Try.func4
    (ChangeSpec.witness6 (enc := enc) (C := Try.checked) false ⟨#[], #[.int .i64 0, .slice none 0 0, .slice none 0 0], []⟩ 8 (by kernel_rfl) (by kernel_rfl) (by kernel_rfl) (by kernel_rfl)) ?_
  intro W base args ds gs before hval0 hW _ _
  have hval : ∀ (j : Nat) t v, Try.f4.params[j]? = some t → args[j]? = some v → Value.okWide Try.prog W .any base t v := hval0
  have hW' := hW
  obtain ⟨p, q, hA0, _, rfl, _, _⟩ := hW
  have hA : DataW.TrodAll enc Try.prog W 0 (fun _ => true) true Try.f4.params.toList args.toList ds p := hA0
  rw [Try.params4] at hA hval
  obtain ⟨v0, vs0, d0, ds0, p0, q0, hargs, rfl, rfl, h0, r0⟩ := trodAll_cons hA
  obtain ⟨v1, vs1, d1, ds1, p1, q1, rfl, rfl, rfl, h1, r1⟩ := trodAll_cons r0
  obtain ⟨v2, vs2, d2, ds2, p2, q2, rfl, rfl, rfl, h2, r2⟩ := trodAll_cons r1
  obtain ⟨rfl, rfl, rfl⟩ := trodAll_nil r2
  obtain rfl : args = #[v0, v1, v2] := by cases args; simp_all
  refine (walkV W base v0 v1 v2 (hval 0 3 v0 rfl rfl) (hval 1 45 v1 rfl rfl) (hval 2 46 v2 rfl rfl) (arg_slice (d := 9) false Try.underlying45 (by kernel_rfl) (by kernel_rfl) (by decide) (by decide) (hval 1 45 v1 rfl rfl) h1) (arg_slice (d := 9) false Try.underlying46 (by kernel_rfl) (by kernel_rfl) (by decide) (by decide) (hval 2 46 v2 rfl rfl) h2)).mono fun e W' ⟨he, hb⟩ => ?_
  subst he
  exact ⟨_, rfl, law_post (tb := 4) hW' rfl rfl laid (by kernel_rfl) rfl Try.underlying4 hb⟩

theorem over : Rows.extentApartRow.holds Try.pinned (OpenSpec.ofChange Rows.extentApartSpec) :=
  OpenClaim.holds_of_wide 4 Try.f4 rfl rfl rfl rfl rfl rfl rfl ⟨rfl, rfl, rfl, rfl, rfl⟩ rfl rfl rfl rfl rfl (by kernel_rfl) Try.func4 (by kernel_rfl)
    (of_decide_eq_true (by kernel_rfl)) (by unfold Func.isWrapper; first | (rw [if_pos (by decide +kernel)]; kernel_rfl) | (rw [if_neg (by decide +kernel)]; exact ⟨rfl, rfl⟩))
    (fun os started H enc _ => lifted os started H enc)

theorem proved : Rows.ExtentApartSaid := over
end Go.Proofs.Yticmpcloehnoaaa.extentApart

