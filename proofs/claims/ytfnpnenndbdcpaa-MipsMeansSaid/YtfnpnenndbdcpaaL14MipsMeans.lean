import Derived.Test.YtfnpnenndbdcpaaL14P
import Derived.Test.YtfnpnenndbdcpaaSxThree
set_option linter.unusedVariables false
set_option linter.unusedSimpArgs false
namespace Go.Proofs.Ytfnpnenndbdcpaa.mipsMeans
open Go Go.Sx Go.ChangeShapes Go.WideShapes Go.ChangeAt Go.RowKit

theorem own : ownKnob Try.prog.godebug = none := by kernel_rfl
theorem mixed : Try.prog.follows .mixedOrders = true := by kernel_rfl
theorem laid : laidOutB Try.prog = true := by kernel_rfl
theorem entersF : Enters Try.prog 4 Try.f4 := ⟨Try.func4, by kernel_rfl, by kernel_rfl⟩


open Go.Fx
theorem bodyTrue (a0 : Int) (a1 : Bool) (el2 : TypeId) (L2 : List AV) (a3 : Int) (a4 : Int) (a5 : Int) (a6 : Int) (h_a0 : -9223372036854775808 ≤ a0 ∧ a0 ≤ 9223372036854775807) (h_L2 : ∀ x, x ∈ L2 → elemOk false [.int .i64] x) (h_a3 : -9223372036854775808 ≤ a3 ∧ a3 ≤ 9223372036854775807) (h_a4 : -9223372036854775808 ≤ a4 ∧ a4 ≤ 9223372036854775807) (h_a5 : -9223372036854775808 ≤ a5 ∧ a5 ≤ 9223372036854775807) (h_a6 : -9223372036854775808 ≤ a6 ∧ a6 ≤ 9223372036854775807) :
    bodyK (cMn okL (Fx.rnd a0 4)) Try.prog 9 Try.f4 [.lit (.int .i64 a0), .lit (.bool a1), .vec 0, .lit (.int .i64 a3), .lit (.int .i64 a4), .lit (.int .i64 a5), .lit (.int .i64 a6)] ⟨[], [some ⟨el2, false, [.int .i64], 0, false, false, L2⟩]⟩ boolOf = some true := by
  exact means_true a0 a1 el2 L2 a3 a4 a5 a6

theorem walk (a0 : Int) (a1 : Bool) (el2 : TypeId) (L2 : List AV) (a3 : Int) (a4 : Int) (a5 : Int) (a6 : Int) (h_a0 : -9223372036854775808 ≤ a0 ∧ a0 ≤ 9223372036854775807) (h_L2 : ∀ x, x ∈ L2 → elemOk false [.int .i64] x) (h_a3 : -9223372036854775808 ≤ a3 ∧ a3 ≤ 9223372036854775807) (h_a4 : -9223372036854775808 ≤ a4 ∧ a4 ≤ 9223372036854775807) (h_a5 : -9223372036854775808 ≤ a5 ∧ a5 ≤ 9223372036854775807) (h_a6 : -9223372036854775808 ≤ a6 ∧ a6 ≤ 9223372036854775807) (v2 : Value) (w : World) (hR : RepM (Env.addV ⟨fun _ => 0, fun _ => undef⟩ 0 v2) (Bs.of w) ⟨[], [some ⟨el2, false, [.int .i64], 0, false, false, L2⟩]⟩ w) :
    Calls Try.prog 4 #[.int .i64 a0, .bool a1, v2, .int .i64 a3, .int .i64 a4, .int .i64 a5, .int .i64 a6] w fun e w' => e = .returned (.bool true) ∧ Below w.heap.size w w' := by
  have h := law_of (cMn_s a0) mixed entersF (bodyTrue a0 a1 el2 L2 a3 a4 a5 a6 h_a0 h_L2 h_a3 h_a4 h_a5 h_a6) (E := (Env.addV ⟨fun _ => 0, fun _ => undef⟩ 0 v2)) (w := w) hR (by kernel_rfl) (by kernel_rfl)
  exact h

theorem walkV (W : World) (base : Nat) (v0 : Value) (v1 : Value) (v2 : Value) (v3 : Value) (v4 : Value) (v5 : Value) (v6 : Value) (hv0 : Value.okWide Try.prog W .any base 3 v0) (hv1 : Value.okWide Try.prog W .any base 4 v1) (hv2 : Value.okWide Try.prog W .any base 25 v2) (hv3 : Value.okWide Try.prog W .any base 3 v3) (hv4 : Value.okWide Try.prog W .any base 3 v4) (hv5 : Value.okWide Try.prog W .any base 3 v5) (hv6 : Value.okWide Try.prog W .any base 3 v6) (hs2 : SliceArg W false [.int .i64] v2) : Calls Try.prog 4 #[v0, v1, v2, v3, v4, v5, v6] W fun e w' => e = .returned (.bool true) ∧ Below W.heap.size W w' := by
  obtain ⟨a0, rfl, b0, b0'⟩ := ok_int Try.underlying3 hv0
  obtain ⟨a1, rfl⟩ := ok_bool Try.underlying4 hv1
  obtain ⟨el2, L2, hL2, hr2⟩ := hs2
  obtain ⟨a3, rfl, b3, b3'⟩ := ok_int Try.underlying3 hv3
  obtain ⟨a4, rfl, b4, b4'⟩ := ok_int Try.underlying3 hv4
  obtain ⟨a5, rfl, b5, b5'⟩ := ok_int Try.underlying3 hv5
  obtain ⟨a6, rfl, b6, b6'⟩ := ok_int Try.underlying3 hv6
  exact walk a0 a1 el2 L2 a3 a4 a5 a6 ⟨b0, b0'⟩ hL2 ⟨b3, b3'⟩ ⟨b4, b4'⟩ ⟨b5, b5'⟩ ⟨b6, b6'⟩ v2 W (hr2 _ _ (RepM.empty ⟨fun _ => 0, fun _ => undef⟩ W))

set_option maxRecDepth 100000 in
theorem lifted (os : Os) (started : os.Started) (H : Type) (enc : TypeId × Value → H) :
    ReturnsInHanded {} Try.checked os 4 .any (Rows.mipsMeansSpec.pre6 enc Try.prog Try.f4 Rows.mipsMeansRow.domain false) (Rows.mipsMeansSpec.post enc Try.prog Try.f4 false true false false) := by
  refine returnsInHanded_of_change (C := Try.checked) own started (by kernel_rfl) Try.func4
    (ChangeSpec.witness6 (enc := enc) (C := Try.checked) false ⟨#[], #[.int .i64 0, .bool false, .slice none 0 0, .int .i64 0, .int .i64 0, .int .i64 0, .int .i64 0], []⟩ 8 (by kernel_rfl) (by kernel_rfl) (by kernel_rfl) (by kernel_rfl)) ?_
  intro W base args ds gs before hval0 hW _ _
  have hval : ∀ (j : Nat) t v, Try.f4.params[j]? = some t → args[j]? = some v → Value.okWide Try.prog W .any base t v := hval0
  have hW' := hW
  obtain ⟨p, q, hA0, _, rfl, _, _⟩ := hW
  have hA : DataW.TrodAll enc Try.prog W 0 (fun _ => true) true Try.f4.params.toList args.toList ds p := hA0
  rw [Try.params4] at hA hval
  obtain ⟨v0, vs0, d0, ds0, p0, q0, hargs, rfl, rfl, h0, r0⟩ := trodAll_cons hA
  obtain ⟨v1, vs1, d1, ds1, p1, q1, rfl, rfl, rfl, h1, r1⟩ := trodAll_cons r0
  obtain ⟨v2, vs2, d2, ds2, p2, q2, rfl, rfl, rfl, h2, r2⟩ := trodAll_cons r1
  obtain ⟨v3, vs3, d3, ds3, p3, q3, rfl, rfl, rfl, h3, r3⟩ := trodAll_cons r2
  obtain ⟨v4, vs4, d4, ds4, p4, q4, rfl, rfl, rfl, h4, r4⟩ := trodAll_cons r3
  obtain ⟨v5, vs5, d5, ds5, p5, q5, rfl, rfl, rfl, h5, r5⟩ := trodAll_cons r4
  obtain ⟨v6, vs6, d6, ds6, p6, q6, rfl, rfl, rfl, h6, r6⟩ := trodAll_cons r5
  obtain ⟨rfl, rfl, rfl⟩ := trodAll_nil r6
  obtain rfl : args = #[v0, v1, v2, v3, v4, v5, v6] := by cases args; simp_all
  refine (walkV W base v0 v1 v2 v3 v4 v5 v6 (hval 0 3 v0 rfl rfl) (hval 1 4 v1 rfl rfl) (hval 2 25 v2 rfl rfl) (hval 3 3 v3 rfl rfl) (hval 4 3 v4 rfl rfl) (hval 5 3 v5 rfl rfl) (hval 6 3 v6 rfl rfl) (arg_slice (d := 9) false Try.underlying25 (by kernel_rfl) (by kernel_rfl) (by decide) (by decide) (hval 2 25 v2 rfl rfl) h2)).mono fun e W' ⟨he, hb⟩ => ?_
  subst he
  exact ⟨_, rfl, law_post (tb := 4) hW' rfl rfl laid (by kernel_rfl) rfl Try.underlying4 hb⟩

theorem over : Rows.mipsMeansRow.holds Try.pinned (OpenSpec.ofChange Rows.mipsMeansSpec) :=
  OpenClaim.holds_of_wide 4 Try.f4 rfl rfl rfl rfl rfl rfl rfl ⟨rfl, rfl, rfl, rfl, rfl⟩ rfl rfl rfl rfl rfl (by kernel_rfl) Try.func4 (by kernel_rfl)
    (of_decide_eq_true (by kernel_rfl)) (by unfold Func.isWrapper; first | (rw [if_pos (by decide +kernel)]; kernel_rfl) | (rw [if_neg (by decide +kernel)]; exact ⟨rfl, rfl⟩))
    (fun os started H enc _ => lifted os started H enc)

theorem proved : Rows.MipsMeansSaid := over
end Go.Proofs.Ytfnpnenndbdcpaa.mipsMeans

