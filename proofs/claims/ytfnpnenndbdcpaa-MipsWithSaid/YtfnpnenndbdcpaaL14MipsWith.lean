import Derived.Test.YtfnpnenndbdcpaaL14W
import Derived.Test.YtfnpnenndbdcpaaSxThree
set_option linter.unusedVariables false
set_option linter.unusedSimpArgs false
namespace Go.Proofs.Ytfnpnenndbdcpaa.mipsWith
open Go Go.Sx Go.ChangeShapes Go.WideShapes Go.ChangeAt Go.RowKit

theorem own : ownKnob Try.prog.godebug = none := by kernel_rfl
theorem mixed : Try.prog.follows .mixedOrders = true := by kernel_rfl
theorem laid : laidOutB Try.prog = true := by kernel_rfl
theorem entersF : Enters Try.prog 5 Try.f5 := ⟨Try.func5, by kernel_rfl, by kernel_rfl⟩

theorem list4 {l : List Value} (h : l.length = 4) : ∃ x0 x1 x2 x3, l = [x0, x1, x2, x3] := by
  match l, h with
  | [x0, x1, x2, x3], _ => exact ⟨x0, x1, x2, x3, rfl⟩

open Go.Fx
theorem bodyTrue (a0 : Int) (a1 : Bool) (el2 : TypeId) (L2 : List AV) (a3_0 : Int) (a3_1 : Int) (a3_2 : Int) (a3_3 : Int) (h_a0 : -9223372036854775808 ≤ a0 ∧ a0 ≤ 9223372036854775807) (h_L2 : ∀ x, x ∈ L2 → elemOk false [.int .i64] x) (h_a3_0 : -9223372036854775808 ≤ a3_0 ∧ a3_0 ≤ 9223372036854775807) (h_a3_1 : -9223372036854775808 ≤ a3_1 ∧ a3_1 ≤ 9223372036854775807) (h_a3_2 : -9223372036854775808 ≤ a3_2 ∧ a3_2 ≤ 9223372036854775807) (h_a3_3 : -9223372036854775808 ≤ a3_3 ∧ a3_3 ≤ 9223372036854775807) :
    bodyK (cW okL (Fx.rnd a0 4)) Try.prog 9 Try.f5 [.lit (.int .i64 a0), .lit (.bool a1), .vec 0, .agg [.lit (.int .i64 a3_0), .lit (.int .i64 a3_1), .lit (.int .i64 a3_2), .lit (.int .i64 a3_3)]] ⟨[], [some ⟨el2, false, [.int .i64], 0, false, false, L2⟩]⟩ boolOf = some true := by
  exact with_true a0 a1 el2 L2 a3_0 a3_1 a3_2 a3_3

theorem walk (a0 : Int) (a1 : Bool) (el2 : TypeId) (L2 : List AV) (a3_0 : Int) (a3_1 : Int) (a3_2 : Int) (a3_3 : Int) (h_a0 : -9223372036854775808 ≤ a0 ∧ a0 ≤ 9223372036854775807) (h_L2 : ∀ x, x ∈ L2 → elemOk false [.int .i64] x) (h_a3_0 : -9223372036854775808 ≤ a3_0 ∧ a3_0 ≤ 9223372036854775807) (h_a3_1 : -9223372036854775808 ≤ a3_1 ∧ a3_1 ≤ 9223372036854775807) (h_a3_2 : -9223372036854775808 ≤ a3_2 ∧ a3_2 ≤ 9223372036854775807) (h_a3_3 : -9223372036854775808 ≤ a3_3 ∧ a3_3 ≤ 9223372036854775807) (v2 : Value) (w : World) (hR : RepM (Env.addV ⟨fun _ => 0, fun _ => undef⟩ 0 v2) (Bs.of w) ⟨[], [some ⟨el2, false, [.int .i64], 0, false, false, L2⟩]⟩ w) :
    Calls Try.prog 5 #[.int .i64 a0, .bool a1, v2, .agg #[.int .i64 a3_0, .int .i64 a3_1, .int .i64 a3_2, .int .i64 a3_3]] w fun e w' => e = .returned (.bool true) ∧ Below w.heap.size w w' := by
  have h := law_of (cW_s a0) mixed entersF (bodyTrue a0 a1 el2 L2 a3_0 a3_1 a3_2 a3_3 h_a0 h_L2 h_a3_0 h_a3_1 h_a3_2 h_a3_3) (E := (Env.addV ⟨fun _ => 0, fun _ => undef⟩ 0 v2)) (w := w) hR (by kernel_rfl) (by kernel_rfl) (cW_l a0)
  exact h

theorem walkV (W : World) (base : Nat) (v0 : Value) (v1 : Value) (v2 : Value) (v3 : Value) (hv0 : Value.okWide Try.prog W .any base 3 v0) (hv1 : Value.okWide Try.prog W .any base 4 v1) (hv2 : Value.okWide Try.prog W .any base 25 v2) (hv3 : Value.okWide Try.prog W .any base 52 v3) (hs2 : SliceArg W false [.int .i64] v2) : Calls Try.prog 5 #[v0, v1, v2, v3] W fun e w' => e = .returned (.bool true) ∧ Below W.heap.size W w' := by
  obtain ⟨a0, rfl, b0, b0'⟩ := ok_int Try.underlying3 hv0
  obtain ⟨a1, rfl⟩ := ok_bool Try.underlying4 hv1
  obtain ⟨el2, L2, hL2, hr2⟩ := hs2
  obtain ⟨cs3, rfl, hl3, hc3⟩ := ok_agg (P := Try.prog) (t := 52) (ts := [3, 3, 3, 3]) (by kernel_rfl) (by kernel_rfl) (by kernel_rfl) hv3
  obtain ⟨c3_0, c3_1, c3_2, c3_3, rfl⟩ := list4 hl3
  obtain ⟨a3_0, rfl, b3_0, b3_0'⟩ := cell_int Try.underlying3 (hc3 0 3 _ rfl rfl)
  obtain ⟨a3_1, rfl, b3_1, b3_1'⟩ := cell_int Try.underlying3 (hc3 1 3 _ rfl rfl)
  obtain ⟨a3_2, rfl, b3_2, b3_2'⟩ := cell_int Try.underlying3 (hc3 2 3 _ rfl rfl)
  obtain ⟨a3_3, rfl, b3_3, b3_3'⟩ := cell_int Try.underlying3 (hc3 3 3 _ rfl rfl)
  exact walk a0 a1 el2 L2 a3_0 a3_1 a3_2 a3_3 ⟨b0, b0'⟩ hL2 ⟨b3_0, b3_0'⟩ ⟨b3_1, b3_1'⟩ ⟨b3_2, b3_2'⟩ ⟨b3_3, b3_3'⟩ v2 W (hr2 _ _ (RepM.empty ⟨fun _ => 0, fun _ => undef⟩ W))

set_option maxRecDepth 100000 in
theorem lifted (os : Os) (started : os.Started) (H : Type) (enc : TypeId × Value → H) :
    ReturnsInHanded {} Try.checked os 5 .any (Rows.mipsWithSpec.pre6 enc Try.prog Try.f5 Rows.mipsWithRow.domain false) (Rows.mipsWithSpec.post enc Try.prog Try.f5 false true false false) := by
  refine returnsInHanded_of_change (C := Try.checked) own started (by kernel_rfl) Try.func5
    (ChangeSpec.witness6 (enc := enc) (C := Try.checked) false ⟨#[], #[.int .i64 0, .bool false, .slice none 0 0, .agg #[.int .i64 0, .int .i64 0, .int .i64 0, .int .i64 0]], []⟩ 8 (by kernel_rfl) (by kernel_rfl) (by kernel_rfl) (by kernel_rfl)) ?_
  intro W base args ds gs before hval0 hW _ _
  have hval : ∀ (j : Nat) t v, Try.f5.params[j]? = some t → args[j]? = some v → Value.okWide Try.prog W .any base t v := hval0
  have hW' := hW
  obtain ⟨p, q, hA0, _, rfl, _, _⟩ := hW
  have hA : DataW.TrodAll enc Try.prog W 0 (fun _ => true) true Try.f5.params.toList args.toList ds p := hA0
  rw [Try.params5] at hA hval
  obtain ⟨v0, vs0, d0, ds0, p0, q0, hargs, rfl, rfl, h0, r0⟩ := trodAll_cons hA
  obtain ⟨v1, vs1, d1, ds1, p1, q1, rfl, rfl, rfl, h1, r1⟩ := trodAll_cons r0
  obtain ⟨v2, vs2, d2, ds2, p2, q2, rfl, rfl, rfl, h2, r2⟩ := trodAll_cons r1
  obtain ⟨v3, vs3, d3, ds3, p3, q3, rfl, rfl, rfl, h3, r3⟩ := trodAll_cons r2
  obtain ⟨rfl, rfl, rfl⟩ := trodAll_nil r3
  obtain rfl : args = #[v0, v1, v2, v3] := by cases args; simp_all
  refine (walkV W base v0 v1 v2 v3 (hval 0 3 v0 rfl rfl) (hval 1 4 v1 rfl rfl) (hval 2 25 v2 rfl rfl) (hval 3 52 v3 rfl rfl) (arg_slice (d := 9) false Try.underlying25 (by kernel_rfl) (by kernel_rfl) (by decide) (by decide) (hval 2 25 v2 rfl rfl) h2)).mono fun e W' ⟨he, hb⟩ => ?_
  subst he
  exact ⟨_, rfl, law_post (tb := 4) hW' rfl rfl laid (by kernel_rfl) rfl Try.underlying4 hb⟩

theorem over : Rows.mipsWithRow.holds Try.pinned (OpenSpec.ofChange Rows.mipsWithSpec) :=
  OpenClaim.holds_of_wide 5 Try.f5 rfl rfl rfl rfl rfl rfl rfl ⟨rfl, rfl, rfl, rfl, rfl⟩ rfl rfl rfl rfl rfl (by kernel_rfl) Try.func5 (by kernel_rfl)
    (of_decide_eq_true (by kernel_rfl)) (by unfold Func.isWrapper; first | (rw [if_pos (by decide +kernel)]; kernel_rfl) | (rw [if_neg (by decide +kernel)]; exact ⟨rfl, rfl⟩))
    (fun os started H enc _ => lifted os started H enc)

theorem proved : Rows.MipsWithSaid := over
end Go.Proofs.Ytfnpnenndbdcpaa.mipsWith

