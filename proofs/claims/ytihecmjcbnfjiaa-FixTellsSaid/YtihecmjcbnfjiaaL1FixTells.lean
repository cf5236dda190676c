/- Of all inputs the law answers true; no condition. -/
import Derived.Test.YtihecmjcbnfjiaaL1A
import Derived.Test.YtihecmjcbnfjiaaFxC
set_option linter.unusedVariables false
set_option linter.unusedSimpArgs false
namespace Go.Proofs.Ytihecmjcbnfjiaa.fixTells
open Go Go.Sx Go.ChangeShapes Go.WideShapes Go.ChangeAt Go.RowKit

theorem own : ownKnob Try.prog.godebug = none := by kernel_rfl
theorem mixed : Try.prog.follows .mixedOrders = true := by kernel_rfl
theorem laid : laidOutB Try.prog = true := by kernel_rfl
theorem entersF : Enters Try.prog 3 Try.f3 := ⟨Try.func3, by kernel_rfl, by kernel_rfl⟩


open Go.Fx
theorem bodyTrue (a0 : Int) (a1 : Int) (a2 : Int) (a3 : Int) (a4 : Int) (h_a0 : -9223372036854775808 ≤ a0 ∧ a0 ≤ 9223372036854775807) (h_a1 : -9223372036854775808 ≤ a1 ∧ a1 ≤ 9223372036854775807) (h_a2 : -9223372036854775808 ≤ a2 ∧ a2 ≤ 9223372036854775807) (h_a3 : -9223372036854775808 ≤ a3 ∧ a3 ≤ 9223372036854775807) (h_a4 : -9223372036854775808 ≤ a4 ∧ a4 ≤ 9223372036854775807) :
    bodyK calls Try.prog 5 Try.f3 [.lit (.int .i64 a0), .lit (.int .i64 a1), .lit (.int .i64 a2), .lit (.int .i64 a3), .lit (.int .i64 a4)] Sx.empty boolOf = some true := by
  have e : bodyK calls Try.prog 5 Try.f3 [.lit (.int .i64 a0), .lit (.int .i64 a1), .lit (.int .i64 a2), .lit (.int .i64 a3), .lit (.int .i64 a4)] Sx.empty boolOf =
    (bif okz a0 == okz a0 then
      bif addV a0 a1 == addV a0 a1 then
        bif addE a0 a1 == addE a0 a1 then
          bif mulV a0 a1 == mulV a0 a1 then
            bif mulE a0 a1 == mulE a0 a1 then
              bif divV a0 a1 == divV a0 a1 then
                bif divE a0 a1 == divE a0 a1 then
                  bif rndV a3 a4 == rndV a3 a4 then
                    bif rndE a3 a4 == rndE a3 a4 then
                      bif lerpV a0 a1 a2 == lerpV a0 a1 a2 then
                        bif lerpE a0 a1 a2 == lerpE a0 a1 a2 then
                          bif decide (a3 ≤ 9223372036854775807) then
                            bif decide (a3 ≤ 9223372036854775807) then bif logV a3 == logV a3 then some true else some false
                            else none
                          else none
                        else some false
                      else some false
                    else some false
                  else some false
                else some false
              else some false
            else some false
          else some false
        else some false
      else some false
    else some false) := by kernel_rfl
  rw [e, decide_eq_true h_a3.2]
  simp

theorem walk (a0 : Int) (a1 : Int) (a2 : Int) (a3 : Int) (a4 : Int) (h_a0 : -9223372036854775808 ≤ a0 ∧ a0 ≤ 9223372036854775807) (h_a1 : -9223372036854775808 ≤ a1 ∧ a1 ≤ 9223372036854775807) (h_a2 : -9223372036854775808 ≤ a2 ∧ a2 ≤ 9223372036854775807) (h_a3 : -9223372036854775808 ≤ a3 ∧ a3 ≤ 9223372036854775807) (h_a4 : -9223372036854775808 ≤ a4 ∧ a4 ≤ 9223372036854775807) (w : World) :
    Calls Try.prog 3 #[.int .i64 a0, .int .i64 a1, .int .i64 a2, .int .i64 a3, .int .i64 a4] w fun e w' => e = .returned (.bool true) ∧ Below w.heap.size w w' := by
  have h := law_of calls_sound mixed entersF (bodyTrue a0 a1 a2 a3 a4 h_a0 h_a1 h_a2 h_a3 h_a4) (E := ⟨fun _ => 0, fun _ => undef⟩) (RepM.empty _ w) (by kernel_rfl) (by kernel_rfl)
  exact h

theorem walkV (W : World) (base : Nat) (v0 : Value) (v1 : Value) (v2 : Value) (v3 : Value) (v4 : Value) (hv0 : Value.okWide Try.prog W .any base 3 v0) (hv1 : Value.okWide Try.prog W .any base 3 v1) (hv2 : Value.okWide Try.prog W .any base 3 v2) (hv3 : Value.okWide Try.prog W .any base 3 v3) (hv4 : Value.okWide Try.prog W .any base 3 v4) : Calls Try.prog 3 #[v0, v1, v2, v3, v4] W fun e w' => e = .returned (.bool true) ∧ Below W.heap.size W w' := by
  obtain ⟨a0, rfl, b0, b0'⟩ := ok_int Try.underlying3 hv0
  obtain ⟨a1, rfl, b1, b1'⟩ := ok_int Try.underlying3 hv1
  obtain ⟨a2, rfl, b2, b2'⟩ := ok_int Try.underlying3 hv2
  obtain ⟨a3, rfl, b3, b3'⟩ := ok_int Try.underlying3 hv3
  obtain ⟨a4, rfl, b4, b4'⟩ := ok_int Try.underlying3 hv4
  exact walk a0 a1 a2 a3 a4 ⟨b0, b0'⟩ ⟨b1, b1'⟩ ⟨b2, b2'⟩ ⟨b3, b3'⟩ ⟨b4, b4'⟩ W

set_option maxRecDepth 100000 in
theorem lifted (os : Os) (started : os.Started) (H : Type) (enc : TypeId × Value → H) :
    ReturnsInHanded {} Try.checked os 3 .any (Rows.fixTellsSpec.pre6 enc Try.prog Try.f3 Rows.fixTellsRow.domain false) (Rows.fixTellsSpec.post enc Try.prog Try.f3 false true false false) := by
  refine returnsInHanded_of_change (C := Try.checked) own started (by kernel_rfl) Try.func3
    (ChangeSpec.witness6 (enc := enc) (C := Try.checked) false ⟨#[], #[.int .i64 0, .int .i64 0, .int .i64 0, .int .i64 0, .int .i64 0], []⟩ 8 (by kernel_rfl) (by kernel_rfl) (by kernel_rfl) (by kernel_rfl)) ?_
  intro W base args ds gs before hval0 hW _ _
  have hval : ∀ (j : Nat) t v, Try.f3.params[j]? = some t → args[j]? = some v → Value.okWide Try.prog W .any base t v := hval0
  have hW' := hW
  obtain ⟨p, q, hA0, _, rfl, _, _⟩ := hW
  have hA : DataW.TrodAll enc Try.prog W 0 (fun _ => true) true Try.f3.params.toList args.toList ds p := hA0
  rw [Try.params3] at hA hval
  obtain ⟨v0, vs0, d0, ds0, p0, q0, hargs, rfl, rfl, h0, r0⟩ := trodAll_cons hA
  obtain ⟨v1, vs1, d1, ds1, p1, q1, rfl, rfl, rfl, h1, r1⟩ := trodAll_cons r0
  obtain ⟨v2, vs2, d2, ds2, p2, q2, rfl, rfl, rfl, h2, r2⟩ := trodAll_cons r1
  obtain ⟨v3, vs3, d3, ds3, p3, q3, rfl, rfl, rfl, h3, r3⟩ := trodAll_cons r2
  obtain ⟨v4, vs4, d4, ds4, p4, q4, rfl, rfl, rfl, h4, r4⟩ := trodAll_cons r3
  obtain ⟨rfl, rfl, rfl⟩ := trodAll_nil r4
  obtain rfl : args = #[v0, v1, v2, v3, v4] := by cases args; simp_all
  refine (walkV W base v0 v1 v2 v3 v4 (hval 0 3 v0 rfl rfl) (hval 1 3 v1 rfl rfl) (hval 2 3 v2 rfl rfl) (hval 3 3 v3 rfl rfl) (hval 4 3 v4 rfl rfl)).mono fun e W' ⟨he, hb⟩ => ?_
  subst he
  exact ⟨_, rfl, law_post (tb := 4) hW' rfl rfl laid (by kernel_rfl) rfl Try.underlying4 hb⟩

theorem over : Rows.fixTellsRow.holds Try.pinned (OpenSpec.ofChange Rows.fixTellsSpec) :=
  OpenClaim.holds_of_wide 3 Try.f3 rfl rfl rfl rfl rfl rfl rfl ⟨rfl, rfl, rfl, rfl, rfl⟩ rfl rfl rfl rfl rfl (by kernel_rfl) Try.func3 (by kernel_rfl)
    (of_decide_eq_true (by kernel_rfl)) (by unfold Func.isWrapper; first | (rw [if_pos (by decide +kernel)]; kernel_rfl) | (rw [if_neg (by decide +kernel)]; exact ⟨rfl, rfl⟩))
    (fun os started H enc _ => lifted os started H enc)

theorem proved : Rows.FixTellsSaid := over
end Go.Proofs.Ytihecmjcbnfjiaa.fixTells

