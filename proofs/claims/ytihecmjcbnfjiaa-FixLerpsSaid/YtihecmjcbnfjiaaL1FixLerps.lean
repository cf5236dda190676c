/- Of all inputs the law answers true; no condition. -/
import Derived.Test.YtihecmjcbnfjiaaL1A
import Derived.Test.YtihecmjcbnfjiaaFxC
set_option linter.unusedVariables false
set_option linter.unusedSimpArgs false
namespace Go.Proofs.Ytihecmjcbnfjiaa.fixLerps
open Go Go.Sx Go.ChangeShapes Go.WideShapes Go.ChangeAt Go.RowKit

theorem own : ownKnob Try.prog.godebug = none := by kernel_rfl
theorem mixed : Try.prog.follows .mixedOrders = true := by kernel_rfl
theorem laid : laidOutB Try.prog = true := by kernel_rfl
theorem entersF : Enters Try.prog 5 Try.f5 := ⟨Try.func5, by kernel_rfl, by kernel_rfl⟩


open Go.Fx
theorem bodyTrue (a0 : Int) (a1 : Int) (a2 : Int) (a3 : Int) (h_a0 : -9223372036854775808 ≤ a0 ∧ a0 ≤ 9223372036854775807) (h_a1 : -9223372036854775808 ≤ a1 ∧ a1 ≤ 9223372036854775807) (h_a2 : -9223372036854775808 ≤ a2 ∧ a2 ≤ 9223372036854775807) (h_a3 : -9223372036854775808 ≤ a3 ∧ a3 ≤ 9223372036854775807) :
    bodyK calls Try.prog 5 Try.f5 [.lit (.int .i64 a0), .lit (.int .i64 a1), .lit (.int .i64 a2), .lit (.int .i64 a3)] Sx.empty boolOf = some true := by
  have e : bodyK calls Try.prog 5 Try.f5 [.lit (.int .i64 a0), .lit (.int .i64 a1), .lit (.int .i64 a2), .lit (.int .i64 a3)] Sx.empty boolOf =
    (bif !okz a0 then some true
    else
      bif !okz a1 then some true
      else
        bif decide (a2 < 0) then some true
        else
          bif decide (a2 > a3) then some true
          else
            bif decide (a3 > 65536) then some true
            else
              bif lerpE a0 a1 a2 != 0 then some false
              else
                bif lerpE a0 a1 a3 != 0 then some false
                else
                  bif lerpE a0 a1 0 != 0 then some false
                  else
                    bif lerpE a0 a1 65536 != 0 then some false
                    else
                      bif lerpV a0 a1 0 != a0 then some false
                      else
                        bif lerpV a0 a1 65536 != a1 then some false
                        else
                          bif decide ((if a1 < a0 then a1 else a0) ≤ lerpV a0 a1 a2) then
                            bif decide (lerpV a0 a1 a2 ≤ if a1 > a0 then a1 else a0) then
                              bif decide (a0 ≤ a1) then
                                bif decide (lerpV a0 a1 a2 ≤ lerpV a0 a1 a3) then some true
                                else
                                  bif decide (a0 ≥ a1) then
                                    bif decide (lerpV a0 a1 a2 ≥ lerpV a0 a1 a3) then some true else some false
                                  else some false
                              else
                                bif decide (a0 ≥ a1) then
                                  bif decide (lerpV a0 a1 a2 ≥ lerpV a0 a1 a3) then some true else some false
                                else some false
                            else some false
                          else some false) := by kernel_rfl
  rw [e]
  clear e
  cases k0 : okz a0
  · rfl
  cases k1 : okz a1
  · rfl
  by_cases c1 : a2 < 0
  · rw [decide_eq_true c1]; rfl
  by_cases c2 : a2 > a3
  · rw [decide_eq_false c1, decide_eq_true c2]; rfl
  by_cases c3 : a3 > 65536
  · rw [decide_eq_false c1, decide_eq_false c2, decide_eq_true c3]; rfl
  rw [decide_eq_false c1, decide_eq_false c2, decide_eq_false c3]
  obtain ⟨v1, e1⟩ := lerp_in (t := a2) k0 k1 (by omega) (by omega)
  obtain ⟨v2, e2⟩ := lerp_in (t := a3) k0 k1 (by omega) (by omega)
  obtain ⟨v3, e3⟩ := lerp_in (t := 0) k0 k1 (by omega) (by omega)
  obtain ⟨v4, e4⟩ := lerp_in (t := 65536) k0 k1 (by omega) (by omega)
  obtain ⟨w0, w1⟩ := lerp_ends a0 a1
  rw [v1, v2, v3, v4, e1, e2, e3, e4, w0, w1]
  by_cases h : a0 ≤ a1
  · have l1 := lerp_up h (show 0 ≤ a2 by omega)
    have l2 := lerp_up h (show a2 ≤ a3 by omega)
    have l3 := lerp_up h (show a2 ≤ 65536 by omega)
    rw [w0] at l1
    rw [w1] at l3
    generalize a0 + nr (a2 * (a1 - a0)) 65536 = x at *
    generalize a0 + nr (a3 * (a1 - a0)) 65536 = y at *
    rw [decide_eq_true (p := (if a1 < a0 then a1 else a0) ≤ x) (by split <;> omega), decide_eq_true (p := x ≤ if a1 > a0 then a1 else a0) (by split <;> omega), decide_eq_true h, decide_eq_true l2]
    simp
  · have l1 := lerp_down (show a1 ≤ a0 by omega) (show 0 ≤ a2 by omega)
    have l2 := lerp_down (show a1 ≤ a0 by omega) (show a2 ≤ a3 by omega)
    have l3 := lerp_down (show a1 ≤ a0 by omega) (show a2 ≤ 65536 by omega)
    rw [w0] at l1
    rw [w1] at l3
    generalize a0 + nr (a2 * (a1 - a0)) 65536 = x at *
    generalize a0 + nr (a3 * (a1 - a0)) 65536 = y at *
    rw [decide_eq_true (p := (if a1 < a0 then a1 else a0) ≤ x) (by split <;> omega), decide_eq_true (p := x ≤ if a1 > a0 then a1 else a0) (by split <;> omega), decide_eq_false h, decide_eq_true (p := a0 ≥ a1) (by omega), decide_eq_true (p := x ≥ y) (by omega)]
    simp

theorem walk (a0 : Int) (a1 : Int) (a2 : Int) (a3 : Int) (h_a0 : -9223372036854775808 ≤ a0 ∧ a0 ≤ 9223372036854775807) (h_a1 : -9223372036854775808 ≤ a1 ∧ a1 ≤ 9223372036854775807) (h_a2 : -9223372036854775808 ≤ a2 ∧ a2 ≤ 9223372036854775807) (h_a3 : -9223372036854775808 ≤ a3 ∧ a3 ≤ 9223372036854775807) (w : World) :
    Calls Try.prog 5 #[.int .i64 a0, .int .i64 a1, .int .i64 a2, .int .i64 a3] w fun e w' => e = .returned (.bool true) ∧ Below w.heap.size w w' := by
  have h := law_of calls_sound mixed entersF (bodyTrue a0 a1 a2 a3 h_a0 h_a1 h_a2 h_a3) (E := ⟨fun _ => 0, fun _ => undef⟩) (RepM.empty _ w) (by kernel_rfl) (by kernel_rfl)
  exact h

theorem walkV (W : World) (base : Nat) (v0 : Value) (v1 : Value) (v2 : Value) (v3 : Value) (hv0 : Value.okWide Try.prog W .any base 3 v0) (hv1 : Value.okWide Try.prog W .any base 3 v1) (hv2 : Value.okWide Try.prog W .any base 3 v2) (hv3 : Value.okWide Try.prog W .any base 3 v3) : Calls Try.prog 5 #[v0, v1, v2, v3] W fun e w' => e = .returned (.bool true) ∧ Below W.heap.size W w' := by
  obtain ⟨a0, rfl, b0, b0'⟩ := ok_int Try.underlying3 hv0
  obtain ⟨a1, rfl, b1, b1'⟩ := ok_int Try.underlying3 hv1
  obtain ⟨a2, rfl, b2, b2'⟩ := ok_int Try.underlying3 hv2
  obtain ⟨a3, rfl, b3, b3'⟩ := ok_int Try.underlying3 hv3
  exact walk a0 a1 a2 a3 ⟨b0, b0'⟩ ⟨b1, b1'⟩ ⟨b2, b2'⟩ ⟨b3, b3'⟩ W

set_option maxRecDepth 100000 in
theorem lifted (os : Os) (started : os.Started) (H : Type) (enc : TypeId × Value → H) :
    ReturnsInHanded {} Try.checked os 5 .any (Rows.fixLerpsSpec.pre6 enc Try.prog Try.f5 Rows.fixLerpsRow.domain false) (Rows.fixLerpsSpec.post enc Try.prog Try.f5 false true false false) := by
  refine returnsInHanded_of_change (C := Try.checked) own started (by kernel_rfl) Try.func5
    (ChangeSpec.witness6 (enc := enc) (C := Try.checked) false ⟨#[], #[.int .i64 0, .int .i64 0, .int .i64 0, .int .i64 0], []⟩ 8 (by kernel_rfl) (by kernel_rfl) (by kernel_rfl) (by kernel_rfl)) ?_
  intro W base args ds gs before hval0 hW _ _
  have hval : ∀ (j : Nat) t v, Try.f5.params[j]? = some t → args[j]? = some v → Value.okWide Try.prog W .any base t v := hval0
  have hW' := hW
  obtain ⟨p, q, hA0, _, rfl, _, _⟩ := hW
  have hA : DataW.TrodAll enc Try.prog W 0 (fun _ => true) true Try.f5.params.toList args.toList ds p := hA0
  rw [Try.params5] at hA hval
  obtain ⟨v0, vs0, d0, ds0, p0, q0, hargs, rfl, rfl, h0, r0⟩ := trodAll_cons hA
  obtain ⟨v1, vs1, d1, ds1, p1, q1, rfl, rfl, rfl, h1, r1⟩ := trodAll_cons r0
  obtain ⟨v2, vs2, d2, ds2, p2, q2, rfl, rfl, rfl, h2, r2⟩ := trodAll_cons r1
  obtain ⟨v3, vs3, d3, ds3, p3, q3, rfl, rfl, rfl, h3, r3⟩ := trodAll_cons r2
  obtain ⟨rfl, rfl, rfl⟩ := trodAll_nil r3
  obtain rfl : args = #[v0, v1, v2, v3] := by cases args; simp_all
  refine (walkV W base v0 v1 v2 v3 (hval 0 3 v0 rfl rfl) (hval 1 3 v1 rfl rfl) (hval 2 3 v2 rfl rfl) (hval 3 3 v3 rfl rfl)).mono fun e W' ⟨he, hb⟩ => ?_
  subst he
  exact ⟨_, rfl, law_post (tb := 4) hW' rfl rfl laid (by kernel_rfl) rfl Try.underlying4 hb⟩

theorem over : Rows.fixLerpsRow.holds Try.pinned (OpenSpec.ofChange Rows.fixLerpsSpec) :=
  OpenClaim.holds_of_wide 5 Try.f5 rfl rfl rfl rfl rfl rfl rfl ⟨rfl, rfl, rfl, rfl, rfl⟩ rfl rfl rfl rfl rfl (by kernel_rfl) Try.func5 (by kernel_rfl)
    (of_decide_eq_true (by kernel_rfl)) (by unfold Func.isWrapper; first | (rw [if_pos (by decide +kernel)]; kernel_rfl) | (rw [if_neg (by decide +kernel)]; exact ⟨rfl, rfl⟩))
    (fun os started H enc _ => lifted os started H enc)

theorem proved : Rows.FixLerpsSaid := over
end Go.Proofs.Ytihecmjcbnfjiaa.fixLerps

