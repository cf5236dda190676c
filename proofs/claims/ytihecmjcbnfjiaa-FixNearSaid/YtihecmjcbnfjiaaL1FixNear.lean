/- Of all inputs the law answers true; no condition. -/
import Derived.Test.YtihecmjcbnfjiaaL1A
import Derived.Test.YtihecmjcbnfjiaaFxC
set_option linter.unusedVariables false
set_option linter.unusedSimpArgs false
namespace Go.Proofs.Ytihecmjcbnfjiaa.fixNear
open Go Go.Sx Go.ChangeShapes Go.WideShapes Go.ChangeAt Go.RowKit

theorem own : ownKnob Try.prog.godebug = none := by kernel_rfl
theorem mixed : Try.prog.follows .mixedOrders = true := by kernel_rfl
theorem laid : laidOutB Try.prog = true := by kernel_rfl
theorem entersF : Enters Try.prog 4 Try.f4 := ⟨Try.func4, by kernel_rfl, by kernel_rfl⟩


open Go.Fx
theorem bodyTrue (a0 : Int) (a1 : Int) (h_a0 : -9223372036854775808 ≤ a0 ∧ a0 ≤ 9223372036854775807) (h_a1 : -9223372036854775808 ≤ a1 ∧ a1 ≤ 9223372036854775807) :
    bodyK calls Try.prog 5 Try.f4 [.lit (.int .i64 a0), .lit (.int .i64 a1)] Sx.empty boolOf = some true := by
  have e : bodyK calls Try.prog 5 Try.f4 [.lit (.int .i64 a0), .lit (.int .i64 a1)] Sx.empty boolOf =
    (bif decide (a0 < -1125899906842624) then some true
    else
      bif decide (a0 > 1125899906842624) then some true
      else
        bif decide (a1 < 1) then some true
        else
          bif decide (a1 > 1024) then some true
          else
            bif rndE a0 a1 == 0 then
              bif
                  decide
                    (wi
                        (wi (2 * a0) - wi (wi (2 * rndV a0 a1) * a1)) ≥
                      wi (0 - a1)) then
                bif
                    decide
                      (wi
                          (wi (2 * a0) - wi (wi (2 * rndV a0 a1) * a1)) <
                        a1) then
                  some true
                else some false
              else some false
            else some false) := by kernel_rfl
  rw [e]
  clear e
  by_cases c1 : a0 < -1125899906842624
  · rw [decide_eq_true c1]; rfl
  by_cases c2 : a0 > 1125899906842624
  · rw [decide_eq_false c1, decide_eq_true c2]; rfl
  by_cases c3 : a1 < 1
  · rw [decide_eq_false c1, decide_eq_false c2, decide_eq_true c3]; rfl
  by_cases c4 : a1 > 1024
  · rw [decide_eq_false c1, decide_eq_false c2, decide_eq_false c3, decide_eq_true c4]; rfl
  rw [decide_eq_false c1, decide_eq_false c2, decide_eq_false c3, decide_eq_false c4]
  obtain ⟨r1, r2⟩ := rnd_in (n := a0) (d := a1) (by omega) (by omega) (by omega) (by omega)
  obtain ⟨n1, n2, n3, n4, n5⟩ := nr_near (n := a0) (d := a1) (by omega) (by omega) (by omega) (by omega)
  rw [r1, r2]
  generalize nr a0 a1 = q at *
  rw [wi_id (n := 2 * a0) (by omega) (by omega), wi_id (n := 2 * q) (by omega) (by omega), wi_id (n := 2 * q * a1) (by omega) (by omega), wi_id (n := 2 * a0 - 2 * q * a1) (by omega) (by omega), wi_id (n := 0 - a1) (by omega) (by omega),
    decide_eq_true (p := 2 * a0 - 2 * q * a1 ≥ 0 - a1) (by omega), decide_eq_true (p := 2 * a0 - 2 * q * a1 < a1) (by omega)]
  rfl

theorem walk (a0 : Int) (a1 : Int) (h_a0 : -9223372036854775808 ≤ a0 ∧ a0 ≤ 9223372036854775807) (h_a1 : -9223372036854775808 ≤ a1 ∧ a1 ≤ 9223372036854775807) (w : World) :
    Calls Try.prog 4 #[.int .i64 a0, .int .i64 a1] w fun e w' => e = .returned (.bool true) ∧ Below w.heap.size w w' := by
  have h := law_of calls_sound mixed entersF (bodyTrue a0 a1 h_a0 h_a1) (E := ⟨fun _ => 0, fun _ => undef⟩) (RepM.empty _ w) (by kernel_rfl) (by kernel_rfl)
  exact h

theorem walkV (W : World) (base : Nat) (v0 : Value) (v1 : Value) (hv0 : Value.okWide Try.prog W .any base 3 v0) (hv1 : Value.okWide Try.prog W .any base 3 v1) : Calls Try.prog 4 #[v0, v1] W fun e w' => e = .returned (.bool true) ∧ Below W.heap.size W w' := by
  obtain ⟨a0, rfl, b0, b0'⟩ := ok_int Try.underlying3 hv0
  obtain ⟨a1, rfl, b1, b1'⟩ := ok_int Try.underlying3 hv1
  exact walk a0 a1 ⟨b0, b0'⟩ ⟨b1, b1'⟩ W

set_option maxRecDepth 100000 in
theorem lifted (os : Os) (started : os.Started) (H : Type) (enc : TypeId × Value → H) :
    ReturnsInHanded {} Try.checked os 4 .any (Rows.fixNearSpec.pre6 enc Try.prog Try.f4 Rows.fixNearRow.domain false) (Rows.fixNearSpec.post enc Try.prog Try.f4 false true false false) := by
  refine returnsInHanded_of_change (C := Try.checked) own started (by kernel_rfl) Try.func4
    (ChangeSpec.witness6 (enc := enc) (C := Try.checked) false ⟨#[], #[.int .i64 0, .int .i64 0], []⟩ 8 (by kernel_rfl) (by kernel_rfl) (by kernel_rfl) (by kernel_rfl)) ?_
  intro W base args ds gs before hval0 hW _ _
  have hval : ∀ (j : Nat) t v, Try.f4.params[j]? = some t → args[j]? = some v → Value.okWide Try.prog W .any base t v := hval0
  have hW' := hW
  obtain ⟨p, q, hA0, _, rfl, _, _⟩ := hW
  have hA : DataW.TrodAll enc Try.prog W 0 (fun _ => true) true Try.f4.params.toList args.toList ds p := hA0
  rw [Try.params4] at hA hval
  obtain ⟨v0, vs0, d0, ds0, p0, q0, hargs, rfl, rfl, h0, r0⟩ := trodAll_cons hA
  obtain ⟨v1, vs1, d1, ds1, p1, q1, rfl, rfl, rfl, h1, r1⟩ := trodAll_cons r0
  obtain ⟨rfl, rfl, rfl⟩ := trodAll_nil r1
  obtain rfl : args = #[v0, v1] := by cases args; simp_all
  refine (walkV W base v0 v1 (hval 0 3 v0 rfl rfl) (hval 1 3 v1 rfl rfl)).mono fun e W' ⟨he, hb⟩ => ?_
  subst he
  exact ⟨_, rfl, law_post (tb := 4) hW' rfl rfl laid (by kernel_rfl) rfl Try.underlying4 hb⟩

theorem over : Rows.fixNearRow.holds Try.pinned (OpenSpec.ofChange Rows.fixNearSpec) :=
  OpenClaim.holds_of_wide 4 Try.f4 rfl rfl rfl rfl rfl rfl rfl ⟨rfl, rfl, rfl, rfl, rfl⟩ rfl rfl rfl rfl rfl (by kernel_rfl) Try.func4 (by kernel_rfl)
    (of_decide_eq_true (by kernel_rfl)) (by unfold Func.isWrapper; first | (rw [if_pos (by decide +kernel)]; kernel_rfl) | (rw [if_neg (by decide +kernel)]; exact ⟨rfl, rfl⟩))
    (fun os started H enc _ => lifted os started H enc)

theorem proved : Rows.FixNearSaid := over
end Go.Proofs.Ytihecmjcbnfjiaa.fixNear

