/- Of all inputs the law answers true; no condition. -/
import Derived.Test.YtihecmjcbnfjiaaL1A
import Derived.Test.YtihecmjcbnfjiaaFxC
set_option linter.unusedVariables false
set_option linter.unusedSimpArgs false
namespace Go.Proofs.Ytihecmjcbnfjiaa.fixParts
open Go Go.Sx Go.ChangeShapes Go.WideShapes Go.ChangeAt Go.RowKit

theorem own : ownKnob Try.prog.godebug = none := by kernel_rfl
theorem mixed : Try.prog.follows .mixedOrders = true := by kernel_rfl
theorem laid : laidOutB Try.prog = true := by kernel_rfl
theorem entersF : Enters Try.prog 8 Try.f8 := ⟨Try.func8, by kernel_rfl, by kernel_rfl⟩


open Go.Fx
theorem bodyTrue (a0 : Int) (a1 : Int) (h_a0 : -9223372036854775808 ≤ a0 ∧ a0 ≤ 9223372036854775807) (h_a1 : -9223372036854775808 ≤ a1 ∧ a1 ≤ 9223372036854775807) :
    bodyK calls Try.prog 5 Try.f8 [.lit (.int .i64 a0), .lit (.int .i64 a1)] Sx.empty boolOf = some true := by
  have e : bodyK calls Try.prog 5 Try.f8 [.lit (.int .i64 a0), .lit (.int .i64 a1)] Sx.empty boolOf =
    (bif decide (a0 < -1099511627776) then some true
    else
      bif decide (a0 > 1099511627776) then some true
      else
        bif decide (a1 < 1) then some true
        else
          bif decide (a1 > 1048576) then some true
          else
            bif rndE a0 a1 == 0 then
              bif rndE (wi (0 - a0)) a1 == 0 then
                bif rndE a0 1 == 0 then
                  bif rndE (wi (2 * a0)) (wi (2 * a1)) == 0 then
                    bif rndV a0 1 == a0 then
                      bif rndV (wi (2 * a0)) (wi (2 * a1)) == rndV a0 a1 then
                        bif rndV (wi (0 - a0)) a1 == wi (0 - rndV a0 a1) then
                          bif
                              decide
                                (wi
                                    ((if
                                          wi (wi (rndV a0 a1 * a1) - a0) >
                                            wi (a0 - wi (rndV a0 a1 * a1)) then
                                        wi (wi (rndV a0 a1 * a1) - a0)
                                      else wi (a0 - wi (rndV a0 a1 * a1))) *
                                      2) ≤
                                  a1) then
                            some true
                          else some false
                        else
                          bif rndV (wi (0 - a0)) a1 == wi (1 - rndV a0 a1) then
                            bif
                                decide
                                  (wi
                                      ((if
                                            wi (wi (rndV a0 a1 * a1) - a0) >
                                              wi (a0 - wi (rndV a0 a1 * a1)) then
                                          wi (wi (rndV a0 a1 * a1) - a0)
                                        else wi (a0 - wi (rndV a0 a1 * a1))) *
                                        2) ≤
                                    a1) then
                              some true
                            else some false
                          else some false
                      else some false
                    else some false
                  else some false
                else some false
              else some false
            else some false) := by kernel_rfl
  rw [e]
  clear e
  by_cases c1 : a0 < -1099511627776
  · rw [decide_eq_true c1]; rfl
  by_cases c2 : a0 > 1099511627776
  · rw [decide_eq_false c1, decide_eq_true c2]; rfl
  by_cases c3 : a1 < 1
  · rw [decide_eq_false c1, decide_eq_false c2, decide_eq_true c3]; rfl
  by_cases c4 : a1 > 1048576
  · rw [decide_eq_false c1, decide_eq_false c2, decide_eq_false c3, decide_eq_true c4]; rfl
  rw [decide_eq_false c1, decide_eq_false c2, decide_eq_false c3, decide_eq_false c4]
  rw [wi_id (n := 2 * a0) (by omega) (by omega), wi_id (n := 2 * a1) (by omega) (by omega), wi_id (n := 0 - a0) (by omega) (by omega)]
  obtain ⟨r1, s1⟩ := rnd_in (n := a0) (d := a1) (by omega) (by omega) (by omega) (by omega)
  obtain ⟨r2, s2⟩ := rnd_in (n := 0 - a0) (d := a1) (by omega) (by omega) (by omega) (by omega)
  obtain ⟨r3, s3⟩ := rnd_in (n := a0) (d := 1) (by omega) (by omega) (by omega) (by omega)
  obtain ⟨r4, s4⟩ := rnd_in (n := 2 * a0) (d := 2 * a1) (by omega) (by omega) (by omega) (by omega)
  obtain ⟨n1, n2, n3, n4, n5⟩ := nr_near (n := a0) (d := a1) (by omega) (by omega) (by omega) (by omega)
  have hn := nr_neg a0 (d := a1) (by omega)
  rw [r1, r2, r3, r4, s1, s2, s3, s4, nr_one, nr_two a0 (by omega), show (0 - a0) = -a0 by omega]
  generalize nr a0 a1 = q at *
  rw [wi_id (n := q * a1) (by omega) (by omega), wi_id (n := q * a1 - a0) (by omega) (by omega), wi_id (n := a0 - q * a1) (by omega) (by omega), wi_id (n := 0 - q) (by omega) (by omega), wi_id (n := 1 - q) (by omega) (by omega),
    wi_id (n := (if q * a1 - a0 > a0 - q * a1 then q * a1 - a0 else a0 - q * a1) * 2) (by split <;> omega) (by split <;> omega),
    decide_eq_true (p := (if q * a1 - a0 > a0 - q * a1 then q * a1 - a0 else a0 - q * a1) * 2 ≤ a1) (by split <;> omega)]
  obtain hn | hn := hn
  · rw [hn, show (0 - q) = -q by omega]; simp
  · rw [hn]; simp

theorem walk (a0 : Int) (a1 : Int) (h_a0 : -9223372036854775808 ≤ a0 ∧ a0 ≤ 9223372036854775807) (h_a1 : -9223372036854775808 ≤ a1 ∧ a1 ≤ 9223372036854775807) (w : World) :
    Calls Try.prog 8 #[.int .i64 a0, .int .i64 a1] w fun e w' => e = .returned (.bool true) ∧ Below w.heap.size w w' := by
  have h := law_of calls_sound mixed entersF (bodyTrue a0 a1 h_a0 h_a1) (E := ⟨fun _ => 0, fun _ => undef⟩) (RepM.empty _ w) (by kernel_rfl) (by kernel_rfl)
  exact h

theorem walkV (W : World) (base : Nat) (v0 : Value) (v1 : Value) (hv0 : Value.okWide Try.prog W .any base 3 v0) (hv1 : Value.okWide Try.prog W .any base 3 v1) : Calls Try.prog 8 #[v0, v1] W fun e w' => e = .returned (.bool true) ∧ Below W.heap.size W w' := by
  obtain ⟨a0, rfl, b0, b0'⟩ := ok_int Try.underlying3 hv0
  obtain ⟨a1, rfl, b1, b1'⟩ := ok_int Try.underlying3 hv1
  exact walk a0 a1 ⟨b0, b0'⟩ ⟨b1, b1'⟩ W

set_option maxRecDepth 100000 in
theorem lifted (os : Os) (started : os.Started) (H : Type) (enc : TypeId × Value → H) :
    ReturnsInHanded {} Try.checked os 8 .any (Rows.fixPartsSpec.pre6 enc Try.prog Try.f8 Rows.fixPartsRow.domain false) (Rows.fixPartsSpec.post enc Try.prog Try.f8 false true false false) := by
  refine returnsInHanded_of_change (C := Try.checked) own started (by kernel_rfl) Try.func8
    (ChangeSpec.witness6 (enc := enc) (C := Try.checked) false ⟨#[], #[.int .i64 0, .int .i64 0], []⟩ 8 (by kernel_rfl) (by kernel_rfl) (by kernel_rfl) (by kernel_rfl)) ?_
  intro W base args ds gs before hval0 hW _ _
  have hval : ∀ (j : Nat) t v, Try.f8.params[j]? = some t → args[j]? = some v → Value.okWide Try.prog W .any base t v := hval0
  have hW' := hW
  obtain ⟨p, q, hA0, _, rfl, _, _⟩ := hW
  have hA : DataW.TrodAll enc Try.prog W 0 (fun _ => true) true Try.f8.params.toList args.toList ds p := hA0
  rw [Try.params8] at hA hval
  obtain ⟨v0, vs0, d0, ds0, p0, q0, hargs, rfl, rfl, h0, r0⟩ := trodAll_cons hA
  obtain ⟨v1, vs1, d1, ds1, p1, q1, rfl, rfl, rfl, h1, r1⟩ := trodAll_cons r0
  obtain ⟨rfl, rfl, rfl⟩ := trodAll_nil r1
  obtain rfl : args = #[v0, v1] := by cases args; simp_all
  refine (walkV W base v0 v1 (hval 0 3 v0 rfl rfl) (hval 1 3 v1 rfl rfl)).mono fun e W' ⟨he, hb⟩ => ?_
  subst he
  exact ⟨_, rfl, law_post (tb := 4) hW' rfl rfl laid (by kernel_rfl) rfl Try.underlying4 hb⟩

theorem over : Rows.fixPartsRow.holds Try.pinned (OpenSpec.ofChange Rows.fixPartsSpec) :=
  OpenClaim.holds_of_wide 8 Try.f8 rfl rfl rfl rfl rfl rfl rfl ⟨rfl, rfl, rfl, rfl, rfl⟩ rfl rfl rfl rfl rfl (by kernel_rfl) Try.func8 (by kernel_rfl)
    (of_decide_eq_true (by kernel_rfl)) (by unfold Func.isWrapper; first | (rw [if_pos (by decide +kernel)]; kernel_rfl) | (rw [if_neg (by decide +kernel)]; exact ⟨rfl, rfl⟩))
    (fun os started H enc _ => lifted os started H enc)

theorem proved : Rows.FixPartsSaid := over
end Go.Proofs.Ytihecmjcbnfjiaa.fixParts

