/- Of all inputs the law answers true; no condition. -/
import Derived.Test.YtihecmjcbnfjiaaL1A
import Derived.Test.YtihecmjcbnfjiaaFxC
set_option linter.unusedVariables false
set_option linter.unusedSimpArgs false
namespace Go.Proofs.Ytihecmjcbnfjiaa.fixOnes
open Go Go.Sx Go.ChangeShapes Go.WideShapes Go.ChangeAt Go.RowKit

theorem own : ownKnob Try.prog.godebug = none := by kernel_rfl
theorem mixed : Try.prog.follows .mixedOrders = true := by kernel_rfl
theorem laid : laidOutB Try.prog = true := by kernel_rfl
theorem entersF : Enters Try.prog 6 Try.f6 := ⟨Try.func6, by kernel_rfl, by kernel_rfl⟩


open Go.Fx
theorem bodyTrue (a0 : Int) (a1 : Int) (h_a0 : -9223372036854775808 ≤ a0 ∧ a0 ≤ 9223372036854775807) (h_a1 : -9223372036854775808 ≤ a1 ∧ a1 ≤ 9223372036854775807) :
    bodyK calls Try.prog 5 Try.f6 [.lit (.int .i64 a0), .lit (.int .i64 a1)] Sx.empty boolOf = some true := by
  have e : bodyK calls Try.prog 5 Try.f6 [.lit (.int .i64 a0), .lit (.int .i64 a1)] Sx.empty boolOf =
    (bif !okz a0 then some true
    else
      bif !okz a1 then some true
      else
        bif decide (a0 ≤ 9223372036854775807) then
          bif mulE a0 65536 == 0 then
            bif mulV a0 65536 == a0 then
              bif divE a0 65536 == 0 then
                bif divV a0 65536 == a0 then
                  bif mulV a0 a1 == mulV a1 a0 then
                    bif mulE a0 a1 == mulE a1 a0 then
                      bif decide (a0 < 1) then
                        bif logV a0 == -1 then some true
                        else
                          bif decide (a0 ≥ 1) then
                            if logV a0 < 0 then none
                            else
                              bif decide (wi (1 * 2 ^ min (logV a0).toNat 64) ≤ a0) then
                                if logV a0 < 0 then none
                                else
                                  bif decide (a0 < wi (2 * 2 ^ min (logV a0).toNat 64)) then some true
                                  else some false
                              else some false
                          else some false
                      else
                        bif decide (a0 ≥ 1) then
                          if logV a0 < 0 then none
                          else
                            bif decide (wi (1 * 2 ^ min (logV a0).toNat 64) ≤ a0) then
                              if logV a0 < 0 then none
                              else
                                bif decide (a0 < wi (2 * 2 ^ min (logV a0).toNat 64)) then some true
                                else some false
                            else some false
                        else some false
                    else some false
                  else some false
                else some false
              else some false
            else some false
          else some false
        else none) := by kernel_rfl
  rw [e]
  clear e
  cases k0 : okz a0
  · rfl
  cases k1 : okz a1
  · rfl
  have kd : okz 65536 = true := by decide
  have m1 : mulV a0 65536 = a0 ∧ mulE a0 65536 = 0 := by
    unfold mulV mulE fitV fitE; rw [nr_mul' _ (by omega), k0, kd]; exact ⟨rfl, rfl⟩
  have m2 : divV a0 65536 = a0 ∧ divE a0 65536 = 0 := by
    have : divQ a0 65536 = a0 := by
      unfold divQ
      rw [decide_eq_false (by omega), cond_false, nr_mul' _ (by omega)]
    unfold divV divE fitV fitE; rw [this, k0, kd]; exact ⟨rfl, rfl⟩
  have m3 : mulV a0 a1 = mulV a1 a0 ∧ mulE a0 a1 = mulE a1 a0 := by
    unfold mulV mulE; rw [k0, k1, Int.mul_comm]; exact ⟨rfl, rfl⟩
  rw [m1.1, m1.2, m2.1, m2.2, m3.1, m3.2, decide_eq_true h_a0.2]
  by_cases c : a0 < 1
  · rw [decide_eq_true c, show logV a0 = -1 by unfold logV; rw [decide_eq_true c]; rfl]; simp
  · obtain ⟨k, l1, l2, l3, l4⟩ := logV_spec (n := a0) (by omega) h_a0.2
    have hm : min k 64 = k := by omega
    have hp : (2 : Int) * 2 ^ k = 2 ^ (k + 1) := by rw [Int.pow_succ]; omega
    have hb := okz_iff.mp k0
    rw [decide_eq_false c, decide_eq_true (p := a0 ≥ 1) (by omega), l1, if_neg (by omega), if_neg (by omega), Int.toNat_natCast, hm, Int.one_mul, hp, wi_id (n := 2 ^ k) (by omega) (by omega)]
    have hq : (2 : Int) ^ (k + 1) ≤ 9223372036854775807 := by rw [← hp]; omega
    rw [wi_id (n := 2 ^ (k + 1)) (by omega) hq, decide_eq_true l2, decide_eq_true l3]
    simp

theorem walk (a0 : Int) (a1 : Int) (h_a0 : -9223372036854775808 ≤ a0 ∧ a0 ≤ 9223372036854775807) (h_a1 : -9223372036854775808 ≤ a1 ∧ a1 ≤ 9223372036854775807) (w : World) :
    Calls Try.prog 6 #[.int .i64 a0, .int .i64 a1] w fun e w' => e = .returned (.bool true) ∧ Below w.heap.size w w' := by
  have h := law_of calls_sound mixed entersF (bodyTrue a0 a1 h_a0 h_a1) (E := ⟨fun _ => 0, fun _ => undef⟩) (RepM.empty _ w) (by kernel_rfl) (by kernel_rfl)
  exact h

theorem walkV (W : World) (base : Nat) (v0 : Value) (v1 : Value) (hv0 : Value.okWide Try.prog W .any base 3 v0) (hv1 : Value.okWide Try.prog W .any base 3 v1) : Calls Try.prog 6 #[v0, v1] W fun e w' => e = .returned (.bool true) ∧ Below W.heap.size W w' := by
  obtain ⟨a0, rfl, b0, b0'⟩ := ok_int Try.underlying3 hv0
  obtain ⟨a1, rfl, b1, b1'⟩ := ok_int Try.underlying3 hv1
  exact walk a0 a1 ⟨b0, b0'⟩ ⟨b1, b1'⟩ W

set_option maxRecDepth 100000 in
theorem lifted (os : Os) (started : os.Started) (H : Type) (enc : TypeId × Value → H) :
    ReturnsInHanded {} Try.checked os 6 .any (Rows.fixOnesSpec.pre6 enc Try.prog Try.f6 Rows.fixOnesRow.domain false) (Rows.fixOnesSpec.post enc Try.prog Try.f6 false true false false) := by
  refine returnsInHanded_of_change (C := Try.checked) own started (by kernel_rfl) Try.func6
    (ChangeSpec.witness6 (enc := enc) (C := Try.checked) false ⟨#[], #[.int .i64 0, .int .i64 0], []⟩ 8 (by kernel_rfl) (by kernel_rfl) (by kernel_rfl) (by kernel_rfl)) ?_
  intro W base args ds gs before hval0 hW _ _
  have hval : ∀ (j : Nat) t v, Try.f6.params[j]? = some t → args[j]? = some v → Value.okWide Try.prog W .any base t v := hval0
  have hW' := hW
  obtain ⟨p, q, hA0, _, rfl, _, _⟩ := hW
  have hA : DataW.TrodAll enc Try.prog W 0 (fun _ => true) true Try.f6.params.toList args.toList ds p := hA0
  rw [Try.params6] at hA hval
  obtain ⟨v0, vs0, d0, ds0, p0, q0, hargs, rfl, rfl, h0, r0⟩ := trodAll_cons hA
  obtain ⟨v1, vs1, d1, ds1, p1, q1, rfl, rfl, rfl, h1, r1⟩ := trodAll_cons r0
  obtain ⟨rfl, rfl, rfl⟩ := trodAll_nil r1
  obtain rfl : args = #[v0, v1] := by cases args; simp_all
  refine (walkV W base v0 v1 (hval 0 3 v0 rfl rfl) (hval 1 3 v1 rfl rfl)).mono fun e W' ⟨he, hb⟩ => ?_
  subst he
  exact ⟨_, rfl, law_post (tb := 4) hW' rfl rfl laid (by kernel_rfl) rfl Try.underlying4 hb⟩

theorem over : Rows.fixOnesRow.holds Try.pinned (OpenSpec.ofChange Rows.fixOnesSpec) :=
  OpenClaim.holds_of_wide 6 Try.f6 rfl rfl rfl rfl rfl rfl rfl ⟨rfl, rfl, rfl, rfl, rfl⟩ rfl rfl rfl rfl rfl (by kernel_rfl) Try.func6 (by kernel_rfl)
    (of_decide_eq_true (by kernel_rfl)) (by unfold Func.isWrapper; first | (rw [if_pos (by decide +kernel)]; kernel_rfl) | (rw [if_neg (by decide +kernel)]; exact ⟨rfl, rfl⟩))
    (fun os started H enc _ => lifted os started H enc)

theorem proved : Rows.FixOnesSaid := over
end Go.Proofs.Ytihecmjcbnfjiaa.fixOnes

