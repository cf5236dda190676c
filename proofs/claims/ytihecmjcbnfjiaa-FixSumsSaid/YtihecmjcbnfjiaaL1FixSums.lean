/- Of all inputs the law answers true; no condition. -/
import Derived.Test.YtihecmjcbnfjiaaL1A
import Derived.Test.YtihecmjcbnfjiaaFxC
set_option linter.unusedVariables false
set_option linter.unusedSimpArgs false
namespace Go.Proofs.Ytihecmjcbnfjiaa.fixSums
open Go Go.Sx Go.ChangeShapes Go.WideShapes Go.ChangeAt Go.RowKit

theorem own : ownKnob Try.prog.godebug = none := by kernel_rfl
theorem mixed : Try.prog.follows .mixedOrders = true := by kernel_rfl
theorem laid : laidOutB Try.prog = true := by kernel_rfl
theorem entersF : Enters Try.prog 7 Try.f7 := ⟨Try.func7, by kernel_rfl, by kernel_rfl⟩


open Go.Fx
theorem bodyTrue (a0 : Int) (a1 : Int) (a2 : Int) (h_a0 : -9223372036854775808 ≤ a0 ∧ a0 ≤ 9223372036854775807) (h_a1 : -9223372036854775808 ≤ a1 ∧ a1 ≤ 9223372036854775807) (h_a2 : -9223372036854775808 ≤ a2 ∧ a2 ≤ 9223372036854775807) :
    bodyK calls Try.prog 5 Try.f7 [.lit (.int .i64 a0), .lit (.int .i64 a1), .lit (.int .i64 a2)] Sx.empty boolOf = some true := by
  have e : bodyK calls Try.prog 5 Try.f7 [.lit (.int .i64 a0), .lit (.int .i64 a1), .lit (.int .i64 a2)] Sx.empty boolOf =
    (bif !okz a0 then some true
    else
      bif !okz a1 then some true
      else
        bif !okz a2 then some true
        else
          bif addV a0 a1 != addV a1 a0 then some false
          else
            bif addE a0 a1 != addE a1 a0 then some false
            else
              bif !(addE a0 a1 == 0) == okz (wi (a0 + a1)) then some false
              else
                bif addE a0 a1 != 0 then
                  bif addV a0 a1 != 0 then some false
                  else
                    bif addE a0 a1 != 0 then some true
                    else
                      bif addE (addV a0 a1) (wi (0 - a0)) == 0 then
                        bif addV (addV a0 a1) (wi (0 - a0)) == a1 then
                          bif addE (addV a0 a1) a2 != 0 then some true
                          else
                            bif addE a1 a2 != 0 then some true
                            else
                              bif addE a0 (addV a1 a2) == 0 then
                                bif addV a0 (addV a1 a2) == addV (addV a0 a1) a2 then some true else some false
                              else some false
                        else some false
                      else some false
                else
                  bif addE a0 a1 != 0 then some true
                  else
                    bif addE (addV a0 a1) (wi (0 - a0)) == 0 then
                      bif addV (addV a0 a1) (wi (0 - a0)) == a1 then
                        bif addE (addV a0 a1) a2 != 0 then some true
                        else
                          bif addE a1 a2 != 0 then some true
                          else
                            bif addE a0 (addV a1 a2) == 0 then
                              bif addV a0 (addV a1 a2) == addV (addV a0 a1) a2 then some true else some false
                            else some false
                      else some false
                    else some false) := by kernel_rfl
  rw [e]
  clear e
  cases k0 : okz a0
  · rfl
  cases k1 : okz a1
  · rfl
  cases k2 : okz a2
  · rfl
  have b0 := okz_iff.mp k0
  have b1 := okz_iff.mp k1
  have b2 := okz_iff.mp k2
  rw [wi_id (n := a0 + a1) (by omega) (by omega), wi_id (n := 0 - a0) (by omega) (by omega)]
  cases k : okz (a0 + a1)
  · obtain ⟨v, e⟩ := add_out k0 k1 k
    obtain ⟨v', e'⟩ := add_out k1 k0 (by rw [Int.add_comm]; exact k)
    rw [v, v', e, e']; rfl
  · obtain ⟨v, e⟩ := add_in k0 k1 k
    obtain ⟨v', e'⟩ := add_in k1 k0 (by rw [Int.add_comm]; exact k)
    obtain ⟨v3, e3⟩ := add_in (a := a0 + a1) (b := 0 - a0) k (okz_iff.mpr (by omega)) (okz_iff.mpr (by omega))
    rw [v, v', e, e', v3, e3, show a1 + a0 = a0 + a1 by omega, show a0 + a1 + (0 - a0) = a1 by omega]
    cases kk : okz (a0 + a1 + a2)
    · obtain ⟨v4, e4⟩ := add_out (a := a0 + a1) k k2 kk
      rw [v4, e4]; simp
    · obtain ⟨v4, e4⟩ := add_in (a := a0 + a1) k k2 kk
      rw [v4, e4]
      cases kl : okz (a1 + a2)
      · obtain ⟨v5, e5⟩ := add_out k1 k2 kl
        rw [v5, e5]; simp
      · obtain ⟨v5, e5⟩ := add_in k1 k2 kl
        obtain ⟨v6, e6⟩ := add_in (a := a0) (b := a1 + a2) k0 kl (by rw [← Int.add_assoc]; exact kk)
        rw [v5, e5, v6, e6, ← Int.add_assoc]; simp

theorem walk (a0 : Int) (a1 : Int) (a2 : Int) (h_a0 : -9223372036854775808 ≤ a0 ∧ a0 ≤ 9223372036854775807) (h_a1 : -9223372036854775808 ≤ a1 ∧ a1 ≤ 9223372036854775807) (h_a2 : -9223372036854775808 ≤ a2 ∧ a2 ≤ 9223372036854775807) (w : World) :
    Calls Try.prog 7 #[.int .i64 a0, .int .i64 a1, .int .i64 a2] w fun e w' => e = .returned (.bool true) ∧ Below w.heap.size w w' := by
  have h := law_of calls_sound mixed entersF (bodyTrue a0 a1 a2 h_a0 h_a1 h_a2) (E := ⟨fun _ => 0, fun _ => undef⟩) (RepM.empty _ w) (by kernel_rfl) (by kernel_rfl)
  exact h

theorem walkV (W : World) (base : Nat) (v0 : Value) (v1 : Value) (v2 : Value) (hv0 : Value.okWide Try.prog W .any base 3 v0) (hv1 : Value.okWide Try.prog W .any base 3 v1) (hv2 : Value.okWide Try.prog W .any base 3 v2) : Calls Try.prog 7 #[v0, v1, v2] W fun e w' => e = .returned (.bool true) ∧ Below W.heap.size W w' := by
  obtain ⟨a0, rfl, b0, b0'⟩ := ok_int Try.underlying3 hv0
  obtain ⟨a1, rfl, b1, b1'⟩ := ok_int Try.underlying3 hv1
  obtain ⟨a2, rfl, b2, b2'⟩ := ok_int Try.underlying3 hv2
  exact walk a0 a1 a2 ⟨b0, b0'⟩ ⟨b1, b1'⟩ ⟨b2, b2'⟩ W

set_option maxRecDepth 100000 in
theorem lifted (os : Os) (started : os.Started) (H : Type) (enc : TypeId × Value → H) :
    ReturnsInHanded {} Try.checked os 7 .any (Rows.fixSumsSpec.pre6 enc Try.prog Try.f7 Rows.fixSumsRow.domain false) (Rows.fixSumsSpec.post enc Try.prog Try.f7 false true false false) := by
  refine returnsInHanded_of_change (C := Try.checked) own started (by kernel_rfl) Try.func7
    (ChangeSpec.witness6 (enc := enc) (C := Try.checked) false ⟨#[], #[.int .i64 0, .int .i64 0, .int .i64 0], []⟩ 8 (by kernel_rfl) (by kernel_rfl) (by kernel_rfl) (by kernel_rfl)) ?_
  intro W base args ds gs before hval0 hW _ _
  have hval : ∀ (j : Nat) t v, Try.f7.params[j]? = some t → args[j]? = some v → Value.okWide Try.prog W .any base t v := hval0
  have hW' := hW
  obtain ⟨p, q, hA0, _, rfl, _, _⟩ := hW
  have hA : DataW.TrodAll enc Try.prog W 0 (fun _ => true) true Try.f7.params.toList args.toList ds p := hA0
  rw [Try.params7] at hA hval
  obtain ⟨v0, vs0, d0, ds0, p0, q0, hargs, rfl, rfl, h0, r0⟩ := trodAll_cons hA
  obtain ⟨v1, vs1, d1, ds1, p1, q1, rfl, rfl, rfl, h1, r1⟩ := trodAll_cons r0
  obtain ⟨v2, vs2, d2, ds2, p2, q2, rfl, rfl, rfl, h2, r2⟩ := trodAll_cons r1
  obtain ⟨rfl, rfl, rfl⟩ := trodAll_nil r2
  obtain rfl : args = #[v0, v1, v2] := by cases args; simp_all
  refine (walkV W base v0 v1 v2 (hval 0 3 v0 rfl rfl) (hval 1 3 v1 rfl rfl) (hval 2 3 v2 rfl rfl)).mono fun e W' ⟨he, hb⟩ => ?_
  subst he
  exact ⟨_, rfl, law_post (tb := 4) hW' rfl rfl laid (by kernel_rfl) rfl Try.underlying4 hb⟩

theorem over : Rows.fixSumsRow.holds Try.pinned (OpenSpec.ofChange Rows.fixSumsSpec) :=
  OpenClaim.holds_of_wide 7 Try.f7 rfl rfl rfl rfl rfl rfl rfl ⟨rfl, rfl, rfl, rfl, rfl⟩ rfl rfl rfl rfl rfl (by kernel_rfl) Try.func7 (by kernel_rfl)
    (of_decide_eq_true (by kernel_rfl)) (by unfold Func.isWrapper; first | (rw [if_pos (by decide +kernel)]; kernel_rfl) | (rw [if_neg (by decide +kernel)]; exact ⟨rfl, rfl⟩))
    (fun os started H enc _ => lifted os started H enc)

theorem proved : Rows.FixSumsSaid := over
end Go.Proofs.Ytihecmjcbnfjiaa.fixSums

