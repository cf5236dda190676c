/- Of all inputs the law answers true; no condition. -/
import Derived.Test.YtpgheiegpcggbaaR1L
set_option linter.unusedVariables false
set_option linter.unusedSimpArgs false
namespace Go.Proofs.Ytpgheiegpcggbaa.levelTwo
open Go Go.Sx Go.ChangeShapes Go.WideShapes Go.ChangeAt Go.RowKit

theorem own : ownKnob Try.prog.godebug = none := by kernel_rfl
theorem mixed : Try.prog.follows .mixedOrders = true := by kernel_rfl
theorem laid : laidOutB Try.prog = true := by kernel_rfl
theorem entersF : Enters Try.prog 13 Try.f13 := ⟨Try.func13, by kernel_rfl, by kernel_rfl⟩


theorem plain (d x z : Int) (t : Bool) (h0 : 0 ≤ x) (h1 : x ≤ d) (h2 : 0 ≤ z) (h3 : z ≤ 255) (h4 : x = d → z = 0) :
    (decide (x < 0) = false) ∧ (decide (x > d) = false) ∧ (decide (z < 0) = false) ∧ (decide (z > 255) = false) ∧ (z = 0 ∧ (z != 0) = false ∧ decide (z > 0) = false ∨ z ≠ 0 ∧ (z != 0) = true ∧ decide (z > 0) = true ∧ decide (x < d) = true ∧ (x == d) = false) := by
  refine ⟨decide_eq_false (by omega), decide_eq_false (by omega), decide_eq_false (by omega), decide_eq_false (by omega), ?_⟩
  by_cases h : z = 0
  · subst h; exact .inl ⟨rfl, rfl, rfl⟩
  · have : x ≠ d := fun e => h (h4 e)
    exact .inr ⟨h, bne_iff_ne.mpr h, decide_eq_true (by omega), decide_eq_true (by omega), beq_eq_false_iff_ne.mpr this⟩

theorem bodyTrue (a0 : Int) (a1 : Int) (a2 : Int) (a3 : Int) (a4 : Int) (a5 : Bool) (h_a0 : -9223372036854775808 ≤ a0 ∧ a0 ≤ 9223372036854775807) (h_a1 : -9223372036854775808 ≤ a1 ∧ a1 ≤ 9223372036854775807) (h_a2 : -9223372036854775808 ≤ a2 ∧ a2 ≤ 9223372036854775807) (h_a3 : -9223372036854775808 ≤ a3 ∧ a3 ≤ 9223372036854775807) (h_a4 : -9223372036854775808 ≤ a4 ∧ a4 ≤ 9223372036854775807) :
    bodyK clt Try.prog 5 Try.f13 [.lit (.int .i64 a0), .lit (.int .i64 a1), .lit (.int .i64 a2), .lit (.int .i64 a3), .lit (.int .i64 a4), .lit (.bool a5)] Sx.empty boolOf = some true := by
  have e : bodyK clt Try.prog 5 Try.f13 [.lit (.int .i64 a0), .lit (.int .i64 a1), .lit (.int .i64 a2), .lit (.int .i64 a3), .lit (.int .i64 a4), .lit (.bool a5)] Sx.empty boolOf =
    (bif a5 then
      bif chT (rnd a0 4) (mx a1 a2 a3 a4) != 0 then
        bif decide (chL (rnd a0 4) (mx a1 a2 a3 a4) < rnd a0 4) then
          bif decide (chL (rnd a0 4) (mx a1 a2 a3 a4) < 0) then some false
          else
            bif decide (chL (rnd a0 4) (mx a1 a2 a3 a4) > rnd a0 4) then some false
            else
              bif decide (chT (rnd a0 4) (mx a1 a2 a3 a4) < 0) then some false
              else
                bif decide (chT (rnd a0 4) (mx a1 a2 a3 a4) > 255) then some false
                else
                  bif chL (rnd a0 4) (mx a1 a2 a3 a4) == rnd a0 4 then
                    bif chT (rnd a0 4) (mx a1 a2 a3 a4) != 0 then some false
                    else
                      bif chL (rnd a0 4) (mx a1 a2 a3 a4) != chL (rnd a0 4) (mx a1 a2 a3 a4) then some false
                      else
                        bif a5 then
                          bif true == decide (chT (rnd a0 4) (mx a1 a2 a3 a4) > 0) then
                            bif !decide (chT (rnd a0 4) (mx a1 a2 a3 a4) > 0) then some true
                            else
                              bif
                                  IntKind.i64.wrap (chL (rnd a0 4) (mx a1 a2 a3 a4) + 1) ==
                                    IntKind.i64.wrap (chL (rnd a0 4) (mx a1 a2 a3 a4) + 1) then
                                some true
                              else some false
                          else some false
                        else some false
                  else
                    bif chL (rnd a0 4) (mx a1 a2 a3 a4) != chL (rnd a0 4) (mx a1 a2 a3 a4) then some false
                    else
                      bif a5 then
                        bif true == decide (chT (rnd a0 4) (mx a1 a2 a3 a4) > 0) then
                          bif !decide (chT (rnd a0 4) (mx a1 a2 a3 a4) > 0) then some true
                          else
                            bif
                                IntKind.i64.wrap (chL (rnd a0 4) (mx a1 a2 a3 a4) + 1) ==
                                  IntKind.i64.wrap (chL (rnd a0 4) (mx a1 a2 a3 a4) + 1) then
                              some true
                            else some false
                        else some false
                      else some false
        else
          bif decide (chL (rnd a0 4) (mx a1 a2 a3 a4) < 0) then some false
          else
            bif decide (chL (rnd a0 4) (mx a1 a2 a3 a4) > rnd a0 4) then some false
            else
              bif decide (chT (rnd a0 4) (mx a1 a2 a3 a4) < 0) then some false
              else
                bif decide (chT (rnd a0 4) (mx a1 a2 a3 a4) > 255) then some false
                else
                  bif chL (rnd a0 4) (mx a1 a2 a3 a4) == rnd a0 4 then
                    bif chT (rnd a0 4) (mx a1 a2 a3 a4) != 0 then some false
                    else
                      bif chL (rnd a0 4) (mx a1 a2 a3 a4) != chL (rnd a0 4) (mx a1 a2 a3 a4) then some false
                      else
                        bif a5 then
                          bif false == decide (chT (rnd a0 4) (mx a1 a2 a3 a4) > 0) then
                            bif !decide (chT (rnd a0 4) (mx a1 a2 a3 a4) > 0) then some true else none
                          else some false
                        else some true
                  else
                    bif chL (rnd a0 4) (mx a1 a2 a3 a4) != chL (rnd a0 4) (mx a1 a2 a3 a4) then some false
                    else
                      bif a5 then
                        bif false == decide (chT (rnd a0 4) (mx a1 a2 a3 a4) > 0) then
                          bif !decide (chT (rnd a0 4) (mx a1 a2 a3 a4) > 0) then some true else none
                        else some false
                      else some true
      else
        bif decide (chL (rnd a0 4) (mx a1 a2 a3 a4) < 0) then some false
        else
          bif decide (chL (rnd a0 4) (mx a1 a2 a3 a4) > rnd a0 4) then some false
          else
            bif decide (chT (rnd a0 4) (mx a1 a2 a3 a4) < 0) then some false
            else
              bif decide (chT (rnd a0 4) (mx a1 a2 a3 a4) > 255) then some false
              else
                bif chL (rnd a0 4) (mx a1 a2 a3 a4) == rnd a0 4 then
                  bif chT (rnd a0 4) (mx a1 a2 a3 a4) != 0 then some false
                  else
                    bif chL (rnd a0 4) (mx a1 a2 a3 a4) != chL (rnd a0 4) (mx a1 a2 a3 a4) then some false
                    else
                      bif a5 then
                        bif false == decide (chT (rnd a0 4) (mx a1 a2 a3 a4) > 0) then
                          bif !decide (chT (rnd a0 4) (mx a1 a2 a3 a4) > 0) then some true else none
                        else some false
                      else some true
                else
                  bif chL (rnd a0 4) (mx a1 a2 a3 a4) != chL (rnd a0 4) (mx a1 a2 a3 a4) then some false
                  else
                    bif a5 then
                      bif false == decide (chT (rnd a0 4) (mx a1 a2 a3 a4) > 0) then
                        bif !decide (chT (rnd a0 4) (mx a1 a2 a3 a4) > 0) then some true else none
                      else some false
                    else some true
    else
      bif decide (chL (rnd a0 4) (mx a1 a2 a3 a4) < 0) then some false
      else
        bif decide (chL (rnd a0 4) (mx a1 a2 a3 a4) > rnd a0 4) then some false
        else
          bif decide (chT (rnd a0 4) (mx a1 a2 a3 a4) < 0) then some false
          else
            bif decide (chT (rnd a0 4) (mx a1 a2 a3 a4) > 255) then some false
            else
              bif chL (rnd a0 4) (mx a1 a2 a3 a4) == rnd a0 4 then
                bif chT (rnd a0 4) (mx a1 a2 a3 a4) != 0 then some false
                else
                  bif chL (rnd a0 4) (mx a1 a2 a3 a4) != chL (rnd a0 4) (mx a1 a2 a3 a4) then some false
                  else
                    bif a5 then
                      bif false == decide (chT (rnd a0 4) (mx a1 a2 a3 a4) > 0) then
                        bif !decide (chT (rnd a0 4) (mx a1 a2 a3 a4) > 0) then some true else none
                      else some false
                    else some true
              else
                bif chL (rnd a0 4) (mx a1 a2 a3 a4) != chL (rnd a0 4) (mx a1 a2 a3 a4) then some false
                else
                  bif a5 then
                    bif false == decide (chT (rnd a0 4) (mx a1 a2 a3 a4) > 0) then
                      bif !decide (chT (rnd a0 4) (mx a1 a2 a3 a4) > 0) then some true else none
                    else some false
                  else some true) := by kernel_rfl
  rw [e]
  clear e
  obtain ⟨d0, d3⟩ := rnd4 a0
  generalize rnd a0 4 = d at d0 d3 ⊢
  have hb := mx_bd a1 a2 a3 a4
  generalize mx a1 a2 a3 a4 = r at hb ⊢
  have h1 := ch_eq (r := r) d0 d3 hb.1 hb.2
  have g : 0 ≤ chL d r ∧ chL d r ≤ d ∧ 0 ≤ chT d r ∧ chT d r ≤ 255 ∧ (chL d r = d → chT d r = 0) := by
    generalize chL d r = x at *
    generalize chT d r = z at *
    refine ⟨by omega, by omega, by omega, by omega, by omega⟩
  obtain ⟨g1, g2, g3, g4, g5⟩ := g
  generalize chL d r = x at *
  generalize chT d r = z at *
  obtain ⟨k1, k2, k3, k4, k5⟩ := plain d x z a5 g1 g2 g3 g4 g5
  rw [k1, k2, k3, k4]
  obtain ⟨k6, k7, k8⟩ | ⟨k6, k7, k8, k9, k10⟩ := k5
  · rw [k7, k8]
    cases a5 <;> cases decide (x < d) <;> cases x == d <;> simp
  · rw [k7, k8, k9, k10]
    cases a5 <;> simp

theorem walk (a0 : Int) (a1 : Int) (a2 : Int) (a3 : Int) (a4 : Int) (a5 : Bool) (h_a0 : -9223372036854775808 ≤ a0 ∧ a0 ≤ 9223372036854775807) (h_a1 : -9223372036854775808 ≤ a1 ∧ a1 ≤ 9223372036854775807) (h_a2 : -9223372036854775808 ≤ a2 ∧ a2 ≤ 9223372036854775807) (h_a3 : -9223372036854775808 ≤ a3 ∧ a3 ≤ 9223372036854775807) (h_a4 : -9223372036854775808 ≤ a4 ∧ a4 ≤ 9223372036854775807) (w : World) :
    Calls Try.prog 13 #[.int .i64 a0, .int .i64 a1, .int .i64 a2, .int .i64 a3, .int .i64 a4, .bool a5] w fun e w' => e = .returned (.bool true) ∧ Below w.heap.size w w' := by
  have h := law_of clt_sound mixed entersF (bodyTrue a0 a1 a2 a3 a4 a5 h_a0 h_a1 h_a2 h_a3 h_a4) (E := ⟨fun _ => 0, fun _ => undef⟩) (RepM.empty _ w) (by kernel_rfl) (by kernel_rfl)
  exact h

theorem walkV (W : World) (base : Nat) (v0 : Value) (v1 : Value) (v2 : Value) (v3 : Value) (v4 : Value) (v5 : Value) (hv0 : Value.okWide Try.prog W .any base 3 v0) (hv1 : Value.okWide Try.prog W .any base 3 v1) (hv2 : Value.okWide Try.prog W .any base 3 v2) (hv3 : Value.okWide Try.prog W .any base 3 v3) (hv4 : Value.okWide Try.prog W .any base 3 v4) (hv5 : Value.okWide Try.prog W .any base 4 v5) : Calls Try.prog 13 #[v0, v1, v2, v3, v4, v5] W fun e w' => e = .returned (.bool true) ∧ Below W.heap.size W w' := by
  obtain ⟨a0, rfl, b0, b0'⟩ := ok_int Try.underlying3 hv0
  obtain ⟨a1, rfl, b1, b1'⟩ := ok_int Try.underlying3 hv1
  obtain ⟨a2, rfl, b2, b2'⟩ := ok_int Try.underlying3 hv2
  obtain ⟨a3, rfl, b3, b3'⟩ := ok_int Try.underlying3 hv3
  obtain ⟨a4, rfl, b4, b4'⟩ := ok_int Try.underlying3 hv4
  obtain ⟨a5, rfl⟩ := ok_bool Try.underlying4 hv5
  exact walk a0 a1 a2 a3 a4 a5 ⟨b0, b0'⟩ ⟨b1, b1'⟩ ⟨b2, b2'⟩ ⟨b3, b3'⟩ ⟨b4, b4'⟩ W

set_option maxRecDepth 100000 in
theorem lifted (os : Os) (started : os.Started) (H : Type) (enc : TypeId × Value → H) :
    ReturnsInHanded {} Try.checked os 13 .any (Rows.levelTwoSpec.pre6 enc Try.prog Try.f13 Rows.levelTwoRow.domain false) (Rows.levelTwoSpec.post enc Try.prog Try.f13 false true false false) := by
  refine returnsInHanded_of_change (C := Try.checked) own started (by kernel_rfl) Try.func13
    (ChangeSpec.witness6 (enc := enc) (C := Try.checked) false ⟨#[], #[.int .i64 0, .int .i64 0, .int .i64 0, .int .i64 0, .int .i64 0, .bool false], []⟩ 8 (by kernel_rfl) (by kernel_rfl) (by kernel_rfl) (by kernel_rfl)) ?_
  intro W base args ds gs before hval0 hW _ _
  have hval : ∀ (j : Nat) t v, Try.f13.params[j]? = some t → args[j]? = some v → Value.okWide Try.prog W .any base t v := hval0
  have hW' := hW
  obtain ⟨p, q, hA0, _, rfl, _, _⟩ := hW
  have hA : DataW.TrodAll enc Try.prog W 0 (fun _ => true) true Try.f13.params.toList args.toList ds p := hA0
  rw [Try.params13] at hA hval
  obtain ⟨v0, vs0, d0, ds0, p0, q0, hargs, rfl, rfl, h0, r0⟩ := trodAll_cons hA
  obtain ⟨v1, vs1, d1, ds1, p1, q1, rfl, rfl, rfl, h1, r1⟩ := trodAll_cons r0
  obtain ⟨v2, vs2, d2, ds2, p2, q2, rfl, rfl, rfl, h2, r2⟩ := trodAll_cons r1
  obtain ⟨v3, vs3, d3, ds3, p3, q3, rfl, rfl, rfl, h3, r3⟩ := trodAll_cons r2
  obtain ⟨v4, vs4, d4, ds4, p4, q4, rfl, rfl, rfl, h4, r4⟩ := trodAll_cons r3
  obtain ⟨v5, vs5, d5, ds5, p5, q5, rfl, rfl, rfl, h5, r5⟩ := trodAll_cons r4
  obtain ⟨rfl, rfl, rfl⟩ := trodAll_nil r5
  obtain rfl : args = #[v0, v1, v2, v3, v4, v5] := by cases args; simp_all
  refine (walkV W base v0 v1 v2 v3 v4 v5 (hval 0 3 v0 rfl rfl) (hval 1 3 v1 rfl rfl) (hval 2 3 v2 rfl rfl) (hval 3 3 v3 rfl rfl) (hval 4 3 v4 rfl rfl) (hval 5 4 v5 rfl rfl)).mono fun e W' ⟨he, hb⟩ => ?_
  subst he
  exact ⟨_, rfl, law_post (tb := 4) hW' rfl rfl laid (by kernel_rfl) rfl Try.underlying4 hb⟩

theorem over : Rows.levelTwoRow.holds Try.pinned (OpenSpec.ofChange Rows.levelTwoSpec) :=
  OpenClaim.holds_of_wide 13 Try.f13 rfl rfl rfl rfl rfl rfl rfl ⟨rfl, rfl, rfl, rfl, rfl⟩ rfl rfl rfl rfl rfl (by kernel_rfl) Try.func13 (by kernel_rfl)
    (of_decide_eq_true (by kernel_rfl)) (by unfold Func.isWrapper; first | (rw [if_pos (by decide +kernel)]; kernel_rfl) | (rw [if_neg (by decide +kernel)]; exact ⟨rfl, rfl⟩))
    (fun os started H enc _ => lifted os started H enc)

theorem proved : Rows.LevelTwoSaid := over
end Go.Proofs.Ytpgheiegpcggbaa.levelTwo

