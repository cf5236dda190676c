/- Of all inputs the law answers true; no condition. -/
import Derived.Test.YtpgheiegpcggbaaR1L
set_option linter.unusedVariables false
set_option linter.unusedSimpArgs false
namespace Go.Proofs.Ytpgheiegpcggbaa.levelGrows
open Go Go.Sx Go.ChangeShapes Go.WideShapes Go.ChangeAt Go.RowKit

theorem own : ownKnob Try.prog.godebug = none := by kernel_rfl
theorem mixed : Try.prog.follows .mixedOrders = true := by kernel_rfl
theorem laid : laidOutB Try.prog = true := by kernel_rfl
theorem entersF : Enters Try.prog 11 Try.f11 := ⟨Try.func11, by kernel_rfl, by kernel_rfl⟩


theorem bodyTrue (a0 : Int) (a1 : Int) (a2 : Int) (h_a0 : -9223372036854775808 ≤ a0 ∧ a0 ≤ 9223372036854775807) (h_a1 : -9223372036854775808 ≤ a1 ∧ a1 ≤ 9223372036854775807) (h_a2 : -9223372036854775808 ≤ a2 ∧ a2 ≤ 9223372036854775807) :
    bodyK cl Try.prog 5 Try.f11 [.lit (.int .i64 a0), .lit (.int .i64 a1), .lit (.int .i64 a2)] Sx.empty boolOf = some true := by
  have e : bodyK cl Try.prog 5 Try.f11 [.lit (.int .i64 a0), .lit (.int .i64 a1), .lit (.int .i64 a2)] Sx.empty boolOf =
    (bif decide (a1 < 0) then some true
    else
      bif decide (a2 < a1) then some true
      else
        bif decide (a2 > 549755813888) then some true
        else
          bif decide (chL (rnd a0 4) (mx a1 0 0 0) < 0) then some false
          else
            bif decide (chL (rnd a0 4) (mx 0 0 (IntKind.i64.wrap (0 - a2)) 0) > rnd a0 4) then some false
            else
              bif decide (chT (rnd a0 4) (mx a1 0 0 0) < 0) then some false
              else
                bif decide (chT (rnd a0 4) (mx a1 0 0 0) > 255) then some false
                else
                  bif decide (chL (rnd a0 4) (mx 0 0 (IntKind.i64.wrap (0 - a2)) 0) < chL (rnd a0 4) (mx a1 0 0 0)) then
                    some false
                  else
                    bif chL (rnd a0 4) (mx 0 0 (IntKind.i64.wrap (0 - a2)) 0) == chL (rnd a0 4) (mx a1 0 0 0) then
                      bif decide (chT (rnd a0 4) (mx 0 0 (IntKind.i64.wrap (0 - a2)) 0) < chT (rnd a0 4) (mx a1 0 0 0)) then
                        some false
                      else
                        bif
                            chL (rnd a0 4) (mx 0 (IntKind.i64.wrap (0 - a1)) 0 0) == chL (rnd a0 4) (mx a1 0 0 0) &&
                              (chT (rnd a0 4) (mx 0 (IntKind.i64.wrap (0 - a1)) 0 0) == chT (rnd a0 4) (mx a1 0 0 0) &&
                                true) then
                          bif
                              chL (rnd a0 4) (mx 0 0 0 a1) == chL (rnd a0 4) (mx a1 0 0 0) &&
                                (chT (rnd a0 4) (mx 0 0 0 a1) == chT (rnd a0 4) (mx a1 0 0 0) && true) then
                            bif
                                chL (rnd a0 4) (mx a1 a2 0 a1) == chL (rnd a0 4) (mx 0 0 (IntKind.i64.wrap (0 - a2)) 0) &&
                                  (chT (rnd a0 4) (mx a1 a2 0 a1) ==
                                      chT (rnd a0 4) (mx 0 0 (IntKind.i64.wrap (0 - a2)) 0) &&
                                    true) then
                              bif decide (a1 > 65536) then some true
                              else
                                bif chL (rnd a0 4) (mx a1 0 0 0) == 0 && (chT (rnd a0 4) (mx a1 0 0 0) == 0 && true) then
                                  some true
                                else some false
                            else some false
                          else some false
                        else some false
                    else
                      bif
                          chL (rnd a0 4) (mx 0 (IntKind.i64.wrap (0 - a1)) 0 0) == chL (rnd a0 4) (mx a1 0 0 0) &&
                            (chT (rnd a0 4) (mx 0 (IntKind.i64.wrap (0 - a1)) 0 0) == chT (rnd a0 4) (mx a1 0 0 0) &&
                              true) then
                        bif
                            chL (rnd a0 4) (mx 0 0 0 a1) == chL (rnd a0 4) (mx a1 0 0 0) &&
                              (chT (rnd a0 4) (mx 0 0 0 a1) == chT (rnd a0 4) (mx a1 0 0 0) && true) then
                          bif
                              chL (rnd a0 4) (mx a1 a2 0 a1) == chL (rnd a0 4) (mx 0 0 (IntKind.i64.wrap (0 - a2)) 0) &&
                                (chT (rnd a0 4) (mx a1 a2 0 a1) == chT (rnd a0 4) (mx 0 0 (IntKind.i64.wrap (0 - a2)) 0) &&
                                  true) then
                            bif decide (a1 > 65536) then some true
                            else
                              bif chL (rnd a0 4) (mx a1 0 0 0) == 0 && (chT (rnd a0 4) (mx a1 0 0 0) == 0 && true) then
                                some true
                              else some false
                          else some false
                        else some false
                      else some false) := by kernel_rfl
  rw [e]
  clear e
  by_cases c1 : a1 < 0
  · rw [decide_eq_true c1]; rfl
  by_cases c2 : a2 < a1
  · rw [decide_eq_false c1, decide_eq_true c2]; rfl
  by_cases c3 : a2 > 549755813888
  · rw [decide_eq_false c1, decide_eq_false c2, decide_eq_true c3]; rfl
  rw [decide_eq_false c1, decide_eq_false c2, decide_eq_false c3]
  simp only [cond_false]
  obtain ⟨d0, d3⟩ := rnd4 a0
  generalize rnd a0 4 = d at d0 d3 ⊢
  show (bif decide (chL d (mx a1 0 0 0) < 0) then some false else _) = some true
  rw [show IntKind.i64.wrap (0 - a2) = -a2 from (W_id (n := 0 - a2) (by omega) (by omega)).trans (by omega), show IntKind.i64.wrap (0 - a1) = -a1 from (W_id (n := 0 - a1) (by omega) (by omega)).trans (by omega)]
  rw [show mx a1 0 0 0 = a1 from mx_1 (by omega) (by omega), show mx 0 0 (-a2) 0 = a2 from mx_3 (by omega) (by omega), show mx 0 (-a1) 0 0 = a1 from mx_2 (by omega) (by omega), show mx 0 0 0 a1 = a1 from mx_4 (by omega) (by omega), show mx a1 a2 0 a1 = a2 from mx_5 (by omega) (by omega) (by omega)]
  have h1 := ch_eq (r := a1) d0 d3 (by omega) (by omega)
  have h2 := ch_eq (r := a2) d0 d3 (by omega) (by omega)
  have g : 0 ≤ chL d a1 ∧ chL d a2 ≤ d ∧ 0 ≤ chT d a1 ∧ chT d a1 ≤ 255 ∧ chL d a1 ≤ chL d a2 ∧ (chL d a2 = chL d a1 → chT d a1 ≤ chT d a2) ∧ (a1 ≤ 65536 → chL d a1 = 0 ∧ chT d a1 = 0) := by
    generalize chL d a1 = x at *
    generalize chL d a2 = y at *
    generalize chT d a1 = z at *
    generalize chT d a2 = u at *
    refine ⟨by omega, by omega, by omega, by omega, by omega, by omega, by omega⟩
  obtain ⟨g1, g2, g3, g4, g5, g6, g7⟩ := g
  rw [decide_eq_false (p := chL d a1 < 0) (by omega), decide_eq_false (p := chL d a2 > d) (by omega), decide_eq_false (p := chT d a1 < 0) (by omega), decide_eq_false (p := chT d a1 > 255) (by omega), decide_eq_false (p := chL d a2 < chL d a1) (by omega)]
  by_cases k : chL d a2 = chL d a1
  · rw [decide_eq_false (p := chT d a2 < chT d a1) (by have := g6 k; omega)]
    by_cases k' : a1 > 65536
    · simp [k, k']
    · simp [k, k', g7 (by omega)]
  · rw [beq_eq_false_iff_ne.mpr k]
    by_cases k' : a1 > 65536
    · simp [k']
    · simp [k', g7 (by omega)]

theorem walk (a0 : Int) (a1 : Int) (a2 : Int) (h_a0 : -9223372036854775808 ≤ a0 ∧ a0 ≤ 9223372036854775807) (h_a1 : -9223372036854775808 ≤ a1 ∧ a1 ≤ 9223372036854775807) (h_a2 : -9223372036854775808 ≤ a2 ∧ a2 ≤ 9223372036854775807) (w : World) :
    Calls Try.prog 11 #[.int .i64 a0, .int .i64 a1, .int .i64 a2] w fun e w' => e = .returned (.bool true) ∧ Below w.heap.size w w' := by
  have h := law_of cl_sound mixed entersF (bodyTrue a0 a1 a2 h_a0 h_a1 h_a2) (E := ⟨fun _ => 0, fun _ => undef⟩) (RepM.empty _ w) (by kernel_rfl) (by kernel_rfl)
  exact h

theorem walkV (W : World) (base : Nat) (v0 : Value) (v1 : Value) (v2 : Value) (hv0 : Value.okWide Try.prog W .any base 3 v0) (hv1 : Value.okWide Try.prog W .any base 3 v1) (hv2 : Value.okWide Try.prog W .any base 3 v2) : Calls Try.prog 11 #[v0, v1, v2] W fun e w' => e = .returned (.bool true) ∧ Below W.heap.size W w' := by
  obtain ⟨a0, rfl, b0, b0'⟩ := ok_int Try.underlying3 hv0
  obtain ⟨a1, rfl, b1, b1'⟩ := ok_int Try.underlying3 hv1
  obtain ⟨a2, rfl, b2, b2'⟩ := ok_int Try.underlying3 hv2
  exact walk a0 a1 a2 ⟨b0, b0'⟩ ⟨b1, b1'⟩ ⟨b2, b2'⟩ W

set_option maxRecDepth 100000 in
theorem lifted (os : Os) (started : os.Started) (H : Type) (enc : TypeId × Value → H) :
    ReturnsInHanded {} Try.checked os 11 .any (Rows.levelGrowsSpec.pre6 enc Try.prog Try.f11 Rows.levelGrowsRow.domain false) (Rows.levelGrowsSpec.post enc Try.prog Try.f11 false true false false) := by
  refine returnsInHanded_of_change (C := Try.checked) own started (by kernel_rfl) Try.func11
    (ChangeSpec.witness6 (enc := enc) (C := Try.checked) false ⟨#[], #[.int .i64 0, .int .i64 0, .int .i64 0], []⟩ 8 (by kernel_rfl) (by kernel_rfl) (by kernel_rfl) (by kernel_rfl)) ?_
  intro W base args ds gs before hval0 hW _ _
  have hval : ∀ (j : Nat) t v, Try.f11.params[j]? = some t → args[j]? = some v → Value.okWide Try.prog W .any base t v := hval0
  have hW' := hW
  obtain ⟨p, q, hA0, _, rfl, _, _⟩ := hW
  have hA : DataW.TrodAll enc Try.prog W 0 (fun _ => true) true Try.f11.params.toList args.toList ds p := hA0
  rw [Try.params11] at hA hval
  obtain ⟨v0, vs0, d0, ds0, p0, q0, hargs, rfl, rfl, h0, r0⟩ := trodAll_cons hA
  obtain ⟨v1, vs1, d1, ds1, p1, q1, rfl, rfl, rfl, h1, r1⟩ := trodAll_cons r0
  obtain ⟨v2, vs2, d2, ds2, p2, q2, rfl, rfl, rfl, h2, r2⟩ := trodAll_cons r1
  obtain ⟨rfl, rfl, rfl⟩ := trodAll_nil r2
  obtain rfl : args = #[v0, v1, v2] := by cases args; simp_all
  refine (walkV W base v0 v1 v2 (hval 0 3 v0 rfl rfl) (hval 1 3 v1 rfl rfl) (hval 2 3 v2 rfl rfl)).mono fun e W' ⟨he, hb⟩ => ?_
  subst he
  exact ⟨_, rfl, law_post (tb := 4) hW' rfl rfl laid (by kernel_rfl) rfl Try.underlying4 hb⟩

theorem over : Rows.levelGrowsRow.holds Try.pinned (OpenSpec.ofChange Rows.levelGrowsSpec) :=
  OpenClaim.holds_of_wide 11 Try.f11 rfl rfl rfl rfl rfl rfl rfl ⟨rfl, rfl, rfl, rfl, rfl⟩ rfl rfl rfl rfl rfl (by kernel_rfl) Try.func11 (by kernel_rfl)
    (of_decide_eq_true (by kernel_rfl)) (by unfold Func.isWrapper; first | (rw [if_pos (by decide +kernel)]; kernel_rfl) | (rw [if_neg (by decide +kernel)]; exact ⟨rfl, rfl⟩))
    (fun os started H enc _ => lifted os started H enc)

theorem proved : Rows.LevelGrowsSaid := over
end Go.Proofs.Ytpgheiegpcggbaa.levelGrows

