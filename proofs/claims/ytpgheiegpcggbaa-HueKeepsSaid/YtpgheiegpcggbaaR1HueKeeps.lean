/- Of all inputs the law answers true; no condition. -/
import Derived.Test.YtpgheiegpcggbaaR1G
set_option linter.unusedVariables false
set_option linter.unusedSimpArgs false
namespace Go.Proofs.Ytpgheiegpcggbaa.hueKeeps
open Go Go.Sx Go.ChangeShapes Go.WideShapes Go.ChangeAt Go.RowKit

theorem own : ownKnob Try.prog.godebug = none := by kernel_rfl
theorem mixed : Try.prog.follows .mixedOrders = true := by kernel_rfl
theorem laid : laidOutB Try.prog = true := by kernel_rfl
theorem entersF : Enters Try.prog 7 Try.f7 := ⟨Try.func7, by kernel_rfl, by kernel_rfl⟩

theorem list4 {l : List Value} (h : l.length = 4) : ∃ x0 x1 x2 x3, l = [x0, x1, x2, x3] := by
  match l, h with
  | [x0, x1, x2, x3], _ => exact ⟨x0, x1, x2, x3, rfl⟩

theorem bodyTrue (a0_0 : Int) (a0_1 : Int) (a0_2 : Int) (a0_3 : Int) (a1_0 : Int) (a1_1 : Int) (a1_2 : Int) (a1_3 : Int) (a2 : Int) (h_a0_0 : 0 ≤ a0_0 ∧ a0_0 ≤ 255) (h_a0_1 : 0 ≤ a0_1 ∧ a0_1 ≤ 255) (h_a0_2 : 0 ≤ a0_2 ∧ a0_2 ≤ 255) (h_a0_3 : 0 ≤ a0_3 ∧ a0_3 ≤ 255) (h_a1_0 : 0 ≤ a1_0 ∧ a1_0 ≤ 255) (h_a1_1 : 0 ≤ a1_1 ∧ a1_1 ≤ 255) (h_a1_2 : 0 ≤ a1_2 ∧ a1_2 ≤ 255) (h_a1_3 : 0 ≤ a1_3 ∧ a1_3 ≤ 255) (h_a2 : -9223372036854775808 ≤ a2 ∧ a2 ≤ 9223372036854775807) :
    bodyK ch Try.prog 9 Try.f7 [.agg [.lit (.int .u8 a0_0), .lit (.int .u8 a0_1), .lit (.int .u8 a0_2), .lit (.int .u8 a0_3)], .agg [.lit (.int .u8 a1_0), .lit (.int .u8 a1_1), .lit (.int .u8 a1_2), .lit (.int .u8 a1_3)], .lit (.int .i64 a2)] Sx.empty boolOf = some true := by
  have e : bodyK ch Try.prog 9 Try.f7 [.agg [.lit (.int .u8 a0_0), .lit (.int .u8 a0_1), .lit (.int .u8 a0_2), .lit (.int .u8 a0_3)], .agg [.lit (.int .u8 a1_0), .lit (.int .u8 a1_1), .lit (.int .u8 a1_2), .lit (.int .u8 a1_3)], .lit (.int .i64 a2)] Sx.empty boolOf =
    (bif decide (lpz a0_0 a1_0 a2 < if a1_0 < a0_0 then a1_0 else a0_0) then some false
    else
      bif decide (lpz a0_0 a1_0 a2 > if a1_0 > a0_0 then a1_0 else a0_0) then some false
      else
        bif decide (lpz a0_1 a1_1 a2 < if a1_1 < a0_1 then a1_1 else a0_1) then some false
        else
          bif decide (lpz a0_1 a1_1 a2 > if a1_1 > a0_1 then a1_1 else a0_1) then some false
          else
            bif decide (lpz a0_2 a1_2 a2 < if a1_2 < a0_2 then a1_2 else a0_2) then some false
            else
              bif decide (lpz a0_2 a1_2 a2 > if a1_2 > a0_2 then a1_2 else a0_2) then some false
              else
                bif decide (lpz a0_3 a1_3 a2 < if a1_3 < a0_3 then a1_3 else a0_3) then some false
                else
                  bif decide (lpz a0_3 a1_3 a2 > if a1_3 > a0_3 then a1_3 else a0_3) then some false
                  else
                    bif
                        lpz a0_0 a1_0 0 == a0_0 &&
                          (lpz a0_1 a1_1 0 == a0_1 && (lpz a0_2 a1_2 0 == a0_2 && (lpz a0_3 a1_3 0 == a0_3 && true))) then
                      bif
                          lpz a0_0 a1_0 256 == a1_0 &&
                            (lpz a0_1 a1_1 256 == a1_1 &&
                              (lpz a0_2 a1_2 256 == a1_2 && (lpz a0_3 a1_3 256 == a1_3 && true))) then
                        bif
                            lpz a0_0 a0_0 a2 == a0_0 &&
                              (lpz a0_1 a0_1 a2 == a0_1 &&
                                (lpz a0_2 a0_2 a2 == a0_2 && (lpz a0_3 a0_3 a2 == a0_3 && true))) then
                          bif
                              lpz a0_0 a1_0 (-1) == a0_0 &&
                                (lpz a0_1 a1_1 (-1) == a0_1 &&
                                  (lpz a0_2 a1_2 (-1) == a0_2 && (lpz a0_3 a1_3 (-1) == a0_3 && true))) then
                            bif
                                lpz a0_0 a1_0 999 == a1_0 &&
                                  (lpz a0_1 a1_1 999 == a1_1 &&
                                    (lpz a0_2 a1_2 999 == a1_2 && (lpz a0_3 a1_3 999 == a1_3 && true))) then
                              bif
                                  mnz a0_0 a0_0 a0_0 a0_0 == a0_0 &&
                                    (mnz a0_1 a0_1 a0_1 a0_1 == a0_1 &&
                                      (mnz a0_2 a0_2 a0_2 a0_2 == a0_2 && (mnz a0_3 a0_3 a0_3 a0_3 == a0_3 && true))) then
                                bif
                                    tmz a0_0 255 == a0_0 &&
                                      (tmz a0_1 255 == a0_1 &&
                                        (tmz a0_2 255 == a0_2 && (tmz a0_3 255 == a0_3 && true))) then
                                  bif
                                      tmz 255 a0_0 == a0_0 &&
                                        (tmz 255 a0_1 == a0_1 &&
                                          (tmz 255 a0_2 == a0_2 && (tmz 255 a0_3 == a0_3 && true))) then
                                    bif
                                        tmz a0_0 0 == 0 &&
                                          (tmz a0_1 0 == 0 && (tmz a0_2 0 == 0 && (tmz a0_3 0 == 0 && true))) then
                                      bif
                                          tmz a0_0 a1_0 == tmz a1_0 a0_0 &&
                                            (tmz a0_1 a1_1 == tmz a1_1 a0_1 &&
                                              (tmz a0_2 a1_2 == tmz a1_2 a0_2 &&
                                                (tmz a0_3 a1_3 == tmz a1_3 a0_3 && true))) then
                                        some true
                                      else some false
                                    else some false
                                  else some false
                                else some false
                              else some false
                            else some false
                          else some false
                        else some false
                      else some false
                    else some false) := by kernel_rfl
  rw [e]
  clear e
  have b0 : By a0_0 := h_a0_0
  have c0 : By a1_0 := h_a1_0
  have b1 : By a0_1 := h_a0_1
  have c1 : By a1_1 := h_a1_1
  have b2 : By a0_2 := h_a0_2
  have c2 : By a1_2 := h_a1_2
  have b3 : By a0_3 := h_a0_3
  have c3 : By a1_3 := h_a1_3
  simp only [lp_ge b0 c0, lp_le b0 c0, lp_ge b1 c1, lp_le b1 c1, lp_ge b2 c2, lp_le b2 c2, lp_ge b3 c3, lp_le b3 c3, lp_0 b0 c0, lp_0 b1 c1, lp_0 b2 c2, lp_0 b3 c3, lp_1 b0 c0, lp_1 b1 c1, lp_1 b2 c2, lp_1 b3 c3, lp_s b0, lp_s b1, lp_s b2, lp_s b3, lp_n b0 c0, lp_n b1 c1, lp_n b2 c2, lp_n b3 c3, lp_9 b0 c0, lp_9 b1 c1, lp_9 b2 c2, lp_9 b3 c3, mn_s b0, mn_s b1, mn_s b2, mn_s b3, tmz_white b0.1 b0.2, tmz_white b1.1 b1.2, tmz_white b2.1 b2.2, tmz_white b3.1 b3.2, tm_white' b0, tm_white' b1, tm_white' b2, tm_white' b3, tmz_zero b0.1 b0.2, tmz_zero b1.1 b1.2, tmz_zero b2.1 b2.2, tmz_zero b3.1 b3.2, tmz_comm c0.1 c0.2 b0.1 b0.2, tmz_comm c1.1 c1.2 b1.1 b1.2, tmz_comm c2.1 c2.2 b2.1 b2.2, tmz_comm c3.1 c3.2 b3.1 b3.2, beq_self_eq_true, Bool.and_true, Bool.and_self, cond_true, cond_false]

theorem walk (a0_0 : Int) (a0_1 : Int) (a0_2 : Int) (a0_3 : Int) (a1_0 : Int) (a1_1 : Int) (a1_2 : Int) (a1_3 : Int) (a2 : Int) (h_a0_0 : 0 ≤ a0_0 ∧ a0_0 ≤ 255) (h_a0_1 : 0 ≤ a0_1 ∧ a0_1 ≤ 255) (h_a0_2 : 0 ≤ a0_2 ∧ a0_2 ≤ 255) (h_a0_3 : 0 ≤ a0_3 ∧ a0_3 ≤ 255) (h_a1_0 : 0 ≤ a1_0 ∧ a1_0 ≤ 255) (h_a1_1 : 0 ≤ a1_1 ∧ a1_1 ≤ 255) (h_a1_2 : 0 ≤ a1_2 ∧ a1_2 ≤ 255) (h_a1_3 : 0 ≤ a1_3 ∧ a1_3 ≤ 255) (h_a2 : -9223372036854775808 ≤ a2 ∧ a2 ≤ 9223372036854775807) (w : World) :
    Calls Try.prog 7 #[.agg #[.int .u8 a0_0, .int .u8 a0_1, .int .u8 a0_2, .int .u8 a0_3], .agg #[.int .u8 a1_0, .int .u8 a1_1, .int .u8 a1_2, .int .u8 a1_3], .int .i64 a2] w fun e w' => e = .returned (.bool true) ∧ Below w.heap.size w w' := by
  have h := law_of ch_sound mixed entersF (bodyTrue a0_0 a0_1 a0_2 a0_3 a1_0 a1_1 a1_2 a1_3 a2 h_a0_0 h_a0_1 h_a0_2 h_a0_3 h_a1_0 h_a1_1 h_a1_2 h_a1_3 h_a2) (E := ⟨fun _ => 0, fun _ => undef⟩) (RepM.empty _ w) (by kernel_rfl) (by kernel_rfl)
  exact h

theorem walkV (W : World) (base : Nat) (v0 : Value) (v1 : Value) (v2 : Value) (hv0 : Value.okWide Try.prog W .any base 23 v0) (hv1 : Value.okWide Try.prog W .any base 23 v1) (hv2 : Value.okWide Try.prog W .any base 3 v2) : Calls Try.prog 7 #[v0, v1, v2] W fun e w' => e = .returned (.bool true) ∧ Below W.heap.size W w' := by
  obtain ⟨cs0, rfl, hl0, hc0⟩ := ok_agg (P := Try.prog) (t := 23) (ts := [5, 5, 5, 5]) (by kernel_rfl) (by kernel_rfl) (by kernel_rfl) hv0
  obtain ⟨c0_0, c0_1, c0_2, c0_3, rfl⟩ := list4 hl0
  obtain ⟨a0_0, rfl, b0_0, b0_0'⟩ := cell_int Try.underlying5 (hc0 0 5 _ rfl rfl)
  obtain ⟨a0_1, rfl, b0_1, b0_1'⟩ := cell_int Try.underlying5 (hc0 1 5 _ rfl rfl)
  obtain ⟨a0_2, rfl, b0_2, b0_2'⟩ := cell_int Try.underlying5 (hc0 2 5 _ rfl rfl)
  obtain ⟨a0_3, rfl, b0_3, b0_3'⟩ := cell_int Try.underlying5 (hc0 3 5 _ rfl rfl)
  obtain ⟨cs1, rfl, hl1, hc1⟩ := ok_agg (P := Try.prog) (t := 23) (ts := [5, 5, 5, 5]) (by kernel_rfl) (by kernel_rfl) (by kernel_rfl) hv1
  obtain ⟨c1_0, c1_1, c1_2, c1_3, rfl⟩ := list4 hl1
  obtain ⟨a1_0, rfl, b1_0, b1_0'⟩ := cell_int Try.underlying5 (hc1 0 5 _ rfl rfl)
  obtain ⟨a1_1, rfl, b1_1, b1_1'⟩ := cell_int Try.underlying5 (hc1 1 5 _ rfl rfl)
  obtain ⟨a1_2, rfl, b1_2, b1_2'⟩ := cell_int Try.underlying5 (hc1 2 5 _ rfl rfl)
  obtain ⟨a1_3, rfl, b1_3, b1_3'⟩ := cell_int Try.underlying5 (hc1 3 5 _ rfl rfl)
  obtain ⟨a2, rfl, b2, b2'⟩ := ok_int Try.underlying3 hv2
  exact walk a0_0 a0_1 a0_2 a0_3 a1_0 a1_1 a1_2 a1_3 a2 ⟨b0_0, b0_0'⟩ ⟨b0_1, b0_1'⟩ ⟨b0_2, b0_2'⟩ ⟨b0_3, b0_3'⟩ ⟨b1_0, b1_0'⟩ ⟨b1_1, b1_1'⟩ ⟨b1_2, b1_2'⟩ ⟨b1_3, b1_3'⟩ ⟨b2, b2'⟩ W

set_option maxRecDepth 100000 in
theorem lifted (os : Os) (started : os.Started) (H : Type) (enc : TypeId × Value → H) :
    ReturnsInHanded {} Try.checked os 7 .any (Rows.hueKeepsSpec.pre6 enc Try.prog Try.f7 Rows.hueKeepsRow.domain false) (Rows.hueKeepsSpec.post enc Try.prog Try.f7 false true false false) := by
  refine returnsInHanded_of_change (C := Try.checked) own started (by kernel_rfl) Try.func7
    (ChangeSpec.witness6 (enc := enc) (C := Try.checked) false ⟨#[], #[.agg #[.int .u8 0, .int .u8 0, .int .u8 0, .int .u8 0], .agg #[.int .u8 0, .int .u8 0, .int .u8 0, .int .u8 0], .int .i64 0], []⟩ 8 (by kernel_rfl) (by kernel_rfl) (by kernel_rfl) (by kernel_rfl)) ?_
  intro W base args ds gs before hval0 hW _ _
  have hval : ∀ (j : Nat) t v, Try.f7.params[j]? = some t → args[j]? = some v → Value.okWide Try.prog W .any base t v := hval0
  have hW' := hW
  obtain ⟨p, q, hA0, _, rfl, _, _⟩ := hW
  have hA : DataW.TrodAll enc Try.prog W 0 (fun _ => true) true Try.f7.params.toList args.toList ds p := hA0
  rw [Try.params7] at hA hval
  obtain ⟨v0, vs0, d0, ds0, p0, q0, hargs, rfl, rfl, h0, r0⟩ := trodAll_cons hA
  obtain ⟨v1, vs1, d1, ds1, p1, q1, rfl, rfl, rfl, h1, r1⟩ := trodAll_cons r0
  obtain ⟨v2, vs2, d2, ds2, p2, q2, rfl, rfl, rfl, h2, r2⟩ := trodAll_cons r1
  obtain ⟨rfl, rfl, rfl⟩ := trodAll_nil r2
  obtain rfl : args = #[v0, v1, v2] := by cases args; simp_all
  refine (walkV W base v0 v1 v2 (hval 0 23 v0 rfl rfl) (hval 1 23 v1 rfl rfl) (hval 2 3 v2 rfl rfl)).mono fun e W' ⟨he, hb⟩ => ?_
  subst he
  exact ⟨_, rfl, law_post (tb := 4) hW' rfl rfl laid (by kernel_rfl) rfl Try.underlying4 hb⟩

theorem over : Rows.hueKeepsRow.holds Try.pinned (OpenSpec.ofChange Rows.hueKeepsSpec) :=
  OpenClaim.holds_of_wide 7 Try.f7 rfl rfl rfl rfl rfl rfl rfl ⟨rfl, rfl, rfl, rfl, rfl⟩ rfl rfl rfl rfl rfl (by kernel_rfl) Try.func7 (by kernel_rfl)
    (of_decide_eq_true (by kernel_rfl)) (by unfold Func.isWrapper; first | (rw [if_pos (by decide +kernel)]; kernel_rfl) | (rw [if_neg (by decide +kernel)]; exact ⟨rfl, rfl⟩))
    (fun os started H enc _ => lifted os started H enc)

theorem proved : Rows.HueKeepsSaid := over
end Go.Proofs.Ytpgheiegpcggbaa.hueKeeps

