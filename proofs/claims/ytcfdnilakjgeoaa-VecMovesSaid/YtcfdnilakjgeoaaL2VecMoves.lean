/- Of all inputs the law answers true; no condition. -/
import Derived.Test.YtcfdnilakjgeoaaL2G
import Derived.Test.YtcfdnilakjgeoaaVecB
set_option linter.unusedVariables false
set_option linter.unusedSimpArgs false
namespace Go.Proofs.Ytcfdnilakjgeoaa.vecMoves
open Go Go.Sx Go.ChangeShapes Go.WideShapes Go.ChangeAt Go.RowKit

theorem own : ownKnob Try.prog.godebug = none := by kernel_rfl
theorem mixed : Try.prog.follows .mixedOrders = true := by kernel_rfl
theorem laid : laidOutB Try.prog = true := by kernel_rfl
theorem entersF : Enters Try.prog 5 Try.f5 := ⟨Try.func5, by kernel_rfl, by kernel_rfl⟩

theorem list4 {l : List Value} (h : l.length = 4) : ∃ x0 x1 x2 x3, l = [x0, x1, x2, x3] := by
  match l, h with
  | [x0, x1, x2, x3], _ => exact ⟨x0, x1, x2, x3, rfl⟩

open Go.Fx
theorem bodyTrue (a0 : Int) (a1 : Int) (a2 : Int) (a3_0 : Int) (a3_1 : Int) (a3_2 : Int) (a3_3 : Int) (h_a0 : -9223372036854775808 ≤ a0 ∧ a0 ≤ 9223372036854775807) (h_a1 : -9223372036854775808 ≤ a1 ∧ a1 ≤ 9223372036854775807) (h_a2 : -9223372036854775808 ≤ a2 ∧ a2 ≤ 9223372036854775807) (h_a3_0 : -9223372036854775808 ≤ a3_0 ∧ a3_0 ≤ 9223372036854775807) (h_a3_1 : -9223372036854775808 ≤ a3_1 ∧ a3_1 ≤ 9223372036854775807) (h_a3_2 : -9223372036854775808 ≤ a3_2 ∧ a3_2 ≤ 9223372036854775807) (h_a3_3 : -9223372036854775808 ≤ a3_3 ∧ a3_3 ≤ 9223372036854775807) :
    bodyK cG Try.prog 5 Try.f5 [.lit (.int .i64 a0), .lit (.int .i64 a1), .lit (.int .i64 a2), .agg [.lit (.int .i64 a3_0), .lit (.int .i64 a3_1), .lit (.int .i64 a3_2), .lit (.int .i64 a3_3)]] Sx.empty boolOf = some true := by
  have e : bodyK cG Try.prog 5 Try.f5 [.lit (.int .i64 a0), .lit (.int .i64 a1), .lit (.int .i64 a2), .agg [.lit (.int .i64 a3_0), .lit (.int .i64 a3_1), .lit (.int .i64 a3_2), .lit (.int .i64 a3_3)]] Sx.empty boolOf =
    (bif decide (a0 < -524288) then some true
    else
      bif decide (a0 > 524288) then some true
      else
        bif decide (a1 < -524288) then some true
        else
          bif decide (a1 > 524288) then some true
          else
            bif decide (a2 < -524288) then some true
            else
              bif decide (a2 > 524288) then some true
              else
                bif decide (a3_0 < -4194304) then some true
                else
                  bif decide (a3_0 > 4194304) then some true
                  else
                    bif decide (a3_1 < -4194304) then some true
                    else
                      bif decide (a3_1 > 4194304) then some true
                      else
                        bif decide (a3_2 < -4194304) then some true
                        else
                          bif decide (a3_2 > 4194304) then some true
                          else
                            bif mayL (moveL a0 a1 a2) then
                              bif
                                  mayL
                                    (moveL (wi (0 - a0)) (wi (0 - a1))
                                      (wi (0 - a2))) then
                                bif
                                    mulB [65536, 0, 0, a0, 0, 65536, 0, a1, 0, 0, 65536, a2, 0, 0, 0, 65536]
                                      [65536, 0, 0, wi (0 - a0), 0, 65536, 0, wi (0 - a1), 0, 0,
                                        65536, wi (0 - a2), 0, 0, 0, 65536] then
                                  bif
                                      mulB [65536, 0, 0, a0, 0, 65536, 0, a1, 0, 0, 65536, a2, 0, 0, 0, 65536]
                                        [65536, 0, 0, a0, 0, 65536, 0, a1, 0, 0, 65536, a2, 0, 0, 0, 65536] then
                                    bif
                                        mayL
                                          (moveL (wi (2 * a0)) (wi (2 * a1))
                                            (wi (2 * a2))) then
                                      bif
                                          appB [65536, 0, 0, a0, 0, 65536, 0, a1, 0, 0, 65536, a2, 0, 0, 0, 65536]
                                            [a3_0, a3_1, a3_2, 65536] then
                                        bif
                                            nr (sx 65536 65536 0 0 0 0 a0 0) 65536 == 65536 &&
                                              (nr (sx 65536 0 0 65536 0 0 a0 0) 65536 == 0 &&
                                                (nr (sx 65536 0 0 0 0 65536 a0 0) 65536 == 0 &&
                                                  (nr
                                                        (sx 65536 (wi (0 - a0)) 0 (wi (0 - a1))
                                                          0 (wi (0 - a2)) a0 65536)
                                                        65536 ==
                                                      0 &&
                                                    (nr (sx 0 65536 65536 0 0 0 a1 0) 65536 == 0 &&
                                                      (nr (sx 0 0 65536 65536 0 0 a1 0) 65536 == 65536 &&
                                                        (nr (sx 0 0 65536 0 0 65536 a1 0) 65536 == 0 &&
                                                          (nr
                                                                (sx 0 (wi (0 - a0)) 65536
                                                                  (wi (0 - a1)) 0 (wi (0 - a2))
                                                                  a1 65536)
                                                                65536 ==
                                                              0 &&
                                                            (nr (sx 0 65536 0 0 65536 0 a2 0) 65536 == 0 &&
                                                              (nr (sx 0 0 0 65536 65536 0 a2 0) 65536 == 0 &&
                                                                (nr (sx 0 0 0 0 65536 65536 a2 0) 65536 == 65536 &&
                                                                  (nr
                                                                        (sx 0 (wi (0 - a0)) 0
                                                                          (wi (0 - a1)) 65536
                                                                          (wi (0 - a2)) a2 65536)
                                                                        65536 ==
                                                                      0 &&
                                                                    (true &&
                                                                      (true &&
                                                                        (true &&
                                                                          (nr
                                                                                (sx 0 (wi (0 - a0)) 0
                                                                                  (wi (0 - a1)) 0
                                                                                  (wi (0 - a2)) 65536 65536)
                                                                                65536 ==
                                                                              65536 &&
                                                                            true))))))))))))))) then
                                          bif
                                              nr (sx 65536 65536 0 0 0 0 a0 0) 65536 == 65536 &&
                                                (nr (sx 65536 0 0 65536 0 0 a0 0) 65536 == 0 &&
                                                  (nr (sx 65536 0 0 0 0 65536 a0 0) 65536 == 0 &&
                                                    (nr (sx 65536 a0 0 a1 0 a2 a0 65536) 65536 ==
                                                        wi (2 * a0) &&
                                                      (nr (sx 0 65536 65536 0 0 0 a1 0) 65536 == 0 &&
                                                        (nr (sx 0 0 65536 65536 0 0 a1 0) 65536 == 65536 &&
                                                          (nr (sx 0 0 65536 0 0 65536 a1 0) 65536 == 0 &&
                                                            (nr (sx 0 a0 65536 a1 0 a2 a1 65536) 65536 ==
                                                                wi (2 * a1) &&
                                                              (nr (sx 0 65536 0 0 65536 0 a2 0) 65536 == 0 &&
                                                                (nr (sx 0 0 0 65536 65536 0 a2 0) 65536 == 0 &&
                                                                  (nr (sx 0 0 0 0 65536 65536 a2 0) 65536 == 65536 &&
                                                                    (nr (sx 0 a0 0 a1 65536 a2 a2 65536) 65536 ==
                                                                        wi (2 * a2) &&
                                                                      (true &&
                                                                        (true &&
                                                                          (true &&
                                                                            (nr (sx 0 a0 0 a1 0 a2 65536 65536) 65536 ==
                                                                                65536 &&
                                                                              true))))))))))))))) then
                                            bif
                                                nr (sx 65536 a3_0 0 a3_1 0 a3_2 a0 65536) 65536 ==
                                                    wi (a3_0 + a0) &&
                                                  (nr (sx 0 a3_0 65536 a3_1 0 a3_2 a1 65536) 65536 ==
                                                      wi (a3_1 + a1) &&
                                                    (nr (sx 0 a3_0 0 a3_1 65536 a3_2 a2 65536) 65536 ==
                                                        wi (a3_2 + a2) &&
                                                      (nr (sx 0 a3_0 0 a3_1 0 a3_2 65536 65536) 65536 == 65536 &&
                                                        true))) then
                                              some true
                                            else some false
                                          else some false
                                        else some false
                                      else none
                                    else none
                                  else none
                                else none
                              else none
                            else none) := by kernel_rfl
  rw [e]
  clear e
  refine gd fun g1 => gd fun g2 => gd fun g3 => gd fun g4 => gd fun g5 => gd fun g6 => gd fun g7 => gd fun g8 => gd fun g9 => gd fun g10 => gd fun g11 => gd fun g12 => ?_
  have k1 : wi (0 - a0) = -a0 := by rw [wi_id (by omega) (by omega)]; omega
  have k2 : wi (0 - a1) = -a1 := by rw [wi_id (by omega) (by omega)]; omega
  have k3 : wi (0 - a2) = -a2 := by rw [wi_id (by omega) (by omega)]; omega
  have k4 : wi (2 * a0) = a0 + a0 := by rw [wi_id (by omega) (by omega)]; omega
  have k5 : wi (2 * a1) = a1 + a1 := by rw [wi_id (by omega) (by omega)]; omega
  have k6 : wi (2 * a2) = a2 + a2 := by rw [wi_id (by omega) (by omega)]; omega
  have k7 : wi (a3_0 + a0) = a0 + a3_0 := by rw [wi_id (by omega) (by omega)]; omega
  have k8 : wi (a3_1 + a1) = a1 + a3_1 := by rw [wi_id (by omega) (by omega)]; omega
  have k9 : wi (a3_2 + a2) = a2 + a3_2 := by rw [wi_id (by omega) (by omega)]; omega
  rw [k1, k2, k3, k4, k5, k6, k7, k8, k9]
  refine mg (may_move ⟨by omega, by omega⟩ ⟨by omega, by omega⟩ ⟨by omega, by omega⟩) ?_
  refine mg (may_move ⟨by omega, by omega⟩ ⟨by omega, by omega⟩ ⟨by omega, by omega⟩) ?_
  refine mg (mulB_moves (x := a0) (y := a1) (z := a2) (u := -a0) (v := -a1) (w := -a2) ⟨by omega, by omega⟩ ⟨by omega, by omega⟩ ⟨by omega, by omega⟩ ⟨by omega, by omega⟩ ⟨by omega, by omega⟩ ⟨by omega, by omega⟩ ⟨by omega, by omega⟩ ⟨by omega, by omega⟩ ⟨by omega, by omega⟩) ?_
  refine mg (mulB_moves (x := a0) (y := a1) (z := a2) (u := a0) (v := a1) (w := a2) ⟨by omega, by omega⟩ ⟨by omega, by omega⟩ ⟨by omega, by omega⟩ ⟨by omega, by omega⟩ ⟨by omega, by omega⟩ ⟨by omega, by omega⟩ ⟨by omega, by omega⟩ ⟨by omega, by omega⟩ ⟨by omega, by omega⟩) ?_
  refine mg (may_move ⟨by omega, by omega⟩ ⟨by omega, by omega⟩ ⟨by omega, by omega⟩) ?_
  refine mg (appB_move (x := a0) (y := a1) (z := a2) (a := a3_0) (b := a3_1) (c := a3_2) (d := 65536) ⟨by omega, by omega⟩ ⟨by omega, by omega⟩ ⟨by omega, by omega⟩ ⟨by omega, by omega⟩ ⟨by omega, by omega⟩ ⟨by omega, by omega⟩ ⟨by omega, by omega⟩) ?_
  simp only [sx, Int.zero_mul, Int.mul_zero, Int.add_zero, Int.zero_add, Int.reduceMul, nrL, nr0, nrs, nrm, nrm', Int.add_right_neg, beq_self_eq_true, Bool.and_self, Bool.and_true, cond_true]

theorem walk (a0 : Int) (a1 : Int) (a2 : Int) (a3_0 : Int) (a3_1 : Int) (a3_2 : Int) (a3_3 : Int) (h_a0 : -9223372036854775808 ≤ a0 ∧ a0 ≤ 9223372036854775807) (h_a1 : -9223372036854775808 ≤ a1 ∧ a1 ≤ 9223372036854775807) (h_a2 : -9223372036854775808 ≤ a2 ∧ a2 ≤ 9223372036854775807) (h_a3_0 : -9223372036854775808 ≤ a3_0 ∧ a3_0 ≤ 9223372036854775807) (h_a3_1 : -9223372036854775808 ≤ a3_1 ∧ a3_1 ≤ 9223372036854775807) (h_a3_2 : -9223372036854775808 ≤ a3_2 ∧ a3_2 ≤ 9223372036854775807) (h_a3_3 : -9223372036854775808 ≤ a3_3 ∧ a3_3 ≤ 9223372036854775807) (w : World) :
    Calls Try.prog 5 #[.int .i64 a0, .int .i64 a1, .int .i64 a2, .agg #[.int .i64 a3_0, .int .i64 a3_1, .int .i64 a3_2, .int .i64 a3_3]] w fun e w' => e = .returned (.bool true) ∧ Below w.heap.size w w' := by
  have h := law_of cG_sound mixed entersF (bodyTrue a0 a1 a2 a3_0 a3_1 a3_2 a3_3 h_a0 h_a1 h_a2 h_a3_0 h_a3_1 h_a3_2 h_a3_3) (E := ⟨fun _ => 0, fun _ => undef⟩) (RepM.empty _ w) (by kernel_rfl) (by kernel_rfl)
  exact h

theorem walkV (W : World) (base : Nat) (v0 : Value) (v1 : Value) (v2 : Value) (v3 : Value) (hv0 : Value.okWide Try.prog W .any base 3 v0) (hv1 : Value.okWide Try.prog W .any base 3 v1) (hv2 : Value.okWide Try.prog W .any base 3 v2) (hv3 : Value.okWide Try.prog W .any base 25 v3) : Calls Try.prog 5 #[v0, v1, v2, v3] W fun e w' => e = .returned (.bool true) ∧ Below W.heap.size W w' := by
  obtain ⟨a0, rfl, b0, b0'⟩ := ok_int Try.underlying3 hv0
  obtain ⟨a1, rfl, b1, b1'⟩ := ok_int Try.underlying3 hv1
  obtain ⟨a2, rfl, b2, b2'⟩ := ok_int Try.underlying3 hv2
  obtain ⟨cs3, rfl, hl3, hc3⟩ := ok_agg (P := Try.prog) (t := 25) (ts := [3, 3, 3, 3]) (by kernel_rfl) (by kernel_rfl) (by kernel_rfl) hv3
  obtain ⟨c3_0, c3_1, c3_2, c3_3, rfl⟩ := list4 hl3
  obtain ⟨a3_0, rfl, b3_0, b3_0'⟩ := cell_int Try.underlying3 (hc3 0 3 _ rfl rfl)
  obtain ⟨a3_1, rfl, b3_1, b3_1'⟩ := cell_int Try.underlying3 (hc3 1 3 _ rfl rfl)
  obtain ⟨a3_2, rfl, b3_2, b3_2'⟩ := cell_int Try.underlying3 (hc3 2 3 _ rfl rfl)
  obtain ⟨a3_3, rfl, b3_3, b3_3'⟩ := cell_int Try.underlying3 (hc3 3 3 _ rfl rfl)
  exact walk a0 a1 a2 a3_0 a3_1 a3_2 a3_3 ⟨b0, b0'⟩ ⟨b1, b1'⟩ ⟨b2, b2'⟩ ⟨b3_0, b3_0'⟩ ⟨b3_1, b3_1'⟩ ⟨b3_2, b3_2'⟩ ⟨b3_3, b3_3'⟩ W

set_option maxRecDepth 100000 in
theorem lifted (os : Os) (started : os.Started) (H : Type) (enc : TypeId × Value → H) :
    ReturnsInHanded {} Try.checked os 5 .any (Rows.vecMovesSpec.pre6 enc Try.prog Try.f5 Rows.vecMovesRow.domain false) (Rows.vecMovesSpec.post enc Try.prog Try.f5 false true false false) := by
  refine returnsInHanded_of_change (C := Try.checked) own started (by kernel_rfl) Try.func5
    (ChangeSpec.witness6 (enc := enc) (C := Try.checked) false ⟨#[], #[.int .i64 0, .int .i64 0, .int .i64 0, .agg #[.int .i64 0, .int .i64 0, .int .i64 0, .int .i64 0]], []⟩ 8 (by kernel_rfl) (by kernel_rfl) (by kernel_rfl) (by kernel_rfl)) ?_
  intro W base args ds gs before hval0 hW _ _
  have hval : ∀ (j : Nat) t v, Try.f5.params[j]? = some t → args[j]? = some v → Value.okWide Try.prog W .any base t v := hval0
  have hW' := hW
  obtain ⟨p, q, hA0, _, rfl, _, _⟩ := hW
  have hA : DataW.TrodAll enc Try.prog W 0 (fun _ => true) true Try.f5.params.toList args.toList ds p := hA0
  rw [Try.params5] at hA hval
  obtain ⟨v0, vs0, d0, ds0, p0, q0, hargs, rfl, rfl, h0, r0⟩ := trodAll_cons hA
  obtain ⟨v1, vs1, d1, ds1, p1, q1, rfl, rfl, rfl, h1, r1⟩ := trodAll_cons r0
  obtain ⟨v2, vs2, d2, ds2, p2, q2, rfl, rfl, rfl, h2, r2⟩ := trodAll_cons r1
  obtain ⟨v3, vs3, d3, ds3, p3, q3, rfl, rfl, rfl, h3, r3⟩ := trodAll_cons r2
  obtain ⟨rfl, rfl, rfl⟩ := trodAll_nil r3
  obtain rfl : args = #[v0, v1, v2, v3] := by cases args; simp_all
  refine (walkV W base v0 v1 v2 v3 (hval 0 3 v0 rfl rfl) (hval 1 3 v1 rfl rfl) (hval 2 3 v2 rfl rfl) (hval 3 25 v3 rfl rfl)).mono fun e W' ⟨he, hb⟩ => ?_
  subst he
  exact ⟨_, rfl, law_post (tb := 4) hW' rfl rfl laid (by kernel_rfl) rfl Try.underlying4 hb⟩

theorem over : Rows.vecMovesRow.holds Try.pinned (OpenSpec.ofChange Rows.vecMovesSpec) :=
  OpenClaim.holds_of_wide 5 Try.f5 rfl rfl rfl rfl rfl rfl rfl ⟨rfl, rfl, rfl, rfl, rfl⟩ rfl rfl rfl rfl rfl (by kernel_rfl) Try.func5 (by kernel_rfl)
    (of_decide_eq_true (by kernel_rfl)) (by unfold Func.isWrapper; first | (rw [if_pos (by decide +kernel)]; kernel_rfl) | (rw [if_neg (by decide +kernel)]; exact ⟨rfl, rfl⟩))
    (fun os started H enc _ => lifted os started H enc)

theorem proved : Rows.VecMovesSaid := over
end Go.Proofs.Ytcfdnilakjgeoaa.vecMoves

