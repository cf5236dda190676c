/- Of all inputs the law answers true; no condition. -/
import Derived.Test.YtcfdnilakjgeoaaL2G
import Derived.Test.YtcfdnilakjgeoaaVecB
set_option linter.unusedVariables false
set_option linter.unusedSimpArgs false
namespace Go.Proofs.Ytcfdnilakjgeoaa.vecStretches
open Go Go.Sx Go.ChangeShapes Go.WideShapes Go.ChangeAt Go.RowKit

theorem own : ownKnob Try.prog.godebug = none := by kernel_rfl
theorem mixed : Try.prog.follows .mixedOrders = true := by kernel_rfl
theorem laid : laidOutB Try.prog = true := by kernel_rfl
theorem entersF : Enters Try.prog 7 Try.f7 := ⟨Try.func7, by kernel_rfl, by kernel_rfl⟩

theorem list4 {l : List Value} (h : l.length = 4) : ∃ x0 x1 x2 x3, l = [x0, x1, x2, x3] := by
  match l, h with
  | [x0, x1, x2, x3], _ => exact ⟨x0, x1, x2, x3, rfl⟩

open Go.Fx
theorem bodyTrue (a0 : Int) (a1 : Int) (a2 : Int) (a3_0 : Int) (a3_1 : Int) (a3_2 : Int) (a3_3 : Int) (h_a0 : -9223372036854775808 ≤ a0 ∧ a0 ≤ 9223372036854775807) (h_a1 : -9223372036854775808 ≤ a1 ∧ a1 ≤ 9223372036854775807) (h_a2 : -9223372036854775808 ≤ a2 ∧ a2 ≤ 9223372036854775807) (h_a3_0 : -9223372036854775808 ≤ a3_0 ∧ a3_0 ≤ 9223372036854775807) (h_a3_1 : -9223372036854775808 ≤ a3_1 ∧ a3_1 ≤ 9223372036854775807) (h_a3_2 : -9223372036854775808 ≤ a3_2 ∧ a3_2 ≤ 9223372036854775807) (h_a3_3 : -9223372036854775808 ≤ a3_3 ∧ a3_3 ≤ 9223372036854775807) :
    bodyK cG Try.prog 5 Try.f7 [.lit (.int .i64 a0), .lit (.int .i64 a1), .lit (.int .i64 a2), .agg [.lit (.int .i64 a3_0), .lit (.int .i64 a3_1), .lit (.int .i64 a3_2), .lit (.int .i64 a3_3)]] Sx.empty boolOf = some true := by
  have e : bodyK cG Try.prog 5 Try.f7 [.lit (.int .i64 a0), .lit (.int .i64 a1), .lit (.int .i64 a2), .agg [.lit (.int .i64 a3_0), .lit (.int .i64 a3_1), .lit (.int .i64 a3_2), .lit (.int .i64 a3_3)]] Sx.empty boolOf =
    (bif decide (a3_0 < -67108864) then some true
    else
      bif decide (a3_0 > 67108864) then some true
      else
        bif decide (a3_1 < -67108864) then some true
        else
          bif decide (a3_1 > 67108864) then some true
          else
            bif decide (a3_2 < -67108864) then some true
            else
              bif decide (a3_2 > 67108864) then some true
              else
                bif decide (a3_3 < -67108864) then some true
                else
                  bif decide (a3_3 > 67108864) then some true
                  else
                    bif decide (a0 < -8) then some true
                    else
                      bif decide (a0 > 8) then some true
                      else
                        bif decide (a1 < -8) then some true
                        else
                          bif decide (a1 > 8) then some true
                          else
                            bif decide (a2 < -8) then some true
                            else
                              bif decide (a2 > 8) then some true
                              else
                                bif
                                    mayL
                                      (stretchL (wi (a0 * 65536)) (wi (a1 * 65536))
                                        (wi (a2 * 65536))) then
                                  bif
                                      appB
                                        [wi (a0 * 65536), 0, 0, 0, 0, wi (a1 * 65536), 0, 0, 0,
                                          0, wi (a2 * 65536), 0, 0, 0, 0, 65536]
                                        [a3_0, a3_1, a3_2, a3_3] then
                                    bif
                                        nr (sx (wi (a0 * 65536)) a3_0 0 a3_1 0 a3_2 0 a3_3) 65536 ==
                                            wi (a0 * a3_0) &&
                                          (nr (sx 0 a3_0 (wi (a1 * 65536)) a3_1 0 a3_2 0 a3_3) 65536 ==
                                              wi (a1 * a3_1) &&
                                            (nr (sx 0 a3_0 0 a3_1 (wi (a2 * 65536)) a3_2 0 a3_3) 65536 ==
                                                wi (a2 * a3_2) &&
                                              (nr (sx 0 a3_0 0 a3_1 0 a3_2 65536 a3_3) 65536 == a3_3 && true))) then
                                      some true
                                    else some false
                                  else none
                                else none) := by kernel_rfl
  rw [e]
  clear e
  refine gd fun g1 => gd fun g2 => gd fun g3 => gd fun g4 => gd fun g5 => gd fun g6 => gd fun g7 => gd fun g8 => gd fun g9 => gd fun g10 => gd fun g11 => gd fun g12 => gd fun g13 => gd fun g14 => ?_
  have k1 : wi (a0 * 65536) = a0 * 65536 := wi_id (by omega) (by omega)
  have k2 : wi (a1 * 65536) = a1 * 65536 := wi_id (by omega) (by omega)
  have k3 : wi (a2 * 65536) = a2 * 65536 := wi_id (by omega) (by omega)
  have b1 := pr_bd2 (x := a0) (v := a3_0) 8 67108864 (by omega) (by omega) (by omega) (by omega)
  have b2 := pr_bd2 (x := a1) (v := a3_1) 8 67108864 (by omega) (by omega) (by omega) (by omega)
  have b3 := pr_bd2 (x := a2) (v := a3_2) 8 67108864 (by omega) (by omega) (by omega) (by omega)
  rw [k1, k2, k3, wi_id (n := a0 * a3_0) (by omega) (by omega), wi_id (n := a1 * a3_1) (by omega) (by omega), wi_id (n := a2 * a3_2) (by omega) (by omega)]
  refine mg (may_stretch ⟨by omega, by omega⟩ ⟨by omega, by omega⟩ ⟨by omega, by omega⟩) ?_
  refine mg (appB_stretch (x := a0 * 65536) (y := a1 * 65536) (z := a2 * 65536) (a := a3_0) (b := a3_1) (c := a3_2) (d := a3_3) ⟨by omega, by omega⟩ ⟨by omega, by omega⟩ ⟨by omega, by omega⟩ ⟨by omega, by omega⟩ ⟨by omega, by omega⟩ ⟨by omega, by omega⟩ ⟨by omega, by omega⟩) ?_
  have c1 : a0 * 65536 * a3_0 = a0 * a3_0 * 65536 := by rw [Int.mul_assoc, Int.mul_comm 65536, ← Int.mul_assoc]
  have c2 : a1 * 65536 * a3_1 = a1 * a3_1 * 65536 := by rw [Int.mul_assoc, Int.mul_comm 65536, ← Int.mul_assoc]
  have c3 : a2 * 65536 * a3_2 = a2 * a3_2 * 65536 := by rw [Int.mul_assoc, Int.mul_comm 65536, ← Int.mul_assoc]
  simp only [sx, Int.zero_mul, Int.mul_zero, Int.add_zero, Int.zero_add, Int.reduceMul, c1, c2, c3, nrL, nr0, nrs, nrm, nrm', Int.add_right_neg, beq_self_eq_true, Bool.and_self, Bool.and_true, cond_true]

theorem walk (a0 : Int) (a1 : Int) (a2 : Int) (a3_0 : Int) (a3_1 : Int) (a3_2 : Int) (a3_3 : Int) (h_a0 : -9223372036854775808 ≤ a0 ∧ a0 ≤ 9223372036854775807) (h_a1 : -9223372036854775808 ≤ a1 ∧ a1 ≤ 9223372036854775807) (h_a2 : -9223372036854775808 ≤ a2 ∧ a2 ≤ 9223372036854775807) (h_a3_0 : -9223372036854775808 ≤ a3_0 ∧ a3_0 ≤ 9223372036854775807) (h_a3_1 : -9223372036854775808 ≤ a3_1 ∧ a3_1 ≤ 9223372036854775807) (h_a3_2 : -9223372036854775808 ≤ a3_2 ∧ a3_2 ≤ 9223372036854775807) (h_a3_3 : -9223372036854775808 ≤ a3_3 ∧ a3_3 ≤ 9223372036854775807) (w : World) :
    Calls Try.prog 7 #[.int .i64 a0, .int .i64 a1, .int .i64 a2, .agg #[.int .i64 a3_0, .int .i64 a3_1, .int .i64 a3_2, .int .i64 a3_3]] w fun e w' => e = .returned (.bool true) ∧ Below w.heap.size w w' := by
  have h := law_of cG_sound mixed entersF (bodyTrue a0 a1 a2 a3_0 a3_1 a3_2 a3_3 h_a0 h_a1 h_a2 h_a3_0 h_a3_1 h_a3_2 h_a3_3) (E := ⟨fun _ => 0, fun _ => undef⟩) (RepM.empty _ w) (by kernel_rfl) (by kernel_rfl)
  exact h

theorem walkV (W : World) (base : Nat) (v0 : Value) (v1 : Value) (v2 : Value) (v3 : Value) (hv0 : Value.okWide Try.prog W .any base 3 v0) (hv1 : Value.okWide Try.prog W .any base 3 v1) (hv2 : Value.okWide Try.prog W .any base 3 v2) (hv3 : Value.okWide Try.prog W .any base 25 v3) : Calls Try.prog 7 #[v0, v1, v2, v3] W fun e w' => e = .returned (.bool true) ∧ Below W.heap.size W w' := by
  obtain ⟨a0, rfl, b0, b0'⟩ := ok_int Try.underlying3 hv0
  obtain ⟨a1, rfl, b1, b1'⟩ := ok_int Try.underlying3 hv1
  obtain ⟨a2, rfl, b2, b2'⟩ := ok_int Try.underlying3 hv2
  obtain ⟨cs3, rfl, hl3, hc3⟩ := ok_agg (P := Try.prog) (t := 25) (ts := [3, 3, 3, 3]) (by kernel_rfl) (by kernel_rfl) (by kernel_rfl) hv3
  obtain ⟨c3_0, c3_1, c3_2, c3_3, rfl⟩ := list4 hl3
  obtain ⟨a3_0, rfl, b3_0, b3_0'⟩ := cell_int Try.underlying3 (hc3 0 3 _ rfl rfl)
  obtain ⟨a3_1, rfl, b3_1, b3_1'⟩ := cell_int Try.underlying3 (hc3 1 3 _ rfl rfl)
  obtain ⟨a3_2, rfl, b3_2, b3_2'⟩ := cell_int Try.underlying3 (hc3 2 3 _ rfl rfl)
  obtain ⟨a3_3, rfl, b3_3, b3_3'⟩ := cell_int Try.underlying3 (hc3 3 3 _ rfl rfl)
  exact walk a0 a1 a2 a3_0 a3_1 a3_2 a3_3 ⟨b0, b0'⟩ ⟨b1, b1'⟩ ⟨b2, b2'⟩ ⟨b3_0, b3_0'⟩ ⟨b3_1, b3_1'⟩ ⟨b3_2, b3_2'⟩ ⟨b3_3, b3_3'⟩ W

set_option maxRecDepth 100000 in
theorem lifted (os : Os) (started : os.Started) (H : Type) (enc : TypeId × Value → H) :
    ReturnsInHanded {} Try.checked os 7 .any (Rows.vecStretchesSpec.pre6 enc Try.prog Try.f7 Rows.vecStretchesRow.domain false) (Rows.vecStretchesSpec.post enc Try.prog Try.f7 false true false false) := by
  refine returnsInHanded_of_change (C := Try.checked) own started (by kernel_rfl) Try.func7
    (ChangeSpec.witness6 (enc := enc) (C := Try.checked) false ⟨#[], #[.int .i64 0, .int .i64 0, .int .i64 0, .agg #[.int .i64 0, .int .i64 0, .int .i64 0, .int .i64 0]], []⟩ 8 (by kernel_rfl) (by kernel_rfl) (by kernel_rfl) (by kernel_rfl)) ?_
  intro W base args ds gs before hval0 hW _ _
  have hval : ∀ (j : Nat) t v, Try.f7.params[j]? = some t → args[j]? = some v → Value.okWide Try.prog W .any base t v := hval0
  have hW' := hW
  obtain ⟨p, q, hA0, _, rfl, _, _⟩ := hW
  have hA : DataW.TrodAll enc Try.prog W 0 (fun _ => true) true Try.f7.params.toList args.toList ds p := hA0
  rw [Try.params7] at hA hval
  obtain ⟨v0, vs0, d0, ds0, p0, q0, hargs, rfl, rfl, h0, r0⟩ := trodAll_cons hA
  obtain ⟨v1, vs1, d1, ds1, p1, q1, rfl, rfl, rfl, h1, r1⟩ := trodAll_cons r0
  obtain ⟨v2, vs2, d2, ds2, p2, q2, rfl, rfl, rfl, h2, r2⟩ := trodAll_cons r1
  obtain ⟨v3, vs3, d3, ds3, p3, q3, rfl, rfl, rfl, h3, r3⟩ := trodAll_cons r2
  obtain ⟨rfl, rfl, rfl⟩ := trodAll_nil r3
  obtain rfl : args = #[v0, v1, v2, v3] := by cases args; simp_all
  refine (walkV W base v0 v1 v2 v3 (hval 0 3 v0 rfl rfl) (hval 1 3 v1 rfl rfl) (hval 2 3 v2 rfl rfl) (hval 3 25 v3 rfl rfl)).mono fun e W' ⟨he, hb⟩ => ?_
  subst he
  exact ⟨_, rfl, law_post (tb := 4) hW' rfl rfl laid (by kernel_rfl) rfl Try.underlying4 hb⟩

theorem over : Rows.vecStretchesRow.holds Try.pinned (OpenSpec.ofChange Rows.vecStretchesSpec) :=
  OpenClaim.holds_of_wide 7 Try.f7 rfl rfl rfl rfl rfl rfl rfl ⟨rfl, rfl, rfl, rfl, rfl⟩ rfl rfl rfl rfl rfl (by kernel_rfl) Try.func7 (by kernel_rfl)
    (of_decide_eq_true (by kernel_rfl)) (by unfold Func.isWrapper; first | (rw [if_pos (by decide +kernel)]; kernel_rfl) | (rw [if_neg (by decide +kernel)]; exact ⟨rfl, rfl⟩))
    (fun os started H enc _ => lifted os started H enc)

theorem proved : Rows.VecStretchesSaid := over
end Go.Proofs.Ytcfdnilakjgeoaa.vecStretches

