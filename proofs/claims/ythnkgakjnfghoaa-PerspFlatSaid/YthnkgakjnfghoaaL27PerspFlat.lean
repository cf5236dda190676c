/- Of all inputs the law answers true; no condition. -/
import Derived.Test.YthnkgakjnfghoaaL27R
import Derived.Test.YthnkgakjnfghoaaPerspF
set_option linter.unusedVariables false
set_option linter.unusedSimpArgs false
namespace Go.Proofs.Ythnkgakjnfghoaa.perspFlat
open Go Go.Sx Go.ChangeShapes Go.WideShapes Go.ChangeAt Go.RowKit

theorem own : ownKnob Try.prog.godebug = none := by kernel_rfl
theorem mixed : Try.prog.follows .mixedOrders = true := by kernel_rfl
theorem laid : laidOutB Try.prog = true := by kernel_rfl
theorem entersF : Enters Try.prog 5 Try.f5 := ⟨Try.func5, by kernel_rfl, by kernel_rfl⟩

theorem list18 {l : List Value} (h : l.length = 18) : ∃ x0 x1 x2 x3 x4 x5 x6 x7 x8 x9 x10 x11 x12 x13 x14 x15 x16 x17, l = [x0, x1, x2, x3, x4, x5, x6, x7, x8, x9, x10, x11, x12, x13, x14, x15, x16, x17] := by
  match l, h with
  | [x0, x1, x2, x3, x4, x5, x6, x7, x8, x9, x10, x11, x12, x13, x14, x15, x16, x17], _ => exact ⟨x0, x1, x2, x3, x4, x5, x6, x7, x8, x9, x10, x11, x12, x13, x14, x15, x16, x17, rfl⟩

open Go.Fx
theorem bodyTrue (a0_0 : Int) (a0_1 : Int) (a0_2 : Int) (a0_3 : Int) (a0_4 : Int) (a0_5 : Int) (a0_6 : Int) (a0_7 : Int) (a0_8 : Int) (a0_9 : Int) (a0_10 : Int) (a0_11 : Int) (a0_12 : Int) (a0_13 : Int) (a0_14 : Int) (a0_15 : Int) (a0_16 : Int) (a0_17 : Int) (a1 : Int) (a2 : Int) (a3 : Int) (a4 : Int) (h_a0_0 : -9223372036854775808 ≤ a0_0 ∧ a0_0 ≤ 9223372036854775807) (h_a0_1 : -9223372036854775808 ≤ a0_1 ∧ a0_1 ≤ 9223372036854775807) (h_a0_2 : -9223372036854775808 ≤ a0_2 ∧ a0_2 ≤ 9223372036854775807) (h_a0_3 : -9223372036854775808 ≤ a0_3 ∧ a0_3 ≤ 9223372036854775807) (h_a0_4 : -9223372036854775808 ≤ a0_4 ∧ a0_4 ≤ 9223372036854775807) (h_a0_5 : -9223372036854775808 ≤ a0_5 ∧ a0_5 ≤ 9223372036854775807) (h_a0_6 : -9223372036854775808 ≤ a0_6 ∧ a0_6 ≤ 9223372036854775807) (h_a0_7 : -9223372036854775808 ≤ a0_7 ∧ a0_7 ≤ 9223372036854775807) (h_a0_8 : -9223372036854775808 ≤ a0_8 ∧ a0_8 ≤ 9223372036854775807) (h_a0_9 : -9223372036854775808 ≤ a0_9 ∧ a0_9 ≤ 9223372036854775807) (h_a0_10 : -9223372036854775808 ≤ a0_10 ∧ a0_10 ≤ 9223372036854775807) (h_a0_11 : -9223372036854775808 ≤ a0_11 ∧ a0_11 ≤ 9223372036854775807) (h_a0_12 : -9223372036854775808 ≤ a0_12 ∧ a0_12 ≤ 9223372036854775807) (h_a0_13 : -9223372036854775808 ≤ a0_13 ∧ a0_13 ≤ 9223372036854775807) (h_a0_14 : -9223372036854775808 ≤ a0_14 ∧ a0_14 ≤ 9223372036854775807) (h_a0_15 : -9223372036854775808 ≤ a0_15 ∧ a0_15 ≤ 9223372036854775807) (h_a0_16 : -9223372036854775808 ≤ a0_16 ∧ a0_16 ≤ 9223372036854775807) (h_a0_17 : -9223372036854775808 ≤ a0_17 ∧ a0_17 ≤ 9223372036854775807) (h_a1 : -9223372036854775808 ≤ a1 ∧ a1 ≤ 9223372036854775807) (h_a2 : -9223372036854775808 ≤ a2 ∧ a2 ≤ 9223372036854775807) (h_a3 : -9223372036854775808 ≤ a3 ∧ a3 ≤ 9223372036854775807) (h_a4 : -9223372036854775808 ≤ a4 ∧ a4 ≤ 9223372036854775807) :
    bodyK callsC Try.prog 9 Try.f5 [.agg [.lit (.int .i64 a0_0), .lit (.int .i64 a0_1), .lit (.int .i64 a0_2), .lit (.int .i64 a0_3), .lit (.int .i64 a0_4), .lit (.int .i64 a0_5), .lit (.int .i64 a0_6), .lit (.int .i64 a0_7), .lit (.int .i64 a0_8), .lit (.int .i64 a0_9), .lit (.int .i64 a0_10), .lit (.int .i64 a0_11), .lit (.int .i64 a0_12), .lit (.int .i64 a0_13), .lit (.int .i64 a0_14), .lit (.int .i64 a0_15), .lit (.int .i64 a0_16), .lit (.int .i64 a0_17)], .lit (.int .i64 a1), .lit (.int .i64 a2), .lit (.int .i64 a3), .lit (.int .i64 a4)] Sx.empty boolOf = some true := by
  have e : bodyK callsC Try.prog 9 Try.f5 [.agg [.lit (.int .i64 a0_0), .lit (.int .i64 a0_1), .lit (.int .i64 a0_2), .lit (.int .i64 a0_3), .lit (.int .i64 a0_4), .lit (.int .i64 a0_5), .lit (.int .i64 a0_6), .lit (.int .i64 a0_7), .lit (.int .i64 a0_8), .lit (.int .i64 a0_9), .lit (.int .i64 a0_10), .lit (.int .i64 a0_11), .lit (.int .i64 a0_12), .lit (.int .i64 a0_13), .lit (.int .i64 a0_14), .lit (.int .i64 a0_15), .lit (.int .i64 a0_16), .lit (.int .i64 a0_17)], .lit (.int .i64 a1), .lit (.int .i64 a2), .lit (.int .i64 a3), .lit (.int .i64 a4)] Sx.empty boolOf =
    (bif decide (a1 < -134217728) then some true else bif decide (a1 > 134217728) then some true else bif decide (a2 < -134217728) then some true else bif decide (a2 > 134217728) then some true else bif decide (a3 < 0) then some true else bif decide (a3 > 31) then some true else bif decide (a4 < 0) then some true else bif decide (a4 > 31) then some true else bif !mayTr [a0_0, a0_1, a0_2, a0_3, a1, a2, a0_6, a0_7, a0_8, a0_9, a1, a2, a0_12, a0_13, a0_14, a0_15, a1, a2] then some true else bif !cvB [a0_0, a0_1, a0_2, a0_3, a1, a2, a0_6, a0_7, a0_8, a0_9, a1, a2, a0_12, a0_13, a0_14, a0_15, a1, a2] a3 a4 then some true else bif okA [a0_0, a0_1, a0_2, a0_3, a1, a2, a0_6, a0_7, a0_8, a0_9, a1, a2, a0_12, a0_13, a0_14, a0_15, a1, a2] a3 a4 then bif okT [a0_0, a0_1, a0_2, a0_3, a1, a2, a0_6, a0_7, a0_8, a0_9, a1, a2, a0_12, a0_13, a0_14, a0_15, a1, a2] a3 a4 then bif uV [a0_0, a0_1, a0_2, a0_3, a1, a2, a0_6, a0_7, a0_8, a0_9, a1, a2, a0_12, a0_13, a0_14, a0_15, a1, a2] (mid a3) (mid a4) == a1 then bif vV [a0_0, a0_1, a0_2, a0_3, a1, a2, a0_6, a0_7, a0_8, a0_9, a1, a2, a0_12, a0_13, a0_14, a0_15, a1, a2] (mid a3) (mid a4) == a2 then bif dU [a0_0, a0_1, a0_2, a0_3, a1, a2, a0_6, a0_7, a0_8, a0_9, a1, a2, a0_12, a0_13, a0_14, a0_15, a1, a2] (mid a3) (mid a4) 256 0 == 0 then bif dV [a0_0, a0_1, a0_2, a0_3, a1, a2, a0_6, a0_7, a0_8, a0_9, a1, a2, a0_12, a0_13, a0_14, a0_15, a1, a2] (mid a3) (mid a4) 256 0 == 0 then bif dU [a0_0, a0_1, a0_2, a0_3, a1, a2, a0_6, a0_7, a0_8, a0_9, a1, a2, a0_12, a0_13, a0_14, a0_15, a1, a2] (mid a3) (mid a4) 0 256 == 0 then bif dV [a0_0, a0_1, a0_2, a0_3, a1, a2, a0_6, a0_7, a0_8, a0_9, a1, a2, a0_12, a0_13, a0_14, a0_15, a1, a2] (mid a3) (mid a4) 0 256 == 0 then some true else some false else some false else some false else some false else some false else some false else none else none) := by kernel_rfl
  rw [e]
  clear e
  refine gd fun g1 => gd fun g2 => gd fun g3 => gd fun g4 => gd fun g5 => gd fun g6 => gd fun g7 => gd fun g8 => ?_
  refine gn fun hm => gn fun hc => ?_
  obtain ⟨s0, s1, s2, ha⟩ := mayTr_spec hm
  obtain ⟨a, b, c, ea, eb, ec, a0, b0, c0, b1, b2, b3, hs⟩ := in_spec s0 s1 s2 (by omega) (by omega) (by omega) (by omega) hc
  obtain ⟨p, q, r, _, _, _, hsv, hp, hq, hr, _, _, _, _⟩ := n_in s0 s1 s2 ea eb ec a0 b0 c0 b1 b2 b3 (by omega)
  have ho : okV [a0_0, a0_1, a0_2, a0_3, a1, a2, a0_6, a0_7, a0_8, a0_9, a1, a2, a0_12, a0_13, a0_14, a0_15, a1, a2] (mid a3) (mid a4) = true := by
    unfold okV wOk
    rw [hsv, decide_eq_false (by omega)]; rfl
  have hu : ∀ x y, okV [a0_0, a0_1, a0_2, a0_3, a1, a2, a0_6, a0_7, a0_8, a0_9, a1, a2, a0_12, a0_13, a0_14, a0_15, a1, a2] x y = true → uV [a0_0, a0_1, a0_2, a0_3, a1, a2, a0_6, a0_7, a0_8, a0_9, a1, a2, a0_12, a0_13, a0_14, a0_15, a1, a2] x y = a1 := fun x y h => pl_flat h (by omega) (by omega)
  have hv : ∀ x y, okV [a0_0, a0_1, a0_2, a0_3, a1, a2, a0_6, a0_7, a0_8, a0_9, a1, a2, a0_12, a0_13, a0_14, a0_15, a1, a2] x y = true → vV [a0_0, a0_1, a0_2, a0_3, a1, a2, a0_6, a0_7, a0_8, a0_9, a1, a2, a0_12, a0_13, a0_14, a0_15, a1, a2] x y = a2 := fun x y h => pl_flat h (by omega) (by omega)
  refine mg (okA_of s0 s1 s2 ha (by omega) (by omega) (by omega) (by omega)) (mg (okT_of s0 s1 s2 _ _) ?_)
  rw [hu _ _ ho, hv _ _ ho, dU_flat hu ho, dU_flat hu ho, dV_flat hv ho, dV_flat hv ho]
  simp only [beq_self_eq_true, cond_true]

theorem walk (a0_0 : Int) (a0_1 : Int) (a0_2 : Int) (a0_3 : Int) (a0_4 : Int) (a0_5 : Int) (a0_6 : Int) (a0_7 : Int) (a0_8 : Int) (a0_9 : Int) (a0_10 : Int) (a0_11 : Int) (a0_12 : Int) (a0_13 : Int) (a0_14 : Int) (a0_15 : Int) (a0_16 : Int) (a0_17 : Int) (a1 : Int) (a2 : Int) (a3 : Int) (a4 : Int) (h_a0_0 : -9223372036854775808 ≤ a0_0 ∧ a0_0 ≤ 9223372036854775807) (h_a0_1 : -9223372036854775808 ≤ a0_1 ∧ a0_1 ≤ 9223372036854775807) (h_a0_2 : -9223372036854775808 ≤ a0_2 ∧ a0_2 ≤ 9223372036854775807) (h_a0_3 : -9223372036854775808 ≤ a0_3 ∧ a0_3 ≤ 9223372036854775807) (h_a0_4 : -9223372036854775808 ≤ a0_4 ∧ a0_4 ≤ 9223372036854775807) (h_a0_5 : -9223372036854775808 ≤ a0_5 ∧ a0_5 ≤ 9223372036854775807) (h_a0_6 : -9223372036854775808 ≤ a0_6 ∧ a0_6 ≤ 9223372036854775807) (h_a0_7 : -9223372036854775808 ≤ a0_7 ∧ a0_7 ≤ 9223372036854775807) (h_a0_8 : -9223372036854775808 ≤ a0_8 ∧ a0_8 ≤ 9223372036854775807) (h_a0_9 : -9223372036854775808 ≤ a0_9 ∧ a0_9 ≤ 9223372036854775807) (h_a0_10 : -9223372036854775808 ≤ a0_10 ∧ a0_10 ≤ 9223372036854775807) (h_a0_11 : -9223372036854775808 ≤ a0_11 ∧ a0_11 ≤ 9223372036854775807) (h_a0_12 : -9223372036854775808 ≤ a0_12 ∧ a0_12 ≤ 9223372036854775807) (h_a0_13 : -9223372036854775808 ≤ a0_13 ∧ a0_13 ≤ 9223372036854775807) (h_a0_14 : -9223372036854775808 ≤ a0_14 ∧ a0_14 ≤ 9223372036854775807) (h_a0_15 : -9223372036854775808 ≤ a0_15 ∧ a0_15 ≤ 9223372036854775807) (h_a0_16 : -9223372036854775808 ≤ a0_16 ∧ a0_16 ≤ 9223372036854775807) (h_a0_17 : -9223372036854775808 ≤ a0_17 ∧ a0_17 ≤ 9223372036854775807) (h_a1 : -9223372036854775808 ≤ a1 ∧ a1 ≤ 9223372036854775807) (h_a2 : -9223372036854775808 ≤ a2 ∧ a2 ≤ 9223372036854775807) (h_a3 : -9223372036854775808 ≤ a3 ∧ a3 ≤ 9223372036854775807) (h_a4 : -9223372036854775808 ≤ a4 ∧ a4 ≤ 9223372036854775807) (w : World) :
    Calls Try.prog 5 #[.agg #[.int .i64 a0_0, .int .i64 a0_1, .int .i64 a0_2, .int .i64 a0_3, .int .i64 a0_4, .int .i64 a0_5, .int .i64 a0_6, .int .i64 a0_7, .int .i64 a0_8, .int .i64 a0_9, .int .i64 a0_10, .int .i64 a0_11, .int .i64 a0_12, .int .i64 a0_13, .int .i64 a0_14, .int .i64 a0_15, .int .i64 a0_16, .int .i64 a0_17], .int .i64 a1, .int .i64 a2, .int .i64 a3, .int .i64 a4] w fun e w' => e = .returned (.bool true) ∧ Below w.heap.size w w' := by
  have h := law_of callsC_sound mixed entersF (bodyTrue a0_0 a0_1 a0_2 a0_3 a0_4 a0_5 a0_6 a0_7 a0_8 a0_9 a0_10 a0_11 a0_12 a0_13 a0_14 a0_15 a0_16 a0_17 a1 a2 a3 a4 h_a0_0 h_a0_1 h_a0_2 h_a0_3 h_a0_4 h_a0_5 h_a0_6 h_a0_7 h_a0_8 h_a0_9 h_a0_10 h_a0_11 h_a0_12 h_a0_13 h_a0_14 h_a0_15 h_a0_16 h_a0_17 h_a1 h_a2 h_a3 h_a4) (E := ⟨fun _ => 0, fun _ => undef⟩) (RepM.empty _ w) (by kernel_rfl) (by kernel_rfl)
  exact h

theorem walkV (W : World) (base : Nat) (v0 : Value) (v1 : Value) (v2 : Value) (v3 : Value) (v4 : Value) (hv0 : Value.okWide Try.prog W .any base 24 v0) (hv1 : Value.okWide Try.prog W .any base 3 v1) (hv2 : Value.okWide Try.prog W .any base 3 v2) (hv3 : Value.okWide Try.prog W .any base 3 v3) (hv4 : Value.okWide Try.prog W .any base 3 v4) : Calls Try.prog 5 #[v0, v1, v2, v3, v4] W fun e w' => e = .returned (.bool true) ∧ Below W.heap.size W w' := by
  obtain ⟨cs0, rfl, hl0, hc0⟩ := ok_agg (P := Try.prog) (t := 24) (ts := [3, 3, 3, 3, 3, 3, 3, 3, 3, 3, 3, 3, 3, 3, 3, 3, 3, 3]) (by kernel_rfl) (by kernel_rfl) (by kernel_rfl) hv0
  obtain ⟨c0_0, c0_1, c0_2, c0_3, c0_4, c0_5, c0_6, c0_7, c0_8, c0_9, c0_10, c0_11, c0_12, c0_13, c0_14, c0_15, c0_16, c0_17, rfl⟩ := list18 hl0
  obtain ⟨a0_0, rfl, b0_0, b0_0'⟩ := cell_int Try.underlying3 (hc0 0 3 _ rfl rfl)
  obtain ⟨a0_1, rfl, b0_1, b0_1'⟩ := cell_int Try.underlying3 (hc0 1 3 _ rfl rfl)
  obtain ⟨a0_2, rfl, b0_2, b0_2'⟩ := cell_int Try.underlying3 (hc0 2 3 _ rfl rfl)
  obtain ⟨a0_3, rfl, b0_3, b0_3'⟩ := cell_int Try.underlying3 (hc0 3 3 _ rfl rfl)
  obtain ⟨a0_4, rfl, b0_4, b0_4'⟩ := cell_int Try.underlying3 (hc0 4 3 _ rfl rfl)
  obtain ⟨a0_5, rfl, b0_5, b0_5'⟩ := cell_int Try.underlying3 (hc0 5 3 _ rfl rfl)
  obtain ⟨a0_6, rfl, b0_6, b0_6'⟩ := cell_int Try.underlying3 (hc0 6 3 _ rfl rfl)
  obtain ⟨a0_7, rfl, b0_7, b0_7'⟩ := cell_int Try.underlying3 (hc0 7 3 _ rfl rfl)
  obtain ⟨a0_8, rfl, b0_8, b0_8'⟩ := cell_int Try.underlying3 (hc0 8 3 _ rfl rfl)
  obtain ⟨a0_9, rfl, b0_9, b0_9'⟩ := cell_int Try.underlying3 (hc0 9 3 _ rfl rfl)
  obtain ⟨a0_10, rfl, b0_10, b0_10'⟩ := cell_int Try.underlying3 (hc0 10 3 _ rfl rfl)
  obtain ⟨a0_11, rfl, b0_11, b0_11'⟩ := cell_int Try.underlying3 (hc0 11 3 _ rfl rfl)
  obtain ⟨a0_12, rfl, b0_12, b0_12'⟩ := cell_int Try.underlying3 (hc0 12 3 _ rfl rfl)
  obtain ⟨a0_13, rfl, b0_13, b0_13'⟩ := cell_int Try.underlying3 (hc0 13 3 _ rfl rfl)
  obtain ⟨a0_14, rfl, b0_14, b0_14'⟩ := cell_int Try.underlying3 (hc0 14 3 _ rfl rfl)
  obtain ⟨a0_15, rfl, b0_15, b0_15'⟩ := cell_int Try.underlying3 (hc0 15 3 _ rfl rfl)
  obtain ⟨a0_16, rfl, b0_16, b0_16'⟩ := cell_int Try.underlying3 (hc0 16 3 _ rfl rfl)
  obtain ⟨a0_17, rfl, b0_17, b0_17'⟩ := cell_int Try.underlying3 (hc0 17 3 _ rfl rfl)
  obtain ⟨a1, rfl, b1, b1'⟩ := ok_int Try.underlying3 hv1
  obtain ⟨a2, rfl, b2, b2'⟩ := ok_int Try.underlying3 hv2
  obtain ⟨a3, rfl, b3, b3'⟩ := ok_int Try.underlying3 hv3
  obtain ⟨a4, rfl, b4, b4'⟩ := ok_int Try.underlying3 hv4
  exact walk a0_0 a0_1 a0_2 a0_3 a0_4 a0_5 a0_6 a0_7 a0_8 a0_9 a0_10 a0_11 a0_12 a0_13 a0_14 a0_15 a0_16 a0_17 a1 a2 a3 a4 ⟨b0_0, b0_0'⟩ ⟨b0_1, b0_1'⟩ ⟨b0_2, b0_2'⟩ ⟨b0_3, b0_3'⟩ ⟨b0_4, b0_4'⟩ ⟨b0_5, b0_5'⟩ ⟨b0_6, b0_6'⟩ ⟨b0_7, b0_7'⟩ ⟨b0_8, b0_8'⟩ ⟨b0_9, b0_9'⟩ ⟨b0_10, b0_10'⟩ ⟨b0_11, b0_11'⟩ ⟨b0_12, b0_12'⟩ ⟨b0_13, b0_13'⟩ ⟨b0_14, b0_14'⟩ ⟨b0_15, b0_15'⟩ ⟨b0_16, b0_16'⟩ ⟨b0_17, b0_17'⟩ ⟨b1, b1'⟩ ⟨b2, b2'⟩ ⟨b3, b3'⟩ ⟨b4, b4'⟩ W

set_option maxRecDepth 100000 in
theorem lifted (os : Os) (started : os.Started) (H : Type) (enc : TypeId × Value → H) :
    ReturnsInHanded {} Try.checked os 5 .any (Rows.perspFlatSpec.pre6 enc Try.prog Try.f5 Rows.perspFlatRow.domain false) (Rows.perspFlatSpec.post enc Try.prog Try.f5 false true false false) := by
  refine returnsInHanded_of_change (C := Try.checked) own started (by kernel_rfl) Try.func5
    (ChangeSpec.witness6 (enc := enc) (C := Try.checked) false ⟨#[], #[.agg #[.int .i64 0, .int .i64 0, .int .i64 0, .int .i64 0, .int .i64 0, .int .i64 0, .int .i64 0, .int .i64 0, .int .i64 0, .int .i64 0, .int .i64 0, .int .i64 0, .int .i64 0, .int .i64 0, .int .i64 0, .int .i64 0, .int .i64 0, .int .i64 0], .int .i64 0, .int .i64 0, .int .i64 0, .int .i64 0], []⟩ 8 (by kernel_rfl) (by kernel_rfl) (by kernel_rfl) (by kernel_rfl)) ?_
  intro W base args ds gs before hval0 hW _ _
  have hval : ∀ (j : Nat) t v, Try.f5.params[j]? = some t → args[j]? = some v → Value.okWide Try.prog W .any base t v := hval0
  have hW' := hW
  obtain ⟨p, q, hA0, _, rfl, _, _⟩ := hW
  have hA : DataW.TrodAll enc Try.prog W 0 (fun _ => true) true Try.f5.params.toList args.toList ds p := hA0
  rw [Try.params5] at hA hval
  obtain ⟨v0, vs0, d0, ds0, p0, q0, hargs, rfl, rfl, h0, r0⟩ := trodAll_cons hA
  obtain ⟨v1, vs1, d1, ds1, p1, q1, rfl, rfl, rfl, h1, r1⟩ := trodAll_cons r0
  obtain ⟨v2, vs2, d2, ds2, p2, q2, rfl, rfl, rfl, h2, r2⟩ := trodAll_cons r1
  obtain ⟨v3, vs3, d3, ds3, p3, q3, rfl, rfl, rfl, h3, r3⟩ := trodAll_cons r2
  obtain ⟨v4, vs4, d4, ds4, p4, q4, rfl, rfl, rfl, h4, r4⟩ := trodAll_cons r3
  obtain ⟨rfl, rfl, rfl⟩ := trodAll_nil r4
  obtain rfl : args = #[v0, v1, v2, v3, v4] := by cases args; simp_all
  refine (walkV W base v0 v1 v2 v3 v4 (hval 0 24 v0 rfl rfl) (hval 1 3 v1 rfl rfl) (hval 2 3 v2 rfl rfl) (hval 3 3 v3 rfl rfl) (hval 4 3 v4 rfl rfl)).mono fun e W' ⟨he, hb⟩ => ?_
  subst he
  exact ⟨_, rfl, law_post (tb := 4) hW' rfl rfl laid (by kernel_rfl) rfl Try.underlying4 hb⟩

theorem over : Rows.perspFlatRow.holds Try.pinned (OpenSpec.ofChange Rows.perspFlatSpec) :=
  OpenClaim.holds_of_wide 5 Try.f5 rfl rfl rfl rfl rfl rfl rfl ⟨rfl, rfl, rfl, rfl, rfl⟩ rfl rfl rfl rfl rfl (by kernel_rfl) Try.func5 (by kernel_rfl)
    (of_decide_eq_true (by kernel_rfl)) (by unfold Func.isWrapper; first | (rw [if_pos (by decide +kernel)]; kernel_rfl) | (rw [if_neg (by decide +kernel)]; exact ⟨rfl, rfl⟩))
    (fun os started H enc _ => lifted os started H enc)

theorem proved : Rows.PerspFlatSaid := over
end Go.Proofs.Ythnkgakjnfghoaa.perspFlat

