/- Of all inputs the law answers true; no condition. -/
import Derived.Test.YtcfdnilakjgeoaaL2G
import Derived.Test.YtcfdnilakjgeoaaVecC
set_option linter.unusedVariables false
set_option linter.unusedSimpArgs false
namespace Go.Proofs.Ytcfdnilakjgeoaa.vecAdds
open Go Go.Sx Go.ChangeShapes Go.WideShapes Go.ChangeAt Go.RowKit

theorem own : ownKnob Try.prog.godebug = none := by kernel_rfl
theorem mixed : Try.prog.follows .mixedOrders = true := by kernel_rfl
theorem laid : laidOutB Try.prog = true := by kernel_rfl
theorem entersF : Enters Try.prog 6 Try.f6 := ⟨Try.func6, by kernel_rfl, by kernel_rfl⟩

theorem list4 {l : List Value} (h : l.length = 4) : ∃ x0 x1 x2 x3, l = [x0, x1, x2, x3] := by
  match l, h with
  | [x0, x1, x2, x3], _ => exact ⟨x0, x1, x2, x3, rfl⟩
theorem list16 {l : List Value} (h : l.length = 16) : ∃ x0 x1 x2 x3 x4 x5 x6 x7 x8 x9 x10 x11 x12 x13 x14 x15, l = [x0, x1, x2, x3, x4, x5, x6, x7, x8, x9, x10, x11, x12, x13, x14, x15] := by
  match l, h with
  | [x0, x1, x2, x3, x4, x5, x6, x7, x8, x9, x10, x11, x12, x13, x14, x15], _ => exact ⟨x0, x1, x2, x3, x4, x5, x6, x7, x8, x9, x10, x11, x12, x13, x14, x15, rfl⟩

open Go.Fx
theorem may16 {a0 a1 a2 a3 a4 a5 a6 a7 a8 a9 a10 a11 a12 a13 a14 a15 : Int} (h0 : In20 a0) (h1 : In20 a1) (h2 : In20 a2) (h3 : In20 a3) (h4 : In20 a4) (h5 : In20 a5) (h6 : In20 a6) (h7 : In20 a7) (h8 : In20 a8) (h9 : In20 a9) (h10 : In20 a10) (h11 : In20 a11) (h12 : In20 a12) (h13 : In20 a13) (h14 : In20 a14) (h15 : In20 a15) : mayL [a0, a1, a2, a3, a4, a5, a6, a7, a8, a9, a10, a11, a12, a13, a14, a15] = true := by
  rw [mayL_iff]
  simp only [List.mem_cons, List.not_mem_nil, or_false, forall_eq_or_imp, forall_eq]
  exact ⟨h0, h1, h2, h3, h4, h5, h6, h7, h8, h9, h10, h11, h12, h13, h14, h15⟩
theorem bodyTrue (a0_0 : Int) (a0_1 : Int) (a0_2 : Int) (a0_3 : Int) (a0_4 : Int) (a0_5 : Int) (a0_6 : Int) (a0_7 : Int) (a0_8 : Int) (a0_9 : Int) (a0_10 : Int) (a0_11 : Int) (a0_12 : Int) (a0_13 : Int) (a0_14 : Int) (a0_15 : Int) (a1_0 : Int) (a1_1 : Int) (a1_2 : Int) (a1_3 : Int) (a2 : Int) (h_a0_0 : -9223372036854775808 ≤ a0_0 ∧ a0_0 ≤ 9223372036854775807) (h_a0_1 : -9223372036854775808 ≤ a0_1 ∧ a0_1 ≤ 9223372036854775807) (h_a0_2 : -9223372036854775808 ≤ a0_2 ∧ a0_2 ≤ 9223372036854775807) (h_a0_3 : -9223372036854775808 ≤ a0_3 ∧ a0_3 ≤ 9223372036854775807) (h_a0_4 : -9223372036854775808 ≤ a0_4 ∧ a0_4 ≤ 9223372036854775807) (h_a0_5 : -9223372036854775808 ≤ a0_5 ∧ a0_5 ≤ 9223372036854775807) (h_a0_6 : -9223372036854775808 ≤ a0_6 ∧ a0_6 ≤ 9223372036854775807) (h_a0_7 : -9223372036854775808 ≤ a0_7 ∧ a0_7 ≤ 9223372036854775807) (h_a0_8 : -9223372036854775808 ≤ a0_8 ∧ a0_8 ≤ 9223372036854775807) (h_a0_9 : -9223372036854775808 ≤ a0_9 ∧ a0_9 ≤ 9223372036854775807) (h_a0_10 : -9223372036854775808 ≤ a0_10 ∧ a0_10 ≤ 9223372036854775807) (h_a0_11 : -9223372036854775808 ≤ a0_11 ∧ a0_11 ≤ 9223372036854775807) (h_a0_12 : -9223372036854775808 ≤ a0_12 ∧ a0_12 ≤ 9223372036854775807) (h_a0_13 : -9223372036854775808 ≤ a0_13 ∧ a0_13 ≤ 9223372036854775807) (h_a0_14 : -9223372036854775808 ≤ a0_14 ∧ a0_14 ≤ 9223372036854775807) (h_a0_15 : -9223372036854775808 ≤ a0_15 ∧ a0_15 ≤ 9223372036854775807) (h_a1_0 : -9223372036854775808 ≤ a1_0 ∧ a1_0 ≤ 9223372036854775807) (h_a1_1 : -9223372036854775808 ≤ a1_1 ∧ a1_1 ≤ 9223372036854775807) (h_a1_2 : -9223372036854775808 ≤ a1_2 ∧ a1_2 ≤ 9223372036854775807) (h_a1_3 : -9223372036854775808 ≤ a1_3 ∧ a1_3 ≤ 9223372036854775807) (h_a2 : -9223372036854775808 ≤ a2 ∧ a2 ≤ 9223372036854775807) :
    bodyK cR Try.prog 9 Try.f6 [.agg [.lit (.int .i64 a0_0), .lit (.int .i64 a0_1), .lit (.int .i64 a0_2), .lit (.int .i64 a0_3), .lit (.int .i64 a0_4), .lit (.int .i64 a0_5), .lit (.int .i64 a0_6), .lit (.int .i64 a0_7), .lit (.int .i64 a0_8), .lit (.int .i64 a0_9), .lit (.int .i64 a0_10), .lit (.int .i64 a0_11), .lit (.int .i64 a0_12), .lit (.int .i64 a0_13), .lit (.int .i64 a0_14), .lit (.int .i64 a0_15)], .agg [.lit (.int .i64 a1_0), .lit (.int .i64 a1_1), .lit (.int .i64 a1_2), .lit (.int .i64 a1_3)], .lit (.int .i64 a2)] Sx.empty boolOf = some true := by
  have e : bodyK cR Try.prog 9 Try.f6 [.agg [.lit (.int .i64 a0_0), .lit (.int .i64 a0_1), .lit (.int .i64 a0_2), .lit (.int .i64 a0_3), .lit (.int .i64 a0_4), .lit (.int .i64 a0_5), .lit (.int .i64 a0_6), .lit (.int .i64 a0_7), .lit (.int .i64 a0_8), .lit (.int .i64 a0_9), .lit (.int .i64 a0_10), .lit (.int .i64 a0_11), .lit (.int .i64 a0_12), .lit (.int .i64 a0_13), .lit (.int .i64 a0_14), .lit (.int .i64 a0_15)], .agg [.lit (.int .i64 a1_0), .lit (.int .i64 a1_1), .lit (.int .i64 a1_2), .lit (.int .i64 a1_3)], .lit (.int .i64 a2)] Sx.empty boolOf =
    (bif !mayL [a0_0, a0_1, a0_2, a0_3, a0_4, a0_5, a0_6, a0_7, a0_8, a0_9, a0_10, a0_11, a0_12, a0_13, a0_14, a0_15] then some true else bif decide (a1_0 < -134217728) then some true else bif decide (a1_0 > 134217728) then some true else bif decide (a1_1 < -134217728) then some true else bif decide (a1_1 > 134217728) then some true else bif decide (a1_2 < -134217728) then some true else bif decide (a1_2 > 134217728) then some true else bif decide (a1_3 < -134217728) then some true else bif decide (a1_3 > 134217728) then some true else bif decide (a2.tmod 4 = 0) then brT [0, 0, 0, 0, a0_4, a0_5, a0_6, a0_7, a0_8, a0_9, a0_10, a0_11, a0_12, a0_13, a0_14, a0_15] [a1_0, a1_1, a1_2, a1_3] [wi (2 * a1_0), wi (2 * a1_1), wi (2 * a1_2), wi (2 * a1_3)] a1_0 a1_1 a1_2 a1_3 (rowT 0 0 0 0 a1_0 a1_1 a1_2 a1_3 (rowT a0_4 a0_5 a0_6 a0_7 a1_0 a1_1 a1_2 a1_3 (rowT a0_8 a0_9 a0_10 a0_11 a1_0 a1_1 a1_2 a1_3 (rowT a0_12 a0_13 a0_14 a0_15 a1_0 a1_1 a1_2 a1_3 (some true))))) else bif decide (a2.tmod 4 = 1) then brT [a0_0, a0_1, a0_2, a0_3, 0, 0, 0, 0, a0_8, a0_9, a0_10, a0_11, a0_12, a0_13, a0_14, a0_15] [a1_0, a1_1, a1_2, a1_3] [wi (2 * a1_0), wi (2 * a1_1), wi (2 * a1_2), wi (2 * a1_3)] a1_0 a1_1 a1_2 a1_3 (rowT a0_0 a0_1 a0_2 a0_3 a1_0 a1_1 a1_2 a1_3 (rowT 0 0 0 0 a1_0 a1_1 a1_2 a1_3 (rowT a0_8 a0_9 a0_10 a0_11 a1_0 a1_1 a1_2 a1_3 (rowT a0_12 a0_13 a0_14 a0_15 a1_0 a1_1 a1_2 a1_3 (some true))))) else bif decide (a2.tmod 4 = 2) then brT [a0_0, a0_1, a0_2, a0_3, a0_4, a0_5, a0_6, a0_7, 0, 0, 0, 0, a0_12, a0_13, a0_14, a0_15] [a1_0, a1_1, a1_2, a1_3] [wi (2 * a1_0), wi (2 * a1_1), wi (2 * a1_2), wi (2 * a1_3)] a1_0 a1_1 a1_2 a1_3 (rowT a0_0 a0_1 a0_2 a0_3 a1_0 a1_1 a1_2 a1_3 (rowT a0_4 a0_5 a0_6 a0_7 a1_0 a1_1 a1_2 a1_3 (rowT 0 0 0 0 a1_0 a1_1 a1_2 a1_3 (rowT a0_12 a0_13 a0_14 a0_15 a1_0 a1_1 a1_2 a1_3 (some true))))) else bif decide (a2.tmod 4 = 3) then brT [a0_0, a0_1, a0_2, a0_3, a0_4, a0_5, a0_6, a0_7, a0_8, a0_9, a0_10, a0_11, 0, 0, 0, 0] [a1_0, a1_1, a1_2, a1_3] [wi (2 * a1_0), wi (2 * a1_1), wi (2 * a1_2), wi (2 * a1_3)] a1_0 a1_1 a1_2 a1_3 (rowT a0_0 a0_1 a0_2 a0_3 a1_0 a1_1 a1_2 a1_3 (rowT a0_4 a0_5 a0_6 a0_7 a1_0 a1_1 a1_2 a1_3 (rowT a0_8 a0_9 a0_10 a0_11 a1_0 a1_1 a1_2 a1_3 (rowT 0 0 0 0 a1_0 a1_1 a1_2 a1_3 (some true))))) else bif decide (a2.tmod 4 = -1) then brT [a0_0, a0_1, a0_2, a0_3, a0_4, a0_5, a0_6, a0_7, a0_8, a0_9, a0_10, a0_11, 0, 0, 0, 0] [a1_0, a1_1, a1_2, a1_3] [wi (2 * a1_0), wi (2 * a1_1), wi (2 * a1_2), wi (2 * a1_3)] a1_0 a1_1 a1_2 a1_3 (rowT a0_0 a0_1 a0_2 a0_3 a1_0 a1_1 a1_2 a1_3 (rowT a0_4 a0_5 a0_6 a0_7 a1_0 a1_1 a1_2 a1_3 (rowT a0_8 a0_9 a0_10 a0_11 a1_0 a1_1 a1_2 a1_3 (rowT 0 0 0 0 a1_0 a1_1 a1_2 a1_3 (some true))))) else bif decide (a2.tmod 4 = -2) then brT [a0_0, a0_1, a0_2, a0_3, a0_4, a0_5, a0_6, a0_7, 0, 0, 0, 0, a0_12, a0_13, a0_14, a0_15] [a1_0, a1_1, a1_2, a1_3] [wi (2 * a1_0), wi (2 * a1_1), wi (2 * a1_2), wi (2 * a1_3)] a1_0 a1_1 a1_2 a1_3 (rowT a0_0 a0_1 a0_2 a0_3 a1_0 a1_1 a1_2 a1_3 (rowT a0_4 a0_5 a0_6 a0_7 a1_0 a1_1 a1_2 a1_3 (rowT 0 0 0 0 a1_0 a1_1 a1_2 a1_3 (rowT a0_12 a0_13 a0_14 a0_15 a1_0 a1_1 a1_2 a1_3 (some true))))) else bif decide (a2.tmod 4 = -3) then brT [a0_0, a0_1, a0_2, a0_3, 0, 0, 0, 0, a0_8, a0_9, a0_10, a0_11, a0_12, a0_13, a0_14, a0_15] [a1_0, a1_1, a1_2, a1_3] [wi (2 * a1_0), wi (2 * a1_1), wi (2 * a1_2), wi (2 * a1_3)] a1_0 a1_1 a1_2 a1_3 (rowT a0_0 a0_1 a0_2 a0_3 a1_0 a1_1 a1_2 a1_3 (rowT 0 0 0 0 a1_0 a1_1 a1_2 a1_3 (rowT a0_8 a0_9 a0_10 a0_11 a1_0 a1_1 a1_2 a1_3 (rowT a0_12 a0_13 a0_14 a0_15 a1_0 a1_1 a1_2 a1_3 (some true))))) else none) := by kernel_rfl
  rw [e]
  clear e
  cases hm : mayL [a0_0, a0_1, a0_2, a0_3, a0_4, a0_5, a0_6, a0_7, a0_8, a0_9, a0_10, a0_11, a0_12, a0_13, a0_14, a0_15]
  · rfl
  rw [mayL_iff] at hm
  simp only [List.mem_cons, List.not_mem_nil, or_false, forall_eq_or_imp, forall_eq] at hm
  obtain ⟨q0, q1, q2, q3, q4, q5, q6, q7, q8, q9, q10, q11, q12, q13, q14, q15⟩ := hm
  show (bif decide (a1_0 < -134217728) then _ else _) = some true
  refine gd fun g1 => gd fun g2 => gd fun g3 => gd fun g4 => gd fun g5 => gd fun g6 => gd fun g7 => gd fun g8 => ?_
  have p0 : In27 a1_0 := ⟨by omega, by omega⟩
  have p1 : In27 a1_1 := ⟨by omega, by omega⟩
  have p2 : In27 a1_2 := ⟨by omega, by omega⟩
  have p3 : In27 a1_3 := ⟨by omega, by omega⟩
  have z0 : In20 0 := ⟨by omega, by omega⟩
  have ht := tm4 a2
  refine alt (brT_eq (may16 z0 z0 z0 z0 q4 q5 q6 q7 q8 q9 q10 q11 q12 q13 q14 q15) p0 p1 p2 p3 (by rw [rowT_eq z0 z0 z0 z0 p0 p1 p2 p3, rowT_eq q4 q5 q6 q7 p0 p1 p2 p3, rowT_eq q8 q9 q10 q11 p0 p1 p2 p3, rowT_eq q12 q13 q14 q15 p0 p1 p2 p3])) fun n0 => alt (brT_eq (may16 q0 q1 q2 q3 z0 z0 z0 z0 q8 q9 q10 q11 q12 q13 q14 q15) p0 p1 p2 p3 (by rw [rowT_eq q0 q1 q2 q3 p0 p1 p2 p3, rowT_eq z0 z0 z0 z0 p0 p1 p2 p3, rowT_eq q8 q9 q10 q11 p0 p1 p2 p3, rowT_eq q12 q13 q14 q15 p0 p1 p2 p3])) fun n1 => alt (brT_eq (may16 q0 q1 q2 q3 q4 q5 q6 q7 z0 z0 z0 z0 q12 q13 q14 q15) p0 p1 p2 p3 (by rw [rowT_eq q0 q1 q2 q3 p0 p1 p2 p3, rowT_eq q4 q5 q6 q7 p0 p1 p2 p3, rowT_eq z0 z0 z0 z0 p0 p1 p2 p3, rowT_eq q12 q13 q14 q15 p0 p1 p2 p3])) fun n2 => alt (brT_eq (may16 q0 q1 q2 q3 q4 q5 q6 q7 q8 q9 q10 q11 z0 z0 z0 z0) p0 p1 p2 p3 (by rw [rowT_eq q0 q1 q2 q3 p0 p1 p2 p3, rowT_eq q4 q5 q6 q7 p0 p1 p2 p3, rowT_eq q8 q9 q10 q11 p0 p1 p2 p3, rowT_eq z0 z0 z0 z0 p0 p1 p2 p3])) fun n3 => alt (brT_eq (may16 q0 q1 q2 q3 q4 q5 q6 q7 q8 q9 q10 q11 z0 z0 z0 z0) p0 p1 p2 p3 (by rw [rowT_eq q0 q1 q2 q3 p0 p1 p2 p3, rowT_eq q4 q5 q6 q7 p0 p1 p2 p3, rowT_eq q8 q9 q10 q11 p0 p1 p2 p3, rowT_eq z0 z0 z0 z0 p0 p1 p2 p3])) fun n4 => alt (brT_eq (may16 q0 q1 q2 q3 q4 q5 q6 q7 z0 z0 z0 z0 q12 q13 q14 q15) p0 p1 p2 p3 (by rw [rowT_eq q0 q1 q2 q3 p0 p1 p2 p3, rowT_eq q4 q5 q6 q7 p0 p1 p2 p3, rowT_eq z0 z0 z0 z0 p0 p1 p2 p3, rowT_eq q12 q13 q14 q15 p0 p1 p2 p3])) fun n5 => alt (brT_eq (may16 q0 q1 q2 q3 z0 z0 z0 z0 q8 q9 q10 q11 q12 q13 q14 q15) p0 p1 p2 p3 (by rw [rowT_eq q0 q1 q2 q3 p0 p1 p2 p3, rowT_eq z0 z0 z0 z0 p0 p1 p2 p3, rowT_eq q8 q9 q10 q11 p0 p1 p2 p3, rowT_eq q12 q13 q14 q15 p0 p1 p2 p3])) fun n6 => ?_
  omega

theorem walk (a0_0 : Int) (a0_1 : Int) (a0_2 : Int) (a0_3 : Int) (a0_4 : Int) (a0_5 : Int) (a0_6 : Int) (a0_7 : Int) (a0_8 : Int) (a0_9 : Int) (a0_10 : Int) (a0_11 : Int) (a0_12 : Int) (a0_13 : Int) (a0_14 : Int) (a0_15 : Int) (a1_0 : Int) (a1_1 : Int) (a1_2 : Int) (a1_3 : Int) (a2 : Int) (h_a0_0 : -9223372036854775808 ≤ a0_0 ∧ a0_0 ≤ 9223372036854775807) (h_a0_1 : -9223372036854775808 ≤ a0_1 ∧ a0_1 ≤ 9223372036854775807) (h_a0_2 : -9223372036854775808 ≤ a0_2 ∧ a0_2 ≤ 9223372036854775807) (h_a0_3 : -9223372036854775808 ≤ a0_3 ∧ a0_3 ≤ 9223372036854775807) (h_a0_4 : -9223372036854775808 ≤ a0_4 ∧ a0_4 ≤ 9223372036854775807) (h_a0_5 : -9223372036854775808 ≤ a0_5 ∧ a0_5 ≤ 9223372036854775807) (h_a0_6 : -9223372036854775808 ≤ a0_6 ∧ a0_6 ≤ 9223372036854775807) (h_a0_7 : -9223372036854775808 ≤ a0_7 ∧ a0_7 ≤ 9223372036854775807) (h_a0_8 : -9223372036854775808 ≤ a0_8 ∧ a0_8 ≤ 9223372036854775807) (h_a0_9 : -9223372036854775808 ≤ a0_9 ∧ a0_9 ≤ 9223372036854775807) (h_a0_10 : -9223372036854775808 ≤ a0_10 ∧ a0_10 ≤ 9223372036854775807) (h_a0_11 : -9223372036854775808 ≤ a0_11 ∧ a0_11 ≤ 9223372036854775807) (h_a0_12 : -9223372036854775808 ≤ a0_12 ∧ a0_12 ≤ 9223372036854775807) (h_a0_13 : -9223372036854775808 ≤ a0_13 ∧ a0_13 ≤ 9223372036854775807) (h_a0_14 : -9223372036854775808 ≤ a0_14 ∧ a0_14 ≤ 9223372036854775807) (h_a0_15 : -9223372036854775808 ≤ a0_15 ∧ a0_15 ≤ 9223372036854775807) (h_a1_0 : -9223372036854775808 ≤ a1_0 ∧ a1_0 ≤ 9223372036854775807) (h_a1_1 : -9223372036854775808 ≤ a1_1 ∧ a1_1 ≤ 9223372036854775807) (h_a1_2 : -9223372036854775808 ≤ a1_2 ∧ a1_2 ≤ 9223372036854775807) (h_a1_3 : -9223372036854775808 ≤ a1_3 ∧ a1_3 ≤ 9223372036854775807) (h_a2 : -9223372036854775808 ≤ a2 ∧ a2 ≤ 9223372036854775807) (w : World) :
    Calls Try.prog 6 #[.agg #[.int .i64 a0_0, .int .i64 a0_1, .int .i64 a0_2, .int .i64 a0_3, .int .i64 a0_4, .int .i64 a0_5, .int .i64 a0_6, .int .i64 a0_7, .int .i64 a0_8, .int .i64 a0_9, .int .i64 a0_10, .int .i64 a0_11, .int .i64 a0_12, .int .i64 a0_13, .int .i64 a0_14, .int .i64 a0_15], .agg #[.int .i64 a1_0, .int .i64 a1_1, .int .i64 a1_2, .int .i64 a1_3], .int .i64 a2] w fun e w' => e = .returned (.bool true) ∧ Below w.heap.size w w' := by
  have h := law_of cR_sound mixed entersF (bodyTrue a0_0 a0_1 a0_2 a0_3 a0_4 a0_5 a0_6 a0_7 a0_8 a0_9 a0_10 a0_11 a0_12 a0_13 a0_14 a0_15 a1_0 a1_1 a1_2 a1_3 a2 h_a0_0 h_a0_1 h_a0_2 h_a0_3 h_a0_4 h_a0_5 h_a0_6 h_a0_7 h_a0_8 h_a0_9 h_a0_10 h_a0_11 h_a0_12 h_a0_13 h_a0_14 h_a0_15 h_a1_0 h_a1_1 h_a1_2 h_a1_3 h_a2) (E := ⟨fun _ => 0, fun _ => undef⟩) (RepM.empty _ w) (by kernel_rfl) (by kernel_rfl)
  exact h

theorem walkV (W : World) (base : Nat) (v0 : Value) (v1 : Value) (v2 : Value) (hv0 : Value.okWide Try.prog W .any base 23 v0) (hv1 : Value.okWide Try.prog W .any base 25 v1) (hv2 : Value.okWide Try.prog W .any base 3 v2) : Calls Try.prog 6 #[v0, v1, v2] W fun e w' => e = .returned (.bool true) ∧ Below W.heap.size W w' := by
  obtain ⟨cs0, rfl, hl0, hc0⟩ := ok_agg (P := Try.prog) (t := 23) (ts := [3, 3, 3, 3, 3, 3, 3, 3, 3, 3, 3, 3, 3, 3, 3, 3]) (by kernel_rfl) (by kernel_rfl) (by kernel_rfl) hv0
  obtain ⟨c0_0, c0_1, c0_2, c0_3, c0_4, c0_5, c0_6, c0_7, c0_8, c0_9, c0_10, c0_11, c0_12, c0_13, c0_14, c0_15, rfl⟩ := list16 hl0
  obtain ⟨a0_0, rfl, b0_0, b0_0'⟩ := cell_int Try.underlying3 (hc0 0 3 _ rfl rfl)
  obtain ⟨a0_1, rfl, b0_1, b0_1'⟩ := cell_int Try.underlying3 (hc0 1 3 _ rfl rfl)
  obtain ⟨a0_2, rfl, b0_2, b0_2'⟩ := cell_int Try.underlying3 (hc0 2 3 _ rfl rfl)
  obtain ⟨a0_3, rfl, b0_3, b0_3'⟩ := cell_int Try.underlying3 (hc0 3 3 _ rfl rfl)
  obtain ⟨a0_4, rfl, b0_4, b0_4'⟩ := cell_int Try.underlying3 (hc0 4 3 _ rfl rfl)
  obtain ⟨a0_5, rfl, b0_5, b0_5'⟩ := cell_int Try.underlying3 (hc0 5 3 _ rfl rfl)
  obtain ⟨a0_6, rfl, b0_6, b0_6'⟩ := cell_int Try.underlying3 (hc0 6 3 _ rfl rfl)
  obtain ⟨a0_7, rfl, b0_7, b0_7'⟩ := cell_int Try.underlying3 (hc0 7 3 _ rfl rfl)
  obtain ⟨a0_8, rfl, b0_8, b0_8'⟩ := cell_int Try.underlying3 (hc0 8 3 _ rfl rfl)
  obtain ⟨a0_9, rfl, b0_9, b0_9'⟩ := cell_int Try.underlying3 (hc0 9 3 _ rfl rfl)
  obtain ⟨a0_10, rfl, b0_10, b0_10'⟩ := cell_int Try.underlying3 (hc0 10 3 _ rfl rfl)
  obtain ⟨a0_11, rfl, b0_11, b0_11'⟩ := cell_int Try.underlying3 (hc0 11 3 _ rfl rfl)
  obtain ⟨a0_12, rfl, b0_12, b0_12'⟩ := cell_int Try.underlying3 (hc0 12 3 _ rfl rfl)
  obtain ⟨a0_13, rfl, b0_13, b0_13'⟩ := cell_int Try.underlying3 (hc0 13 3 _ rfl rfl)
  obtain ⟨a0_14, rfl, b0_14, b0_14'⟩ := cell_int Try.underlying3 (hc0 14 3 _ rfl rfl)
  obtain ⟨a0_15, rfl, b0_15, b0_15'⟩ := cell_int Try.underlying3 (hc0 15 3 _ rfl rfl)
  obtain ⟨cs1, rfl, hl1, hc1⟩ := ok_agg (P := Try.prog) (t := 25) (ts := [3, 3, 3, 3]) (by kernel_rfl) (by kernel_rfl) (by kernel_rfl) hv1
  obtain ⟨c1_0, c1_1, c1_2, c1_3, rfl⟩ := list4 hl1
  obtain ⟨a1_0, rfl, b1_0, b1_0'⟩ := cell_int Try.underlying3 (hc1 0 3 _ rfl rfl)
  obtain ⟨a1_1, rfl, b1_1, b1_1'⟩ := cell_int Try.underlying3 (hc1 1 3 _ rfl rfl)
  obtain ⟨a1_2, rfl, b1_2, b1_2'⟩ := cell_int Try.underlying3 (hc1 2 3 _ rfl rfl)
  obtain ⟨a1_3, rfl, b1_3, b1_3'⟩ := cell_int Try.underlying3 (hc1 3 3 _ rfl rfl)
  obtain ⟨a2, rfl, b2, b2'⟩ := ok_int Try.underlying3 hv2
  exact walk a0_0 a0_1 a0_2 a0_3 a0_4 a0_5 a0_6 a0_7 a0_8 a0_9 a0_10 a0_11 a0_12 a0_13 a0_14 a0_15 a1_0 a1_1 a1_2 a1_3 a2 ⟨b0_0, b0_0'⟩ ⟨b0_1, b0_1'⟩ ⟨b0_2, b0_2'⟩ ⟨b0_3, b0_3'⟩ ⟨b0_4, b0_4'⟩ ⟨b0_5, b0_5'⟩ ⟨b0_6, b0_6'⟩ ⟨b0_7, b0_7'⟩ ⟨b0_8, b0_8'⟩ ⟨b0_9, b0_9'⟩ ⟨b0_10, b0_10'⟩ ⟨b0_11, b0_11'⟩ ⟨b0_12, b0_12'⟩ ⟨b0_13, b0_13'⟩ ⟨b0_14, b0_14'⟩ ⟨b0_15, b0_15'⟩ ⟨b1_0, b1_0'⟩ ⟨b1_1, b1_1'⟩ ⟨b1_2, b1_2'⟩ ⟨b1_3, b1_3'⟩ ⟨b2, b2'⟩ W

set_option maxRecDepth 100000 in
theorem lifted (os : Os) (started : os.Started) (H : Type) (enc : TypeId × Value → H) :
    ReturnsInHanded {} Try.checked os 6 .any (Rows.vecAddsSpec.pre6 enc Try.prog Try.f6 Rows.vecAddsRow.domain false) (Rows.vecAddsSpec.post enc Try.prog Try.f6 false true false false) := by
  refine returnsInHanded_of_change (C := Try.checked) own started (by kernel_rfl) Try.func6
    (ChangeSpec.witness6 (enc := enc) (C := Try.checked) false ⟨#[], #[.agg #[.int .i64 0, .int .i64 0, .int .i64 0, .int .i64 0, .int .i64 0, .int .i64 0, .int .i64 0, .int .i64 0, .int .i64 0, .int .i64 0, .int .i64 0, .int .i64 0, .int .i64 0, .int .i64 0, .int .i64 0, .int .i64 0], .agg #[.int .i64 0, .int .i64 0, .int .i64 0, .int .i64 0], .int .i64 0], []⟩ 8 (by kernel_rfl) (by kernel_rfl) (by kernel_rfl) (by kernel_rfl)) ?_
  intro W base args ds gs before hval0 hW _ _
  have hval : ∀ (j : Nat) t v, Try.f6.params[j]? = some t → args[j]? = some v → Value.okWide Try.prog W .any base t v := hval0
  have hW' := hW
  obtain ⟨p, q, hA0, _, rfl, _, _⟩ := hW
  have hA : DataW.TrodAll enc Try.prog W 0 (fun _ => true) true Try.f6.params.toList args.toList ds p := hA0
  rw [Try.params6] at hA hval
  obtain ⟨v0, vs0, d0, ds0, p0, q0, hargs, rfl, rfl, h0, r0⟩ := trodAll_cons hA
  obtain ⟨v1, vs1, d1, ds1, p1, q1, rfl, rfl, rfl, h1, r1⟩ := trodAll_cons r0
  obtain ⟨v2, vs2, d2, ds2, p2, q2, rfl, rfl, rfl, h2, r2⟩ := trodAll_cons r1
  obtain ⟨rfl, rfl, rfl⟩ := trodAll_nil r2
  obtain rfl : args = #[v0, v1, v2] := by cases args; simp_all
  refine (walkV W base v0 v1 v2 (hval 0 23 v0 rfl rfl) (hval 1 25 v1 rfl rfl) (hval 2 3 v2 rfl rfl)).mono fun e W' ⟨he, hb⟩ => ?_
  subst he
  exact ⟨_, rfl, law_post (tb := 4) hW' rfl rfl laid (by kernel_rfl) rfl Try.underlying4 hb⟩

theorem over : Rows.vecAddsRow.holds Try.pinned (OpenSpec.ofChange Rows.vecAddsSpec) :=
  OpenClaim.holds_of_wide 6 Try.f6 rfl rfl rfl rfl rfl rfl rfl ⟨rfl, rfl, rfl, rfl, rfl⟩ rfl rfl rfl rfl rfl (by kernel_rfl) Try.func6 (by kernel_rfl)
    (of_decide_eq_true (by kernel_rfl)) (by unfold Func.isWrapper; first | (rw [if_pos (by decide +kernel)]; kernel_rfl) | (rw [if_neg (by decide +kernel)]; exact ⟨rfl, rfl⟩))
    (fun os started H enc _ => lifted os started H enc)

theorem proved : Rows.VecAddsSaid := over
end Go.Proofs.Ytcfdnilakjgeoaa.vecAdds

