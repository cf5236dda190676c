import Derived.Test.YtplfijdonikaoaaL25O
import Derived.Test.YtplfijdonikaoaaScrG
set_option linter.unusedVariables false
set_option linter.unusedSimpArgs false
namespace Go.Proofs.Ytplfijdonikaoaa.screenFlat
open Go Go.Sx Go.ChangeShapes Go.WideShapes Go.ChangeAt Go.RowKit

theorem own : ownKnob Try.prog.godebug = none := by kernel_rfl
theorem mixed : Try.prog.follows .mixedOrders = true := by kernel_rfl
theorem laid : laidOutB Try.prog = true := by kernel_rfl
theorem entersF : Enters Try.prog 6 Try.f6 := ⟨Try.func6, by kernel_rfl, by kernel_rfl⟩

theorem list6 {l : List Value} (h : l.length = 6) : ∃ x0 x1 x2 x3 x4 x5, l = [x0, x1, x2, x3, x4, x5] := by
  match l, h with
  | [x0, x1, x2, x3, x4, x5], _ => exact ⟨x0, x1, x2, x3, x4, x5, rfl⟩

open Go.Fx
theorem bodyTrue (a0_0 : Int) (a0_1 : Int) (a0_2 : Int) (a0_3 : Int) (a0_4 : Int) (a0_5 : Int) (a1 : Int) (a2 : Int) (h_a0_0 : -9223372036854775808 ≤ a0_0 ∧ a0_0 ≤ 9223372036854775807) (h_a0_1 : -9223372036854775808 ≤ a0_1 ∧ a0_1 ≤ 9223372036854775807) (h_a0_2 : -9223372036854775808 ≤ a0_2 ∧ a0_2 ≤ 9223372036854775807) (h_a0_3 : -9223372036854775808 ≤ a0_3 ∧ a0_3 ≤ 9223372036854775807) (h_a0_4 : -9223372036854775808 ≤ a0_4 ∧ a0_4 ≤ 9223372036854775807) (h_a0_5 : -9223372036854775808 ≤ a0_5 ∧ a0_5 ≤ 9223372036854775807) (h_a1 : -9223372036854775808 ≤ a1 ∧ a1 ≤ 9223372036854775807) (h_a2 : -9223372036854775808 ≤ a2 ∧ a2 ≤ 9223372036854775807) :
    bodyK cO1 Try.prog 9 Try.f6 [.agg [.lit (.int .i64 a0_0), .lit (.int .i64 a0_1), .lit (.int .i64 a0_2), .lit (.int .i64 a0_3), .lit (.int .i64 a0_4), .lit (.int .i64 a0_5)], .lit (.int .i64 a1), .lit (.int .i64 a2)] Sx.empty boolOf = some true := by
  have e : bodyK cO1 Try.prog 9 Try.f6 [.agg [.lit (.int .i64 a0_0), .lit (.int .i64 a0_1), .lit (.int .i64 a0_2), .lit (.int .i64 a0_3), .lit (.int .i64 a0_4), .lit (.int .i64 a0_5)], .lit (.int .i64 a1), .lit (.int .i64 a2)] Sx.empty boolOf =
    (bif (((decide (a1 < 1) || decide (a1 > 32)) || decide (a2 < 1)) || decide (a2 > 32)) then some true else
     bif (((decide (a0_0 < -128) || decide (a0_0 > 128)) || decide (a0_1 < -128)) || decide (a0_1 > 128)) then some true else bif (((decide (a0_2 < -128) || decide (a0_2 > 128)) || decide (a0_3 < -128)) || decide (a0_3 > 128)) then some true else bif (((decide (a0_4 < -128) || decide (a0_4 > 128)) || decide (a0_5 < -128)) || decide (a0_5 > 128)) then some true else
     bif (plE (szB a1 a2 && mayL oneL) (corn3 (wi (512 * a0_0)) (wi (512 * a0_1)) 0 65536 0 7 (wi (512 * a0_2)) (wi (512 * a0_3)) 0 65536 1 7 (wi (512 * a0_4)) (wi (512 * a0_5)) 0 65536 2 7) != 0 || ((plR (szB a1 a2 && mayL oneL) (corn3 (wi (512 * a0_0)) (wi (512 * a0_1)) 0 65536 0 7 (wi (512 * a0_2)) (wi (512 * a0_3)) 0 65536 1 7 (wi (512 * a0_4)) (wi (512 * a0_5)) 0 65536 2 7) (plT oneL (wi (512 * a0_0)) (wi (512 * a0_1)) 0 65536 0 7 (wi (512 * a0_2)) (wi (512 * a0_3)) 0 65536 1 7 (wi (512 * a0_4)) (wi (512 * a0_5)) 0 65536 2 7) a1 a2).length : Int) != 1) then some false else (if (0 : Int) ≤ 0 ∧ (0 : Int) < ((plR (szB a1 a2 && mayL oneL) (corn3 (wi (512 * a0_0)) (wi (512 * a0_1)) 0 65536 0 7 (wi (512 * a0_2)) (wi (512 * a0_3)) 0 65536 1 7 (wi (512 * a0_4)) (wi (512 * a0_5)) 0 65536 2 7) (plT oneL (wi (512 * a0_0)) (wi (512 * a0_1)) 0 65536 0 7 (wi (512 * a0_2)) (wi (512 * a0_3)) 0 65536 1 7 (wi (512 * a0_4)) (wi (512 * a0_5)) 0 65536 2 7) a1 a2).length : Int) then (if 0 < (plR (szB a1 a2 && mayL oneL) (corn3 (wi (512 * a0_0)) (wi (512 * a0_1)) 0 65536 0 7 (wi (512 * a0_2)) (wi (512 * a0_3)) 0 65536 1 7 (wi (512 * a0_4)) (wi (512 * a0_5)) 0 65536 2 7) (plT oneL (wi (512 * a0_0)) (wi (512 * a0_1)) 0 65536 0 7 (wi (512 * a0_2)) (wi (512 * a0_3)) 0 65536 1 7 (wi (512 * a0_4)) (wi (512 * a0_5)) 0 65536 2 7) a1 a2).length then (bif !(vI ((plR (szB a1 a2 && mayL oneL) (corn3 (wi (512 * a0_0)) (wi (512 * a0_1)) 0 65536 0 7 (wi (512 * a0_2)) (wi (512 * a0_3)) 0 65536 1 7 (wi (512 * a0_4)) (wi (512 * a0_5)) 0 65536 2 7) (plT oneL (wi (512 * a0_0)) (wi (512 * a0_1)) 0 65536 0 7 (wi (512 * a0_2)) (wi (512 * a0_3)) 0 65536 1 7 (wi (512 * a0_4)) (wi (512 * a0_5)) 0 65536 2 7) a1 a2).getD (Int.toNat 0) .bad) 0 == wi (a1 * wi (128 + a0_0)) && (vI ((plR (szB a1 a2 && mayL oneL) (corn3 (wi (512 * a0_0)) (wi (512 * a0_1)) 0 65536 0 7 (wi (512 * a0_2)) (wi (512 * a0_3)) 0 65536 1 7 (wi (512 * a0_4)) (wi (512 * a0_5)) 0 65536 2 7) (plT oneL (wi (512 * a0_0)) (wi (512 * a0_1)) 0 65536 0 7 (wi (512 * a0_2)) (wi (512 * a0_3)) 0 65536 1 7 (wi (512 * a0_4)) (wi (512 * a0_5)) 0 65536 2 7) a1 a2).getD (Int.toNat 0) .bad) 1 == wi (a2 * wi (128 - a0_1)) && (vI ((plR (szB a1 a2 && mayL oneL) (corn3 (wi (512 * a0_0)) (wi (512 * a0_1)) 0 65536 0 7 (wi (512 * a0_2)) (wi (512 * a0_3)) 0 65536 1 7 (wi (512 * a0_4)) (wi (512 * a0_5)) 0 65536 2 7) (plT oneL (wi (512 * a0_0)) (wi (512 * a0_1)) 0 65536 0 7 (wi (512 * a0_2)) (wi (512 * a0_3)) 0 65536 1 7 (wi (512 * a0_4)) (wi (512 * a0_5)) 0 65536 2 7) a1 a2).getD (Int.toNat 0) .bad) 2 == 32767 && (vI ((plR (szB a1 a2 && mayL oneL) (corn3 (wi (512 * a0_0)) (wi (512 * a0_1)) 0 65536 0 7 (wi (512 * a0_2)) (wi (512 * a0_3)) 0 65536 1 7 (wi (512 * a0_4)) (wi (512 * a0_5)) 0 65536 2 7) (plT oneL (wi (512 * a0_0)) (wi (512 * a0_1)) 0 65536 0 7 (wi (512 * a0_2)) (wi (512 * a0_3)) 0 65536 1 7 (wi (512 * a0_4)) (wi (512 * a0_5)) 0 65536 2 7) a1 a2).getD (Int.toNat 0) .bad) 3 == 65536 && (vI ((plR (szB a1 a2 && mayL oneL) (corn3 (wi (512 * a0_0)) (wi (512 * a0_1)) 0 65536 0 7 (wi (512 * a0_2)) (wi (512 * a0_3)) 0 65536 1 7 (wi (512 * a0_4)) (wi (512 * a0_5)) 0 65536 2 7) (plT oneL (wi (512 * a0_0)) (wi (512 * a0_1)) 0 65536 0 7 (wi (512 * a0_2)) (wi (512 * a0_3)) 0 65536 1 7 (wi (512 * a0_4)) (wi (512 * a0_5)) 0 65536 2 7) a1 a2).getD (Int.toNat 0) .bad) 4 == 0 && (vI ((plR (szB a1 a2 && mayL oneL) (corn3 (wi (512 * a0_0)) (wi (512 * a0_1)) 0 65536 0 7 (wi (512 * a0_2)) (wi (512 * a0_3)) 0 65536 1 7 (wi (512 * a0_4)) (wi (512 * a0_5)) 0 65536 2 7) (plT oneL (wi (512 * a0_0)) (wi (512 * a0_1)) 0 65536 0 7 (wi (512 * a0_2)) (wi (512 * a0_3)) 0 65536 1 7 (wi (512 * a0_4)) (wi (512 * a0_5)) 0 65536 2 7) a1 a2).getD (Int.toNat 0) .bad) 5 == 7 && true)))))) then some false else (if (0 : Int) ≤ 0 ∧ (0 : Int) < ((plR (szB a1 a2 && mayL oneL) (corn3 (wi (512 * a0_0)) (wi (512 * a0_1)) 0 65536 0 7 (wi (512 * a0_2)) (wi (512 * a0_3)) 0 65536 1 7 (wi (512 * a0_4)) (wi (512 * a0_5)) 0 65536 2 7) (plT oneL (wi (512 * a0_0)) (wi (512 * a0_1)) 0 65536 0 7 (wi (512 * a0_2)) (wi (512 * a0_3)) 0 65536 1 7 (wi (512 * a0_4)) (wi (512 * a0_5)) 0 65536 2 7) a1 a2).length : Int) then (if 0 < (plR (szB a1 a2 && mayL oneL) (corn3 (wi (512 * a0_0)) (wi (512 * a0_1)) 0 65536 0 7 (wi (512 * a0_2)) (wi (512 * a0_3)) 0 65536 1 7 (wi (512 * a0_4)) (wi (512 * a0_5)) 0 65536 2 7) (plT oneL (wi (512 * a0_0)) (wi (512 * a0_1)) 0 65536 0 7 (wi (512 * a0_2)) (wi (512 * a0_3)) 0 65536 1 7 (wi (512 * a0_4)) (wi (512 * a0_5)) 0 65536 2 7) a1 a2).length then (bif !(vI ((plR (szB a1 a2 && mayL oneL) (corn3 (wi (512 * a0_0)) (wi (512 * a0_1)) 0 65536 0 7 (wi (512 * a0_2)) (wi (512 * a0_3)) 0 65536 1 7 (wi (512 * a0_4)) (wi (512 * a0_5)) 0 65536 2 7) (plT oneL (wi (512 * a0_0)) (wi (512 * a0_1)) 0 65536 0 7 (wi (512 * a0_2)) (wi (512 * a0_3)) 0 65536 1 7 (wi (512 * a0_4)) (wi (512 * a0_5)) 0 65536 2 7) a1 a2).getD (Int.toNat 0) .bad) 6 == wi (a1 * wi (128 + a0_2)) && (vI ((plR (szB a1 a2 && mayL oneL) (corn3 (wi (512 * a0_0)) (wi (512 * a0_1)) 0 65536 0 7 (wi (512 * a0_2)) (wi (512 * a0_3)) 0 65536 1 7 (wi (512 * a0_4)) (wi (512 * a0_5)) 0 65536 2 7) (plT oneL (wi (512 * a0_0)) (wi (512 * a0_1)) 0 65536 0 7 (wi (512 * a0_2)) (wi (512 * a0_3)) 0 65536 1 7 (wi (512 * a0_4)) (wi (512 * a0_5)) 0 65536 2 7) a1 a2).getD (Int.toNat 0) .bad) 7 == wi (a2 * wi (128 - a0_3)) && (vI ((plR (szB a1 a2 && mayL oneL) (corn3 (wi (512 * a0_0)) (wi (512 * a0_1)) 0 65536 0 7 (wi (512 * a0_2)) (wi (512 * a0_3)) 0 65536 1 7 (wi (512 * a0_4)) (wi (512 * a0_5)) 0 65536 2 7) (plT oneL (wi (512 * a0_0)) (wi (512 * a0_1)) 0 65536 0 7 (wi (512 * a0_2)) (wi (512 * a0_3)) 0 65536 1 7 (wi (512 * a0_4)) (wi (512 * a0_5)) 0 65536 2 7) a1 a2).getD (Int.toNat 0) .bad) 8 == 32767 && (vI ((plR (szB a1 a2 && mayL oneL) (corn3 (wi (512 * a0_0)) (wi (512 * a0_1)) 0 65536 0 7 (wi (512 * a0_2)) (wi (512 * a0_3)) 0 65536 1 7 (wi (512 * a0_4)) (wi (512 * a0_5)) 0 65536 2 7) (plT oneL (wi (512 * a0_0)) (wi (512 * a0_1)) 0 65536 0 7 (wi (512 * a0_2)) (wi (512 * a0_3)) 0 65536 1 7 (wi (512 * a0_4)) (wi (512 * a0_5)) 0 65536 2 7) a1 a2).getD (Int.toNat 0) .bad) 9 == 65536 && (vI ((plR (szB a1 a2 && mayL oneL) (corn3 (wi (512 * a0_0)) (wi (512 * a0_1)) 0 65536 0 7 (wi (512 * a0_2)) (wi (512 * a0_3)) 0 65536 1 7 (wi (512 * a0_4)) (wi (512 * a0_5)) 0 65536 2 7) (plT oneL (wi (512 * a0_0)) (wi (512 * a0_1)) 0 65536 0 7 (wi (512 * a0_2)) (wi (512 * a0_3)) 0 65536 1 7 (wi (512 * a0_4)) (wi (512 * a0_5)) 0 65536 2 7) a1 a2).getD (Int.toNat 0) .bad) 10 == 1 && (vI ((plR (szB a1 a2 && mayL oneL) (corn3 (wi (512 * a0_0)) (wi (512 * a0_1)) 0 65536 0 7 (wi (512 * a0_2)) (wi (512 * a0_3)) 0 65536 1 7 (wi (512 * a0_4)) (wi (512 * a0_5)) 0 65536 2 7) (plT oneL (wi (512 * a0_0)) (wi (512 * a0_1)) 0 65536 0 7 (wi (512 * a0_2)) (wi (512 * a0_3)) 0 65536 1 7 (wi (512 * a0_4)) (wi (512 * a0_5)) 0 65536 2 7) a1 a2).getD (Int.toNat 0) .bad) 11 == 7 && true)))))) then some false else (if (0 : Int) ≤ 0 ∧ (0 : Int) < ((plR (szB a1 a2 && mayL oneL) (corn3 (wi (512 * a0_0)) (wi (512 * a0_1)) 0 65536 0 7 (wi (512 * a0_2)) (wi (512 * a0_3)) 0 65536 1 7 (wi (512 * a0_4)) (wi (512 * a0_5)) 0 65536 2 7) (plT oneL (wi (512 * a0_0)) (wi (512 * a0_1)) 0 65536 0 7 (wi (512 * a0_2)) (wi (512 * a0_3)) 0 65536 1 7 (wi (512 * a0_4)) (wi (512 * a0_5)) 0 65536 2 7) a1 a2).length : Int) then (if 0 < (plR (szB a1 a2 && mayL oneL) (corn3 (wi (512 * a0_0)) (wi (512 * a0_1)) 0 65536 0 7 (wi (512 * a0_2)) (wi (512 * a0_3)) 0 65536 1 7 (wi (512 * a0_4)) (wi (512 * a0_5)) 0 65536 2 7) (plT oneL (wi (512 * a0_0)) (wi (512 * a0_1)) 0 65536 0 7 (wi (512 * a0_2)) (wi (512 * a0_3)) 0 65536 1 7 (wi (512 * a0_4)) (wi (512 * a0_5)) 0 65536 2 7) a1 a2).length then (bif !(vI ((plR (szB a1 a2 && mayL oneL) (corn3 (wi (512 * a0_0)) (wi (512 * a0_1)) 0 65536 0 7 (wi (512 * a0_2)) (wi (512 * a0_3)) 0 65536 1 7 (wi (512 * a0_4)) (wi (512 * a0_5)) 0 65536 2 7) (plT oneL (wi (512 * a0_0)) (wi (512 * a0_1)) 0 65536 0 7 (wi (512 * a0_2)) (wi (512 * a0_3)) 0 65536 1 7 (wi (512 * a0_4)) (wi (512 * a0_5)) 0 65536 2 7) a1 a2).getD (Int.toNat 0) .bad) 12 == wi (a1 * wi (128 + a0_4)) && (vI ((plR (szB a1 a2 && mayL oneL) (corn3 (wi (512 * a0_0)) (wi (512 * a0_1)) 0 65536 0 7 (wi (512 * a0_2)) (wi (512 * a0_3)) 0 65536 1 7 (wi (512 * a0_4)) (wi (512 * a0_5)) 0 65536 2 7) (plT oneL (wi (512 * a0_0)) (wi (512 * a0_1)) 0 65536 0 7 (wi (512 * a0_2)) (wi (512 * a0_3)) 0 65536 1 7 (wi (512 * a0_4)) (wi (512 * a0_5)) 0 65536 2 7) a1 a2).getD (Int.toNat 0) .bad) 13 == wi (a2 * wi (128 - a0_5)) && (vI ((plR (szB a1 a2 && mayL oneL) (corn3 (wi (512 * a0_0)) (wi (512 * a0_1)) 0 65536 0 7 (wi (512 * a0_2)) (wi (512 * a0_3)) 0 65536 1 7 (wi (512 * a0_4)) (wi (512 * a0_5)) 0 65536 2 7) (plT oneL (wi (512 * a0_0)) (wi (512 * a0_1)) 0 65536 0 7 (wi (512 * a0_2)) (wi (512 * a0_3)) 0 65536 1 7 (wi (512 * a0_4)) (wi (512 * a0_5)) 0 65536 2 7) a1 a2).getD (Int.toNat 0) .bad) 14 == 32767 && (vI ((plR (szB a1 a2 && mayL oneL) (corn3 (wi (512 * a0_0)) (wi (512 * a0_1)) 0 65536 0 7 (wi (512 * a0_2)) (wi (512 * a0_3)) 0 65536 1 7 (wi (512 * a0_4)) (wi (512 * a0_5)) 0 65536 2 7) (plT oneL (wi (512 * a0_0)) (wi (512 * a0_1)) 0 65536 0 7 (wi (512 * a0_2)) (wi (512 * a0_3)) 0 65536 1 7 (wi (512 * a0_4)) (wi (512 * a0_5)) 0 65536 2 7) a1 a2).getD (Int.toNat 0) .bad) 15 == 65536 && (vI ((plR (szB a1 a2 && mayL oneL) (corn3 (wi (512 * a0_0)) (wi (512 * a0_1)) 0 65536 0 7 (wi (512 * a0_2)) (wi (512 * a0_3)) 0 65536 1 7 (wi (512 * a0_4)) (wi (512 * a0_5)) 0 65536 2 7) (plT oneL (wi (512 * a0_0)) (wi (512 * a0_1)) 0 65536 0 7 (wi (512 * a0_2)) (wi (512 * a0_3)) 0 65536 1 7 (wi (512 * a0_4)) (wi (512 * a0_5)) 0 65536 2 7) a1 a2).getD (Int.toNat 0) .bad) 16 == 2 && (vI ((plR (szB a1 a2 && mayL oneL) (corn3 (wi (512 * a0_0)) (wi (512 * a0_1)) 0 65536 0 7 (wi (512 * a0_2)) (wi (512 * a0_3)) 0 65536 1 7 (wi (512 * a0_4)) (wi (512 * a0_5)) 0 65536 2 7) (plT oneL (wi (512 * a0_0)) (wi (512 * a0_1)) 0 65536 0 7 (wi (512 * a0_2)) (wi (512 * a0_3)) 0 65536 1 7 (wi (512 * a0_4)) (wi (512 * a0_5)) 0 65536 2 7) a1 a2).getD (Int.toNat 0) .bad) 17 == 7 && true)))))) then some false else some true) else none) else none)) else none) else none)) else none) else none)) := by kernel_rfl
  rw [e]
  clear e
  cases hg : (((decide (a1 < 1) || decide (a1 > 32)) || decide (a2 < 1)) || decide (a2 > 32))
  case true => rfl
  cases h0 : (((decide (a0_0 < -128) || decide (a0_0 > 128)) || decide (a0_1 < -128)) || decide (a0_1 > 128))
  case true => rfl
  cases h1 : (((decide (a0_2 < -128) || decide (a0_2 > 128)) || decide (a0_3 < -128)) || decide (a0_3 > 128))
  case true => rfl
  cases h2 : (((decide (a0_4 < -128) || decide (a0_4 > 128)) || decide (a0_5 < -128)) || decide (a0_5 > 128))
  case true => rfl
  simp only [Bool.or_eq_false_iff, decide_eq_false_iff_not] at hg h0 h1 h2
  obtain ⟨⟨⟨w0, w1⟩, w2⟩, w3⟩ := hg
  obtain ⟨⟨⟨p0, p1⟩, q0⟩, q1⟩ := h0
  obtain ⟨⟨⟨r0, r1⟩, s0⟩, s1⟩ := h1
  obtain ⟨⟨⟨t0, t1⟩, u0⟩, u1⟩ := h2
  have hs : szB a1 a2 = true := szB_iff.2 ⟨by omega, by omega, by omega, by omega⟩
  obtain ⟨hc, hR⟩ := flat_R (p0 := a0_0) (q0 := a0_1) (p1 := a0_2) (q1 := a0_3) (p2 := a0_4) (q2 := a0_5) (by omega) (by omega) (by omega) (by omega) (by omega) (by omega) hs
  rw [wi_id (n := 512 * a0_0) (by omega) (by omega), wi_id (n := 512 * a0_1) (by omega) (by omega), wi_id (n := 512 * a0_2) (by omega) (by omega), wi_id (n := 512 * a0_3) (by omega) (by omega), wi_id (n := 512 * a0_4) (by omega) (by omega), wi_id (n := 512 * a0_5) (by omega) (by omega)]
  rw [hs, may_one, hc]
  have eR : ∀ T, plR (true && true) true T a1 a2 = trA (polX T) a1 a2 := fun T => rfl
  have eE : plE (true && true) true = 0 := rfl
  rw [eR, eE, hR]
  have mb : ∀ n m : Int, 1 ≤ n → n ≤ 32 → 0 ≤ m → m ≤ 256 → wi (n * m) = n * m := fun n m a b c d => by
    obtain ⟨x, y⟩ := mul_bd (A := 32) (B := 256) (show 0 ≤ n by omega) b c d
    exact wi_id (by omega) (by omega)
  rw [wi_id (n := 128 + a0_0) (by omega) (by omega), wi_id (n := 128 - a0_1) (by omega) (by omega), wi_id (n := 128 + a0_2) (by omega) (by omega), wi_id (n := 128 - a0_3) (by omega) (by omega), wi_id (n := 128 + a0_4) (by omega) (by omega), wi_id (n := 128 - a0_5) (by omega) (by omega)]
  rw [mb a1 (128 + a0_0) (by omega) (by omega) (by omega) (by omega), mb a2 (128 - a0_1) (by omega) (by omega) (by omega) (by omega), mb a1 (128 + a0_2) (by omega) (by omega) (by omega) (by omega), mb a2 (128 - a0_3) (by omega) (by omega) (by omega) (by omega), mb a1 (128 + a0_4) (by omega) (by omega) (by omega) (by omega), mb a2 (128 - a0_5) (by omega) (by omega) (by omega) (by omega)]
  simp only [List.length_cons, List.length_nil]
  simp [vI, AV.cellD, AV.getInt]

theorem walk (a0_0 : Int) (a0_1 : Int) (a0_2 : Int) (a0_3 : Int) (a0_4 : Int) (a0_5 : Int) (a1 : Int) (a2 : Int) (h_a0_0 : -9223372036854775808 ≤ a0_0 ∧ a0_0 ≤ 9223372036854775807) (h_a0_1 : -9223372036854775808 ≤ a0_1 ∧ a0_1 ≤ 9223372036854775807) (h_a0_2 : -9223372036854775808 ≤ a0_2 ∧ a0_2 ≤ 9223372036854775807) (h_a0_3 : -9223372036854775808 ≤ a0_3 ∧ a0_3 ≤ 9223372036854775807) (h_a0_4 : -9223372036854775808 ≤ a0_4 ∧ a0_4 ≤ 9223372036854775807) (h_a0_5 : -9223372036854775808 ≤ a0_5 ∧ a0_5 ≤ 9223372036854775807) (h_a1 : -9223372036854775808 ≤ a1 ∧ a1 ≤ 9223372036854775807) (h_a2 : -9223372036854775808 ≤ a2 ∧ a2 ≤ 9223372036854775807)  (w : World)  :
    Calls Try.prog 6 #[.agg #[.int .i64 a0_0, .int .i64 a0_1, .int .i64 a0_2, .int .i64 a0_3, .int .i64 a0_4, .int .i64 a0_5], .int .i64 a1, .int .i64 a2] w fun e w' => e = .returned (.bool true) ∧ Below w.heap.size w w' := by
  have h := law_of cO1_sound mixed entersF (bodyTrue a0_0 a0_1 a0_2 a0_3 a0_4 a0_5 a1 a2 h_a0_0 h_a0_1 h_a0_2 h_a0_3 h_a0_4 h_a0_5 h_a1 h_a2) (E := ⟨fun _ => 0, fun _ => undef⟩) (w := w) (RepM.empty ⟨fun _ => 0, fun _ => undef⟩ w) (by kernel_rfl) (by kernel_rfl)
  exact h

theorem walkV (W : World) (base : Nat) (v0 : Value) (v1 : Value) (v2 : Value) (hv0 : Value.okWide Try.prog W .any base 49 v0) (hv1 : Value.okWide Try.prog W .any base 3 v1) (hv2 : Value.okWide Try.prog W .any base 3 v2)  : Calls Try.prog 6 #[v0, v1, v2] W fun e w' => e = .returned (.bool true) ∧ Below W.heap.size W w' := by
  obtain ⟨cs0, rfl, hl0, hc0⟩ := ok_agg (P := Try.prog) (t := 49) (ts := [3, 3, 3, 3, 3, 3]) (by kernel_rfl) (by kernel_rfl) (by kernel_rfl) hv0
  obtain ⟨c0_0, c0_1, c0_2, c0_3, c0_4, c0_5, rfl⟩ := list6 hl0
  obtain ⟨a0_0, rfl, b0_0, b0_0'⟩ := cell_int Try.underlying3 (hc0 0 3 _ rfl rfl)
  obtain ⟨a0_1, rfl, b0_1, b0_1'⟩ := cell_int Try.underlying3 (hc0 1 3 _ rfl rfl)
  obtain ⟨a0_2, rfl, b0_2, b0_2'⟩ := cell_int Try.underlying3 (hc0 2 3 _ rfl rfl)
  obtain ⟨a0_3, rfl, b0_3, b0_3'⟩ := cell_int Try.underlying3 (hc0 3 3 _ rfl rfl)
  obtain ⟨a0_4, rfl, b0_4, b0_4'⟩ := cell_int Try.underlying3 (hc0 4 3 _ rfl rfl)
  obtain ⟨a0_5, rfl, b0_5, b0_5'⟩ := cell_int Try.underlying3 (hc0 5 3 _ rfl rfl)
  obtain ⟨a1, rfl, b1, b1'⟩ := ok_int Try.underlying3 hv1
  obtain ⟨a2, rfl, b2, b2'⟩ := ok_int Try.underlying3 hv2
  exact walk a0_0 a0_1 a0_2 a0_3 a0_4 a0_5 a1 a2 ⟨b0_0, b0_0'⟩ ⟨b0_1, b0_1'⟩ ⟨b0_2, b0_2'⟩ ⟨b0_3, b0_3'⟩ ⟨b0_4, b0_4'⟩ ⟨b0_5, b0_5'⟩ ⟨b1, b1'⟩ ⟨b2, b2'⟩  W 

set_option maxRecDepth 100000 in
theorem lifted (os : Os) (started : os.Started) (H : Type) (enc : TypeId × Value → H) :
    ReturnsInHanded {} Try.checked os 6 .any (Rows.screenFlatSpec.pre6 enc Try.prog Try.f6 Rows.screenFlatRow.domain false) (Rows.screenFlatSpec.post enc Try.prog Try.f6 false true false false) := by
  refine returnsInHanded_of_change (C := Try.checked) own started (by kernel_rfl) Try.func6
    (ChangeSpec.witness6 (enc := enc) (C := Try.checked) false ⟨#[], #[.agg #[.int .i64 0, .int .i64 0, .int .i64 0, .int .i64 0, .int .i64 0, .int .i64 0], .int .i64 0, .int .i64 0], []⟩ 8 (by kernel_rfl) (by kernel_rfl) (by kernel_rfl) (by kernel_rfl)) ?_
  intro W base args ds gs before hval0 hW _ _
  have hval : ∀ (j : Nat) t v, Try.f6.params[j]? = some t → args[j]? = some v → Value.okWide Try.prog W .any base t v := hval0
  have hW' := hW
  obtain ⟨p, q, hA0, _, rfl, _, _⟩ := hW
  have hA : DataW.TrodAll enc Try.prog W 0 (fun _ => true) true Try.f6.params.toList args.toList ds p := hA0
  rw [Try.params6] at hA hval
  obtain ⟨v0, vs0, d0, ds0, p0, q0, hargs, rfl, rfl, h0, r0⟩ := trodAll_cons hA
  obtain ⟨v1, vs1, d1, ds1, p1, q1, rfl, rfl, rfl, h1, r1⟩ := trodAll_cons r0
  obtain ⟨v2, vs2, d2, ds2, p2, q2, rfl, rfl, rfl, h2, r2⟩ := trodAll_cons r1
  obtain ⟨rfl, rfl, rfl⟩ := trodAll_nil r2
  obtain rfl : args = #[v0, v1, v2] := by cases args; simp_all
  refine (walkV W base v0 v1 v2 (hval 0 49 v0 rfl rfl) (hval 1 3 v1 rfl rfl) (hval 2 3 v2 rfl rfl) ).mono fun e W' ⟨he, hb⟩ => ?_
  subst he
  exact ⟨_, rfl, law_post (tb := 4) hW' rfl rfl laid (by kernel_rfl) rfl Try.underlying4 hb⟩

theorem over : Rows.screenFlatRow.holds Try.pinned (OpenSpec.ofChange Rows.screenFlatSpec) :=
  OpenClaim.holds_of_wide 6 Try.f6 rfl rfl rfl rfl rfl rfl rfl ⟨rfl, rfl, rfl, rfl, rfl⟩ rfl rfl rfl rfl rfl (by kernel_rfl) Try.func6 (by kernel_rfl)
    (of_decide_eq_true (by kernel_rfl)) (by unfold Func.isWrapper; first | (rw [if_pos (by decide +kernel)]; kernel_rfl) | (rw [if_neg (by decide +kernel)]; exact ⟨rfl, rfl⟩))
    (fun os started H enc _ => lifted os started H enc)

theorem proved : Rows.ScreenFlatSaid := over
end Go.Proofs.Ytplfijdonikaoaa.screenFlat

