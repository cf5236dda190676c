import Derived.Test.YtemhaijcebjhhaaL24Z
import Derived.Test.YtemhaijcebjhhaaClipG
import Derived.Test.YtemhaijcebjhhaaSxAr
set_option linter.unusedVariables false
set_option linter.unusedSimpArgs false
namespace Go.Proofs.Ytemhaijcebjhhaa.clipKeeps
open Go Go.Sx Go.ChangeShapes Go.WideShapes Go.ChangeAt Go.RowKit

theorem own : ownKnob Try.prog.godebug = none := by kernel_rfl
theorem mixed : Try.prog.follows .mixedOrders = true := by kernel_rfl
theorem laid : laidOutB Try.prog = true := by kernel_rfl
theorem entersF : Enters Try.prog 4 Try.f4 := ⟨Try.func4, by kernel_rfl, by kernel_rfl⟩

theorem list18 {l : List Value} (h : l.length = 18) : ∃ x0 x1 x2 x3 x4 x5 x6 x7 x8 x9 x10 x11 x12 x13 x14 x15 x16 x17, l = [x0, x1, x2, x3, x4, x5, x6, x7, x8, x9, x10, x11, x12, x13, x14, x15, x16, x17] := by
  match l, h with
  | [x0, x1, x2, x3, x4, x5, x6, x7, x8, x9, x10, x11, x12, x13, x14, x15, x16, x17], _ => exact ⟨x0, x1, x2, x3, x4, x5, x6, x7, x8, x9, x10, x11, x12, x13, x14, x15, x16, x17, rfl⟩

open Go.Fx
theorem rK_in {a0 a1 a2 a3 a4 a5 b0 b1 b2 b3 b4 b5 d0 d1 d2 d3 d4 d5 p : Int} (h : rK a0 a1 a2 a3 a4 a5 b0 b1 b2 b3 b4 b5 d0 d1 d2 d3 d4 d5 p 0 = 3) : ((tri a0 a1 a2 a3 a4 a5 b0 b1 b2 b3 b4 b5 d0 d1 d2 d3 d4 d5).all fun x => inB x p) = true := by
  have e : ((tri a0 a1 a2 a3 a4 a5 b0 b1 b2 b3 b4 b5 d0 d1 d2 d3 d4 d5).all fun x => inB x p) = (decide (insV a0 a1 a2 a3 p ≥ 0) && (decide (insV b0 b1 b2 b3 p ≥ 0) && (decide (insV d0 d1 d2 d3 p ≥ 0) && true))) := rfl
  rw [e]
  simp only [rK, gK] at h
  revert h
  cases decide (insV a0 a1 a2 a3 p ≥ 0) <;> cases decide (insV b0 b1 b2 b3 p ≥ 0) <;> cases decide (insV d0 d1 d2 d3 p ≥ 0) <;> simp [bN]
theorem rK_out {a0 a1 a2 a3 a4 a5 b0 b1 b2 b3 b4 b5 d0 d1 d2 d3 d4 d5 p : Int} (h : rK a0 a1 a2 a3 a4 a5 b0 b1 b2 b3 b4 b5 d0 d1 d2 d3 d4 d5 p 0 = 0) : ((tri a0 a1 a2 a3 a4 a5 b0 b1 b2 b3 b4 b5 d0 d1 d2 d3 d4 d5).all fun x => !inB x p) = true := by
  have e : ((tri a0 a1 a2 a3 a4 a5 b0 b1 b2 b3 b4 b5 d0 d1 d2 d3 d4 d5).all fun x => !inB x p) = (!decide (insV a0 a1 a2 a3 p ≥ 0) && (!decide (insV b0 b1 b2 b3 p ≥ 0) && (!decide (insV d0 d1 d2 d3 p ≥ 0) && true))) := rfl
  rw [e]
  simp only [rK, gK] at h
  revert h
  cases decide (insV a0 a1 a2 a3 p ≥ 0) <;> cases decide (insV b0 b1 b2 b3 p ≥ 0) <;> cases decide (insV d0 d1 d2 d3 p ≥ 0) <;> simp [bN]
theorem bodyTrue (a0_0 : Int) (a0_1 : Int) (a0_2 : Int) (a0_3 : Int) (a0_4 : Int) (a0_5 : Int) (a0_6 : Int) (a0_7 : Int) (a0_8 : Int) (a0_9 : Int) (a0_10 : Int) (a0_11 : Int) (a0_12 : Int) (a0_13 : Int) (a0_14 : Int) (a0_15 : Int) (a0_16 : Int) (a0_17 : Int) (h_a0_0 : -9223372036854775808 ≤ a0_0 ∧ a0_0 ≤ 9223372036854775807) (h_a0_1 : -9223372036854775808 ≤ a0_1 ∧ a0_1 ≤ 9223372036854775807) (h_a0_2 : -9223372036854775808 ≤ a0_2 ∧ a0_2 ≤ 9223372036854775807) (h_a0_3 : -9223372036854775808 ≤ a0_3 ∧ a0_3 ≤ 9223372036854775807) (h_a0_4 : -9223372036854775808 ≤ a0_4 ∧ a0_4 ≤ 9223372036854775807) (h_a0_5 : -9223372036854775808 ≤ a0_5 ∧ a0_5 ≤ 9223372036854775807) (h_a0_6 : -9223372036854775808 ≤ a0_6 ∧ a0_6 ≤ 9223372036854775807) (h_a0_7 : -9223372036854775808 ≤ a0_7 ∧ a0_7 ≤ 9223372036854775807) (h_a0_8 : -9223372036854775808 ≤ a0_8 ∧ a0_8 ≤ 9223372036854775807) (h_a0_9 : -9223372036854775808 ≤ a0_9 ∧ a0_9 ≤ 9223372036854775807) (h_a0_10 : -9223372036854775808 ≤ a0_10 ∧ a0_10 ≤ 9223372036854775807) (h_a0_11 : -9223372036854775808 ≤ a0_11 ∧ a0_11 ≤ 9223372036854775807) (h_a0_12 : -9223372036854775808 ≤ a0_12 ∧ a0_12 ≤ 9223372036854775807) (h_a0_13 : -9223372036854775808 ≤ a0_13 ∧ a0_13 ≤ 9223372036854775807) (h_a0_14 : -9223372036854775808 ≤ a0_14 ∧ a0_14 ≤ 9223372036854775807) (h_a0_15 : -9223372036854775808 ≤ a0_15 ∧ a0_15 ≤ 9223372036854775807) (h_a0_16 : -9223372036854775808 ≤ a0_16 ∧ a0_16 ≤ 9223372036854775807) (h_a0_17 : -9223372036854775808 ≤ a0_17 ∧ a0_17 ≤ 9223372036854775807) :
    bodyK cK Try.prog 24 Try.f4 [.agg [.lit (.int .i64 a0_0), .lit (.int .i64 a0_1), .lit (.int .i64 a0_2), .lit (.int .i64 a0_3), .lit (.int .i64 a0_4), .lit (.int .i64 a0_5), .lit (.int .i64 a0_6), .lit (.int .i64 a0_7), .lit (.int .i64 a0_8), .lit (.int .i64 a0_9), .lit (.int .i64 a0_10), .lit (.int .i64 a0_11), .lit (.int .i64 a0_12), .lit (.int .i64 a0_13), .lit (.int .i64 a0_14), .lit (.int .i64 a0_15), .lit (.int .i64 a0_16), .lit (.int .i64 a0_17)]] Sx.empty boolOf = some true := by
  have e : bodyK cK Try.prog 24 Try.f4 [.agg [.lit (.int .i64 a0_0), .lit (.int .i64 a0_1), .lit (.int .i64 a0_2), .lit (.int .i64 a0_3), .lit (.int .i64 a0_4), .lit (.int .i64 a0_5), .lit (.int .i64 a0_6), .lit (.int .i64 a0_7), .lit (.int .i64 a0_8), .lit (.int .i64 a0_9), .lit (.int .i64 a0_10), .lit (.int .i64 a0_11), .lit (.int .i64 a0_12), .lit (.int .i64 a0_13), .lit (.int .i64 a0_14), .lit (.int .i64 a0_15), .lit (.int .i64 a0_16), .lit (.int .i64 a0_17)]] Sx.empty boolOf =
    (bif !(tri a0_0 a0_1 a0_2 a0_3 a0_4 a0_5 a0_6 a0_7 a0_8 a0_9 a0_10 a0_11 a0_12 a0_13 a0_14 a0_15 a0_16 a0_17).all okx then some true else bif (tri a0_0 a0_1 a0_2 a0_3 a0_4 a0_5 a0_6 a0_7 a0_8 a0_9 a0_10 a0_11 a0_12 a0_13 a0_14 a0_15 a0_16 a0_17).all okx then (bif (bif (bif (bif (bif (bif (bif (((rK a0_0 a0_1 a0_2 a0_3 a0_4 a0_5 a0_6 a0_7 a0_8 a0_9 a0_10 a0_11 a0_12 a0_13 a0_14 a0_15 a0_16 a0_17 (0 : Nat) 0 : Nat) : Int) == 3) then ((rK a0_0 a0_1 a0_2 a0_3 a0_4 a0_5 a0_6 a0_7 a0_8 a0_9 a0_10 a0_11 a0_12 a0_13 a0_14 a0_15 a0_16 a0_17 (1 : Nat) 0 : Nat) : Int) == 3 else false) then ((rK a0_0 a0_1 a0_2 a0_3 a0_4 a0_5 a0_6 a0_7 a0_8 a0_9 a0_10 a0_11 a0_12 a0_13 a0_14 a0_15 a0_16 a0_17 (2 : Nat) 0 : Nat) : Int) == 3 else false) then ((rK a0_0 a0_1 a0_2 a0_3 a0_4 a0_5 a0_6 a0_7 a0_8 a0_9 a0_10 a0_11 a0_12 a0_13 a0_14 a0_15 a0_16 a0_17 (3 : Nat) 0 : Nat) : Int) == 3 else false) then ((rK a0_0 a0_1 a0_2 a0_3 a0_4 a0_5 a0_6 a0_7 a0_8 a0_9 a0_10 a0_11 a0_12 a0_13 a0_14 a0_15 a0_16 a0_17 (4 : Nat) 0 : Nat) : Int) == 3 else false) then ((rK a0_0 a0_1 a0_2 a0_3 a0_4 a0_5 a0_6 a0_7 a0_8 a0_9 a0_10 a0_11 a0_12 a0_13 a0_14 a0_15 a0_16 a0_17 (5 : Nat) 0 : Nat) : Int) == 3 else false) then ((rK a0_0 a0_1 a0_2 a0_3 a0_4 a0_5 a0_6 a0_7 a0_8 a0_9 a0_10 a0_11 a0_12 a0_13 a0_14 a0_15 a0_16 a0_17 (6 : Nat) 0 : Nat) : Int) == 3 else false) then (bif decide ((polX (tri a0_0 a0_1 a0_2 a0_3 a0_4 a0_5 a0_6 a0_7 a0_8 a0_9 a0_10 a0_11 a0_12 a0_13 a0_14 a0_15 a0_16 a0_17)).map c6I = (tri a0_0 a0_1 a0_2 a0_3 a0_4 a0_5 a0_6 a0_7 a0_8 a0_9 a0_10 a0_11 a0_12 a0_13 a0_14 a0_15 a0_16 a0_17).map c6I) then some true else none) else
      bif decide (((polX (tri a0_0 a0_1 a0_2 a0_3 a0_4 a0_5 a0_6 a0_7 a0_8 a0_9 a0_10 a0_11 a0_12 a0_13 a0_14 a0_15 a0_16 a0_17)).length : Int) ≤ 42) then (bif ((polX (tri a0_0 a0_1 a0_2 a0_3 a0_4 a0_5 a0_6 a0_7 a0_8 a0_9 a0_10 a0_11 a0_12 a0_13 a0_14 a0_15 a0_16 a0_17)).length : Int) != 1 then (bif ((polX (tri a0_0 a0_1 a0_2 a0_3 a0_4 a0_5 a0_6 a0_7 a0_8 a0_9 a0_10 a0_11 a0_12 a0_13 a0_14 a0_15 a0_16 a0_17)).length : Int) != 2 then (bif (bif (bif (bif (bif (bif (bif decide (((rK a0_0 a0_1 a0_2 a0_3 a0_4 a0_5 a0_6 a0_7 a0_8 a0_9 a0_10 a0_11 a0_12 a0_13 a0_14 a0_15 a0_16 a0_17 (0 : Nat) 0 : Nat) : Int) > 0) then true else false) then true else false) then true else false) then true else false) then true else false) then true else false) then some true else (bif ((polX (tri a0_0 a0_1 a0_2 a0_3 a0_4 a0_5 a0_6 a0_7 a0_8 a0_9 a0_10 a0_11 a0_12 a0_13 a0_14 a0_15 a0_16 a0_17)).length : Int) == 0 then some true else some false)) else some false) else some false) else some false) else none) := by kernel_rfl
  rw [e]
  clear e
  have hl : (tri a0_0 a0_1 a0_2 a0_3 a0_4 a0_5 a0_6 a0_7 a0_8 a0_9 a0_10 a0_11 a0_12 a0_13 a0_14 a0_15 a0_16 a0_17).length = 3 := rfl
  cases hok : (tri a0_0 a0_1 a0_2 a0_3 a0_4 a0_5 a0_6 a0_7 a0_8 a0_9 a0_10 a0_11 a0_12 a0_13 a0_14 a0_15 a0_16 a0_17).all okx with
  | false => rfl
  | true =>
  simp only [Bool.not_true, cond_false, cond_true]
  have q3 := polX_42 hl
  cases hin : (bif (bif (bif (bif (bif (bif (((rK a0_0 a0_1 a0_2 a0_3 a0_4 a0_5 a0_6 a0_7 a0_8 a0_9 a0_10 a0_11 a0_12 a0_13 a0_14 a0_15 a0_16 a0_17 (0 : Nat) 0 : Nat) : Int) == 3) then ((rK a0_0 a0_1 a0_2 a0_3 a0_4 a0_5 a0_6 a0_7 a0_8 a0_9 a0_10 a0_11 a0_12 a0_13 a0_14 a0_15 a0_16 a0_17 (1 : Nat) 0 : Nat) : Int) == 3 else false) then ((rK a0_0 a0_1 a0_2 a0_3 a0_4 a0_5 a0_6 a0_7 a0_8 a0_9 a0_10 a0_11 a0_12 a0_13 a0_14 a0_15 a0_16 a0_17 (2 : Nat) 0 : Nat) : Int) == 3 else false) then ((rK a0_0 a0_1 a0_2 a0_3 a0_4 a0_5 a0_6 a0_7 a0_8 a0_9 a0_10 a0_11 a0_12 a0_13 a0_14 a0_15 a0_16 a0_17 (3 : Nat) 0 : Nat) : Int) == 3 else false) then ((rK a0_0 a0_1 a0_2 a0_3 a0_4 a0_5 a0_6 a0_7 a0_8 a0_9 a0_10 a0_11 a0_12 a0_13 a0_14 a0_15 a0_16 a0_17 (4 : Nat) 0 : Nat) : Int) == 3 else false) then ((rK a0_0 a0_1 a0_2 a0_3 a0_4 a0_5 a0_6 a0_7 a0_8 a0_9 a0_10 a0_11 a0_12 a0_13 a0_14 a0_15 a0_16 a0_17 (5 : Nat) 0 : Nat) : Int) == 3 else false) then ((rK a0_0 a0_1 a0_2 a0_3 a0_4 a0_5 a0_6 a0_7 a0_8 a0_9 a0_10 a0_11 a0_12 a0_13 a0_14 a0_15 a0_16 a0_17 (6 : Nat) 0 : Nat) : Int) == 3 else false) with
  | true =>
    simp only [Bool.cond_false_right, Bool.and_eq_true, beq_iff_eq] at hin
    obtain ⟨⟨⟨⟨⟨⟨g0, g1⟩, g2⟩, g3⟩, g4⟩, g5⟩, g6⟩ := hin
    have hall : ∀ j, j < 7 → ((tri a0_0 a0_1 a0_2 a0_3 a0_4 a0_5 a0_6 a0_7 a0_8 a0_9 a0_10 a0_11 a0_12 a0_13 a0_14 a0_15 a0_16 a0_17).all fun x => inB x ((j : Nat) : Int)) = true := fun j hj => by
      have : j = 0 ∨ j = 1 ∨ j = 2 ∨ j = 3 ∨ j = 4 ∨ j = 5 ∨ j = 6 := by omega
      rcases this with rfl | rfl | rfl | rfl | rfl | rfl | rfl
      · exact rK_in (by omega)
      · exact rK_in (by omega)
      · exact rK_in (by omega)
      · exact rK_in (by omega)
      · exact rK_in (by omega)
      · exact rK_in (by omega)
      · exact rK_in (by omega)
    have e1 : (polX (tri a0_0 a0_1 a0_2 a0_3 a0_4 a0_5 a0_6 a0_7 a0_8 a0_9 a0_10 a0_11 a0_12 a0_13 a0_14 a0_15 a0_16 a0_17)).map c6I = (tri a0_0 a0_1 a0_2 a0_3 a0_4 a0_5 a0_6 a0_7 a0_8 a0_9 a0_10 a0_11 a0_12 a0_13 a0_14 a0_15 a0_16 a0_17).map c6I := polX_in _ (by rw [hl]; omega) hall
    rw [decide_eq_true e1]; rfl
  | false =>
    rw [decide_eq_true (show ((polX (tri a0_0 a0_1 a0_2 a0_3 a0_4 a0_5 a0_6 a0_7 a0_8 a0_9 a0_10 a0_11 a0_12 a0_13 a0_14 a0_15 a0_16 a0_17)).length : Int) ≤ 42 by omega), bne_iff_ne.2 (show ((polX (tri a0_0 a0_1 a0_2 a0_3 a0_4 a0_5 a0_6 a0_7 a0_8 a0_9 a0_10 a0_11 a0_12 a0_13 a0_14 a0_15 a0_16 a0_17)).length : Int) ≠ 1 by omega), bne_iff_ne.2 (show ((polX (tri a0_0 a0_1 a0_2 a0_3 a0_4 a0_5 a0_6 a0_7 a0_8 a0_9 a0_10 a0_11 a0_12 a0_13 a0_14 a0_15 a0_16 a0_17)).length : Int) ≠ 2 by omega)]
    cases hf : decide (((rK a0_0 a0_1 a0_2 a0_3 a0_4 a0_5 a0_6 a0_7 a0_8 a0_9 a0_10 a0_11 a0_12 a0_13 a0_14 a0_15 a0_16 a0_17 (0 : Nat) 0 : Nat) : Int) > 0) with
    | true => rfl
    | false =>
      have h0 : polX (tri a0_0 a0_1 a0_2 a0_3 a0_4 a0_5 a0_6 a0_7 a0_8 a0_9 a0_10 a0_11 a0_12 a0_13 a0_14 a0_15 a0_16 a0_17) = [] := polX_out (rK_out (by simpa using hf))
      rw [h0]; rfl

theorem walk (a0_0 : Int) (a0_1 : Int) (a0_2 : Int) (a0_3 : Int) (a0_4 : Int) (a0_5 : Int) (a0_6 : Int) (a0_7 : Int) (a0_8 : Int) (a0_9 : Int) (a0_10 : Int) (a0_11 : Int) (a0_12 : Int) (a0_13 : Int) (a0_14 : Int) (a0_15 : Int) (a0_16 : Int) (a0_17 : Int) (h_a0_0 : -9223372036854775808 ≤ a0_0 ∧ a0_0 ≤ 9223372036854775807) (h_a0_1 : -9223372036854775808 ≤ a0_1 ∧ a0_1 ≤ 9223372036854775807) (h_a0_2 : -9223372036854775808 ≤ a0_2 ∧ a0_2 ≤ 9223372036854775807) (h_a0_3 : -9223372036854775808 ≤ a0_3 ∧ a0_3 ≤ 9223372036854775807) (h_a0_4 : -9223372036854775808 ≤ a0_4 ∧ a0_4 ≤ 9223372036854775807) (h_a0_5 : -9223372036854775808 ≤ a0_5 ∧ a0_5 ≤ 9223372036854775807) (h_a0_6 : -9223372036854775808 ≤ a0_6 ∧ a0_6 ≤ 9223372036854775807) (h_a0_7 : -9223372036854775808 ≤ a0_7 ∧ a0_7 ≤ 9223372036854775807) (h_a0_8 : -9223372036854775808 ≤ a0_8 ∧ a0_8 ≤ 9223372036854775807) (h_a0_9 : -9223372036854775808 ≤ a0_9 ∧ a0_9 ≤ 9223372036854775807) (h_a0_10 : -9223372036854775808 ≤ a0_10 ∧ a0_10 ≤ 9223372036854775807) (h_a0_11 : -9223372036854775808 ≤ a0_11 ∧ a0_11 ≤ 9223372036854775807) (h_a0_12 : -9223372036854775808 ≤ a0_12 ∧ a0_12 ≤ 9223372036854775807) (h_a0_13 : -9223372036854775808 ≤ a0_13 ∧ a0_13 ≤ 9223372036854775807) (h_a0_14 : -9223372036854775808 ≤ a0_14 ∧ a0_14 ≤ 9223372036854775807) (h_a0_15 : -9223372036854775808 ≤ a0_15 ∧ a0_15 ≤ 9223372036854775807) (h_a0_16 : -9223372036854775808 ≤ a0_16 ∧ a0_16 ≤ 9223372036854775807) (h_a0_17 : -9223372036854775808 ≤ a0_17 ∧ a0_17 ≤ 9223372036854775807)  (w : World)  :
    Calls Try.prog 4 #[.agg #[.int .i64 a0_0, .int .i64 a0_1, .int .i64 a0_2, .int .i64 a0_3, .int .i64 a0_4, .int .i64 a0_5, .int .i64 a0_6, .int .i64 a0_7, .int .i64 a0_8, .int .i64 a0_9, .int .i64 a0_10, .int .i64 a0_11, .int .i64 a0_12, .int .i64 a0_13, .int .i64 a0_14, .int .i64 a0_15, .int .i64 a0_16, .int .i64 a0_17]] w fun e w' => e = .returned (.bool true) ∧ Below w.heap.size w w' := by
  have h := law_of cK_sound mixed entersF (bodyTrue a0_0 a0_1 a0_2 a0_3 a0_4 a0_5 a0_6 a0_7 a0_8 a0_9 a0_10 a0_11 a0_12 a0_13 a0_14 a0_15 a0_16 a0_17 h_a0_0 h_a0_1 h_a0_2 h_a0_3 h_a0_4 h_a0_5 h_a0_6 h_a0_7 h_a0_8 h_a0_9 h_a0_10 h_a0_11 h_a0_12 h_a0_13 h_a0_14 h_a0_15 h_a0_16 h_a0_17) (E := ⟨fun _ => 0, fun _ => undef⟩) (w := w) (RepM.empty ⟨fun _ => 0, fun _ => undef⟩ w) (by kernel_rfl) (by kernel_rfl) cK_loops
  exact h

theorem walkV (W : World) (base : Nat) (v0 : Value) (hv0 : Value.okWide Try.prog W .any base 34 v0)  : Calls Try.prog 4 #[v0] W fun e w' => e = .returned (.bool true) ∧ Below W.heap.size W w' := by
  obtain ⟨cs0, rfl, hl0, hc0⟩ := ok_agg (P := Try.prog) (t := 34) (ts := [3, 3, 3, 3, 3, 3, 3, 3, 3, 3, 3, 3, 3, 3, 3, 3, 3, 3]) (by kernel_rfl) (by kernel_rfl) (by kernel_rfl) hv0
  obtain ⟨c0_0, c0_1, c0_2, c0_3, c0_4, c0_5, c0_6, c0_7, c0_8, c0_9, c0_10, c0_11, c0_12, c0_13, c0_14, c0_15, c0_16, c0_17, rfl⟩ := list18 hl0
  obtain ⟨a0_0, rfl, b0_0, b0_0'⟩ := cell_int Try.underlying3 (hc0 0 3 _ rfl rfl)
  obtain ⟨a0_1, rfl, b0_1, b0_1'⟩ := cell_int Try.underlying3 (hc0 1 3 _ rfl rfl)
  obtain ⟨a0_2, rfl, b0_2, b0_2'⟩ := cell_int Try.underlying3 (hc0 2 3 _ rfl rfl)
  obtain ⟨a0_3, rfl, b0_3, b0_3'⟩ := cell_int Try.underlying3 (hc0 3 3 _ rfl rfl)
  obtain ⟨a0_4, rfl, b0_4, b0_4'⟩ := cell_int Try.underlying3 (hc0 4 3 _ rfl rfl)
  obtain ⟨a0_5, rfl, b0_5, b0_5'⟩ := cell_int Try.underlying3 (hc0 5 3 _ rfl rfl)
  obtain ⟨a0_6, rfl, b0_6, b0_6'⟩ := cell_int Try.underlying3 (hc0 6 3 _ rfl rfl)
  obtain ⟨a0_7, rfl, b0_7, b0_7'⟩ := cell_int Try.underlying3 (hc0 7 3 _ rfl rfl)
  obtain ⟨a0_8, rfl, b0_8, b0_8'⟩ := cell_int Try.underlying3 (hc0 8 3 _ rfl rfl)
  obtain ⟨a0_9, rfl, b0_9, b0_9'⟩ := cell_int Try.underlying3 (hc0 9 3 _ rfl rfl)
  obtain ⟨a0_10, rfl, b0_10, b0_10'⟩ := cell_int Try.underlying3 (hc0 10 3 _ rfl rfl)
  obtain ⟨a0_11, rfl, b0_11, b0_11'⟩ := cell_int Try.underlying3 (hc0 11 3 _ rfl rfl)
  obtain ⟨a0_12, rfl, b0_12, b0_12'⟩ := cell_int Try.underlying3 (hc0 12 3 _ rfl rfl)
  obtain ⟨a0_13, rfl, b0_13, b0_13'⟩ := cell_int Try.underlying3 (hc0 13 3 _ rfl rfl)
  obtain ⟨a0_14, rfl, b0_14, b0_14'⟩ := cell_int Try.underlying3 (hc0 14 3 _ rfl rfl)
  obtain ⟨a0_15, rfl, b0_15, b0_15'⟩ := cell_int Try.underlying3 (hc0 15 3 _ rfl rfl)
  obtain ⟨a0_16, rfl, b0_16, b0_16'⟩ := cell_int Try.underlying3 (hc0 16 3 _ rfl rfl)
  obtain ⟨a0_17, rfl, b0_17, b0_17'⟩ := cell_int Try.underlying3 (hc0 17 3 _ rfl rfl)
  exact walk a0_0 a0_1 a0_2 a0_3 a0_4 a0_5 a0_6 a0_7 a0_8 a0_9 a0_10 a0_11 a0_12 a0_13 a0_14 a0_15 a0_16 a0_17 ⟨b0_0, b0_0'⟩ ⟨b0_1, b0_1'⟩ ⟨b0_2, b0_2'⟩ ⟨b0_3, b0_3'⟩ ⟨b0_4, b0_4'⟩ ⟨b0_5, b0_5'⟩ ⟨b0_6, b0_6'⟩ ⟨b0_7, b0_7'⟩ ⟨b0_8, b0_8'⟩ ⟨b0_9, b0_9'⟩ ⟨b0_10, b0_10'⟩ ⟨b0_11, b0_11'⟩ ⟨b0_12, b0_12'⟩ ⟨b0_13, b0_13'⟩ ⟨b0_14, b0_14'⟩ ⟨b0_15, b0_15'⟩ ⟨b0_16, b0_16'⟩ ⟨b0_17, b0_17'⟩  W 

set_option maxRecDepth 100000 in
theorem lifted (os : Os) (started : os.Started) (H : Type) (enc : TypeId × Value → H) :
    ReturnsInHanded {} Try.checked os 4 .any (Rows.clipKeepsSpec.pre6 enc Try.prog Try.f4 Rows.clipKeepsRow.domain false) (Rows.clipKeepsSpec.post enc Try.prog Try.f4 false true false false) := by
  refine returnsInHanded_of_change (C := Try.checked) own started (by kernel_rfl) Try.func4
    (ChangeSpec.witness6 (enc := enc) (C := Try.checked) false ⟨#[], #[.agg #[.int .i64 0, .int .i64 0, .int .i64 0, .int .i64 0, .int .i64 0, .int .i64 0, .int .i64 0, .int .i64 0, .int .i64 0, .int .i64 0, .int .i64 0, .int .i64 0, .int .i64 0, .int .i64 0, .int .i64 0, .int .i64 0, .int .i64 0, .int .i64 0]], []⟩ 8 (by kernel_rfl) (by kernel_rfl) (by kernel_rfl) (by kernel_rfl)) ?_
  intro W base args ds gs before hval0 hW _ _
  have hval : ∀ (j : Nat) t v, Try.f4.params[j]? = some t → args[j]? = some v → Value.okWide Try.prog W .any base t v := hval0
  have hW' := hW
  obtain ⟨p, q, hA0, _, rfl, _, _⟩ := hW
  have hA : DataW.TrodAll enc Try.prog W 0 (fun _ => true) true Try.f4.params.toList args.toList ds p := hA0
  rw [Try.params4] at hA hval
  obtain ⟨v0, vs0, d0, ds0, p0, q0, hargs, rfl, rfl, h0, r0⟩ := trodAll_cons hA
  obtain ⟨rfl, rfl, rfl⟩ := trodAll_nil r0
  obtain rfl : args = #[v0] := by cases args; simp_all
  refine (walkV W base v0 (hval 0 34 v0 rfl rfl) ).mono fun e W' ⟨he, hb⟩ => ?_
  subst he
  exact ⟨_, rfl, law_post (tb := 4) hW' rfl rfl laid (by kernel_rfl) rfl Try.underlying4 hb⟩

theorem over : Rows.clipKeepsRow.holds Try.pinned (OpenSpec.ofChange Rows.clipKeepsSpec) :=
  OpenClaim.holds_of_wide 4 Try.f4 rfl rfl rfl rfl rfl rfl rfl ⟨rfl, rfl, rfl, rfl, rfl⟩ rfl rfl rfl rfl rfl (by kernel_rfl) Try.func4 (by kernel_rfl)
    (of_decide_eq_true (by kernel_rfl)) (by unfold Func.isWrapper; first | (rw [if_pos (by decide +kernel)]; kernel_rfl) | (rw [if_neg (by decide +kernel)]; exact ⟨rfl, rfl⟩))
    (fun os started H enc _ => lifted os started H enc)

theorem proved : Rows.ClipKeepsSaid := over
end Go.Proofs.Ytemhaijcebjhhaa.clipKeeps

