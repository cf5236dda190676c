/- Moves and stretches put together, outright. -/
import Derived.Test.YtcfdnilakjgeoaaVecG
set_option linter.unusedVariables false
set_option linter.unusedSimpArgs false
namespace Go.Fx
open Go Go.Sx

theorem gd {p : Prop} [Decidable p] {t : Option Bool} (h : ¬p → t = some true) : (bif decide p then some true else t) = some true := by
  by_cases k : p
  · rw [decide_eq_true k]; rfl
  · rw [decide_eq_false k]; exact h k
theorem mg {b : Bool} {t u : Option Bool} (hb : b = true) (h : t = some true) : (bif b then t else u) = some true := by rw [hb]; exact h
theorem nrm (x : Int) : nr (65536 * x) 65536 = x := nr_mul x (by omega)
theorem nrm' (x : Int) : nr (x * 65536) 65536 = x := nr_mul' x (by omega)
theorem nr0 : nr 0 65536 = 0 := nr_zero (by omega)
theorem nrs (x u : Int) : nr (65536 * u + x * 65536) 65536 = x + u := by rw [show 65536 * u + x * 65536 = 65536 * (x + u) by omega]; exact nrm _
theorem nrL : nr 4294967296 65536 = 65536 := nrm 65536
theorem may_move {x y z : Int} (hx : In20 x) (hy : In20 y) (hz : In20 z) : mayL (moveL x y z) = true := by
  unfold In20 at *
  simp [mayL, moveL]; omega
theorem may_stretch {x y z : Int} (hx : In20 x) (hy : In20 y) (hz : In20 z) : mayL (stretchL x y z) = true := by
  unfold In20 at *
  simp [mayL, stretchL]; omega
theorem mul_moves (x y z u v w : Int) : mulL (moveL x y z) (moveL u v w) = moveL (x + u) (y + v) (z + w) := by
  simp only [mulL, moveL, cells, List.map, sx, Int.zero_mul, Int.mul_zero, Int.add_zero, Int.zero_add, Int.reduceMul, nrL, nr0, nrs, nrm, nrm']
theorem mulB_moves {x y z u v w : Int} (hx : In20 x) (hy : In20 y) (hz : In20 z) (hu : In20 u) (hv : In20 v) (hw : In20 w) (hxu : In20 (x + u)) (hyv : In20 (y + v)) (hzw : In20 (z + w)) : mulB (moveL x y z) (moveL u v w) = true := by
  unfold mulB
  rw [mul_moves, may_move hx hy hz, may_move hu hv hw, may_move hxu hyv hzw]; rfl
theorem appB_move {x y z a b c d : Int} (hx : In20 x) (hy : In20 y) (hz : In20 z) (ha : In28 a) (hb : In28 b) (hc : In28 c) (hd : In28 d) : appB (moveL x y z) [a, b, c, d] = true := by
  unfold appB
  rw [may_move hx hy hz]
  unfold In28 at *
  simp [vinL]; omega
theorem appB_stretch {x y z a b c d : Int} (hx : In20 x) (hy : In20 y) (hz : In20 z) (ha : In28 a) (hb : In28 b) (hc : In28 c) (hd : In28 d) : appB (stretchL x y z) [a, b, c, d] = true := by
  unfold appB
  rw [may_stretch hx hy hz]
  unfold In28 at *
  simp [vinL]; omega
theorem pr_bd2 {x v : Int} (m n : Nat) (hx : -(m : Int) ≤ x) (hx' : x ≤ m) (hv : -(n : Int) ≤ v) (hv' : v ≤ n) : -((m * n : Nat) : Int) ≤ x * v ∧ x * v ≤ ((m * n : Nat) : Int) := by
  have h3 := Nat.mul_le_mul (show x.natAbs ≤ m by omega) (show v.natAbs ≤ n by omega)
  rw [← Int.natAbs_mul] at h3
  omega
theorem mul_one_l (a0 a1 a2 a3 a4 a5 a6 a7 a8 a9 a10 a11 a12 a13 a14 a15 : Int) : mulL oneL [a0, a1, a2, a3, a4, a5, a6, a7, a8, a9, a10, a11, a12, a13, a14, a15] = [a0, a1, a2, a3, a4, a5, a6, a7, a8, a9, a10, a11, a12, a13, a14, a15] := by
  simp only [mulL, oneL, cells, List.map, sx, Int.zero_mul, Int.mul_zero, Int.add_zero, Int.zero_add, nr0, nrm, nrm']
theorem mul_one_r (a0 a1 a2 a3 a4 a5 a6 a7 a8 a9 a10 a11 a12 a13 a14 a15 : Int) : mulL [a0, a1, a2, a3, a4, a5, a6, a7, a8, a9, a10, a11, a12, a13, a14, a15] oneL = [a0, a1, a2, a3, a4, a5, a6, a7, a8, a9, a10, a11, a12, a13, a14, a15] := by
  simp only [mulL, oneL, cells, List.map, sx, Int.zero_mul, Int.mul_zero, Int.add_zero, Int.zero_add, nr0, nrm, nrm']
theorem may_one : mayL oneL = true := by decide
theorem mulB_one_l (a0 a1 a2 a3 a4 a5 a6 a7 a8 a9 a10 a11 a12 a13 a14 a15 : Int) : mulB oneL [a0, a1, a2, a3, a4, a5, a6, a7, a8, a9, a10, a11, a12, a13, a14, a15] = mayL [a0, a1, a2, a3, a4, a5, a6, a7, a8, a9, a10, a11, a12, a13, a14, a15] := by
  unfold mulB
  rw [mul_one_l, may_one, Bool.true_and, Bool.and_self]
theorem mulB_one_r (a0 a1 a2 a3 a4 a5 a6 a7 a8 a9 a10 a11 a12 a13 a14 a15 : Int) : mulB [a0, a1, a2, a3, a4, a5, a6, a7, a8, a9, a10, a11, a12, a13, a14, a15] oneL = mayL [a0, a1, a2, a3, a4, a5, a6, a7, a8, a9, a10, a11, a12, a13, a14, a15] := by
  unfold mulB
  rw [mul_one_r, may_one, Bool.and_true, Bool.and_self]
theorem appB_one {a b c d : Int} (ha : In28 a) (hb : In28 b) (hc : In28 c) (hd : In28 d) : appB oneL [a, b, c, d] = true := by
  unfold appB
  rw [may_one]
  unfold In28 at *
  simp [vinL]; omega
end Go.Fx
