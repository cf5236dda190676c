/- Mirrored points, greater screens (chapter 25), outright. -/
import Derived.Test.YtplfijdonikaoaaScrA
set_option linter.unusedVariables false
set_option linter.unusedSimpArgs false
namespace Go.Fx
open Go Go.Sx
set_option linter.unusedVariables false
set_option linter.unusedSimpArgs false
theorem nr_shift (k n : Int) {d : Int} (hd : 0 < d) : nr (k * d + n) d = k + nr n d := by
  obtain ⟨h1, h2⟩ := nr_spec n hd
  refine nr_unique hd ?_ ?_
  · have : 2 * d * (k + nr n d) = 2 * (k * d) + 2 * d * nr n d := by grind
    omega
  · have : 2 * d * (k + nr n d + 1) = 2 * (k * d) + 2 * d * nr n d + 2 * d := by grind
    omega
theorem hd_neg (D n : Int) (h : 0 ≤ D) : hd D (-n) = -hd D n := by
  unfold hd; split <;> split <;> (try split) <;> (try split) <;> omega
theorem mirror_nr (D x s : Int) (hd : 0 < D) : nr ((D + x) * s) D + nr ((D - x) * s) D - 2 * s = 0 ∨ nr ((D + x) * s) D + nr ((D - x) * s) D - 2 * s = 1 := by
  have e : (D - x) * s = (2 * s) * D + -((D + x) * s) := by grind
  rw [e, nr_shift _ _ hd]
  rcases nr_neg ((D + x) * s) hd with h | h <;> rw [h] <;> omega
theorem mirror_x (D n w : Int) (h : 0 < D) : 0 ≤ spX D n w + spX D (-n) w - 256 * w ∧ spX D n w + spX D (-n) w - 256 * w ≤ 1 := by
  unfold spX
  rw [hd_neg D n (by omega), show D + -hd D n = D - hd D n by omega]
  rcases mirror_nr D (hd D n) (w * 128) h with e | e <;> omega
theorem mirror_y (D n w : Int) (h : 0 < D) : 0 ≤ spY D n w + spY D (-n) w - 256 * w ∧ spY D n w + spY D (-n) w - 256 * w ≤ 1 := by
  unfold spY
  rw [hd_neg D n (by omega), show D - -hd D n = D + hd D n by omega]
  rcases mirror_nr D (hd D n) (w * 128) h with e | e <;> omega
theorem spX_bd {D n w : Int} (h : 256 ≤ D) (h' : D ≤ 536870912) (hw : 1 ≤ w) (hw' : w ≤ 32) : 0 ≤ spX D n w ∧ spX D n w ≤ 256 * w := by
  obtain ⟨x0, x1⟩ := hd_bd D n (by omega)
  unfold spX
  generalize hd D n = x at *
  have a := nr_mono (d := D) (by omega) (show (0 : Int) ≤ (D + x) * (w * 128) from Int.mul_nonneg (by omega) (by omega))
  have b := nr_mono (d := D) (n := (D + x) * (w * 128)) (m := (256 * w) * D) (by omega) (by
    have : (D + x) * (w * 128) ≤ (2 * D) * (w * 128) := Int.mul_le_mul_of_nonneg_right (by omega) (by omega)
    have e : (2 * D) * (w * 128) = (256 * w) * D := by grind
    omega)
  rw [nr_zero (by omega)] at a
  rw [nr_mul' _ (by omega)] at b
  exact ⟨a, b⟩
theorem spY_eq (D n w : Int) (h : 0 ≤ D) : spY D n w = spX D (-n) w := by
  unfold spY spX; rw [hd_neg D n h]; rfl
theorem spY_bd {D n w : Int} (h : 256 ≤ D) (h' : D ≤ 536870912) (hw : 1 ≤ w) (hw' : w ≤ 32) : 0 ≤ spY D n w ∧ spY D n w ≤ 256 * w := by
  rw [spY_eq D n w (by omega)]; exact spX_bd h h' hw hw'
theorem spZ_bd {D n : Int} (h : 256 ≤ D) (h' : D ≤ 536870912) : 0 ≤ spZ D n ∧ spZ D n ≤ 65534 := by
  obtain ⟨x0, x1⟩ := hd_bd D n (by omega)
  unfold spZ
  generalize hd D n = x at *
  have a := nr_mono (d := D) (by omega) (show (0 : Int) ≤ (D + x) * 32767 by omega)
  have b := nr_mono (d := D) (n := (D + x) * 32767) (m := 65534 * D) (by omega) (by omega)
  rw [nr_zero (by omega)] at a
  rw [nr_mul' _ (by omega)] at b
  exact ⟨a, b⟩
theorem twice_nr (n : Int) {d : Int} (hd : 0 < d) : -1 ≤ nr (2 * n) d - 2 * nr n d ∧ nr (2 * n) d - 2 * nr n d ≤ 1 := by
  obtain ⟨h1, h2⟩ := nr_spec' n hd
  obtain ⟨h3, h4⟩ := nr_spec' (2 * n) hd
  have h5 : d * nr (2 * n) d - 2 * (d * nr n d) = d * (nr (2 * n) d - 2 * nr n d) := by grind
  generalize nr (2 * n) d - 2 * nr n d = k at *
  constructor
  · apply Int.not_lt.1; intro hk
    have : d * k ≤ d * (-2) := Int.mul_le_mul_of_nonneg_left (by omega) (by omega)
    omega
  · apply Int.not_lt.1; intro hk
    have : d * 2 ≤ d * k := Int.mul_le_mul_of_nonneg_left (by omega) (by omega)
    omega
theorem twice_x (D n w : Int) (h : 0 < D) : -1 ≤ spX D n (2 * w) - 2 * spX D n w ∧ spX D n (2 * w) - 2 * spX D n w ≤ 1 := by
  unfold spX
  rw [show (D + hd D n) * (2 * w * 128) = 2 * ((D + hd D n) * (w * 128)) by grind]
  exact twice_nr _ h
theorem twice_y (D n w : Int) (h : 0 < D) : -1 ≤ spY D n (2 * w) - 2 * spY D n w ∧ spY D n (2 * w) - 2 * spY D n w ≤ 1 := by
  rw [spY_eq D n _ (by omega), spY_eq D n _ (by omega)]; exact twice_x D (-n) w h
theorem okSp_iff {p0 p1 p2 p3 u v w h : Int} : okSp p0 p1 p2 p3 u v w h = true ↔ nJ p0 536870912 = true ∧ nJ p1 536870912 = true ∧ nJ p2 536870912 = true ∧ nJ p3 536870912 = true ∧ szB w h = true ∧ nJ u 134217728 = true ∧ nJ v 134217728 = true := by
  simp [okSp]
theorem nJ_neg {n m : Int} : nJ (-n) m = nJ n m := by
  rw [Bool.eq_iff_iff, nJ_iff, nJ_iff]; omega
end Go.Fx
