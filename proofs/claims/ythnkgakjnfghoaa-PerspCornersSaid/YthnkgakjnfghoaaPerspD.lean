/- Weights where all W are one (chapter 27), outright. -/
import Derived.Test.YthnkgakjnfghoaaPerspC
set_option linter.unusedVariables false
set_option linter.unusedSimpArgs false
namespace Go.Fx
open Go Go.Sx

theorem tm16 (a : Int) : -15 ≤ a.tmod 16 ∧ a.tmod 16 ≤ 15 := by
  by_cases h : 0 ≤ a
  · rw [Int.tmod_eq_emod_of_nonneg h]; omega
  · have : a.tmod 16 = -((-a).tmod 16) := by rw [Int.neg_tmod]; omega
    rw [this, Int.tmod_eq_emod_of_nonneg (by omega)]; omega
theorem kN_le {s : Int} (h1 : 1 ≤ s) (h2 : s < 288230376151711744) : ∃ k : Nat, kN s = k ∧ k ≤ 16 := by
  obtain ⟨k, l1, l2, l3, l4⟩ := logV_spec h1 (by omega)
  refine ⟨k - 41, ?_, ?_⟩
  · unfold kN
    rw [l1, wi_id (by omega) (by omega)]
    split <;> omega
  · have : k < 58 := by
      rcases Nat.lt_or_ge k 58 with h | h
      · exact h
      · have := Int.le_trans (pw h) l2
        have e : (2 : Int) ^ 58 = 288230376151711744 := by decide
        omega
    omega
/-- what divides without a rest -/
theorem wO_exact {s n c r : Int} (hc : c = 2 ∨ c = 4) (hr : 1 ≤ r) (hn : n = 65536 * r) (hs : s = c * n) (hb : s < 288230376151711744) : wO s n = 65536 / c := by
  have hs1 : 1 ≤ s := by rcases hc with rfl | rfl <;> omega
  obtain ⟨k, hk, hk16⟩ := kN_le hs1 hb
  have hpos : (0 : Int) < 2 ^ k := Int.pow_pos (by omega)
  -- 65536 = 2 ^ k * 2 ^ (16 - k)
  have hsplit : (65536 : Int) = 2 ^ k * 2 ^ (16 - k) := by
    rw [← Int.pow_add, show k + (16 - k) = 16 by omega]; decide
  have hm1 : 1 ≤ 2 ^ (16 - k) * r := by
    have : (1 : Int) ≤ 2 ^ (16 - k) := by have := Int.pow_pos (n := 2) (m := 16 - k) (by omega); omega
    have h2 := Int.mul_le_mul this hr (by omega) (by omega)
    omega
  have hmle : 2 ^ (16 - k) * r ≤ n := by
    have h1 : (2 : Int) ^ (16 - k) ≤ 65536 := by
      have := pw (a := 16 - k) (b := 16) (by omega)
      have e : (2 : Int) ^ 16 = 65536 := by decide
      omega
    rw [hn]
    exact Int.mul_le_mul_of_nonneg_right h1 (by omega)
  have hdiv : ∀ c' : Int, (c' * n).fdiv (2 ^ k) = c' * (2 ^ (16 - k) * r) := fun c' => by
    rw [Int.fdiv_eq_ediv_of_nonneg _ (Int.le_of_lt hpos), hn, hsplit]
    rw [show c' * (2 ^ k * 2 ^ (16 - k) * r) = 2 ^ k * (c' * (2 ^ (16 - k) * r)) by grind]
    exact Int.mul_ediv_cancel_left _ (by omega)
  have hmin : min (kN s).toNat 64 = k := by rw [hk, Int.toNat_natCast]; omega
  have hM : mN s n = 2 ^ (16 - k) * r := by
    unfold mN
    rw [hmin]
    have := hdiv 1
    rwa [Int.one_mul, Int.one_mul] at this
  have hQ : qN s = c * (2 ^ (16 - k) * r) := by
    unfold qN
    rw [hmin, hs]; exact hdiv c
  obtain ⟨_, _, _, _, hq1, hq2⟩ := qN_spec hs1 (by omega)
  have hH : hN s n = 2 ^ (16 - k) * r := by
    unfold hN
    rw [hM]
    generalize 2 ^ (16 - k) * r = m at *
    rw [wi_id (n := -16 * qN s) (by omega) (by omega), wi_id (n := 16 * qN s) (by omega) (by omega)]
    have : ¬ -16 * qN s > m := by omega
    rw [if_neg this]
    have : ¬ 16 * qN s < m := by rcases hc with rfl | rfl <;> omega
    rw [if_neg this]
  unfold wO
  rw [decide_eq_false (by omega), cond_false, hH, hQ]
  generalize 2 ^ (16 - k) * r = m at *
  have hcm : m ≤ 4398046511103 := by rw [hQ] at hq2; rcases hc with rfl | rfl <;> omega
  rw [wi_id (n := m * 65536) (by omega) (by omega), dwn_eq (by omega) (by omega) (by rcases hc with rfl | rfl <;> omega) (by rcases hc with rfl | rfl <;> omega)]
  rw [Int.mul_comm m 65536]
  exact Int.mul_ediv_mul_of_pos_left _ _ (by omega)
theorem nr_q {w : Int} (h : 256 ≤ w) (h' : w ≤ 1048576) : 262144 ≤ nr 274877906944 w ∧ nr 274877906944 w ≤ 1073741825 := by
  have h1 := nr_spec' 274877906944 (d := w) (by omega)
  constructor
  · by_cases hc : nr 274877906944 w ≤ 262143
    · have : w * nr 274877906944 w ≤ 1048576 * 262143 := by
        by_cases hn : 0 ≤ nr 274877906944 w
        · exact Int.mul_le_mul h' hc hn (by omega)
        · have := Int.mul_nonpos_of_nonneg_of_nonpos (show 0 ≤ w by omega) (show nr 274877906944 w ≤ 0 by omega)
          omega
      omega
    · omega
  · by_cases hc : 1073741826 ≤ nr 274877906944 w
    · have : 256 * 1073741826 ≤ w * nr 274877906944 w := Int.mul_le_mul h hc (by omega) (by omega)
      have : w * nr 274877906944 w ≥ w * 1073741826 := Int.mul_le_mul_of_nonneg_left hc (by omega)
      omega
    · omega
theorem oV_of {t : List Int} {x y s n0 n1 c0 c1 : Int} (hs : sV t x y = s) (h0 : n0V t x y = n0) (h1 : n1V t x y = n1) (hp : 1 ≤ s) (e0 : wO s n0 = c0) (e1 : wO s n1 = c1) (hc : -65536 ≤ c0 ∧ c0 ≤ 65536) (hc1 : -65536 ≤ c1 ∧ c1 ≤ 65536) :
    o0V t x y = c0 ∧ o1V t x y = c1 ∧ o2V t x y = 65536 - c0 - c1 ∧ okV t x y = true := by
  unfold o0V o1V o2V okV wOk
  rw [hs, h0, h1, e0, e1]
  refine ⟨rfl, rfl, ?_, by simp; omega⟩
  unfold wO2
  rw [decide_eq_false (by omega), cond_false, e0, e1, wi_id (n := 65536 - c0) (by omega) (by omega), wi_id (by omega) (by omega)]
theorem sN_eq {a b c : Int} (ha : 0 ≤ a) (ha' : a ≤ 144115188075855872) (hb : 0 ≤ b) (hb' : b ≤ 144115188075855872) (hc : 0 ≤ c) (hc' : c ≤ 144115188075855872) : sN a b c = a + b + c := by
  unfold sN
  rw [wi_id (n := 0 + a) (by omega) (by omega), wi_id (n := 0 + a + b) (by omega) (by omega), wi_id (by omega) (by omega)]
  omega
end Go.Fx
