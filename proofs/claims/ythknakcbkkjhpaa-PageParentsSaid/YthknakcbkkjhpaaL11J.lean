/- PageOrder: what its tests tell (chapter 11). -/
import Derived.Test.YthknakcbkkjhpaaL11H
import Derived.Test.YthknakcbkkjhpaaL11I
set_option linter.unusedVariables false
set_option linter.unusedSimpArgs false
namespace Go.Proofs.Ythknakcbkkjhpaa
open Go Go.Sx Go.Fx
set_option maxRecDepth 100000
set_option linter.unusedVariables false
set_option linter.unusedSimpArgs false
theorem pgK_get (d : Int) {m j : Nat} (h : j < m) : (pgK d m).getD j .bad = pgE d j := by
  simp [pgK, List.getD, h]
theorem cI_pgE (d : Int) (j : Nat) : cI (pgE d j) 0 = pL d.toNat j ∧ cI (pgE d j) 1 = pX d.toNat j ∧ cI (pgE d j) 2 = pY d.toNat j := ⟨rfl, rfl, rfl⟩
theorem amt_all (d : Int) : amt d (-1) = (cn d).toNat := rfl
theorem cn_nat {n : Nat} (hn : n ≤ 3) : (cn (n : Int)).toNat = (pgs n).length := by rw [cn_pgs hn]; rfl
theorem key_at {n j : Nat} (hn : n ≤ 3) (hj : j < (cn (n : Int)).toNat) : keyV n (pL n j) (pX n j) (pY n j) = (j : Int) ∧ validB n (pL n j) (pX n j) (pY n j) = true := by
  rw [cn_nat hn] at hj
  have := pgs_good hn hj
  exact ⟨this.2, this.1⟩
theorem step0 : (List.range 0).all (fun j => decide (pL 0 (j + 1) ≤ pL 0 j)) = true := by kernel_rfl
theorem step1 : (List.range 4).all (fun j => decide (pL 1 (j + 1) ≤ pL 1 j)) = true := by kernel_rfl
theorem step2 : (List.range 20).all (fun j => decide (pL 2 (j + 1) ≤ pL 2 j)) = true := by kernel_rfl
theorem step3 : (List.range 84).all (fun j => decide (pL 3 (j + 1) ≤ pL 3 j)) = true := by kernel_rfl
theorem stepL {n : Nat} (hn : n ≤ 3) {j : Nat} (hj : j + 1 < (pgs n).length) : pL n (j + 1) ≤ pL n j := by
  have key : ∀ {d m}, (List.range m).all (fun j => decide (pL d (j + 1) ≤ pL d j)) = true → j < m → pL d (j + 1) ≤ pL d j := fun h hj => by
    rw [List.all_eq_true] at h; exact of_decide_eq_true (h j (List.mem_range.2 hj))
  have hc : n = 0 ∨ n = 1 ∨ n = 2 ∨ n = 3 := by omega
  rcases hc with rfl | rfl | rfl | rfl
  · rw [pgs_len0] at hj; exact key step0 (by omega)
  · rw [pgs_len1] at hj; exact key step1 (by omega)
  · rw [pgs_len2] at hj; exact key step2 (by omega)
  · rw [pgs_len3] at hj; exact key step3 (by omega)
theorem monoL {n : Nat} (hn : n ≤ 3) {i : Nat} : ∀ k, i + k < (pgs n).length → pL n (i + k) ≤ pL n i
  | 0, _ => Int.le_refl _
  | k + 1, h => Int.le_trans (stepL hn (j := i + k) (by omega)) (monoL hn k (by omega))
theorem ix_in {α : Type} {W : List AV} {j : Nat} (h : j < W.length) (R : Option α) : ix W (j : Int) R = R := by
  unfold ix
  rw [if_pos (by omega), if_pos (by simpa using h)]
theorem rnd_in (a : Int) {N : Nat} (h : 0 < N) : ∃ j : Nat, rnd a N = j ∧ j < N := by
  have h1 : 0 ≤ rnd a N := Int.emod_nonneg _ (by omega)
  have h2 : rnd a N < N := Int.emod_lt_of_pos _ (by omega)
  exact ⟨(rnd a N).toNat, by omega, by omega⟩
theorem oEnd_true {n j : Nat} (hn : n ≤ 3) (hj : j < (cn (n : Int)).toNat) : oEnd TR n (pgK n (cn (n : Int)).toNat) (j : Int) = some true := by
  unfold oEnd
  have hr : TR.rg n j = true := by simp only [TR, inR]; simp; omega
  rw [hr, cond_true, ix_in (by rw [pgK_len]; exact hj)]
  simp only [Int.toNat_natCast]
  rw [pgK_get _ hj, (cI_pgE n j).1, (cI_pgE n j).2.1, (cI_pgE n j).2.2]
  simp [TR]
theorem oTree_true {n : Nat} (hn : n ≤ 3) (a0 : Int) (h0 : rnd a0 4 = n) {i k : Nat} (hi : i < (cn (n : Int)).toNat) (hk : k < (cn (n : Int)).toNat) : oTree TR n (pgK n (cn (n : Int)).toNat) a0 i k = some true := by
  have hc := cn_nonneg n
  unfold oTree
  rw [show TR.rn a0 4 = n from h0, beq_self_eq_true, cond_true, show TR.al n (-1) (pgK n (cn (n : Int)).toNat) = true from sameL_self _, cond_true, pgK_len]
  rw [show (((cn (n : Int)).toNat : Int) != TR.cn n) = false by
    have : ((cn (n : Int)).toNat : Int) = TR.cn n := by show _ = cn (n : Int); omega
    rw [this]; simp, cond_false]
  have li : i < (pgK n (cn (n : Int)).toNat).length := by rw [pgK_len]; exact hi
  have lk : k < (pgK n (cn (n : Int)).toNat).length := by rw [pgK_len]; exact hk
  have ki : kW TR n (pgK n (cn (n : Int)).toNat) i = i := by
    unfold kW; rw [Int.toNat_natCast, pgK_get _ hi, (cI_pgE n i).1, (cI_pgE n i).2.1, (cI_pgE n i).2.2]; exact (key_at hn hi).1
  have kk : kW TR n (pgK n (cn (n : Int)).toNat) k = k := by
    unfold kW; rw [Int.toNat_natCast, pgK_get _ hk, (cI_pgE n k).1, (cI_pgE n k).2.1, (cI_pgE n k).2.2]; exact (key_at hn hk).1
  rw [ix_in li, ix_in lk, ix_in li, ki, kk, ix_in li, ix_in lk, oEnd_true hn hi]
  simp only [bne_self_eq_false, cond_false, Int.toNat_natCast, pgK_get _ hi, pgK_get _ hk, (cI_pgE n i).1, (cI_pgE n k).1]
  have hcm : TR.cm i k = cmV i k := rfl
  rw [hcm]
  rcases Nat.lt_trichotomy i k with h | h | h
  · have e : cmV i k = -1 := by unfold cmV; rw [decide_eq_true (by omega)]; rfl
    have hm : pL n k ≤ pL n i := by
      have := monoL hn (i := i) (k - i) (by rw [← cn_nat hn]; omega)
      rwa [show i + (k - i) = k by omega] at this
    rw [e, decide_eq_true (show (i : Int) < k by omega), show ((i : Int) == k) = false by simp; omega, decide_eq_false (show ¬ pL n i < pL n k by omega)]
    rfl
  · subst h
    have e : cmV i i = 0 := by unfold cmV; simp
    rw [e]
    simp
  · have e : cmV i k = 1 := by unfold cmV; rw [decide_eq_false (by omega), decide_eq_true (show (i : Int) > k by omega)]; rfl
    rw [e, decide_eq_false (show ¬ (i : Int) < k by omega), show ((i : Int) == k) = false by simp; omega]
    cases decide (pL n i < pL n k) <;> rfl
noncomputable def cOrd (a0 : Int) : CallSem := cLO TR (rnd a0 4) (pgK (rnd a0 4) (cn (rnd a0 4)).toNat)
theorem cOrd_sound (a0 : Int) : (cOrd a0).Sound Try.prog := cLO_sound _ _
theorem order_true (a0 a1 a2 : Int) : bodyK (cOrd a0) Try.prog 9 Try.f5 [.lit (.int .i64 a0), .lit (.int .i64 a1), .lit (.int .i64 a2)] Sx.empty boolOf = some true := by
  obtain ⟨n, h0, hn⟩ := rnd_in a0 (N := 4) (by omega)
  have hn' : n ≤ 3 := by omega
  have hc : n = 0 ∨ n = 1 ∨ n = 2 ∨ n = 3 := by omega
  rcases hc with rfl | rfl | rfl | rfl
  · obtain ⟨i, h1, hi⟩ := rnd_in a1 (N := 1) (by omega)
    obtain ⟨k, h2, hk⟩ := rnd_in a2 (N := 1) (by omega)
    have h0' : rnd a0 4 = (0 : Int) := h0
    have hw : (cn (0 : Int)).toNat = 1 := by kernel_rfl
    unfold cOrd
    rw [h0', hw]
    exact (order_0 TR a0 a1 a2).trans (by rw [show TR.rn a1 1 = i from h1, show TR.rn a2 1 = k from h2]; exact oTree_true (n := 0) hn' a0 h0 hi hk)
  · obtain ⟨i, h1, hi⟩ := rnd_in a1 (N := 5) (by omega)
    obtain ⟨k, h2, hk⟩ := rnd_in a2 (N := 5) (by omega)
    have h0' : rnd a0 4 = (1 : Int) := h0
    have hw : (cn (1 : Int)).toNat = 5 := by kernel_rfl
    unfold cOrd
    rw [h0', hw]
    exact (order_1 TR a0 a1 a2).trans (by rw [show TR.rn a1 5 = i from h1, show TR.rn a2 5 = k from h2]; exact oTree_true (n := 1) hn' a0 h0 hi hk)
  · obtain ⟨i, h1, hi⟩ := rnd_in a1 (N := 21) (by omega)
    obtain ⟨k, h2, hk⟩ := rnd_in a2 (N := 21) (by omega)
    have h0' : rnd a0 4 = (2 : Int) := h0
    have hw : (cn (2 : Int)).toNat = 21 := by kernel_rfl
    unfold cOrd
    rw [h0', hw]
    exact (order_2 TR a0 a1 a2).trans (by rw [show TR.rn a1 21 = i from h1, show TR.rn a2 21 = k from h2]; exact oTree_true (n := 2) hn' a0 h0 hi hk)
  · obtain ⟨i, h1, hi⟩ := rnd_in a1 (N := 85) (by omega)
    obtain ⟨k, h2, hk⟩ := rnd_in a2 (N := 85) (by omega)
    have h0' : rnd a0 4 = (3 : Int) := h0
    have hw : (cn (3 : Int)).toNat = 85 := by kernel_rfl
    unfold cOrd
    rw [h0', hw]
    exact (order_3 TR a0 a1 a2).trans (by rw [show TR.rn a1 85 = i from h1, show TR.rn a2 85 = k from h2]; exact oTree_true (n := 3) hn' a0 h0 hi hk)
end Go.Proofs.Ythknakcbkkjhpaa
