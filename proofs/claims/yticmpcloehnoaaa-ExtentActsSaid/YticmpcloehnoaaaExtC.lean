/- What the free runs are (chapter 9; of no program). -/
import Derived.Test.YticmpcloehnoaaaExtB
set_option linter.unusedVariables false
set_option linter.unusedSimpArgs false
namespace Go.Fx
open Go Go.Sx
set_option linter.unusedVariables false
set_option linter.unusedSimpArgs false
theorem runsF_mem (L : List AV) (N : Nat) : ∀ f s r, r ∈ runsF L N f s → 1 ≤ r.2 ∧ s ≤ r.1 ∧ r.1 + r.2 ≤ N ∧ ∀ j, r.1 ≤ j → j < r.1 + r.2 → bA L j = false
  | 0, s, r, h => by cases h
  | f + 1, s, r, h => by
    unfold runsF at h
    split at h
    · rename_i hs
      have g1 := scan_ge L false (N - s) s
      have g2 := scan_le L false (N - s) s
      rcases List.mem_append.1 h with h | h
      · split at h
        · rename_i hse
          simp only [List.mem_singleton] at h
          subst h
          refine ⟨by simp only; omega, Nat.le_refl _, by simp only; omega, fun j h1 h2 => scan_all L false (N - s) s j h1 (by simp only at h2; omega)⟩
        · cases h
      · obtain ⟨a, b, c, d⟩ := runsF_mem L N f _ r h
        exact ⟨a, by omega, c, d⟩
    · cases h
theorem runsF_pw (L : List AV) (N : Nat) : ∀ f s, (runsF L N f s).Pairwise (fun a b => a.1 + a.2 < b.1)
  | 0, s => List.Pairwise.nil
  | f + 1, s => by
    unfold runsF
    split
    · have g1 := scan_ge L false (N - s) s
      split
      · rename_i hse
        simp only [List.cons_append, List.nil_append]
        refine List.Pairwise.cons (fun b hb => ?_) (runsF_pw L N f _)
        have := (runsF_mem L N f _ b hb).2.1
        simp only; omega
      · exact runsF_pw L N f _
    · exact List.Pairwise.nil
def sumL (l : List (Nat × Nat)) : Nat := (l.map (·.2)).sum
theorem used_same (L : List AV) (s : Nat) : ∀ k, (∀ j, s ≤ j → j < s + k → bA L j = false) → usedN L (s + k) = usedN L s
  | 0, _ => rfl
  | k + 1, h => by
    rw [show s + (k + 1) = s + k + 1 by omega, usedN, used_same L s k (fun j h1 h2 => h j h1 (by omega)), h (s + k) (by omega) (by omega)]
    rfl
theorem runsF_sum (L : List AV) (N : Nat) : ∀ f s, N < s + f → s ≤ N → sumL (runsF L N f s) + usedN L N = (N - s) + usedN L s
  | 0, s, hf, hs => by omega
  | f + 1, s, hf, hs => by
    unfold runsF
    by_cases h : s < N
    · rw [if_pos h]
      have g1 := scan_ge L false (N - s) s
      have g2 := scan_le L false (N - s) s
      have hal := scan_all L false (N - s) s
      have hst := scan_stop L false (N - s) s
      generalize scan L false (N - s) s = e at *
      have hu := used_same L s (e - s) (fun j h1 h2 => hal j h1 (by omega))
      rw [show s + (e - s) = e by omega] at hu
      have hsum : sumL ((if s < e then [(s, e - s)] else []) ++ runsF L N f (e + 1)) = (e - s) + sumL (runsF L N f (e + 1)) := by
        split
        · simp [sumL]
        · simp [sumL]; omega
      rw [hsum]
      by_cases he : e < N
      · have hb : bA L e = true := by have := hst (by omega); simpa using this
        have ih := runsF_sum L N f (e + 1) (by omega) (by omega)
        have : usedN L (e + 1) = usedN L e + 1 := by rw [usedN, hb]; rfl
        omega
      · have : e = N := by omega
        subst this
        have : runsF L e f (e + 1) = [] := by
          cases f with
          | zero => rfl
          | succ f => unfold runsF; rw [if_neg (by omega)]
        rw [this]
        simp [sumL]; omega
    · have : s = N := by omega
      subst this
      rw [if_neg h]; simp [sumL]
theorem runsF_all (L : List AV) (N : Nat) : ∀ f s, N < s + f → ∀ j, s ≤ j → j < N → bA L j = false → ∃ r, r ∈ runsF L N f s ∧ r.1 ≤ j ∧ j < r.1 + r.2
  | 0, s, hf, j, h1, h2, _ => by omega
  | f + 1, s, hf, j, h1, h2, hb => by
    unfold runsF
    rw [if_pos (by omega)]
    have g1 := scan_ge L false (N - s) s
    have hst := scan_stop L false (N - s) s
    generalize scan L false (N - s) s = e at *
    by_cases hje : j < e
    · refine ⟨(s, e - s), ?_, h1, by simp only; omega⟩
      rw [if_pos (by omega)]; simp
    · by_cases hjj : j = e
      · subst hjj
        have := hst (by omega)
        rw [hb] at this; cases this
      · obtain ⟨r, h, h'⟩ := runsF_all L N f (e + 1) (by omega) j (by omega) h2 hb
        exact ⟨r, List.mem_append_right _ h, h'⟩
theorem used_all (L : List AV) : ∀ n, (∀ i, i < n → bA L i = true) → usedN L n = n
  | 0, _ => rfl
  | n + 1, h => by rw [usedN, used_all L n (fun i hi => h i (by omega)), h n (by omega)]; rfl
theorem runsF_nil (L : List AV) (N : Nat) (h : ∀ i, i < N → bA L i = true) : ∀ f s, runsF L N f s = []
  | 0, s => rfl
  | f + 1, s => by
    unfold runsF
    split
    · rename_i hs
      have : scan L false (N - s) s = s := by
        rw [show N - s = (N - s - 1) + 1 by omega, scan, h s hs]; rfl
      rw [this, if_neg (Nat.lt_irrefl _), runsF_nil L N h f (s + 1)]
      rfl
    · rfl
theorem sumL_app (a b : List (Nat × Nat)) : sumL (a ++ b) = sumL a + sumL b := by
  unfold sumL
  rw [List.map_append, List.sum_append]
theorem sumL_take_le (l : List (Nat × Nat)) (j : Nat) : sumL (l.take j) ≤ sumL l := by
  have h := sumL_app (l.take j) (l.drop j)
  rw [List.take_append_drop] at h
  omega
theorem sumL_take_succ {l : List (Nat × Nat)} {j : Nat} (h : j < l.length) : sumL (l.take (j + 1)) = sumL (l.take j) + l[j].2 := by
  rw [List.take_succ_eq_append_getElem h, sumL_app]
  rfl
theorem rV_get {l : List (Nat × Nat)} {j : Nat} (h : j < l.length) : (l.map rV).getD j .bad = rV l[j] := by
  simp [List.getD, h]
theorem cI_rV (r : Nat × Nat) : cI (rV r) 0 = (r.1 : Nat) ∧ cI (rV r) 1 = (r.2 : Nat) := ⟨rfl, rfl⟩
end Go.Fx
