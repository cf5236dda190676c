/- ExtentFree: what its tests tell (chapter 9). -/
import Derived.Test.YticmpcloehnoaaaL9R
import Derived.Test.YticmpcloehnoaaaExtC
set_option linter.unusedVariables false
set_option linter.unusedSimpArgs false
namespace Go.Proofs.Yticmpcloehnoaaa
open Go Go.Sx Go.Fx
set_option maxRecDepth 100000
set_option linter.unusedVariables false
set_option linter.unusedSimpArgs false
theorem rowF_eq (L : List AV) : rowF L = (runs L).map rV := rfl
theorem sumB_eq {l : List (Nat × Nat)} (hb : sumL l ≤ 65536) : ∀ j, j ≤ l.length → sumB (l.map rV) j = (sumL (l.take j) : Nat)
  | 0, _ => rfl
  | j + 1, h => by
    have h1 := sumL_take_le l (j + 1)
    have h2 := sumL_take_succ (l := l) (j := j) (by omega)
    rw [sumB, sumB_eq hb j (by omega), rV_get (show j < l.length by omega), (cI_rV _).2, h2, wi_s (by omega) (by omega)]
    omega
theorem okB_runs {L : List AV} (hL : L.length ≤ 65535) : okB ((runs L).map rV) = true := by
  unfold okB
  rw [List.all_eq_true]
  intro j hj
  rw [List.length_map, List.mem_range] at hj
  obtain ⟨a1, a2, a3, _⟩ := runsF_mem L L.length _ _ _ (List.getElem_mem hj)
  unfold okBj
  rw [rV_get hj, (cI_rV _).1, (cI_rV _).2, decide_eq_true (by omega)]
  simp only [Bool.true_and, Bool.or_eq_true, decide_eq_true_eq]
  by_cases h0 : j = 0
  · exact .inl h0
  · right
    have hj' : j - 1 < (runs L).length := by omega
    obtain ⟨_, _, b3, _⟩ := runsF_mem L L.length _ _ _ (List.getElem_mem hj')
    have hp := (List.pairwise_iff_getElem.1 (runsF_pw L L.length (L.length + 1) 0)) (j - 1) j hj' hj (by omega)
    rw [rV_get hj', (cI_rV _).1, (cI_rV _).2, wi_s (by omega) (by omega)]
    have : (runs L)[j - 1].1 + (runs L)[j - 1].2 < (runs L)[j].1 := hp
    omega
/-- what is used when so many runs have been claimed -/
theorem claims_at {L : List AV} (hL : L.length ≤ 65535) : ∀ j, j ≤ (runs L).length →
    (∀ i, i < L.length → (bA (foldJ stepC ((runs L).map rV) L j) i = true ↔ bA L i = true ∨ ∃ k, ∃ h : k < (runs L).length, k < j ∧ (runs L)[k].1 ≤ i ∧ i < (runs L)[k].1 + (runs L)[k].2)) ∧
    (∀ k, k < j → turnE (foldJ stepC ((runs L).map rV) L k) (cI (((runs L).map rV).getD k .bad) 0) (cI (((runs L).map rV).getD k .bad) 1) false 5 = 0)
  | 0, _ => ⟨fun i hi => ⟨fun h => .inl h, fun h => h.elim id fun ⟨k, _, h, _⟩ => absurd h (Nat.not_lt_zero _)⟩, fun k h => absurd h (Nat.not_lt_zero _)⟩
  | j + 1, hj => by
    obtain ⟨ih, it⟩ := claims_at hL j (by omega)
    have hj' : j < (runs L).length := by omega
    obtain ⟨a1, a2, a3, a4⟩ := runsF_mem L L.length _ _ _ (List.getElem_mem hj')
    have hlen := foldJ_len stepC_len ((runs L).map rV) L j
    have a1 : 1 ≤ (runs L)[j].2 := a1
    have a3 : (runs L)[j].1 + (runs L)[j].2 ≤ L.length := a3
    have hm : mayB (foldJ stepC ((runs L).map rV) L j) ((runs L)[j].1 : Nat) ((runs L)[j].2 : Nat) = true := by
      unfold mayB
      rw [hlen, decide_eq_true (by omega), decide_eq_true (by omega), decide_eq_true (by omega)]; rfl
    have hall : allN (foldJ stepC ((runs L).map rV) L j) (runs L)[j].1 false (runs L)[j].2 = true := by
      rw [allN_iff]
      intro i h1 h2
      have := (ih i (by omega))
      cases hb : bA (foldJ stepC ((runs L).map rV) L j) i with
      | false => rfl
      | true =>
        exfalso
        rcases this.1 hb with h | ⟨k, hk, hkj, g1, g2⟩
        · rw [a4 i h1 h2] at h; cases h
        · have hp := (List.pairwise_iff_getElem.1 (runsF_pw L L.length (L.length + 1) 0)) k j hk hj' hkj
          have hp : (runs L)[k].1 + (runs L)[k].2 < (runs L)[j].1 := hp
          omega
    have ht : turnE (foldJ stepC ((runs L).map rV) L j) (cI (((runs L).map rV).getD j .bad) 0) (cI (((runs L).map rV).getD j .bad) 1) false 5 = 0 := by
      rw [rV_get hj', (cI_rV _).1, (cI_rV _).2]
      unfold turnE
      rw [hm, Int.toNat_natCast, Int.toNat_natCast, hall]; rfl
    have hstep : foldJ stepC ((runs L).map rV) L (j + 1) = setN (foldJ stepC ((runs L).map rV) L j) (runs L)[j].1 true (runs L)[j].2 := by
      rw [foldJ, rV_get hj']
      show turnL (foldJ stepC ((runs L).map rV) L j) (cI (rV (runs L)[j]) 0) (cI (rV (runs L)[j]) 1) false = _
      unfold turnL
      rw [(cI_rV _).1, (cI_rV _).2, hm, Int.toNat_natCast, Int.toNat_natCast, hall]; rfl
    refine ⟨fun i hi => ?_, fun k hk => ?_⟩
    · rw [hstep, setN_get true i (by rw [hlen]; omega)]
      by_cases hin : (runs L)[j].1 ≤ i ∧ i < (runs L)[j].1 + (runs L)[j].2
      · rw [if_pos hin]
        exact ⟨fun _ => .inr ⟨j, hj', by omega, hin.1, hin.2⟩, fun _ => rfl⟩
      · rw [if_neg hin, ih i hi]
        constructor
        · rintro (h | ⟨k, hk, h1, h2⟩)
          · exact .inl h
          · exact .inr ⟨k, hk, by omega, h2⟩
        · rintro (h | ⟨k, hk, h1, h2⟩)
          · exact .inl h
          · by_cases hkj : k = j
            · subst hkj; exact absurd h2 hin
            · exact .inr ⟨k, hk, by omega, h2⟩
    · by_cases hkj : k = j
      · subst hkj; exact ht
      · exact it k (by omega)
theorem okC_runs {L : List AV} (hL : L.length ≤ 65535) : okC ((runs L).map rV) L = true := by
  unfold okC
  rw [List.all_eq_true]
  intro j hj
  rw [List.length_map, List.mem_range] at hj
  exact decide_eq_true ((claims_at hL (runs L).length (Nat.le_refl _)).2 j hj)
theorem all_claimed {L : List AV} (hL : L.length ≤ 65535) : ∀ i, i < L.length → bA (foldJ stepC ((runs L).map rV) L (runs L).length) i = true := by
  intro i hi
  rw [(claims_at hL (runs L).length (Nat.le_refl _)).1 i hi]
  cases hb : bA L i with
  | true => exact .inl rfl
  | false =>
    right
    obtain ⟨r, hr, h1, h2⟩ := runsF_all L L.length (L.length + 1) 0 (by omega) i (Nat.zero_le _) hi hb
    obtain ⟨k, hk, rfl⟩ := List.mem_iff_getElem.1 hr
    exact ⟨k, hk, hk, h1, h2⟩
theorem gF_true {L : List AV} (h0 : 0 < L.length) (hL : L.length ≤ 65535) : gF L = true := by
  unfold gF
  rw [decide_eq_true h0, decide_eq_true hL]; rfl
theorem frMid_true {n : Int} {L : List AV} (hn : (L.length : Int) = n) (h0 : 0 < L.length) (hL : L.length ≤ 65535) : frMid n L = some true := by
  have hrl := runs_len L
  have hs := runsF_sum L L.length (L.length + 1) 0 (by omega) (Nat.zero_le _)
  have hs : sumL (runs L) + usedN L L.length = L.length := by
    have h0' : usedN L 0 = 0 := rfl
    rw [h0', Nat.sub_zero, Nat.add_zero] at hs
    exact hs
  unfold frMid frEnd
  rw [gF_true h0 hL, rowF_eq, List.length_map, okB_runs hL, okC_runs hL, sumB_eq (by omega) _ (Nat.le_refl _), List.take_length]
  rw [decide_eq_true (show (runs L).length ≤ 65536 by omega), decide_eq_true (show L.length ≤ 65536 by omega), decide_eq_true h0]
  have e1 : wi ((sumL (runs L) : Nat) + (usedN L L.length : Nat)) = n := by rw [wi_s (by omega) (by omega)]; omega
  rw [e1]
  have hl2 := foldJ_len stepC_len ((runs L).map rV) L (runs L).length
  have ha := all_claimed hL
  generalize foldJ stepC ((runs L).map rV) L (runs L).length = L2 at *
  have hu : usedN L2 L2.length = L.length := by rw [hl2]; exact used_all L2 _ ha
  have hr2 : runs L2 = [] := runsF_nil L2 L2.length (by rw [hl2]; exact ha) _ _
  rw [hu, gF_true (L := L2) (by omega) (by omega), rowF_eq, hr2, hn, decide_eq_true (show L2.length ≤ 65536 by omega)]
  simp
theorem emp_len (n : Int) : (emp n).length = n.toNat := by simp [emp]
theorem frTree_true (n : Int) (l : List AV) : frTree n l = some true := by
  unfold frTree
  by_cases h1 : n < 1
  · rw [decide_eq_true h1]; rfl
  · by_cases h2 : n > 200
    · rw [decide_eq_false h1, decide_eq_true h2]; rfl
    · by_cases h3 : (l.length : Int) > 40
      · rw [decide_eq_false h1, decide_eq_false h2, decide_eq_true h3]; rfl
      · rw [decide_eq_false h1, decide_eq_false h2, decide_eq_false h3]
        simp only [cond_false]
        have hb : nB n = true := by unfold nB; rw [decide_eq_true (by omega), decide_eq_true (by omega)]; rfl
        have hlen : (foldJ (stepA n) l (emp n) l.length).length = n.toNat := by rw [foldJ_len (stepA_len n), emp_len]
        rw [hb, cond_true, emp_len, decide_eq_true (by omega), decide_eq_true (by omega), decide_eq_true (by omega), decide_eq_true (by omega)]
        exact frMid_true (by rw [hlen]; omega) (by rw [hlen]; omega) (by rw [hlen]; omega)
end Go.Proofs.Yticmpcloehnoaaa
