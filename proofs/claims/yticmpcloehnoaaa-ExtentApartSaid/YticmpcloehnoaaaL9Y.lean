/- ExtentApart: the search, the owners, what is used (chapter 9). -/
import Derived.Test.YticmpcloehnoaaaL9X
set_option linter.unusedVariables false
set_option linter.unusedSimpArgs false
namespace Go.Proofs.Yticmpcloehnoaaa
open Go Go.Sx Go.Fx
set_option maxRecDepth 100000
set_option linter.unusedVariables false
set_option linter.unusedSimpArgs false
/-- an owner where it is used -/
structure Sim (O L : List AV) : Prop where
  len : O.length = L.length
  own : ∀ x : Nat, x < L.length → (gI O x != 0) = bA L x
theorem srch_fit {O L : List AV} (hs : Sim O L) (hL : L.length ≤ 65535) {k : Nat} (hk1 : 1 ≤ k) (hk : k ≤ 65536) : ∀ fu j r : Nat, j ≤ L.length → fu = L.length + 1 - j → r ≤ j → r < k → (∀ t, j - r ≤ t → t < j → bA L t = false) →
    (srch O k fu (-1) r j).1 = optK (fitF L k (L.length + 1 - (j - r)) (j - r)) (fun s => (s : Int)) (-1)
  | 0, j, r, hj, hf, _, _, _ => by omega
  | fu + 1, j, r, hj, hf, hr, hrk, hfree => by
    rw [srch]
    have hlen := hs.len
    by_cases hjl : j < L.length
    · rw [decide_eq_true (show (j : Int) < (O.length : Int) by omega), show decide ((-1 : Int) < 0) = true from rfl]
      simp only [Bool.and_self, cond_true]
      rw [hs.own j hjl]
      cases hb : bA L j
      · simp only [cond_false]
        have e1 : wi ((r : Int) + 1) = ((r + 1 : Nat) : Int) := by rw [wi_s (by omega) (by omega)]; omega
        rw [e1]
        have hfree' : ∀ t, j - r ≤ t → t < j + 1 → bA L t = false := fun t h1 h2 => by
          by_cases h : t = j
          · subst h; exact hb
          · exact hfree t h1 (by omega)
        by_cases hk' : r + 1 = k
        · have e2 : wi (wi ((j : Int) - (k : Int)) + 1) = ((j - r : Nat) : Int) := by
            rw [wi_id (n := (j : Int) - (k : Int)) (by omega) (by omega), wi_id (by omega) (by omega)]; omega
          rw [show (((r + 1 : Nat) : Int) == (k : Int)) = true from beq_iff_eq.2 (by omega), cond_true, e2]
          have hfit : fitF L k (L.length + 1 - (j - r)) (j - r) = some (j - r) := by
            rw [show L.length + 1 - (j - r) = (L.length - (j - r)) + 1 by omega, fitF, decide_eq_true (by omega), cond_true, (allN_iff (L := L)).2 (fun t h1 h2 => hfree' t h1 (by omega)), cond_true]
          rw [hfit]
          show (srch O k fu ((j - r : Nat) : Int) ((r + 1 : Nat) : Int) (j + 1)).1 = ((j - r : Nat) : Int)
          cases fu with
          | zero => rfl
          | succ fu => rw [srch, show decide ((((j - r : Nat) : Int)) < 0) = false from decide_eq_false (by omega), Bool.and_false]; rfl
        · rw [show (((r + 1 : Nat) : Int) == (k : Int)) = false from beq_eq_false_iff_ne.2 (by omega), cond_false]
          have ih := srch_fit hs hL hk1 hk fu (j + 1) (r + 1) (by omega) (by omega) (by omega) (by omega) (fun t h1 h2 => hfree' t (by omega) h2)
          rw [show j + 1 - (r + 1) = j - r by omega] at ih
          exact ih
      · simp only [cond_true]
        rw [show ((0 : Int) == (k : Int)) = false from beq_eq_false_iff_ne.2 (by omega), cond_false]
        have ih := srch_fit hs hL hk1 hk fu (j + 1) 0 (by omega) (by omega) (by omega) (by omega) (fun t h1 h2 => by omega)
        rw [show j + 1 - 0 = j + 1 by omega] at ih
        have hsk := fitF_skip L k (r + 1) (L.length + 1 - (j - r)) (j - r) (fun t h1 h2 h3 => by
          cases ha : allN L t false k with
          | false => rfl
          | true =>
            have := (allN_iff.1 ha) j (by omega) (by omega)
            rw [hb] at this; cases this) (by omega) (by omega)
        rw [show L.length + 1 - (j - r) - (r + 1) = L.length + 1 - (j + 1) by omega, show j - r + (r + 1) = j + 1 by omega] at hsk
        rw [hsk]
        exact ih
    · rw [decide_eq_false (show ¬ (j : Int) < (O.length : Int) by omega)]
      have : fitF L k (L.length + 1 - (j - r)) (j - r) = none := by
        rw [show L.length + 1 - (j - r) = (L.length - (j - r)) + 1 by omega, fitF, decide_eq_false (by omega)]; rfl
      rw [this]; rfl
theorem srchR_fit {O L : List AV} (hs : Sim O L) (hL : L.length ≤ 65535) {k : Nat} (hk1 : 1 ≤ k) (hk : k ≤ 65536) : (srchR O k).1 = optK (fit L k) (fun s => (s : Int)) (-1) := by
  unfold srchR
  rw [hs.len]
  exact srch_fit hs hL hk1 hk (L.length + 1) 0 0 (Nat.zero_le _) rfl (Nat.le_refl _) (by omega) (fun t h1 h2 => by omega)
theorem gI_set {O : List AV} {i : Nat} (v : Int) (h : i < O.length) (j : Nat) : gI (O.set i (i64 v)) j = if j = i then v else gI O j := by
  unfold gI
  simp only [Int.toNat_natCast, List.getD, List.getElem?_set]
  by_cases e : i = j
  · subst e; simp [h, AV.getInt]
  · rw [if_neg e, if_neg (fun h => e h.symm)]
theorem setI_get {O : List AV} {s : Nat} (v : Int) : ∀ {n : Nat} (j : Nat), s + n ≤ O.length → gI (setI O s v n) j = if s ≤ j ∧ j < s + n then v else gI O j
  | 0, j, h => by rw [if_neg (by omega)]; rfl
  | n + 1, j, h => by
    rw [setI, gI_set v (by rw [setI_len]; omega), setI_get v j (by omega)]
    by_cases e : j = s + n
    · rw [if_pos e, if_pos (by omega)]
    · rw [if_neg e]
      by_cases hh : s ≤ j ∧ j < s + n
      · rw [if_pos hh, if_pos (by omega)]
      · rw [if_neg hh, if_neg (by omega)]
theorem sim_set {O L : List AV} (hs : Sim O L) {s k : Nat} (hk : s + k ≤ L.length) {v : Int} {b : Bool} (hv : (v != 0) = b) : Sim (setI O s v k) (setN L s b k) where
  len := by rw [setI_len, setN_len]; exact hs.len
  own := fun x hx => by
    rw [setN_len] at hx
    rw [setI_get v x (by rw [hs.len]; exact hk), setN_get b x hk]
    by_cases h : s ≤ x ∧ x < s + k
    · rw [if_pos h, if_pos h]; exact hv
    · rw [if_neg h, if_neg h]; exact hs.own x hx
theorem used_set {L : List AV} {i : Nat} (h : i < L.length) (hb : bA L i = false) : ∀ n, usedN (L.set i (bv true)) n = usedN L n + (if i < n then 1 else 0)
  | 0 => rfl
  | n + 1 => by
    rw [usedN, usedN, used_set h hb n, bA_set true h n]
    by_cases e : n = i
    · subst e
      rw [if_pos rfl, if_neg (Nat.lt_irrefl _), if_pos (by omega), hb]; rfl
    · rw [if_neg e]
      by_cases h' : i < n
      · rw [if_pos h', if_pos (by omega)]; omega
      · rw [if_neg h', if_neg (by omega)]; omega
theorem used_took {L : List AV} {s : Nat} : ∀ {k : Nat}, s + k ≤ L.length → (∀ j, s ≤ j → j < s + k → bA L j = false) → usedN (setN L s true k) L.length = usedN L L.length + k
  | 0, _, _ => rfl
  | k + 1, h, hf => by
    rw [setN, used_set (by rw [setN_len]; omega) (by rw [setN_get true _ (by omega), if_neg (by omega)]; exact hf _ (by omega) (by omega)), used_took (by omega) (fun j h1 h2 => hf j h1 (by omega)), if_pos (by omega)]
    omega
theorem used_cong {L L' : List AV} : ∀ {n : Nat}, (∀ j, j < n → bA L j = bA L' j) → usedN L n = usedN L' n
  | 0, _ => rfl
  | n + 1, h => by rw [usedN, usedN, used_cong (fun j hj => h j (by omega)), h n (by omega)]
end Go.Proofs.Yticmpcloehnoaaa
