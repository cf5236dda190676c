/- The document's list of runs, as a row (chapter 9; of no program). -/
import Derived.Test.YticmpcloehnoaaaExtA
import Derived.Test.YticmpcloehnoaaaSxTwo
import Derived.Test.YticmpcloehnoaaaFxB
set_option linter.unusedVariables false
set_option linter.unusedSimpArgs false
namespace Go.Fx
open Go Go.Sx
set_option linter.unusedVariables false
set_option linter.unusedSimpArgs false
def rV (r : Nat × Nat) : AV := .agg [i64 (r.1 : Nat), i64 (r.2 : Nat)]
def bumpV (acc : List AV) : List AV := acc.set (wi ((acc.length : Int) - 1)).toNat (setCA (acc.getD (wi ((acc.length : Int) - 1)).toNat .bad) 1 (i64 (wi (cI (acc.getD (wi ((acc.length : Int) - 1)).toNat .bad) 1 + 1))))
theorem snoc_of {l : List (Nat × Nat)} (h : l ≠ []) : ∃ m r, l = m ++ [r] := ⟨l.dropLast, l.getLast h, (List.dropLast_concat_getLast h).symm⟩
theorem bump_len : ∀ l : List (Nat × Nat), (bump l).length = l.length
  | [] => rfl
  | [a] => rfl
  | a :: b :: l => by
    show (bump (b :: l)).length + 1 = _
    rw [bump_len (b :: l)]; rfl
theorem ref_len (L : List AV) : ∀ i, (refN L i).length ≤ i
  | 0 => Nat.le_refl _
  | i + 1 => by
    have := ref_len L i
    unfold refN stepR
    cases bA L i
    · cases decide (0 < i) && !bA L (i - 1)
      · simp; omega
      · simp only [cond_false, cond_true, bump_len]; omega
    · simp only [cond_true]; omega
theorem ref_ne (L : List AV) : ∀ i, bA L i = false → refN L (i + 1) ≠ []
  | 0, h => by unfold refN stepR; rw [h]; simp [refN]
  | i + 1, h => by
    rw [refN, stepR, h]
    cases hp : decide (0 < i + 1) && !bA L (i + 1 - 1)
    · simp
    · simp only [Bool.and_eq_true, Bool.not_eq_true', Nat.add_sub_cancel] at hp
      have := ref_ne L i hp.2
      intro e
      simp only [cond_true, cond_false] at e
      have h2 := bump_len (refN L (i + 1))
      rw [e] at h2
      exact this (List.eq_nil_of_length_eq_zero h2.symm)
theorem ref_bd (L : List AV) : ∀ i r, r ∈ refN L i → r.1 + r.2 ≤ i
  | 0, r, h => by cases h
  | i + 1, r, h => by
    have ih := ref_bd L i
    unfold refN stepR at h
    cases hb : bA L i
    · rw [hb] at h
      cases hp : decide (0 < i) && !bA L (i - 1)
      · rw [hp] at h
        simp only [cond_false, List.mem_append, List.mem_singleton] at h
        rcases h with h | rfl
        · have := ih r h; omega
        · simp
      · rw [hp] at h
        simp only [cond_false, cond_true] at h
        by_cases hn : refN L i = []
        · rw [hn] at h; cases h
        · obtain ⟨m, q, e⟩ := snoc_of hn
          rw [e, bump_app] at h
          rw [e] at ih
          rcases List.mem_append.1 h with h | h
          · have := ih r (by simp [h]); omega
          · simp only [List.mem_singleton] at h
            subst h
            have := ih q (by simp)
            simp only; omega
    · rw [hb] at h
      have := ih r h; omega
theorem bumpV_map {l : List (Nat × Nat)} (hn : l ≠ []) (hl : l.length ≤ 65536) (hb : ∀ r, r ∈ l → r.1 + r.2 ≤ 65536) : bumpV (l.map rV) = (bump l).map rV := by
  obtain ⟨m, r, rfl⟩ := snoc_of hn
  have h1 := hb r (by simp)
  have hlen : ((m ++ [r]).map rV).length = m.length + 1 := by simp
  have hk : (wi ((((m ++ [r]).map rV).length : Int) - 1)).toNat = m.length := by
    rw [hlen, wi_id (by omega) (by simp at hl; omega)]; omega
  unfold bumpV
  rw [hk, bump_app]
  have hg : ((m ++ [r]).map rV).getD m.length .bad = rV r := by simp [List.getD]
  rw [hg, List.map_append, List.map_append]
  have hc : cI (rV r) 1 = (r.2 : Nat) := rfl
  have hs : setCA (rV r) 1 (i64 (wi (cI (rV r) 1 + 1))) = rV (r.1, r.2 + 1) := by
    rw [hc, wi_id (by omega) (by omega)]
    rfl
  rw [hs]
  have : m.length = (m.map rV).length := by simp
  rw [this, List.set_append_right _ _ (Nat.le_refl _), Nat.sub_self]
  rfl
/-- Take: the place, the number of the fault, the row -/
def optK {β : Type} (o : Option Nat) (a : Nat → β) (b : β) : β := match o with
  | some s => a s
  | none => b
def takeV (L : List AV) (n : Int) : Int := bif decide (n < 1) then 0 else optK (fit L n.toNat) (fun s => (s : Int)) 0
def takeE (L : List AV) (n : Int) : Int := bif decide (n < 1) then 1 else optK (fit L n.toNat) (fun _ => 0) 6
def takeL (L : List AV) (n : Int) : List AV := bif decide (n < 1) then L else optK (fit L n.toNat) (fun s => setN L s true n.toNat) L
theorem fitF_spec (L : List AV) (n : Nat) : ∀ f s r, fitF L n f s = some r → s ≤ r ∧ r + n ≤ L.length ∧ allN L r false n = true
  | 0, s, r, h => by cases h
  | f + 1, s, r, h => by
    unfold fitF at h
    by_cases hb : s + n ≤ L.length
    · rw [decide_eq_true hb] at h
      cases ha : allN L s false n
      · rw [ha] at h
        have := fitF_spec L n f (s + 1) r h
        exact ⟨by omega, this.2⟩
      · rw [ha] at h
        simp only [cond_true, Option.some.injEq] at h
        subst h
        exact ⟨Nat.le_refl _, hb, ha⟩
    · rw [decide_eq_false hb] at h; cases h
end Go.Fx
