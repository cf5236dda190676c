/- Rows of truths: stretches, runs, the first that fits (chapter 9; of no program). -/
import Derived.Test.YticmpcloehnoaaaTblC
set_option linter.unusedVariables false
set_option linter.unusedSimpArgs false
namespace Go.Fx
open Go Go.Sx
set_option linter.unusedVariables false
set_option linter.unusedSimpArgs false
def bA (L : List AV) (k : Nat) : Bool := atB L (k : Int)
def setN (L : List AV) (s : Nat) (v : Bool) : Nat → List AV
  | 0 => L
  | n + 1 => (setN L s v n).set (s + n) (bv v)
theorem setN_len (L : List AV) (s : Nat) (v : Bool) : ∀ n, (setN L s v n).length = L.length
  | 0 => rfl
  | n + 1 => by simp [setN, setN_len L s v n]
theorem bA_set {L : List AV} {i : Nat} (v : Bool) (h : i < L.length) (j : Nat) : bA (L.set i (bv v)) j = if j = i then v else bA L j := by
  unfold bA atB
  simp only [Int.toNat_natCast, List.getD, List.getElem?_set]
  by_cases e : i = j
  · subst e; simp [h, bv, AV.getBool]
  · rw [if_neg e, if_neg (fun h => e h.symm)]
theorem setN_get {L : List AV} {s : Nat} (v : Bool) : ∀ {n : Nat} (j : Nat), s + n ≤ L.length → bA (setN L s v n) j = if s ≤ j ∧ j < s + n then v else bA L j
  | 0, j, h => by rw [if_neg (by omega)]; rfl
  | n + 1, j, h => by
    rw [setN, bA_set v (by rw [setN_len]; omega), setN_get v j (by omega)]
    by_cases e : j = s + n
    · rw [if_pos e, if_pos (by omega)]
    · rw [if_neg e]
      by_cases hh : s ≤ j ∧ j < s + n
      · rw [if_pos hh, if_pos (by omega)]
      · rw [if_neg hh, if_neg (by omega)]
/-- the end of a stretch -/
def scan (L : List AV) (v : Bool) : Nat → Nat → Nat
  | 0, i => i
  | n + 1, i => bif bA L i == v then scan L v n (i + 1) else i
theorem scan_ge (L : List AV) (v : Bool) : ∀ n i, i ≤ scan L v n i
  | 0, i => Nat.le_refl _
  | n + 1, i => by
    unfold scan
    cases bA L i == v
    · exact Nat.le_refl _
    · exact Nat.le_trans (Nat.le_succ i) (scan_ge L v n (i + 1))
theorem scan_le (L : List AV) (v : Bool) : ∀ n i, scan L v n i ≤ i + n
  | 0, i => Nat.le_refl _
  | n + 1, i => by
    unfold scan
    cases bA L i == v
    · simp
    · have := scan_le L v n (i + 1)
      simp only [cond_true]; omega
theorem scan_all (L : List AV) (v : Bool) : ∀ n i j, i ≤ j → j < scan L v n i → bA L j = v
  | 0, i, j, h1, h2 => by simp only [scan] at h2; omega
  | n + 1, i, j, h1, h2 => by
    unfold scan at h2
    cases hb : bA L i == v
    · rw [hb] at h2; simp only [cond_false] at h2; omega
    · rw [hb] at h2
      simp only [cond_true] at h2
      by_cases e : j = i
      · subst e; exact eq_of_beq hb
      · exact scan_all L v n (i + 1) j (by omega) h2
theorem scan_stop (L : List AV) (v : Bool) : ∀ n i, scan L v n i < i + n → bA L (scan L v n i) = !v
  | 0, i, h => by simp only [scan] at h; omega
  | n + 1, i, h => by
    unfold scan at h ⊢
    cases hb : bA L i == v
    · simp only [cond_false]
      cases h1 : bA L i <;> cases v <;> simp_all
    · rw [hb] at h
      simp only [cond_true] at h ⊢
      exact scan_stop L v n (i + 1) (by omega)
theorem scan_to (L : List AV) (v : Bool) : ∀ n i k, k ≤ n → (∀ j, i ≤ j → j < i + k → bA L j = v) → (k < n → bA L (i + k) = !v) → scan L v n i = i + k
  | 0, i, k, hk, _, _ => by simp only [scan]; omega
  | n + 1, i, 0, hk, h, hs => by
    unfold scan
    have := hs (by omega)
    rw [Nat.add_zero] at this
    rw [this]
    cases v <;> rfl
  | n + 1, i, k + 1, hk, h, hs => by
    unfold scan
    rw [h i (by omega) (by omega), beq_self_eq_true, cond_true, scan_to L v n (i + 1) k (by omega) (fun j h1 h2 => h j (by omega) (by omega)) (fun hh => by rw [show i + 1 + k = i + (k + 1) by omega]; exact hs (by omega))]
    omega
/-- all of a stretch -/
def allN (L : List AV) (s : Nat) (v : Bool) (n : Nat) : Bool := decide (scan L v n s = s + n)
theorem allN_iff {L : List AV} {s : Nat} {v : Bool} {n : Nat} : allN L s v n = true ↔ ∀ j, s ≤ j → j < s + n → bA L j = v := by
  unfold allN
  rw [decide_eq_true_eq]
  constructor
  · intro h j h1 h2; exact scan_all L v n s j h1 (by omega)
  · intro h; exact scan_to L v n s n (Nat.le_refl _) h (fun h => absurd h (Nat.lt_irrefl _))
def usedN (L : List AV) : Nat → Nat
  | 0 => 0
  | n + 1 => usedN L n + (bif bA L n then 1 else 0)
theorem usedN_le (L : List AV) : ∀ n, usedN L n ≤ n
  | 0 => Nat.le_refl _
  | n + 1 => by
    have := usedN_le L n
    unfold usedN
    cases bA L n <;> simp <;> omega
/-- runs of free ones -/
def runsF (L : List AV) (N : Nat) : Nat → Nat → List (Nat × Nat)
  | 0, _ => []
  | f + 1, s => if s < N then (if s < scan L false (N - s) s then [(s, scan L false (N - s) s - s)] else []) ++ runsF L N f (scan L false (N - s) s + 1) else []
def runs (L : List AV) : List (Nat × Nat) := runsF L L.length (L.length + 1) 0
/-- the document's way -/
def bump : List (Nat × Nat) → List (Nat × Nat)
  | [] => []
  | [r] => [(r.1, r.2 + 1)]
  | r :: q :: l => r :: bump (q :: l)
def stepR (L : List AV) (l : List (Nat × Nat)) (i : Nat) : List (Nat × Nat) := bif bA L i then l else bif decide (0 < i) && !bA L (i - 1) then bump l else l ++ [(i, 1)]
def refN (L : List AV) : Nat → List (Nat × Nat)
  | 0 => []
  | i + 1 => stepR L (refN L i) i
theorem bump_app : ∀ (l : List (Nat × Nat)) (r : Nat × Nat), bump (l ++ [r]) = l ++ [(r.1, r.2 + 1)]
  | [], r => rfl
  | [a], r => rfl
  | a :: b :: l, r => by
    show a :: bump (b :: (l ++ [r])) = _
    have := bump_app (b :: l) r
    simp only [List.cons_append] at this ⊢
    rw [this]
theorem ref_run (L : List AV) (s : Nat) (h0 : s = 0 ∨ bA L (s - 1) = true) : ∀ k, (∀ j, s ≤ j → j < s + k → bA L j = false) → refN L (s + k) = refN L s ++ (if 0 < k then [(s, k)] else [])
  | 0, _ => by simp
  | 1, h => by
    rw [refN, stepR, h s (by omega) (by omega)]
    have : (decide (0 < s) && !bA L (s - 1)) = false := by
      rcases h0 with h | h
      · simp [h]
      · simp [h]
    rw [this]; simp
  | k + 2, h => by
    have ih := ref_run L s h0 (k + 1) (fun j h1 h2 => h j h1 (by omega))
    rw [show s + (k + 2) = s + (k + 1) + 1 by omega, refN, stepR, h (s + (k + 1)) (by omega) (by omega), ih]
    have : (decide (0 < s + (k + 1)) && !bA L (s + (k + 1) - 1)) = true := by
      rw [show s + (k + 1) - 1 = s + k by omega, h (s + k) (by omega) (by omega), decide_eq_true (by omega)]; rfl
    rw [this, if_pos (by omega), if_pos (by omega)]
    simp only [cond_true, cond_false, bump_app]
theorem ref_runs (L : List AV) (N : Nat) : ∀ f s, N < s + f → (s = 0 ∨ bA L (s - 1) = true) → s ≤ N → refN L N = refN L s ++ runsF L N f s
  | 0, s, hf, _, hs => by omega
  | f + 1, s, hf, h0, hs => by
    unfold runsF
    by_cases h : s < N
    · rw [if_pos h]
      have g1 := scan_ge L false (N - s) s
      have g2 := scan_le L false (N - s) s
      have hr := ref_run L s h0 (scan L false (N - s) s - s) (fun j h1 h2 => scan_all L false (N - s) s j h1 (by omega))
      rw [show s + (scan L false (N - s) s - s) = scan L false (N - s) s by omega] at hr
      have hst := scan_stop L false (N - s) s
      generalize scan L false (N - s) s = e at *
      have hif : (if 0 < e - s then [(s, e - s)] else []) = (if s < e then [(s, e - s)] else []) := by
        by_cases q : s < e
        · rw [if_pos (by omega), if_pos q]
        · rw [if_neg (by omega), if_neg q]
      rw [hif] at hr
      by_cases he : e < N
      · have hu := hst (by omega)
        have h1 : refN L (e + 1) = refN L e := by rw [refN, stepR, hu]; rfl
        rw [ref_runs L N f (e + 1) (by omega) (.inr (by simpa using hu)) (by omega), h1, hr, List.append_assoc]
      · have : e = N := by omega
        subst this
        rw [hr]
        have : runsF L e f (e + 1) = [] := by
          cases f with
          | zero => rfl
          | succ f => unfold runsF; rw [if_neg (by omega)]
        rw [this, List.append_nil]
    · have : s = N := by omega
      subst this
      rw [if_neg h, List.append_nil]
theorem ref_eq (L : List AV) : refN L L.length = runs L := by
  have := ref_runs L L.length (L.length + 1) 0 (by omega) (.inl rfl) (Nat.zero_le _)
  rw [this]; rfl
/-- the first that fits -/
def fitF (L : List AV) (n : Nat) : Nat → Nat → Option Nat
  | 0, _ => none
  | f + 1, s => bif decide (s + n ≤ L.length) then (bif allN L s false n then some s else fitF L n f (s + 1)) else none
def fit (L : List AV) (n : Nat) : Option Nat := fitF L n (L.length + 1) 0
def fitR (n : Nat) : List (Nat × Nat) → Option Nat
  | [] => none
  | r :: l => bif decide (n ≤ r.2) then some r.1 else fitR n l
theorem fitF_skip (L : List AV) (n : Nat) : ∀ k f s, (∀ j, s ≤ j → j < s + k → j + n ≤ L.length → allN L j false n = false) → k ≤ f → L.length < s + f → fitF L n f s = fitF L n (f - k) (s + k) := by
  intro k
  induction k with
  | zero => intro f s _ _ _; rfl
  | succ k ih =>
    intro f s h hk hf
    cases f with
    | zero => omega
    | succ f =>
      rw [fitF]
      by_cases hb : s + n ≤ L.length
      · rw [decide_eq_true hb, cond_true, h s (by omega) (by omega) hb, cond_false, ih f (s + 1) (fun j h1 h2 h3 => h j (by omega) (by omega) h3) (by omega) (by omega)]
        rw [show s + 1 + k = s + (k + 1) by omega, show f + 1 - (k + 1) = f - k by omega]
      · rw [decide_eq_false hb, cond_false]
        cases hq : f + 1 - (k + 1) with
        | zero => rfl
        | succ q => rw [fitF, decide_eq_false (by omega)]; rfl
theorem fit_runs (L : List AV) (n : Nat) (hn : 1 ≤ n) : ∀ f g s, L.length < s + f → L.length < s + g → fitR n (runsF L L.length f s) = fitF L n g s
  | 0, g, s, hf, hg => by
    show none = _
    cases g with
    | zero => rfl
    | succ g => rw [fitF, decide_eq_false (by omega)]; rfl
  | f + 1, g, s, hf, hg => by
    unfold runsF
    by_cases h : s < L.length
    · rw [if_pos h]
      have g1 := scan_ge L false (L.length - s) s
      have g2 := scan_le L false (L.length - s) s
      have hal := scan_all L false (L.length - s) s
      have hst := scan_stop L false (L.length - s) s
      generalize scan L false (L.length - s) s = e at *
      by_cases hfit : n ≤ e - s
      · rw [if_pos (by omega)]
        simp only [List.cons_append, List.nil_append, fitR]
        rw [decide_eq_true hfit, cond_true]
        cases g with
        | zero => omega
        | succ g =>
          rw [fitF, decide_eq_true (by omega), cond_true, (allN_iff (L := L)).2 (fun j h1 h2 => hal j h1 (by omega)), cond_true]
      · have e1 : fitR n ((if s < e then [(s, e - s)] else []) ++ runsF L L.length f (e + 1)) = fitR n (runsF L L.length f (e + 1)) := by
          by_cases q : s < e
          · rw [if_pos q]
            simp only [List.cons_append, List.nil_append, fitR]
            rw [decide_eq_false hfit, cond_false]
          · rw [if_neg q]; rfl
        rw [e1]
        rw [fitF_skip L n (e + 1 - s) g s ?_ (by omega) hg, show s + (e + 1 - s) = e + 1 by omega]
        · exact fit_runs L n hn f (g - (e + 1 - s)) (e + 1) (by omega) (by omega)
        · intro j h1 h2 h3
          cases ha : allN L j false n with
          | false => rfl
          | true =>
            exfalso
            have := (allN_iff.1 ha) e (by omega) (by omega)
            have hu := hst (by omega)
            rw [this] at hu; cases hu
    · rw [if_neg h]
      show none = _
      cases g with
      | zero => rfl
      | succ g => rw [fitF, decide_eq_false (by omega)]; rfl
theorem fit_eq (L : List AV) {n : Nat} (hn : 1 ≤ n) : fitR n (runs L) = fit L n := fit_runs L n hn _ _ 0 (by omega) (by omega)
end Go.Fx
