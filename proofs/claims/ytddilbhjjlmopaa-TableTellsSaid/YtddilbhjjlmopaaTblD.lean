/- A number within a row's length; pages set one by one (chapter 19), outright. -/
import Derived.Test.YtddilbhjjlmopaaTblC
set_option linter.unusedVariables false
set_option linter.unusedSimpArgs false
namespace Go.Fx
open Go Go.Sx
set_option linter.unusedVariables false
set_option linter.unusedSimpArgs false
def rG (n : Int) : Bool := decide (1 ≤ n) && decide (n ≤ 1000000)
def roundS : FSpec := ⟨fun args k => match args with
  | [.lit (.int .i64 a), .lit (.int .i64 n)] => bif rG n then k (i64 (a % n)) else none
  | _ => none⟩
theorem roundS_ok {P : Program} {f : FuncId} (h : ∀ a n, rG n = true → PureOk P f [i64 a, i64 n] (i64 (a % n))) : roundS.Ok P f := by
  intro R args k r e
  simp only [roundS] at e
  split at e
  · rename_i a n
    cases hg : rG n
    · rw [hg] at e; cases e
    · rw [hg] at e; exact ⟨_, e, h a n hg⟩
  · cases e
theorem round_val {a n : Int} (h : rG n = true) : (wi (a.tmod n + n)).tmod n = a % n := by
  simp only [rG, Bool.and_eq_true, decide_eq_true_eq] at h
  have h1 := Int.tmod_lt_of_pos a (show 0 < n by omega)
  have h2 : -n < a.tmod n := by
    have := Int.lt_tmod_of_pos a (show 0 < n by omega)
    omega
  rw [wi_id (by omega) (by omega)]
  rw [Int.tmod_eq_emod_of_nonneg (by omega)]
  have e : a.tmod n = a - n * a.tdiv n := by have := Int.tmod_add_mul_tdiv a n; omega
  rw [e, show a - n * a.tdiv n + n = a + n * (1 - a.tdiv n) by grind, Int.add_mul_emod_self_left]
def newLL (d : Int) : List AV := (List.replicate (cn d).toNat (bv false)).set 0 (bv true)
/-- each page of the row is one, and stands at its key -/
def goodL (d : Int) (A : List AV) : Bool := decide ((A.length : Int) = cn d) && (decide (1 ≤ A.length) && (decide (A.length ≤ 85) && (List.range A.length).all fun k => validB d (cI (A.getD k .bad) 0) (cI (A.getD k .bad) 1) (cI (A.getD k .bad) 2) && (keyV d (cI (A.getD k .bad) 0) (cI (A.getD k .bad) 1) (cI (A.getD k .bad) 2) == (k : Int))))
theorem goodL_len {d : Int} {A : List AV} (h : goodL d A = true) : (A.length : Int) = cn d ∧ 1 ≤ A.length ∧ A.length ≤ 85 := by
  simp only [goodL, Bool.and_eq_true, decide_eq_true_eq] at h; exact ⟨h.1, h.2.1, h.2.2.1⟩
theorem goodL_at {d : Int} {A : List AV} (h : goodL d A = true) {k : Nat} (hk : k < A.length) : validB d (cI (A.getD k .bad) 0) (cI (A.getD k .bad) 1) (cI (A.getD k .bad) 2) = true ∧ keyV d (cI (A.getD k .bad) 0) (cI (A.getD k .bad) 1) (cI (A.getD k .bad) 2) = (k : Int) := by
  simp only [goodL, Bool.and_eq_true, List.all_eq_true, beq_iff_eq] at h
  exact h.2.2.2 k (List.mem_range.2 hk)
theorem goodL_pgs {d : Nat} (h : d ≤ 3) : goodL (d : Int) (pgs d) = true := by
  simp only [goodL, Bool.and_eq_true, decide_eq_true_eq, List.all_eq_true, beq_iff_eq]
  exact ⟨pgs_cn h, pgs_pos h, pgs_85 h, fun k hk => pgs_good h (List.mem_range.1 hk)⟩
theorem goodL_rG {d : Int} {A : List AV} (h : goodL d A = true) : rG (A.length : Int) = true := by
  have := goodL_len h
  simp only [rG, Bool.and_eq_true, decide_eq_true_eq]; omega
/-- which page a number means -/
def ixA (A : List AV) (v : AV) : Nat := (v.getInt % (A.length : Int)).toNat
theorem ixA_bd {d : Int} {A : List AV} (h : goodL d A = true) (v : AV) : 0 ≤ v.getInt % (A.length : Int) ∧ v.getInt % (A.length : Int) < (A.length : Int) ∧ ixA A v < A.length ∧ ((ixA A v : Nat) : Int) = v.getInt % (A.length : Int) := by
  have := goodL_len h
  have h1 := Int.emod_nonneg v.getInt (show (A.length : Int) ≠ 0 by omega)
  have h2 := Int.emod_lt_of_pos v.getInt (show 0 < (A.length : Int) by omega)
  unfold ixA
  omega
def setF (L A : List AV) : Nat → Nat → List AV → List AV
  | 0, _, T => T
  | n + 1, j, T => setF L A n (j + 1) (T.set (ixA A (L.getD j .bad)) (bv true))
theorem setF_len (L A : List AV) : ∀ n j T, (setF L A n j T).length = T.length
  | 0, _, _ => rfl
  | n + 1, j, T => by rw [setF, setF_len L A n]; simp
theorem atB_set (T : List AV) (i k : Nat) (b : Bool) : atB (T.set i (bv b)) (k : Int) = if i = k ∧ k < T.length then b else atB T (k : Int) := by
  unfold atB
  rw [Int.toNat_natCast]
  simp only [List.getD, List.getElem?_set]
  by_cases hik : i = k
  · subst hik
    by_cases hl : i < T.length
    · simp [hl, bv, AV.getBool]
    · simp [hl, AV.getBool]
  · simp [hik]
theorem setF_root (L A : List AV) : ∀ n j T, 0 < T.length → atB T 0 = true → atB (setF L A n j T) 0 = true
  | 0, _, _, _, h => h
  | n + 1, j, T, hl, h => by
    rw [setF]
    refine setF_root L A n (j + 1) _ (by simpa using hl) ?_
    have := atB_set T (ixA A (L.getD j .bad)) 0 true
    simp only [Int.ofNat_zero, Int.natCast_zero] at this
    rw [this]
    split
    · rfl
    · exact h
theorem newL_len (d : Int) : ((newLL d).length : Int) = cn d ∧ (0 < cn d → atB (newLL d) 0 = true) := by
  have hb : 0 ≤ cn d := by
    unfold cn
    cases dB d
    · simp
    · rcases ah_cases (d + 1) with e | e | e | e | e <;> simp [e]
  refine ⟨by simp [newLL]; omega, fun h => ?_⟩
  have := atB_set (List.replicate (cn d).toNat (bv false)) 0 0 true
  simp only [Int.natCast_zero] at this
  unfold newLL
  rw [this, if_pos (by simp; omega)]
end Go.Fx
