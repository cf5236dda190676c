/- Counting corners; rows that are begun elsewhere (chapter 24), of no program. -/
import Derived.Test.YtplfijdonikaoaaClipD
set_option linter.unusedVariables false
set_option linter.unusedSimpArgs false
namespace Go.Fx
open Go Go.Sx
def seqX (p : Int) : List AV → AV → List AV
  | [], _ => []
  | [a], z => stepX p a z
  | a :: b :: l, z => stepX p a b ++ seqX p (b :: l) z
theorem seqX_cons (p : Int) (a : AV) (l : List AV) (z : AV) : seqX p (a :: l) z = stepX p a (l.headD z) ++ seqX p l z := by
  cases l <;> simp [seqX]
theorem goX_seq (L : List AV) (p : Int) (hL : L ≠ []) : ∀ m j, j + m = L.length → goX L p m j = seqX p (L.drop j) (L.getD 0 .bad)
  | 0, j, h => by rw [List.drop_eq_nil_of_le (by omega)]; rfl
  | m + 1, j, h => by
    rw [goX, goX_seq L p hL m (j + 1) (by omega)]
    have hj : j < L.length := by omega
    rw [show L.drop j = L.getD j .bad :: L.drop (j + 1) by rw [List.drop_eq_getElem_cons hj]; simp [List.getD, List.getElem?_eq_getElem hj], seqX_cons]
    congr 2
    rcases Nat.lt_or_ge (j + 1) L.length with h1 | h1
    · rw [Nat.mod_eq_of_lt h1, List.drop_eq_getElem_cons h1]
      simp [List.getD, List.getElem?_eq_getElem h1]
    · rw [show j + 1 = L.length by omega, Nat.mod_self, List.drop_eq_nil_of_le (Nat.le_refl _)]; rfl
theorem byX_seq (p : Int) (a : AV) (l : List AV) : byX (a :: l) p = seqX p (a :: l) a := goX_seq (a :: l) p (by simp) _ 0 (Nat.zero_add _)
theorem seqX_append (p : Int) : ∀ (u v : List AV) (z : AV), seqX p (u ++ v) z = seqX p u (v.headD z) ++ seqX p v z
  | [], v, z => rfl
  | a :: u, v, z => by
    rw [List.cons_append, seqX_cons, seqX_cons, seqX_append p u v z, List.append_assoc]
    congr 2
    cases u <;> rfl
/-- begun elsewhere -/
def Rot (A B : List AV) : Prop := ∃ u v, A = u ++ v ∧ B = v ++ u
theorem Rot.by_ {A B : List AV} (p : Int) (h : Rot A B) : Rot (byX A p) (byX B p) := by
  obtain ⟨u, v, rfl, rfl⟩ := h
  match u, v with
  | [], v => exact ⟨[], byX v p, by simp, by simp⟩
  | u, [] => exact ⟨byX u p, [], by simp, by simp⟩
  | a :: u, b :: v =>
    refine ⟨seqX p (a :: u) b, seqX p (b :: v) a, ?_, ?_⟩
    · rw [List.cons_append, byX_seq, ← List.cons_append, seqX_append]; rfl
    · rw [List.cons_append, byX_seq, ← List.cons_append, seqX_append]; rfl
theorem Rot.it {A B : List AV} (h : Rot A B) : ∀ k, Rot (itX A k) (itX B k)
  | 0 => h
  | k + 1 => (Rot.it h k).by_ _
theorem Rot.len {A B : List AV} (h : Rot A B) : A.length = B.length := by
  obtain ⟨u, v, rfl, rfl⟩ := h
  simp [Nat.add_comm]
theorem Rot.pol {A B : List AV} (h : Rot A B) : Rot (polX A) (polX B) := by
  unfold polX
  rw [← h.len, ← (h.it 7).len]
  split
  · exact ⟨[], [], rfl, rfl⟩
  · split
    · exact ⟨[], [], rfl, rfl⟩
    · exact h.it 7
theorem Rot.count {A B : List AV} (h : Rot A B) (q : AV → Bool) : A.countP q = B.countP q := by
  obtain ⟨u, v, rfl, rfl⟩ := h
  rw [List.countP_append, List.countP_append, Nat.add_comm]

/-! counting -/
def bN (b : Bool) : Nat := bif b then 1 else 0
def nI (p : Int) : List AV → Nat
  | [] => 0
  | a :: l => bN (inB a p) + nI p l
def nD (p : Int) : List AV → AV → Nat
  | [], _ => 0
  | a :: l, z => bN (inB a p && !inB (l.headD z) p) + nD p l z
def nU (p : Int) : List AV → AV → Nat
  | [], _ => 0
  | a :: l, z => bN (inB (l.headD z) p && !inB a p) + nU p l z
theorem stepX_cnt (p : Int) (a b : AV) : (stepX p a b).length = bN (inB a p) + (bN (inB a p && !inB b p) + bN (inB b p && !inB a p)) := by
  unfold stepX
  cases inB a p <;> cases inB b p <;> rfl
theorem seqX_cnt (p : Int) : ∀ (l : List AV) (z : AV), (seqX p l z).length = nI p l + (nD p l z + nU p l z)
  | [], z => rfl
  | a :: l, z => by
    rw [seqX_cons, List.length_append, stepX_cnt, seqX_cnt p l z, nI, nD, nU]; omega
theorem nDU (p : Int) : ∀ (l : List AV) (z : AV), nD p l z + bN (inB z p) = nU p l z + bN (inB (l.headD z) p)
  | [], z => by simp [nD, nU]
  | a :: l, z => by
    have h := nDU p l z
    rw [nD, nU]
    show _ = _ + bN (inB a p)
    generalize l.headD z = b at *
    revert h
    cases inB a p <;> cases inB b p <;> simp [bN] <;> omega
theorem nD_le (p : Int) : ∀ (l : List AV) (z : AV), nD p l z ≤ nI p l ∧ nU p l z + nI p l ≤ l.length
  | [], z => by simp [nD, nU, nI]
  | a :: l, z => by
    have h := nD_le p l z
    rw [nD, nU, nI, List.length_cons]
    cases inB a p <;> cases inB (l.headD z) p <;> simp [bN] <;> omega
theorem n_all (p : Int) : ∀ (l : List AV) (z : AV), nD p l z = 0 → nU p l z = 0 → nI p l = l.length * bN (inB (l.headD z) p)
  | [], z, _, _ => by simp [nI]
  | a :: l, z, h1, h2 => by
    rw [nD] at h1; rw [nU] at h2
    have h := n_all p l z (by omega) (by omega)
    rw [nI, h, List.length_cons]
    show _ = _ * bN (inB a p)
    revert h1 h2
    cases inB a p <;> cases inB (l.headD z) p <;> simp [bN] <;> omega
theorem byX_cnt (p : Int) (a : AV) (l : List AV) : nD p (a :: l) a = nU p (a :: l) a ∧ (byX (a :: l) p).length = nI p (a :: l) + 2 * nD p (a :: l) a := by
  have h := nDU p (a :: l) a
  have e : nD p (a :: l) a = nU p (a :: l) a := by
    have : bN (inB ((a :: l).headD a) p) = bN (inB a p) := rfl
    omega
  refine ⟨e, ?_⟩
  rw [byX_seq, seqX_cnt, ← e]; omega
theorem byX_three {L : List AV} (p : Int) (h : L.length ≥ 3 ∨ L = []) : (byX L p).length ≥ 3 ∨ byX L p = [] := by
  match L, h with
  | [], _ => exact .inr rfl
  | a :: l, h =>
    have hl : (a :: l).length ≥ 3 := h.elim id (fun e => by cases e)
    obtain ⟨h1, h2⟩ := byX_cnt p a l
    have h3 := nD_le p (a :: l) a
    by_cases hd : nD p (a :: l) a = 0
    · have h4 := n_all p (a :: l) a hd (by omega)
      rw [hd, h4] at h2
      revert h2
      cases inB ((a :: l).headD a) p <;> simp only [bN, cond_true, cond_false] <;> intro h2
      · right; exact List.eq_nil_of_length_eq_zero (by omega)
      · left; omega
    · left; omega
theorem byX_half (L : List AV) (p : Int) : 2 * (byX L p).length ≤ 3 * L.length := by
  match L with
  | [] => exact Nat.le_refl _
  | a :: l =>
    obtain ⟨h1, h2⟩ := byX_cnt p a l
    have h3 := nD_le p (a :: l) a
    omega
theorem itX_three {L : List AV} (h : L.length ≥ 3) : ∀ k, (itX L k).length ≥ 3 ∨ itX L k = []
  | 0 => .inl h
  | k + 1 => byX_three _ (itX_three h k)
theorem byX_nil (p : Int) : byX [] p = [] := rfl
theorem itX_nil {L : List AV} {k : Nat} (h : itX L k = []) : ∀ m, itX L (k + m) = []
  | 0 => h
  | m + 1 => by rw [← Nat.add_assoc, itX, itX_nil h m]; rfl
end Go.Fx
