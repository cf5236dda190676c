/- A list of pages (chapter 19), outright. -/
import Derived.Test.YtddilbhjjlmopaaTblG
set_option linter.unusedVariables false
set_option linter.unusedSimpArgs false
namespace Go.Fx
open Go Go.Sx
set_option linter.unusedVariables false
set_option linter.unusedSimpArgs false
def eqP (p : AV) (l x y : Int) : Bool := eq3 (cI p 0) (cI p 1) (cI p 2) l x y
def hasK (P : List AV) (l x y : Int) : Nat → Nat → Bool
  | 0, _ => false
  | n + 1, j => eqP (P.getD j .bad) l x y || hasK P l x y n (j + 1)
def hasJ (P : List AV) (l x y : Int) : Nat → Nat → Nat
  | 0, j => j
  | n + 1, j => bif eqP (P.getD j .bad) l x y then j else hasJ P l x y n (j + 1)
def hasB (P : List AV) (l x y : Int) : Bool := hasK P l x y P.length 0
theorem hasK_any (P : List AV) (l x y : Int) : ∀ n j, j + n = P.length → hasK P l x y n j = (P.drop j).any fun p => eqP p l x y
  | 0, j, h => by rw [List.drop_eq_nil_of_le (by omega)]; rfl
  | n + 1, j, h => by
    have hj : j < P.length := by omega
    rw [hasK, hasK_any P l x y n (j + 1) (by omega), show P.drop j = P.getD j .bad :: P.drop (j + 1) by rw [List.drop_eq_getElem_cons hj]; simp [List.getD, List.getElem?_eq_getElem hj], List.any_cons]
theorem hasB_any (P : List AV) (l x y : Int) : hasB P l x y = P.any fun p => eqP p l x y := by
  unfold hasB; rw [hasK_any P l x y P.length 0 (by omega)]; rfl
def rx (p : AV) : AV := .agg [i64 (cI p 0), i64 (cI p 1), i64 (cI p 2)]
/-- those that are others -/
def resF (P : List AV) (l x y : Int) : Nat → Nat → List AV
  | 0, _ => []
  | n + 1, j => (bif !eqP (P.getD j .bad) l x y then [rx (P.getD j .bad)] else []) ++ resF P l x y n (j + 1)
def resL (P : List AV) (l x y : Int) : List AV := resF P l x y P.length 0
theorem resF_len (P : List AV) (l x y : Int) : ∀ n j, (resF P l x y n j).length ≤ n
  | 0, _ => by simp [resF]
  | n + 1, j => by
    have := resF_len P l x y n (j + 1)
    simp only [resF, List.length_append]
    cases eqP (P.getD j .bad) l x y <;> simp <;> omega
theorem eqP_rx (p : AV) (l x y : Int) : eqP (rx p) l x y = eqP p l x y := rfl
theorem eqP_iff {p : AV} {l x y : Int} : eqP p l x y = true ↔ cI p 0 = l ∧ cI p 1 = x ∧ cI p 2 = y := eq3_iff
theorem res_any (P : List AV) (l x y l' x' y' : Int) : ∀ n j, (resF P l x y n j).any (fun p => eqP p l' x' y') = (!(eq3 l x y l' x' y') && hasK P l' x' y' n j)
  | 0, _ => by simp [resF, hasK]
  | n + 1, j => by
    rw [resF, hasK, List.any_append, res_any P l x y l' x' y' n (j + 1)]
    generalize P.getD j .bad = p
    cases h1 : eqP p l x y
    · simp only [Bool.not_false, cond_true, List.any_cons, List.any_nil, Bool.or_false, eqP_rx]
      cases h2 : eqP p l' x' y'
      · simp
      · have : eq3 l x y l' x' y' = false := by
          cases h3 : eq3 l x y l' x' y' with
          | false => rfl
          | true =>
            obtain ⟨a, b, c⟩ := eq3_iff.1 h3
            subst a; subst b; subst c
            rw [h2] at h1; cases h1
        rw [this]; simp
    · simp only [Bool.not_true, cond_false, List.any_nil, Bool.false_or]
      cases h3 : eq3 l x y l' x' y'
      · cases h2 : eqP p l' x' y'
        · simp
        · exfalso
          obtain ⟨a, b, c⟩ := eqP_iff.1 h1
          obtain ⟨a', b', c'⟩ := eqP_iff.1 h2
          have : eq3 l x y l' x' y' = true := eq3_iff.2 ⟨a.symm.trans a', b.symm.trans b', c.symm.trans c'⟩
          rw [h3] at this; cases this
      · rfl
/-! the document's Look -/
def hasU (P : List AV) (d l x y m : Int) : Bool := hasB P (u0 d l x y m) (u1 d l x y m) (u2 d l x y m)
def rkF (P : List AV) (d l x y : Int) : Nat → Int → Int
  | 0, _ => d
  | n + 1, m => bif hasU P d l x y m then m else rkF P d l x y n (m + 1)
def rk (P : List AV) (d l x y : Int) : Int := rkF P d l x y (d - l).toNat l
def rlookA (P : List AV) (d l x y : Int) : AV := .tup [.agg [i64 (bif validB d l x y then u0 d l x y (rk P d l x y) else 0), i64 (bif validB d l x y then u1 d l x y (rk P d l x y) else 0), i64 (bif validB d l x y then u2 d l x y (rk P d l x y) else 0)], .lit (.bool (validB d l x y))]
def rCG (P : List AV) (d l x y : Int) (M : Mem) : Nat → Int → Option (AV × Mem)
  | 0, _ => some (.tup [.agg [i64 d, i64 0, i64 0], .lit (.bool true)], M)
  | n + 1, m => bif decide (P.length ≤ 16384) then (bif hasU P d l x y m then some (.tup [.agg [i64 (u0 d l x y m), i64 (u1 d l x y m), i64 (u2 d l x y m)], .lit (.bool true)], M) else rCG P d l x y M n (m + 1)) else none
def rG' (P : List AV) (d l x y : Int) (M : Mem) : Option (AV × Mem) :=
  bif !validB d l x y then some (.tup [.agg [i64 0, i64 0, i64 0], .lit (.bool false)], M) else
  bif decide (l = 0) then rCG P d l x y M (d - 0).toNat 0 else bif decide (l = 1) then rCG P d l x y M (d - 1).toNat 1 else
  bif decide (l = 2) then rCG P d l x y M (d - 2).toNat 2 else bif decide (l = 3) then rCG P d l x y M (d - 3).toNat 3 else none
theorem rCG_eq {P : List AV} {d l x y : Int} (M : Mem) (hw : validB d l x y = true) (hP : P.length ≤ 16384) : ∀ n m, rCG P d l x y M n m = some (.tup [.agg [i64 (u0 d l x y (rkF P d l x y n m)), i64 (u1 d l x y (rkF P d l x y n m)), i64 (u2 d l x y (rkF P d l x y n m))], .lit (.bool true)], M)
  | 0, m => by
    obtain ⟨e0, e1, e2⟩ := up_root hw
    unfold rCG rkF
    rw [e0, e1, e2]
  | n + 1, m => by
    unfold rCG rkF
    rw [decide_eq_true hP]
    cases hasU P d l x y m
    · exact rCG_eq M hw hP n (m + 1)
    · rfl
theorem rG_eq {P : List AV} {d l x y : Int} (M : Mem) (hP : P.length ≤ 16384) : rG' P d l x y M = some (rlookA P d l x y, M) := by
  unfold rG' rlookA rk
  cases hw : validB d l x y
  · rfl
  · obtain ⟨⟨a, b, c, e⟩, _⟩ := validB_iff.1 hw
    have hl : l = 0 ∨ l = 1 ∨ l = 2 ∨ l = 3 := by omega
    rcases hl with rfl | rfl | rfl | rfl
    · exact rCG_eq M hw hP _ 0
    · exact rCG_eq M hw hP _ 1
    · exact rCG_eq M hw hP _ 2
    · exact rCG_eq M hw hP _ 3
def b0F (P : List AV) (d l x y : Int) : Int := bif validB d l x y then u0 d l x y (rk P d l x y) else 0
def b1F (P : List AV) (d l x y : Int) : Int := bif validB d l x y then u1 d l x y (rk P d l x y) else 0
def b2F (P : List AV) (d l x y : Int) : Int := bif validB d l x y then u2 d l x y (rk P d l x y) else 0
def sameQ (T P : List AV) (d : Int) (q : AV) : Bool := eq3 (a0F T d (cI q 0) (cI q 1) (cI q 2)) (a1F T d (cI q 0) (cI q 1) (cI q 2)) (a2F T d (cI q 0) (cI q 1) (cI q 2)) (b0F P d (cI q 0) (cI q 1) (cI q 2)) (b1F P d (cI q 0) (cI q 1) (cI q 2)) (b2F P d (cI q 0) (cI q 1) (cI q 2))
def okE (T P : List AV) (d : Int) (q : AV) : Bool := lkB T d (cI q 0) (cI q 1) (cI q 2) && (sameQ T P d q && !(thereB T d (cI q 0) (cI q 1) (cI q 2) != hasB P (cI q 0) (cI q 1) (cI q 2)))
def okEs (T P : List AV) (d : Int) (A : List AV) : Bool := (List.range A.length).all fun i => okE T P d (A.getD i .bad)
end Go.Fx
