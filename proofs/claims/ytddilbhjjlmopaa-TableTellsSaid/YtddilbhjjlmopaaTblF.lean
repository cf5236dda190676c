/- What comes and goes (chapter 19): what the loops ask, outright. -/
import Derived.Test.YtddilbhjjlmopaaTblE
set_option linter.unusedVariables false
set_option linter.unusedSimpArgs false
namespace Go.Fx
open Go Go.Sx
set_option linter.unusedVariables false
set_option linter.unusedSimpArgs false
def eq3 (a b c x y z : Int) : Bool := a == x && (b == y && (c == z && true))
/-- what is found of a page, as a row's element -/
def wasA (T : List AV) (d : Int) (q : AV) : AV := .agg [i64 (a0F T d (cI q 0) (cI q 1) (cI q 2)), i64 (a1F T d (cI q 0) (cI q 1) (cI q 2)), i64 (a2F T d (cI q 0) (cI q 1) (cI q 2))]
/-- a page is at level l in this one -/
def wcB (d : Int) (q w : AV) (l x y : Int) : Bool := (upB d (cI q 0) (cI q 1) (cI q 2) l && eq3 (u0 d (cI q 0) (cI q 1) (cI q 2) l) (u1 d (cI q 0) (cI q 1) (cI q 2) l) (u2 d (cI q 0) (cI q 1) (cI q 2) l) l x y) && decide (cI w 0 > l)
def badQ (T : List AV) (d : Int) (q : AV) (a b c : Int) : Bool := !lkB T d (cI q 0) (cI q 1) (cI q 2) || !eq3 (a0F T d (cI q 0) (cI q 1) (cI q 2)) (a1F T d (cI q 0) (cI q 1) (cI q 2)) (a2F T d (cI q 0) (cI q 1) (cI q 2)) a b c
def okC (T : List AV) (d : Int) (q w : AV) (l x y : Int) : Bool := bif wcB d q w l x y then !badQ T d q l x y else !badQ T d q (cI w 0) (cI w 1) (cI w 2)
def okD (T : List AV) (d : Int) (q w : AV) : Bool := eq3 (a0F T d (cI q 0) (cI q 1) (cI q 2)) (a1F T d (cI q 0) (cI q 1) (cI q 2)) (a2F T d (cI q 0) (cI q 1) (cI q 2)) (cI w 0) (cI w 1) (cI w 2)
def okCs (T : List AV) (d : Int) (A W : List AV) (l x y : Int) : Bool := (List.range A.length).all fun i => okC T d (A.getD i .bad) (W.getD i .bad) l x y
def okDs (T : List AV) (d : Int) (A W : List AV) : Bool := (List.range A.length).all fun i => okD T d (A.getD i .bad) (W.getD i .bad)
def wasF (T : List AV) (d : Int) (A : List AV) : Nat → Nat → List AV
  | 0, _ => []
  | n + 1, j => wasA T d (A.getD j .bad) :: wasF T d A n (j + 1)
theorem wasF_len (T : List AV) (d : Int) (A : List AV) : ∀ n j, (wasF T d A n j).length = n
  | 0, _ => rfl
  | n + 1, j => by simp [wasF, wasF_len T d A n]
theorem wasF_at (T : List AV) (d : Int) (A : List AV) : ∀ n j i, i < n → (wasF T d A n j).getD i .bad = wasA T d (A.getD (j + i) .bad)
  | 0, _, _, h => by omega
  | n + 1, j, 0, _ => rfl
  | n + 1, j, i + 1, h => by
    have := wasF_at T d A n (j + 1) i (by omega)
    rw [show j + (i + 1) = j + 1 + i by omega, ← this]
    rfl
def gO (b : Bool) (t : Option Bool) : Option Bool := bif b then t else none
/-- what stands behind the sets -/
def comT (T A : List AV) (d l x y : Int) : Option Bool :=
  gO (decide ((T.length : Int) = cn d)) (gO (decide (A.length ≤ 16384) && dB d && decide ((T.length : Int) = cn d)) (gO (decide ((T.length : Int) = cn d)) (
    bif (bif setB d l x y true then (0 : Int) else 1) != 0 then some false else
    gO (decide (A.length ≤ 16384) && decide ((wasF T d A A.length 0).length = A.length) && dB d && decide (((setL T d l x y true).length : Int) = cn d) && okCs (setL T d l x y true) d A (wasF T d A A.length 0) l x y) (
    bif thereB T d l x y then some true else
    gO (decide (((setL T d l x y true).length : Int) = cn d)) (
    bif (bif setB d l x y false then (0 : Int) else 1) != 0 then some false else
    gO (decide (A.length ≤ 16384) && decide ((wasF T d A A.length 0).length = A.length) && dB d && decide (((setL (setL T d l x y true) d l x y false).length : Int) = cn d) && okDs (setL (setL T d l x y true) d l x y false) d A (wasF T d A A.length 0)) (some true))))))
def comD (L1 A : List AV) (d a2 : Int) : Option Bool :=
  bif decide ((L1.length : Int) > 60) then some true else
  gO (decide (L1.length ≤ 16384) && goodL d A && decide (((newLL d).length : Int) = cn d))
    (if 0 ≤ a2 % (A.length : Int) ∧ a2 % (A.length : Int) < (A.length : Int) then (if (a2 % (A.length : Int)).toNat < A.length then
      comT (setF L1 A L1.length 0 (newLL d)) A d (cI (A.getD (a2 % (A.length : Int)).toNat .bad) 0) (cI (A.getD (a2 % (A.length : Int)).toNat .bad) 1) (cI (A.getD (a2 % (A.length : Int)).toNat .bad) 2) else none) else none)
end Go.Fx
