/- A table of pages (chapter 19), outright. -/
import Derived.Test.YtfnpnenndbdcpaaTblA
set_option linter.unusedVariables false
set_option linter.unusedSimpArgs false
namespace Go.Fx
open Go Go.Sx
set_option linter.unusedVariables false
set_option linter.unusedSimpArgs false
theorem keyV_of {d l x y : Int} (h : validB d l x y = true) : keyV d l x y = ah (d - l) + y * sd (d - l) + x := by unfold keyV; rw [h]; rfl
theorem cn_of {d : Int} (h0 : 0 ≤ d) (h1 : d ≤ 3) : cn d = ah (d + 1) := by
  unfold cn; rw [show dB d = true by simp [dB]; omega]; rfl
theorem key_lt {d l x y : Int} (h : validB d l x y = true) : 0 ≤ keyV d l x y ∧ keyV d l x y < cn d := by
  obtain ⟨⟨a, b, c, e⟩, h1, h2, h3, h4⟩ := validB_iff.1 h
  rw [keyV_of h, cn_of a b]
  have hn : d - l = 0 ∨ d - l = 1 ∨ d - l = 2 ∨ d - l = 3 := by omega
  have hd : d = 0 ∨ d = 1 ∨ d = 2 ∨ d = 3 := by omega
  have s0 : sd 0 = 1 := rfl
  have s1 : sd 1 = 2 := rfl
  have s2 : sd 2 = 4 := rfl
  have s3 : sd 3 = 8 := rfl
  have t0 : ah 0 = 0 := rfl
  have t1 : ah 1 = 1 := rfl
  have t2 : ah 2 = 5 := rfl
  have t3 : ah 3 = 21 := rfl
  have t4 : ah 4 = 85 := rfl
  clear h
  generalize hq : d - l = n at *
  rcases hd with rfl | rfl | rfl | rfl <;> rcases hn with rfl | rfl | rfl | rfl <;> simp only [s0, s1, s2, s3, t0, t1, t2, t3, t4, show (0:Int) + 1 = 1 from rfl, show (1:Int) + 1 = 2 from rfl, show (2:Int) + 1 = 3 from rfl, show (3:Int) + 1 = 4 from rfl] at * <;> omega
def rootB (d l x y : Int) : Bool := l == (bif dB d then d else 0) && (x == 0 && (y == 0 && true))
/-- may it be set? -/
def setB (d l x y : Int) (b : Bool) : Bool := validB d l x y && !(rootB d l x y && !b)
def bv (b : Bool) : AV := .lit (.bool b)
def atB (T : List AV) (k : Int) : Bool := (T.getD k.toNat .bad).getBool
def thereB (T : List AV) (d l x y : Int) : Bool := validB d l x y && atB T (keyV d l x y)
def setL (T : List AV) (d l x y : Int) (b : Bool) : List AV := bif setB d l x y b then T.set (keyV d l x y).toNat (bv b) else T
theorem setL_len (T : List AV) (d l x y : Int) (b : Bool) : (setL T d l x y b).length = T.length := by
  unfold setL; cases setB d l x y b <;> simp
def u0 (d l x y m : Int) : Int := bif upB d l x y m then m else 0
def u1 (d l x y m : Int) : Int := bif upB d l x y m then hv x (m - l) else 0
def u2 (d l x y m : Int) : Int := bif upB d l x y m then hv y (m - l) else 0
/-- is the one there that has this one in it, at level m? -/
def inT (T : List AV) (d l x y m : Int) : Bool := thereB T d (u0 d l x y m) (u1 d l x y m) (u2 d l x y m)
def lkF (T : List AV) (d l x y : Int) : Nat → Int → Int
  | 0, _ => -1
  | n + 1, m => bif inT T d l x y m then m else lkF T d l x y n (m + 1)
def lk (T : List AV) (d l x y : Int) : Int := lkF T d l x y (d - l + 1).toNat l
def lkB (T : List AV) (d l x y : Int) : Bool := validB d l x y && decide (0 ≤ lk T d l x y)
def fA (d l x y m : Int) (b : Bool) : AV := .tup [.agg [i64 (bif b then u0 d l x y m else 0), i64 (bif b then u1 d l x y m else 0), i64 (bif b then u2 d l x y m else 0)], .lit (.bool b)]
def lookA (T : List AV) (d l x y : Int) : AV := fA d l x y (lk T d l x y) (lkB T d l x y)
def lCF (T : List AV) (d l x y : Int) (M : Mem) : Nat → Int → Option (AV × Mem)
  | 0, _ => some (.tup [.agg [i64 0, i64 0, i64 0], .lit (.bool false)], M)
  | n + 1, m => bif inT T d l x y m then some (.tup [.agg [i64 (u0 d l x y m), i64 (u1 d l x y m), i64 (u2 d l x y m)], .lit (.bool true)], M) else lCF T d l x y M n (m + 1)
def lT (T : List AV) (d l x y : Int) (M : Mem) : Option (AV × Mem) :=
  bif !validB d l x y then some (.tup [.agg [i64 0, i64 0, i64 0], .lit (.bool false)], M) else
  bif decide (l = 0) then lCF T d l x y M (d - 0 + 1).toNat 0 else bif decide (l = 1) then lCF T d l x y M (d - 1 + 1).toNat 1 else
  bif decide (l = 2) then lCF T d l x y M (d - 2 + 1).toNat 2 else bif decide (l = 3) then lCF T d l x y M (d - 3 + 1).toNat 3 else none
/-- as it is walked: each look asks that the row is whole -/
def lCG (T : List AV) (d l x y : Int) (M : Mem) : Nat → Int → Option (AV × Mem)
  | 0, _ => some (.tup [.agg [i64 0, i64 0, i64 0], .lit (.bool false)], M)
  | n + 1, m => bif decide ((T.length : Int) = cn d) then (bif inT T d l x y m then some (.tup [.agg [i64 (u0 d l x y m), i64 (u1 d l x y m), i64 (u2 d l x y m)], .lit (.bool true)], M) else lCG T d l x y M n (m + 1)) else none
theorem lCG_eq (T : List AV) (d l x y : Int) (M : Mem) (hT : (T.length : Int) = cn d) : ∀ n m, lCG T d l x y M n m = lCF T d l x y M n m
  | 0, _ => rfl
  | n + 1, m => by unfold lCG lCF; rw [decide_eq_true hT, lCG_eq T d l x y M hT n (m + 1)]; rfl
def lG (T : List AV) (d l x y : Int) (M : Mem) : Option (AV × Mem) :=
  bif !validB d l x y then some (.tup [.agg [i64 0, i64 0, i64 0], .lit (.bool false)], M) else
  bif decide (l = 0) then lCG T d l x y M (d - 0 + 1).toNat 0 else bif decide (l = 1) then lCG T d l x y M (d - 1 + 1).toNat 1 else
  bif decide (l = 2) then lCG T d l x y M (d - 2 + 1).toNat 2 else bif decide (l = 3) then lCG T d l x y M (d - 3 + 1).toNat 3 else none
theorem lG_eq (T : List AV) (d l x y : Int) (M : Mem) (hT : (T.length : Int) = cn d) : lG T d l x y M = lT T d l x y M := by
  unfold lG lT
  simp only [lCG_eq T d l x y M hT]
theorem lkF_bd (T : List AV) (d l x y : Int) : ∀ n m, 0 ≤ m → lkF T d l x y n m = -1 ∨ (m ≤ lkF T d l x y n m ∧ lkF T d l x y n m < m + n)
  | 0, m, h => .inl rfl
  | n + 1, m, h => by
    unfold lkF
    cases inT T d l x y m
    · rcases lkF_bd T d l x y n (m + 1) (by omega) with e | e
      · exact .inl e
      · refine .inr ?_
        simp only [cond_false]
        omega
    · refine .inr ?_
      simp only [cond_true]
      omega
theorem lCF_eq (T : List AV) (d l x y : Int) (M : Mem) : ∀ n m, 0 ≤ m → lCF T d l x y M n m = some (fA d l x y (lkF T d l x y n m) (decide (0 ≤ lkF T d l x y n m)), M)
  | 0, m, h => rfl
  | n + 1, m, h => by
    unfold lCF lkF
    cases inT T d l x y m
    · exact lCF_eq T d l x y M n (m + 1) (by omega)
    · simp only [cond_true]
      rw [decide_eq_true h]
      rfl
theorem lT_eq (T : List AV) (d l x y : Int) (M : Mem) : lT T d l x y M = some (lookA T d l x y, M) := by
  unfold lT lookA lkB lk
  cases hv : validB d l x y
  · rfl
  · obtain ⟨⟨a, b, c, e⟩, _⟩ := validB_iff.1 hv
    have hl : l = 0 ∨ l = 1 ∨ l = 2 ∨ l = 3 := by omega
    rcases hl with rfl | rfl | rfl | rfl
    · exact lCF_eq T d 0 x y M _ 0 (by omega)
    · exact lCF_eq T d 1 x y M _ 1 (by omega)
    · exact lCF_eq T d 2 x y M _ 2 (by omega)
    · exact lCF_eq T d 3 x y M _ 3 (by omega)
end Go.Fx
