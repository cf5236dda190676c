/- All pages in their order (chapter 11), outright. -/
import Derived.Test.YtfnpnenndbdcpaaTblB
import Derived.KernelRfl
set_option linter.unusedVariables false
set_option linter.unusedSimpArgs false
namespace Go.Fx
open Go Go.Sx
set_option linter.unusedVariables false
set_option linter.unusedSimpArgs false
def pgA (l x y : Nat) : AV := .agg [i64 l, i64 x, i64 y]
def pgRow (l s y : Nat) : List AV := (List.range s).map fun x => pgA l x y
def pgLev (l s : Nat) : List AV := (List.range s).flatMap fun y => pgRow l s y
def pgs : Nat → List AV
  | 0 => pgLev 0 1
  | 1 => pgLev 1 1 ++ pgLev 0 2
  | 2 => pgLev 2 1 ++ (pgLev 1 2 ++ pgLev 0 4)
  | _ => pgLev 3 1 ++ (pgLev 2 2 ++ (pgLev 1 4 ++ pgLev 0 8))
def cI (x : AV) (k : Nat) : Int := (x.cellD k).getInt
def pL (d k : Nat) : Int := cI ((pgs d).getD k .bad) 0
def pX (d k : Nat) : Int := cI ((pgs d).getD k .bad) 1
def pY (d k : Nat) : Int := cI ((pgs d).getD k .bad) 2
def goodP (d k : Nat) : Bool := validB d (pL d k) (pX d k) (pY d k) && (keyV d (pL d k) (pX d k) (pY d k) == (k : Int))
theorem pgs_len0 : (pgs 0).length = 1 := by kernel_rfl
theorem pgs_len1 : (pgs 1).length = 5 := by kernel_rfl
theorem pgs_len2 : (pgs 2).length = 21 := by kernel_rfl
theorem pgs_len3 : (pgs 3).length = 85 := by kernel_rfl
theorem good0 : (List.range 1).all (goodP 0) = true := by kernel_rfl
theorem good1 : (List.range 5).all (goodP 1) = true := by kernel_rfl
theorem good2 : (List.range 21).all (goodP 2) = true := by kernel_rfl
theorem good3 : (List.range 85).all (goodP 3) = true := by kernel_rfl
theorem d_cases {p : Nat → Prop} (h0 : p 0) (h1 : p 1) (h2 : p 2) (h3 : p 3) {d : Nat} (h : d ≤ 3) : p d := by
  have : d = 0 ∨ d = 1 ∨ d = 2 ∨ d = 3 := by omega
  rcases this with rfl | rfl | rfl | rfl <;> assumption
theorem pgs_cn {d : Nat} (h : d ≤ 3) : ((pgs d).length : Int) = cn d :=
  d_cases (p := fun d => ((pgs d).length : Int) = cn d) (by rw [pgs_len0]; rfl) (by rw [pgs_len1]; rfl) (by rw [pgs_len2]; rfl) (by rw [pgs_len3]; rfl) h
theorem pgs_good {d k : Nat} (h : d ≤ 3) (hk : k < (pgs d).length) : validB d (pL d k) (pX d k) (pY d k) = true ∧ keyV d (pL d k) (pX d k) (pY d k) = (k : Int) := by
  have key : ∀ {d n}, (List.range n).all (goodP d) = true → k < n → goodP d k = true := fun h hk => by
    rw [List.all_eq_true] at h; exact h k (List.mem_range.2 hk)
  have hg : goodP d k = true := by
    have hd : d = 0 ∨ d = 1 ∨ d = 2 ∨ d = 3 := by omega
    rcases hd with rfl | rfl | rfl | rfl
    · rw [pgs_len0] at hk; exact key good0 hk
    · rw [pgs_len1] at hk; exact key good1 hk
    · rw [pgs_len2] at hk; exact key good2 hk
    · rw [pgs_len3] at hk; exact key good3 hk
  simpa [goodP] using hg
theorem pgs_pos {d : Nat} (h : d ≤ 3) : 0 < (pgs d).length :=
  d_cases (p := fun d => 0 < (pgs d).length) (by rw [pgs_len0]; omega) (by rw [pgs_len1]; omega) (by rw [pgs_len2]; omega) (by rw [pgs_len3]; omega) h
theorem pgs_85 {d : Nat} (h : d ≤ 3) : (pgs d).length ≤ 85 :=
  d_cases (p := fun d => (pgs d).length ≤ 85) (by rw [pgs_len0]; omega) (by rw [pgs_len1]; omega) (by rw [pgs_len2]; omega) (by rw [pgs_len3]; omega) h
end Go.Fx
