/- What the laws call, told by letters (chapter 11). -/
import Derived.Test.YthknakcbkkjhpaaL11F
set_option linter.unusedVariables false
set_option linter.unusedSimpArgs false
namespace Go.Proofs.Ythknakcbkkjhpaa
open Go Go.Sx Go.Fx
set_option maxRecDepth 100000
set_option linter.unusedVariables false
set_option linter.unusedSimpArgs false
noncomputable def sameL (A B : List AV) : Bool := @decide (A = B) (Classical.propDecidable _)
theorem sameL_spec {A B : List AV} (h : sameL A B = true) : A = B := by
  unfold sameL at h
  exact @of_decide_eq_true _ (Classical.propDecidable _) h
theorem sameL_self (A : List AV) : sameL A A = true := @decide_eq_true _ (Classical.propDecidable _) rfl
/-- letters for what page's functions tell -/
structure Lt where
  kv : Int → Int → Int → Int → Int
  vb : Int → Int → Int → Int → Bool
  ub : Int → Int → Int → Int → Int → Bool
  ul : Int → Int → Int → Int → Int → Int
  ux : Int → Int → Int → Int → Int → Int
  uy : Int → Int → Int → Int → Int → Int
  cn : Int → Int
  rt : Int → Int
  rn : Int → Int → Int
  cm : Int → Int → Int
  rg : Int → Int → Bool
  aL : Int → Int → Int
  aX : Int → Int → Int
  aY : Int → Int → Int
  pg : Int → List AV → Bool
  al : Int → Int → List AV → Bool
  eq : List AV → List AV → Bool
variable (T : Lt)
def upT : FSpec := ⟨fun args k => match args with
  | [.lit (.int .i64 d), .agg [.lit (.int .i64 l), .lit (.int .i64 x), .lit (.int .i64 y)], .lit (.int .i64 m)] => k (.tup [.agg [i64 (T.ul d l x y m), i64 (T.ux d l x y m), i64 (T.uy d l x y m)], .lit (.bool (T.ub d l x y m))])
  | _ => none⟩
def atTT : FSpec := ⟨fun args k => match args with
  | [.lit (.int .i64 d), .lit (.int .i64 key)] => bif T.rg d key then k (.tup [.agg [i64 (T.aL d key), i64 (T.aX d key), i64 (T.aY d key)], .lit (.bool true)]) else none
  | _ => none⟩
def atNT : FSpec := ⟨fun args k => match args with
  | [.lit (.int .i64 d), .lit (.int .i64 key)] => bif T.rg d key then none else k (.tup [.agg [i64 0, i64 0, i64 0], .lit (.bool false)])
  | _ => none⟩
def roundT : FSpec := ⟨fun args k => match args with
  | [.lit (.int .i64 a), .lit (.int .i64 n)] => bif decide (0 < n) && decide (n ≤ 4294967296) then k (i64 (T.rn a n)) else none
  | _ => none⟩
def cmpT : FSpec := ⟨fun args k => match args with
  | [.lit (.int .i64 d), .agg [.lit (.int .i64 l), .lit (.int .i64 x), .lit (.int .i64 y)], .agg [.lit (.int .i64 l'), .lit (.int .i64 x'), .lit (.int .i64 y')]] => k (i64 (T.cm (T.kv d l x y) (T.kv d l' x' y')))
  | _ => none⟩
abbrev rowP (L : List AV) : Mem := ⟨[], [some ⟨23, true, c3, 0, true, true, L⟩]⟩
def pagesT (W : List AV) : MSpec := ⟨[], fun args M k => match args, M with
  | [.lit (.int .i64 d)], ⟨[], []⟩ => bif T.pg d W then k (.vec 0) (rowP W) else none
  | _, _ => none⟩
/-- all pages, or so many -/
def allT (W : List AV) : MSpec := ⟨[], fun args M k => match args, M with
  | [.lit (.int .i64 d), .lit (.int .i64 most)], ⟨[], []⟩ => bif decide (most < 0) then (bif T.al d most W then k (.vec 0) (rowP W) else none)
      else bif T.al d most (W.take most.toNat) then k (.vec 0) (rowP (W.take most.toNat)) else none
  | _, _ => none⟩
def eqT : MSpec where
  nils := [⟨0, 23, true, c3⟩, ⟨1, 23, true, c3⟩]
  run args M k := match args, M with
    | [.vec h0, .vec h1], ⟨[], [some ⟨el, true, sh, t0, o, h, L⟩, some ⟨el', true, sh', t1, o', h', X⟩]⟩ =>
      bif decide (h0 = 0) && decide (h1 = 1) && decide (t0 = 0) && decide (t1 = 1) && decide (sh = c3) && decide (sh' = c3) && T.eq L X then
        k (.lit (.bool true)) ⟨[], [some ⟨el, true, c3, 0, o, h, L⟩, some ⟨el', true, c3, 1, o', h', X⟩]⟩
      else none
    | _, _ => none
def cL0 : CallSem := ((((((((((CallSem.nil.withSpec 8 (upT T)).withSpec 9 (upT T)).withSpec 10 (roundT T)).withSpec 11 (pageS fun d l x y => i64 (T.kv d l x y))).withSpec 12 (cmpT T)).withSpec 13 (pageS fun d l x y => .lit (.bool (T.vb d l x y)))).withSpec 14 (pageS fun d l x y => .lit (.bool (T.vb d l x y)))).withSpec 15 (pageS fun d l x y => i64 (T.kv d l x y))).withSpec 16 (i1S fun d => i64 (T.cn d))).withSpec 17 (i1S fun d => .agg [i64 (T.rt d), i64 0, i64 0])).withSpec 18 (i1S fun d => .agg [i64 (T.rt d), i64 0, i64 0])
def cL1 (W : List AV) : CallSem := ((((cL0 T).withRead 6 (pagesT T W)).withRead 19 (eqT T)).withRead 20 (allT T W)).withSpec 21 trueS
def cLT (W : List AV) : CallSem := (cL1 T W).withSpec 7 (atTT T)
def cLN (W : List AV) : CallSem := (cL1 T W).withSpec 7 (atNT T)
/-- n is known -/
def roundN (n0 : Int) : FSpec := ⟨fun args k => match args with
  | [.lit (.int .i64 a), .lit (.int .i64 n)] => bif decide (n = 4) then (bif T.rn a 4 == n0 then k (i64 n0) else none) else bif decide (0 < n) && decide (n ≤ 4294967296) then k (i64 (T.rn a n)) else none
  | _ => none⟩
def cLO (n0 : Int) (W : List AV) : CallSem := ((cLT T W).withSpec 10 (roundN T n0)).withJoin
end Go.Proofs.Ythknakcbkkjhpaa
