/- PageTells' tests, and what they tell (chapter 11). -/
import Derived.Test.YthknakcbkkjhpaaL11K
set_option linter.unusedVariables false
set_option linter.unusedSimpArgs false
namespace Go.Proofs.Ythknakcbkkjhpaa
open Go Go.Sx Go.Fx
set_option maxRecDepth 100000
set_option linter.unusedVariables false
set_option linter.unusedSimpArgs false
def tCmp (T : Lt) (x y c : Int) (R : Option Bool) : Option Bool := bif T.cm x y != c then some false else R
def tMid (T : Lt) (x y : Int) (R : Option Bool) : Option Bool :=
  bif (bif decide (x ≥ 0) then decide (y ≥ 0) else false) then (bif decide (x < y) then (bif decide (x > y) then tCmp T x y 1 R else tCmp T x y (-1) R) else (bif decide (x > y) then tCmp T x y 1 R else tCmp T x y 0 R)) else R
def inK (W : List AV) (key : Int) : Bool := bif decide (key ≥ 0) then decide (key < (W.length : Int)) else false
def tTree (T : Lt) (d l0 x0 y0 l1 x1 y1 key l most : Int) (W : List AV) : Option Bool :=
  bif T.pg d W then (bif g6 key (T.rg d key) (inK W key) (bif T.rg d key then T.aL d key else 0) (bif T.rg d key then T.aX d key else 0) (bif T.rg d key then T.aY d key else 0) W then
  bif decide (0 < wi ((W.length : Int) + 1)) && decide (wi ((W.length : Int) + 1) ≤ 4294967296) then
    tMid T (T.kv d l0 x0 y0) (T.kv d l1 x1 y1) (bif g18 T d (T.ub d l0 x0 y0 l) (T.ub d l0 x0 y0 l) (T.rn most (wi ((W.length : Int) + 1))) (T.kv d l0 x0 y0) l0 x0 y0 (T.ul d l0 x0 y0 l) (T.ux d l0 x0 y0 l) (T.uy d l0 x0 y0 l) (T.ul d l0 x0 y0 l) (T.ux d l0 x0 y0 l) (T.uy d l0 x0 y0 l) W then some true else none) else none else none) else none
theorem tells_T (T : Lt) (W : List AV) (a0 : Int) (a1_0 : Int) (a1_1 : Int) (a1_2 : Int) (a2_0 : Int) (a2_1 : Int) (a2_2 : Int) (a3 : Int) (a4 : Int) (a5 : Int) : bodyK (cLP T W) Try.prog 9 Try.f3 [.lit (.int .i64 a0), .agg [.lit (.int .i64 a1_0), .lit (.int .i64 a1_1), .lit (.int .i64 a1_2)], .agg [.lit (.int .i64 a2_0), .lit (.int .i64 a2_1), .lit (.int .i64 a2_2)], .lit (.int .i64 a3), .lit (.int .i64 a4), .lit (.int .i64 a5)] Sx.empty boolOf = tTree T a0 a1_0 a1_1 a1_2 a2_0 a2_1 a2_2 a3 a4 a5 W := by kernel_rfl
end Go.Proofs.Ythknakcbkkjhpaa
