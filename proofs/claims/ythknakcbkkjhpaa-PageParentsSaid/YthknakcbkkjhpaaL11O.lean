/- PageParents' tests (chapter 11). -/
import Derived.Test.YthknakcbkkjhpaaL11N
set_option linter.unusedVariables false
set_option linter.unusedSimpArgs false
namespace Go.Proofs.Ythknakcbkkjhpaa
open Go Go.Sx Go.Fx
set_option maxRecDepth 100000
set_option linter.unusedVariables false
set_option linter.unusedSimpArgs false
def pFin (T : Lt) (n p0 p1 p2 kids want : Int) : Option Bool :=
  bif kids == want then (bif T.ub n p0 p1 p2 p0 then (bif T.ul n p0 p1 p2 p0 == p0 && (T.ux n p0 p1 p2 p0 == p1 && (T.uy n p0 p1 p2 p0 == p2 && true)) then some true else some false) else some false) else some false
def pTree (T : Lt) (n a0 key : Int) (W : List AV) : Option Bool :=
  bif T.rn a0 4 == n then (bif T.rg n key then (bif T.al n (-1) W then (bif gP T n (T.aL n key) (T.aX n key) (T.aY n key) W then
    (bif T.aL n key == 0 then pFin T n (T.aL n key) (T.aX n key) (T.aY n key) (cntP T n (T.aL n key) (T.aX n key) (T.aY n key) W) 0 else pFin T n (T.aL n key) (T.aX n key) (T.aY n key) (cntP T n (T.aL n key) (T.aX n key) (T.aY n key) W) 4) else none) else none) else none) else none
theorem par_0 (T : Lt) (W : List AV) (a0 a1 : Int) : bodyK (cPP T 0 W) Try.prog 9 Try.f4 [.lit (.int .i64 a0), .lit (.int .i64 a1)] Sx.empty boolOf = pTree T 0 a0 (T.rn a1 1) W := by kernel_rfl
theorem par_1 (T : Lt) (W : List AV) (a0 a1 : Int) : bodyK (cPP T 1 W) Try.prog 9 Try.f4 [.lit (.int .i64 a0), .lit (.int .i64 a1)] Sx.empty boolOf = pTree T 1 a0 (T.rn a1 5) W := by kernel_rfl
theorem par_2 (T : Lt) (W : List AV) (a0 a1 : Int) : bodyK (cPP T 2 W) Try.prog 9 Try.f4 [.lit (.int .i64 a0), .lit (.int .i64 a1)] Sx.empty boolOf = pTree T 2 a0 (T.rn a1 21) W := by kernel_rfl
theorem par_3 (T : Lt) (W : List AV) (a0 a1 : Int) : bodyK (cPP T 3 W) Try.prog 9 Try.f4 [.lit (.int .i64 a0), .lit (.int .i64 a1)] Sx.empty boolOf = pTree T 3 a0 (T.rn a1 85) W := by kernel_rfl
end Go.Proofs.Ythknakcbkkjhpaa
