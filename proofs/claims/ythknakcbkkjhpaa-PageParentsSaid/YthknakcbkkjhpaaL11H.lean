/- PageOrder's tests (chapter 11). -/
import Derived.Test.YthknakcbkkjhpaaL11G
set_option linter.unusedVariables false
set_option linter.unusedSimpArgs false
namespace Go.Proofs.Ythknakcbkkjhpaa
open Go Go.Sx Go.Fx
set_option maxRecDepth 100000
set_option linter.unusedVariables false
set_option linter.unusedSimpArgs false
def ix {α : Type} (W : List AV) (i : Int) (R : Option α) : Option α := if 0 ≤ i ∧ i < (W.length : Int) then (if i.toNat < W.length then R else none) else none
def oEnd (T : Lt) (n : Int) (W : List AV) (i : Int) : Option Bool :=
  bif T.rg n i then ix W i (bif T.aL n i == cI (W.getD i.toNat .bad) 0 && (T.aX n i == cI (W.getD i.toNat .bad) 1 && (T.aY n i == cI (W.getD i.toNat .bad) 2 && true)) then some true else some false) else none
def kW (T : Lt) (n : Int) (W : List AV) (i : Int) : Int := T.kv n (cI (W.getD i.toNat .bad) 0) (cI (W.getD i.toNat .bad) 1) (cI (W.getD i.toNat .bad) 2)
def oTree (T : Lt) (n : Int) (W : List AV) (a0 i k : Int) : Option Bool :=
  bif T.rn a0 4 == n then (bif T.al n (-1) W then (bif (W.length : Int) != T.cn n then some false else
    ix W i (ix W k (ix W i (bif kW T n W i != i then some false else
      bif decide (i < k) != (T.cm (kW T n W i) (kW T n W k) == -1) then some false else
      bif (i == k) != (T.cm (kW T n W i) (kW T n W k) == 0) then some false else
      ix W i (ix W k (bif decide (cI (W.getD i.toNat .bad) 0 < cI (W.getD k.toNat .bad) 0) then (bif T.cm (kW T n W i) (kW T n W k) != 1 then some false else oEnd T n W i) else oEnd T n W i)))))) else none) else none
theorem order_1 (T : Lt) (a0 a1 a2 : Int) : bodyK (cLO T 1 (pgK 1 5)) Try.prog 9 Try.f5 [.lit (.int .i64 a0), .lit (.int .i64 a1), .lit (.int .i64 a2)] Sx.empty boolOf = oTree T 1 (pgK 1 5) a0 (T.rn a1 5) (T.rn a2 5) := by kernel_rfl
theorem order_3 (T : Lt) (a0 a1 a2 : Int) : bodyK (cLO T 3 (pgK 3 85)) Try.prog 9 Try.f5 [.lit (.int .i64 a0), .lit (.int .i64 a1), .lit (.int .i64 a2)] Sx.empty boolOf = oTree T 3 (pgK 3 85) a0 (T.rn a1 85) (T.rn a2 85) := by kernel_rfl
theorem order_2 (T : Lt) (a0 a1 a2 : Int) : bodyK (cLO T 2 (pgK 2 21)) Try.prog 9 Try.f5 [.lit (.int .i64 a0), .lit (.int .i64 a1), .lit (.int .i64 a2)] Sx.empty boolOf = oTree T 2 (pgK 2 21) a0 (T.rn a1 21) (T.rn a2 21) := by kernel_rfl
theorem order_0 (T : Lt) (a0 a1 a2 : Int) : bodyK (cLO T 0 (pgK 0 1)) Try.prog 9 Try.f5 [.lit (.int .i64 a0), .lit (.int .i64 a1), .lit (.int .i64 a2)] Sx.empty boolOf = oTree T 0 (pgK 0 1) a0 (T.rn a1 1) (T.rn a2 1) := by kernel_rfl
end Go.Proofs.Ythknakcbkkjhpaa
