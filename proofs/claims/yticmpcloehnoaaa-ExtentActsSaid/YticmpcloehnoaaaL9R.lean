/- ExtentFree's tests (chapter 9). -/
import Derived.Test.YticmpcloehnoaaaL9Q
set_option linter.unusedVariables false
set_option linter.unusedSimpArgs false
namespace Go.Proofs.Yticmpcloehnoaaa
open Go Go.Sx Go.Fx
set_option maxRecDepth 100000
set_option linter.unusedVariables false
set_option linter.unusedSimpArgs false
def gF (L : List AV) : Bool := decide (0 < L.length) && decide (L.length ≤ 65535)
def rowF (L : List AV) : List AV := (freeL L (-1)).map rV
def frEnd (n : Int) (L1 L2 : List AV) : Option Bool :=
  bif decide (L2.length ≤ 65536) then (bif ((usedN L2 L2.length : Nat) : Int) == n then (bif gF L2 then (bif ((rowF L2).length : Int) == 0 then (bif gF L1 then (bif decide ((rowF L1).map c2I = (rowF L1).map c2I) && decide ((rowF L1).length ≤ 65536) then some true else none) else none) else some false) else none) else some false) else none
def frMid (n : Int) (L1 : List AV) : Option Bool :=
  bif gF L1 then (bif decide ((rowF L1).length ≤ 65536) && okB (rowF L1) then (bif decide (L1.length ≤ 65536) then (bif wi (sumB (rowF L1) (rowF L1).length + ((usedN L1 L1.length : Nat) : Int)) != n then some false else
    (bif decide (0 < L1.length) && decide (L1.length ≤ 65536) then (bif decide ((rowF L1).length ≤ 65536) && decide (L1.length ≤ 65536) && okC (rowF L1) L1 then frEnd n L1 (foldJ stepC (rowF L1) L1 (rowF L1).length) else none) else none)) else none) else none) else none
def frTree (n : Int) (l : List AV) : Option Bool :=
  bif (bif (bif decide (n < 1) then true else decide (n > 200)) then true else decide ((l.length : Int) > 40)) then some true else
    bif nB n then (bif decide (0 < n) && decide (n ≤ 65536) && decide (l.length ≤ 65536) && decide ((emp n).length ≤ 65536) then frMid n (foldJ (stepA n) l (emp n) l.length) else none) else some false
theorem fr_T (a0 : Int) (el1 : TypeId) (L1 : List AV) : bodyK cFr Try.prog 9 Try.f5 [.lit (.int .i64 a0), .vec 0] ⟨[], [some ⟨el1, true, [.int .i64, .int .i64], 0, false, false, L1⟩]⟩ boolOf = frTree a0 L1 := by kernel_rfl
end Go.Proofs.Yticmpcloehnoaaa
