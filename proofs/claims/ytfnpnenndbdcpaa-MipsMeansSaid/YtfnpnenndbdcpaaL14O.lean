/- MipsMeans' tree is what the law computes (chapter 14): depth 2. -/
import Derived.Test.YtfnpnenndbdcpaaL14N
set_option linter.unusedVariables false
set_option linter.unusedSimpArgs false
namespace Go.Proofs.Ytfnpnenndbdcpaa
open Go Go.Sx Go.Fx
set_option maxRecDepth 100000
theorem means_tree2 (ok : Int → List (List AV) → Bool) (a0 : Int) (a1 : Bool) (el2 : TypeId) (L2 : List AV) (a3 a4 a5 a6 : Int) : meansB ok 2 a0 a1 el2 L2 a3 a4 a5 a6 = lawM ok 2 a0 a1 L2 a3 a4 a5 a6 := by kernel_rfl
end Go.Proofs.Ytfnpnenndbdcpaa
