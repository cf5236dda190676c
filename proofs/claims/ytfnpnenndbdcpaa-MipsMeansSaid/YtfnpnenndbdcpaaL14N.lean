/- MipsMeans' tree is what the law computes (chapter 14), depth by depth. -/
import Derived.Test.YtfnpnenndbdcpaaL14M
set_option linter.unusedVariables false
set_option linter.unusedSimpArgs false
namespace Go.Proofs.Ytfnpnenndbdcpaa
open Go Go.Sx Go.Fx
set_option maxRecDepth 100000
noncomputable abbrev meansB (ok : Int → List (List AV) → Bool) (D : Int) (a0 : Int) (a1 : Bool) (el2 : TypeId) (L2 : List AV) (a3 a4 a5 a6 : Int) : Option Bool := bodyK (cMn ok D) Try.prog 9 Try.f4 [.lit (.int .i64 a0), .lit (.bool a1), .vec 0, .lit (.int .i64 a3), .lit (.int .i64 a4), .lit (.int .i64 a5), .lit (.int .i64 a6)] ⟨[], [some ⟨el2, false, [.int .i64], 0, false, false, L2⟩]⟩ boolOf
theorem means_tree0 (ok : Int → List (List AV) → Bool) (a0 : Int) (a1 : Bool) (el2 : TypeId) (L2 : List AV) (a3 a4 a5 a6 : Int) : meansB ok 0 a0 a1 el2 L2 a3 a4 a5 a6 = lawM ok 0 a0 a1 L2 a3 a4 a5 a6 := by kernel_rfl
theorem means_tree1 (ok : Int → List (List AV) → Bool) (a0 : Int) (a1 : Bool) (el2 : TypeId) (L2 : List AV) (a3 a4 a5 a6 : Int) : meansB ok 1 a0 a1 el2 L2 a3 a4 a5 a6 = lawM ok 1 a0 a1 L2 a3 a4 a5 a6 := by kernel_rfl
end Go.Proofs.Ytfnpnenndbdcpaa
