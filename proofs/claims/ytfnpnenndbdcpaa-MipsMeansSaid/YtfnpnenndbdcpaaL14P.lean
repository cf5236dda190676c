/- MipsMeans' tree is what the law computes (chapter 14): depth 3. -/
import Derived.Test.YtfnpnenndbdcpaaL14O
set_option linter.unusedVariables false
set_option linter.unusedSimpArgs false
namespace Go.Proofs.Ytfnpnenndbdcpaa
open Go Go.Sx Go.Fx
set_option maxRecDepth 100000
theorem means_tree3 (ok : Int → List (List AV) → Bool) (a0 : Int) (a1 : Bool) (el2 : TypeId) (L2 : List AV) (a3 a4 a5 a6 : Int) : meansB ok 3 a0 a1 el2 L2 a3 a4 a5 a6 = lawM ok 3 a0 a1 L2 a3 a4 a5 a6 := by kernel_rfl
/-- the depth that a number names -/
theorem depth4 (a0 : Int) : rnd a0 4 = 0 ∨ rnd a0 4 = 1 ∨ rnd a0 4 = 2 ∨ rnd a0 4 = 3 := by unfold rnd; omega
theorem means_true (a0 : Int) (a1 : Bool) (el2 : TypeId) (L2 : List AV) (a3 a4 a5 a6 : Int) : meansB okL (rnd a0 4) a0 a1 el2 L2 a3 a4 a5 a6 = some true := by
  have hD := depth4 a0
  have key := law_true (a0 := a0) (a1 := a1) (L2 := L2) (a3 := a3) (a4 := a4) (a5 := a5) (a6 := a6) hD rfl
  rcases hD with h | h | h | h <;> rw [h] at key ⊢
  · exact (means_tree0 okL a0 a1 el2 L2 a3 a4 a5 a6).trans key
  · exact (means_tree1 okL a0 a1 el2 L2 a3 a4 a5 a6).trans key
  · exact (means_tree2 okL a0 a1 el2 L2 a3 a4 a5 a6).trans key
  · exact (means_tree3 okL a0 a1 el2 L2 a3 a4 a5 a6).trans key
theorem cMn_s (a0 : Int) : (cMn okL (rnd a0 4)).Sound Try.prog := cMn_sound (fun _ _ h => h) (depth4 a0)
end Go.Proofs.Ytfnpnenndbdcpaa
