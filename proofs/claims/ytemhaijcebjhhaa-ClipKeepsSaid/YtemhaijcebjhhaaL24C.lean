/- Where a way meets a plane: the code's and the document's (chapter 24). -/
import Derived.Test.YtemhaijcebjhhaaL24I
import Derived.Test.YtemhaijcebjhhaaClipB
set_option linter.unusedVariables false
set_option linter.unusedSimpArgs false
namespace Go.Proofs.Ytemhaijcebjhhaa
open Go Go.Sx Go.Fx
theorem ok11 : cutS.Ok Try.prog 11 := cutS_ok fun a0 a1 a2 a3 a4 a5 b0 b1 b2 b3 b4 b5 p ha hb => ok_of (n := 5) cC1_sound mixed e11 (by kernel_rfl) (cut_eq p ha hb).1
theorem ok12 : cutS.Ok Try.prog 12 := cutS_ok fun a0 a1 a2 a3 a4 a5 b0 b1 b2 b3 b4 b5 p ha hb => ok_of (n := 5) cC1_sound mixed e12 (by kernel_rfl) (cut_eq p ha hb).2
noncomputable def cC : CallSem := (((CallSem.nil.withSpec 9 insS).withSpec 10 insS).withSpec 11 cutS).withSpec 12 cutS
theorem cC_sound : cC.Sound Try.prog := CallSem.withSpec_sound (CallSem.withSpec_sound (CallSem.withSpec_sound (CallSem.withSpec_sound nilS ok9) ok10) ok11) ok12
end Go.Proofs.Ytemhaijcebjhhaa
