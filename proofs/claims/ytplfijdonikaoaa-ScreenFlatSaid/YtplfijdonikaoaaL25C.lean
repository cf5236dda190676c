/- Where a way meets a plane: the code's and the document's (chapter 24). -/
import Derived.Test.YtplfijdonikaoaaL25I
import Derived.Test.YtplfijdonikaoaaClipB
set_option linter.unusedVariables false
set_option linter.unusedSimpArgs false
namespace Go.Proofs.Ytplfijdonikaoaa
open Go Go.Sx Go.Fx
theorem ok11 : cutS.Ok Try.prog 46 := cutS_ok fun a0 a1 a2 a3 a4 a5 b0 b1 b2 b3 b4 b5 p ha hb => ok_of (n := 5) cC1_sound mixed e11 (by kernel_rfl) (cut_eq p ha hb).1
theorem ok12 : cutS.Ok Try.prog 43 := cutS_ok fun a0 a1 a2 a3 a4 a5 b0 b1 b2 b3 b4 b5 p ha hb => ok_of (n := 5) cC1_sound mixed e12 (by kernel_rfl) (cut_eq p ha hb).2
noncomputable def cC : CallSem := (((CallSem.nil.withSpec 45 insS).withSpec 42 insS).withSpec 46 cutS).withSpec 43 cutS
theorem cC_sound : cC.Sound Try.prog := CallSem.withSpec_sound (CallSem.withSpec_sound (CallSem.withSpec_sound (CallSem.withSpec_sound nilS ok9) ok10) ok11) ok12
end Go.Proofs.Ytplfijdonikaoaa
