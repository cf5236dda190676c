/- A point on the screen: the code's and the document's (chapter 25). -/
import Derived.Test.YtplfijdonikaoaaL25S
import Derived.Test.YtplfijdonikaoaaScrA
set_option linter.unusedVariables false
set_option linter.unusedSimpArgs false
namespace Go.Proofs.Ytplfijdonikaoaa
open Go Go.Sx Go.Fx
theorem ok8 : spotS.Ok Try.prog 8 := spotS_ok fun p0 p1 p2 p3 u v w h => ok_of (n := 9) cS_sound mixed s8 (by kernel_rfl) (sp_eq p0 p1 p2 p3 u v w h).1
theorem ok9s : spotS.Ok Try.prog 9 := spotS_ok fun p0 p1 p2 p3 u v w h => ok_of (n := 9) cS_sound mixed s9 (by kernel_rfl) (sp_eq p0 p1 p2 p3 u v w h).2
end Go.Proofs.Ytplfijdonikaoaa
