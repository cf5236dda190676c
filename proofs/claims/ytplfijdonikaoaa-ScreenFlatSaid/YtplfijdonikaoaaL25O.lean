/- The calls of ScreenFlat (chapter 25). -/
import Derived.Test.YtplfijdonikaoaaL25W
import Derived.Test.YtplfijdonikaoaaScrF
set_option linter.unusedVariables false
set_option linter.unusedSimpArgs false
namespace Go.Proofs.Ytplfijdonikaoaa
open Go Go.Sx Go.Fx
noncomputable def cO1 : CallSem := ((cW1.withSpec 14 oneS).withRead 10 place_M)
theorem cO1_sound : cO1.Sound Try.prog := CallSem.withRead_sound (CallSem.withSpec_sound cW1_sound ok_rOne) place_Mok10
end Go.Proofs.Ytplfijdonikaoaa
