/- The calls of ScreenTells and ScreenWithin (chapter 25). -/
import Derived.Test.YtplfijdonikaoaaL25U
set_option linter.unusedVariables false
set_option linter.unusedSimpArgs false
namespace Go.Proofs.Ytplfijdonikaoaa
open Go Go.Sx Go.Fx
noncomputable def cW1 : CallSem := (((CallSem.nil.withSpec 8 spotS).withSpec 9 spotS).withSpec 13 trueS).withJoin
theorem cW1_sound : cW1.Sound Try.prog := CallSem.withJoin_sound (CallSem.withSpec_sound (CallSem.withSpec_sound (CallSem.withSpec_sound nilS ok8) ok9s) awake_ok)
noncomputable def cW2 : CallSem := ((cW1.withRead 10 place_M).withRead 11 place_M).withRead 12 same_M
theorem cW2_sound : cW2.Sound Try.prog := CallSem.withRead_sound (CallSem.withRead_sound (CallSem.withRead_sound cW1_sound place_Mok10) place_Mok11) same_Mok
end Go.Proofs.Ytplfijdonikaoaa
