/- What HueTells and HueBack call. -/
import Derived.Test.YtpgheiegpcggbaaR1F6
import Derived.Test.YtpgheiegpcggbaaSxAr
set_option linter.unusedVariables false
set_option linter.unusedSimpArgs false
namespace Go.Proofs.Ytpgheiegpcggbaa
open Go Go.Sx
noncomputable def chm0 : CallSem := (((c0.withRead 21 from_M).withRead 22 from_M).withRead 28 bytes_M).withRead 29 bytes_M
theorem chm0_sound : chm0.Sound Try.prog := CallSem.withRead_sound (CallSem.withRead_sound (CallSem.withRead_sound (CallSem.withRead_sound c0_sound from_Mok) hfrom_Mok) bytes_Mok28) bytes_Mok29
noncomputable def chm : CallSem := chm0.withSpec 20 trueS
theorem chm_sound : chm.Sound Try.prog := CallSem.withSpec_sound chm0_sound hawake_ok
end Go.Proofs.Ytpgheiegpcggbaa
