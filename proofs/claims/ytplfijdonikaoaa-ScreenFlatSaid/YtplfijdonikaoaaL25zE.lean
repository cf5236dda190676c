/- clip's functions in this seat (chapter 25). -/
import Derived.Test.YtplfijdonikaoaaL25A
import Derived.Test.YtplfijdonikaoaaClipD
import Derived.Test.YtplfijdonikaoaaSxThree
set_option linter.unusedVariables false
set_option linter.unusedSimpArgs false
namespace Go.Proofs.Ytplfijdonikaoaa
open Go Go.Sx Go.Fx
theorem e20 : Enters Try.prog 40 Try.f40 := s40
theorem e21 : Enters Try.prog 41 Try.f41 := s41
theorem e14 : Enters Try.prog 30 Try.f30 := s30
end Go.Proofs.Ytplfijdonikaoaa
