/- vec's functions, told with a branch, in this seat's program. -/
import Derived.Test.YtcfdnilakjgeoaaL2A
import Derived.Test.YtcfdnilakjgeoaaVecG
set_option linter.unusedVariables false
set_option linter.unusedSimpArgs false
namespace Go.Proofs.Ytcfdnilakjgeoaa
open Go Go.Sx Go.Fx

noncomputable def cG : CallSem := ((((calls.withSpec 8 (mmG false)).withSpec 10 (mvG false)).withSpec 12 (i3G moveL false)).withSpec 14 (i3G stretchL false))
theorem cG_sound : cG.Sound Try.prog := CallSem.withSpec_sound (CallSem.withSpec_sound (CallSem.withSpec_sound (CallSem.withSpec_sound calls_sound (mmG_ok false ok_VMul)) (mvG_ok false ok_Apply)) (i3G_ok false (fun _ _ _ => rfl) ok_Move)) (i3G_ok false (fun _ _ _ => rfl) ok_Stretch)
noncomputable def cB : CallSem := ((calls.withSpec 8 (mmG true)).withSpec 10 (mvG false))
theorem cB_sound : cB.Sound Try.prog := CallSem.withSpec_sound (CallSem.withSpec_sound calls_sound (mmG_ok true ok_VMul)) (mvG_ok false ok_Apply)
end Go.Proofs.Ytcfdnilakjgeoaa
namespace Go.Proofs.Ytcfdnilakjgeoaa
open Go Go.Sx Go.Fx
def rem4 (o : Oper) : Option (List Int) := match o.op with
  | .binOp .rem _ _ (.const (.int _ 4)) _ => some [0, 1, 2, 3, -1, -2, -3]
  | _ => none
noncomputable def cR : CallSem := cG.withSplit rem4
theorem cR_sound : cR.Sound Try.prog := CallSem.withSplit_sound cG_sound rem4
end Go.Proofs.Ytcfdnilakjgeoaa
