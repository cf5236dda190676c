/- Which pixels are covered, in this seat's program. -/
import Derived.Test.YthnkgakjnfghoaaL27Q
import Derived.Test.YthnkgakjnfghoaaPerspE
set_option linter.unusedVariables false
set_option linter.unusedSimpArgs false
namespace Go.Proofs.Ythnkgakjnfghoaa
open Go Go.Sx Go.Fx

theorem ent_Covers : Enters Try.prog 16 Try.f16 := ⟨Try.func16, by kernel_rfl, by kernel_rfl⟩
theorem ok_Covers : coversS.Ok Try.prog 16 := tpS_ok fun x0 y0 z0 w0 u0 v0 x1 y1 z1 w1 u1 v1 x2 y2 z2 w2 u2 v2 px py _ => ok_of (n := 9) (CallSem.withJoin_sound cU_sound) mixed ent_Covers (t := cvTree [x0, y0, z0, w0, u0, v0, x1, y1, z1, w1, u1, v1, x2, y2, z2, w2, u2, v2] px py) (by kernel_rfl) (cvTree_eq x0 y0 z0 w0 u0 v0 x1 y1 z1 w1 u1 v1 x2 y2 z2 w2 u2 v2 px py)
noncomputable def callsC : CallSem := calls.withSpec 16 coversS
theorem callsC_sound : callsC.Sound Try.prog := CallSem.withSpec_sound calls_sound ok_Covers
end Go.Proofs.Ythnkgakjnfghoaa
