/- What vec's document fixes: awake. -/
import Derived.Test.YtcfdnilakjgeoaaL2V
set_option linter.unusedVariables false
set_option linter.unusedSimpArgs false
namespace Go.Proofs.Ytcfdnilakjgeoaa
open Go Go.Sx Go.Fx

def trueS : FSpec := ⟨fun args k => match args with
  | [] => k (.lit (.bool true))
  | _ => none⟩
theorem ent_awake : Enters Try.prog 20 Try.f20 := ⟨Try.func20, by kernel_rfl, by kernel_rfl⟩
theorem awake_ok : trueS.Ok Try.prog 20 := by
  intro R args k r h
  simp only [trueS] at h
  split at h
  · exact ⟨_, h, pureOk_of (n := 20) cV_sound mixed ent_awake (by kernel_rfl)⟩
  · cases h
noncomputable def calls : CallSem := cV.withSpec 20 trueS
theorem calls_sound : calls.Sound Try.prog := CallSem.withSpec_sound cV_sound awake_ok
end Go.Proofs.Ytcfdnilakjgeoaa
