/- What fix's document fixes: awake. -/
import Derived.Test.YtihecmjcbnfjiaaL1F
set_option linter.unusedVariables false
set_option linter.unusedSimpArgs false
namespace Go.Proofs.Ytihecmjcbnfjiaa
open Go Go.Sx Go.Fx

def trueS : FSpec := ⟨fun args k => match args with
  | [] => k (.lit (.bool true))
  | _ => none⟩
theorem ent_awake : Enters Try.prog 23 Try.f23 := ⟨Try.func23, by kernel_rfl, by kernel_rfl⟩
theorem awake_ok : trueS.Ok Try.prog 23 := by
  intro R args k r h
  simp only [trueS] at h
  split at h
  · exact ⟨_, h, pureOk_of (n := 70) cF_sound mixed ent_awake (by kernel_rfl)⟩
  · cases h
noncomputable def calls : CallSem := cF.withSpec 23 trueS
theorem calls_sound : calls.Sound Try.prog := CallSem.withSpec_sound cF_sound awake_ok
end Go.Proofs.Ytihecmjcbnfjiaa
