/- What hue's document fixes: awake. -/
import Derived.Test.YtpgheiegpcggbaaR1P
set_option linter.unusedVariables false
set_option linter.unusedSimpArgs false
namespace Go.Proofs.Ytpgheiegpcggbaa
open Go Go.Sx

theorem e21 : Enters Try.prog 21 Try.f21 := ⟨Try.func21, by kernel_rfl, by kernel_rfl⟩
theorem e28 : Enters Try.prog 28 Try.f28 := ⟨Try.func28, by kernel_rfl, by kernel_rfl⟩
noncomputable def ch0 : CallSem := (c0.withBody Try.prog 9 21 Try.f21 false).withBody Try.prog 9 28 Try.f28 false
theorem ch0_sound : ch0.Sound Try.prog := CallSem.withBody_sound (CallSem.withBody_sound c0_sound mixed 9 e21 false) mixed 9 e28 false
theorem hawake_ok : trueS.Ok Try.prog 20 := by
  intro R args k r h
  simp only [trueS] at h
  split at h
  · exact ⟨_, h, pureOk_of (n := 9) ch0_sound mixed e20 (by kernel_rfl)⟩
  · cases h
noncomputable def ch : CallSem := c0.withSpec 20 trueS
theorem ch_sound : ch.Sound Try.prog := CallSem.withSpec_sound c0_sound hawake_ok
end Go.Proofs.Ytpgheiegpcggbaa
