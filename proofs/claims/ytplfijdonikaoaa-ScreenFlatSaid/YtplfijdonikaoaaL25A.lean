/- What screen's document fixes: awake (chapter 25). -/
import Derived.Test.YtplfijdonikaoaaL25P
set_option linter.unusedVariables false
set_option linter.unusedSimpArgs false
namespace Go.Proofs.Ytplfijdonikaoaa
open Go Go.Sx Go.Fx
theorem s40 : Enters Try.prog 40 Try.f40 := ⟨Try.func40, by kernel_rfl, by kernel_rfl⟩
theorem s41 : Enters Try.prog 41 Try.f41 := ⟨Try.func41, by kernel_rfl, by kernel_rfl⟩
theorem s30 : Enters Try.prog 30 Try.f30 := ⟨Try.func30, by kernel_rfl, by kernel_rfl⟩
theorem s26 : Enters Try.prog 26 Try.f26 := ⟨Try.func26, by kernel_rfl, by kernel_rfl⟩
theorem s39 : Enters Try.prog 39 Try.f39 := ⟨Try.func39, by kernel_rfl, by kernel_rfl⟩
theorem s27 : Enters Try.prog 27 Try.f27 := ⟨Try.func27, by kernel_rfl, by kernel_rfl⟩
theorem s28 : Enters Try.prog 28 Try.f28 := ⟨Try.func28, by kernel_rfl, by kernel_rfl⟩
theorem s10 : Enters Try.prog 10 Try.f10 := ⟨Try.func10, by kernel_rfl, by kernel_rfl⟩
theorem s13 : Enters Try.prog 13 Try.f13 := ⟨Try.func13, by kernel_rfl, by kernel_rfl⟩
/-- points, matrices -/
noncomputable def cP0 : CallSem := ((((cC.withSpec 25 mayS).withSpec 29 appS).withSpec 14 oneS).withSpec 8 spotS).withSpec 9 spotS
theorem cP0_sound : cP0.Sound Try.prog := CallSem.withSpec_sound (CallSem.withSpec_sound (CallSem.withSpec_sound (CallSem.withSpec_sound (CallSem.withSpec_sound cC_sound ok_May) ok_Apply) ok_rOne) ok8) ok9s
noncomputable def cP1 : CallSem := ((((cP0.withBody Try.prog 9 17 Try.f17 true).withBody Try.prog 9 18 Try.f18 true).withBody Try.prog 9 28 Try.f28 true).withBody Try.prog 9 27 Try.f27 true)
theorem cP1_sound : cP1.Sound Try.prog := CallSem.withBody_sound (CallSem.withBody_sound (CallSem.withBody_sound (CallSem.withBody_sound cP0_sound mixed 9 s17 true) mixed 9 s18 true) mixed 9 s28 true) mixed 9 s27 true
noncomputable def cP2 : CallSem := (cP1.withBody Try.prog 9 39 Try.f39 false).withBody Try.prog 9 26 Try.f26 false
theorem cP2_sound : cP2.Sound Try.prog := CallSem.withBody_sound (CallSem.withBody_sound cP1_sound mixed 9 s39 false) mixed 9 s26 false
noncomputable def cQ : CallSem := ((cP2.withBody Try.prog 9 40 Try.f40 false).withBody Try.prog 9 41 Try.f41 false).withBody Try.prog 9 30 Try.f30 false
theorem cQ_sound : cQ.Sound Try.prog := CallSem.withBody_sound (CallSem.withBody_sound (CallSem.withBody_sound cP2_sound mixed 9 s40 false) mixed 9 s41 false) mixed 9 s30 false
def c18 : List CK := List.replicate 18 (.int .i64)
noncomputable def cQ1 : CallSem := cQ.withRead 10 (bodyM cQ Try.prog 9 Try.f10 [⟨0, 45, true, c18⟩])
theorem cQ1_sound : cQ1.Sound Try.prog := CallSem.withRead_sound cQ_sound (bodyM_ok cQ_sound mixed 9 s10 [⟨0, 45, true, c18⟩])
def trueS : FSpec := ⟨fun args k => match args with
  | [] => k (.lit (.bool true))
  | _ => none⟩
theorem awake_ok : trueS.Ok Try.prog 13 := by
  intro R args k r h
  simp only [trueS] at h
  split at h
  · exact ⟨_, h, pureOk_of (n := 9) cQ1_sound mixed s13 (by kernel_rfl)⟩
  · cases h
noncomputable def cM1 : CallSem := (((CallSem.nil.withSpec 8 spotS).withSpec 9 spotS).withSpec 13 trueS).withJoin
theorem cM1_sound : cM1.Sound Try.prog := CallSem.withJoin_sound (CallSem.withSpec_sound (CallSem.withSpec_sound (CallSem.withSpec_sound nilS ok8) ok9s) awake_ok)
end Go.Proofs.Ytplfijdonikaoaa
