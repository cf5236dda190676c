/- A point on the screen: the calls (chapter 25). -/
import Derived.Test.YtplfijdonikaoaaL25V
import Derived.Test.YtplfijdonikaoaaL25C
import Derived.Test.YtplfijdonikaoaaSxThree
set_option linter.unusedVariables false
set_option linter.unusedSimpArgs false
namespace Go.Proofs.Ytplfijdonikaoaa
open Go Go.Sx Go.Fx
theorem s15 : Enters Try.prog 15 Try.f15 := ⟨Try.func15, by kernel_rfl, by kernel_rfl⟩
theorem s16 : Enters Try.prog 16 Try.f16 := ⟨Try.func16, by kernel_rfl, by kernel_rfl⟩
theorem s17 : Enters Try.prog 17 Try.f17 := ⟨Try.func17, by kernel_rfl, by kernel_rfl⟩
theorem s18 : Enters Try.prog 18 Try.f18 := ⟨Try.func18, by kernel_rfl, by kernel_rfl⟩
theorem s19 : Enters Try.prog 19 Try.f19 := ⟨Try.func19, by kernel_rfl, by kernel_rfl⟩
theorem s20 : Enters Try.prog 20 Try.f20 := ⟨Try.func20, by kernel_rfl, by kernel_rfl⟩
theorem s22 : Enters Try.prog 22 Try.f22 := ⟨Try.func22, by kernel_rfl, by kernel_rfl⟩
theorem s23 : Enters Try.prog 23 Try.f23 := ⟨Try.func23, by kernel_rfl, by kernel_rfl⟩
theorem s35 : Enters Try.prog 35 Try.f35 := ⟨Try.func35, by kernel_rfl, by kernel_rfl⟩
noncomputable def cS0 : CallSem := (cF.withSpec 24 nearS).withJoin
theorem cS0_sound : cS0.Sound Try.prog := CallSem.withJoin_sound (CallSem.withSpec_sound cF_sound ok_near)
noncomputable def cS1 : CallSem := (cS0.withBody Try.prog 9 17 Try.f17 true).withBody Try.prog 9 18 Try.f18 true
theorem cS1_sound : cS1.Sound Try.prog := CallSem.withBody_sound (CallSem.withBody_sound cS0_sound mixed 9 s17 true) mixed 9 s18 true
noncomputable def cS2 : CallSem := ((cS1.withRead 19 (bodyM cS1 Try.prog 9 Try.f19 [])).withRead 20 (bodyM cS1 Try.prog 9 Try.f20 [])).withBody Try.prog 9 16 Try.f16 true
theorem cS2_sound : cS2.Sound Try.prog := CallSem.withBody_sound (CallSem.withRead_sound (CallSem.withRead_sound cS1_sound (bodyM_ok cS1_sound mixed 9 s19 [])) (bodyM_ok cS1_sound mixed 9 s20 [])) mixed 9 s16 true
noncomputable def cS3 : CallSem := (cS2.withBody Try.prog 20 35 Try.f35 false).withBody Try.prog 20 15 Try.f15 false
theorem cS3_sound : cS3.Sound Try.prog := CallSem.withBody_sound (CallSem.withBody_sound cS2_sound mixed 20 s35 false) mixed 20 s15 false
noncomputable def cS : CallSem := (cS3.withBody Try.prog 9 22 Try.f22 true).withBody Try.prog 9 23 Try.f23 true
theorem cS_sound : cS.Sound Try.prog := CallSem.withBody_sound (CallSem.withBody_sound cS3_sound mixed 9 s22 true) mixed 9 s23 true
theorem s8 : Enters Try.prog 8 Try.f8 := ⟨Try.func8, by kernel_rfl, by kernel_rfl⟩
theorem s9 : Enters Try.prog 9 Try.f9 := ⟨Try.func9, by kernel_rfl, by kernel_rfl⟩
end Go.Proofs.Ytplfijdonikaoaa
