/- Place: the calls (chapter 25). -/
import Derived.Test.YtplfijdonikaoaaL25Y
import Derived.Test.YtplfijdonikaoaaScrD
set_option linter.unusedVariables false
set_option linter.unusedSimpArgs false
namespace Go.Proofs.Ytplfijdonikaoaa
open Go Go.Sx Go.Fx
set_option maxRecDepth 100000
noncomputable def cX0 : CallSem := ((((CallSem.nil.withSpec 25 mayS).withSpec 29 appS).withSpec 31 mayS).withSpec 33 appS).withJoin
theorem cX0_sound : cX0.Sound Try.prog := CallSem.withJoin_sound (CallSem.withSpec_sound (CallSem.withSpec_sound (CallSem.withSpec_sound (CallSem.withSpec_sound nilS ok_May) ok_Apply) ok_rMay) ok_rApply)
noncomputable def cX1 : CallSem := (((cX0.withSpec 8 spotS).withSpec 9 spotS).withRead 30 pol3M).withRead 34 rpol3M
theorem cX1_sound : cX1.Sound Try.prog := CallSem.withRead_sound (CallSem.withRead_sound (CallSem.withSpec_sound (CallSem.withSpec_sound cX0_sound ok8) ok9s) pol3M_ok) rpol3M_ok
noncomputable def cX2 : CallSem := ((cX1.withBody Try.prog 9 17 Try.f17 true).withBody Try.prog 9 18 Try.f18 true).withBody Try.prog 9 22 Try.f22 true
theorem cX2_sound : cX2.Sound Try.prog := CallSem.withBody_sound (CallSem.withBody_sound (CallSem.withBody_sound cX1_sound mixed 9 s17 true) mixed 9 s18 true) mixed 9 s22 true
theorem s32 : Enters Try.prog 32 Try.f32 := ⟨Try.func32, by kernel_rfl, by kernel_rfl⟩
theorem ok28 : cornS.Ok Try.prog 28 := cornS_ok fun a0 a1 a2 a3 a4 a5 => ok_of (n := 9) cX2_sound mixed s28 (by kernel_rfl) (cornC_eq a0 a1 a2 a3 a4 a5)
theorem ok32 : triS.Ok Try.prog 32 := triS_ok fun a0 a1 a2 a3 a4 a5 b0 b1 b2 b3 b4 b5 d0 d1 d2 d3 d4 d5 s c0 c1 c2 c3 => ok_of (n := 20) cX2_sound mixed s32 (by kernel_rfl) (triN_eq a0 a1 a2 a3 a4 a5 b0 b1 b2 b3 b4 b5 d0 d1 d2 d3 d4 d5)
noncomputable def cX4 : CallSem := ((cX2.withSpec 28 cornS).withSpec 32 triS).withBody Try.prog 9 27 Try.f27 true
theorem cX4_sound : cX4.Sound Try.prog := CallSem.withBody_sound (CallSem.withSpec_sound (CallSem.withSpec_sound cX2_sound ok28) ok32) mixed 9 s27 true
noncomputable def cX3 : CallSem := (cX4.withBody Try.prog 9 39 Try.f39 false).withBody Try.prog 9 26 Try.f26 false
theorem cX3_sound : cX3.Sound Try.prog := CallSem.withBody_sound (CallSem.withBody_sound cX4_sound mixed 9 s39 false) mixed 9 s26 false
noncomputable def cX10 : CallSem := cX3.withLoops (one 13 pl_L10)
theorem cX10_sound : cX10.Sound Try.prog := CallSem.withLoops_sound cX3_sound _
noncomputable def cX11 : CallSem := cX3.withLoops (one 13 pl_L11)
theorem cX11_sound : cX11.Sound Try.prog := CallSem.withLoops_sound cX3_sound _
theorem s11 : Enters Try.prog 11 Try.f11 := ⟨Try.func11, by kernel_rfl, by kernel_rfl⟩
end Go.Proofs.Ytplfijdonikaoaa
