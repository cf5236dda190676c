/- awake (chapter 14); the calls of the laws. -/
import Derived.Test.YtfnpnenndbdcpaaL14I
set_option linter.unusedVariables false
set_option linter.unusedSimpArgs false
namespace Go.Proofs.Ytfnpnenndbdcpaa
open Go Go.Sx Go.Fx
set_option maxRecDepth 100000
set_option linter.unusedVariables false
set_option linter.unusedSimpArgs false
theorem s6 : Sx.Enters Try.prog 6 Try.f6 := ⟨Try.func6, by kernel_rfl, by kernel_rfl⟩
theorem s19 : Sx.Enters Try.prog 19 Try.f19 := ⟨Try.func19, by kernel_rfl, by kernel_rfl⟩
theorem s20 : Sx.Enters Try.prog 20 Try.f20 := ⟨Try.func20, by kernel_rfl, by kernel_rfl⟩
noncomputable def cL0 : CallSem := (((((CallSem.nil.withSpec 21 roundS).withSpec 23 meanS).withMem 7 paint_M).withRead 8 build_M).withRead 15 size_M).withRead 13 atP_M
theorem cL0_sound : cL0.Sound Try.prog := CallSem.withRead_sound (CallSem.withRead_sound (CallSem.withRead_sound (CallSem.withMem_sound (CallSem.withSpec_sound (CallSem.withSpec_sound nilS ok21) ok23) paint_Mok) build_Mok) size_Mok) atP_Mok
noncomputable def cL1 : CallSem := ((((cL0.withRead 18 tex_M).withRead 17 stex_M).withRead 10 may_M).withRead 19 (bodyM CallSem.nil Try.prog 9 Try.f19 [])).withRead 20 (bodyM CallSem.nil Try.prog 9 Try.f20 [])
theorem cL1_sound : cL1.Sound Try.prog := CallSem.withRead_sound (CallSem.withRead_sound (CallSem.withRead_sound (CallSem.withRead_sound (CallSem.withRead_sound cL0_sound tex_Mok) stex_Mok) may_Mok) (bodyM_ok nilS mixed 9 s19 [])) (bodyM_ok nilS mixed 9 s20 [])
noncomputable def cV : CallSem := cL1.withMem 11 withS_M
theorem cV_sound : cV.Sound Try.prog := CallSem.withMem_sound cL1_sound withS_Mok
def trueS : FSpec := ⟨fun args k => match args with
  | [] => k (.lit (.bool true))
  | _ => none⟩
theorem awake_ok : trueS.Ok Try.prog 6 := by
  intro R args k r h
  simp only [trueS] at h
  split at h
  · exact ⟨_, h, pureOk_of (n := 9) cV_sound mixed s6 (by kernel_rfl)⟩
  · cases h
end Go.Proofs.Ytfnpnenndbdcpaa
