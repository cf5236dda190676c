/- What clip's document fixes: awake (chapter 24). -/
import Derived.Test.YtemhaijcebjhhaaSxX
import Derived.Test.YtemhaijcebjhhaaL24C
set_option linter.unusedVariables false
set_option linter.unusedSimpArgs false
namespace Go.Proofs.Ytemhaijcebjhhaa
open Go Go.Sx Go.Fx
theorem e20 : Enters Try.prog 20 Try.f20 := ⟨Try.func20, by kernel_rfl, by kernel_rfl⟩
theorem e21 : Enters Try.prog 21 Try.f21 := ⟨Try.func21, by kernel_rfl, by kernel_rfl⟩
theorem e14 : Enters Try.prog 14 Try.f14 := ⟨Try.func14, by kernel_rfl, by kernel_rfl⟩
theorem e13 : Enters Try.prog 13 Try.f13 := ⟨Try.func13, by kernel_rfl, by kernel_rfl⟩
theorem e7 : Enters Try.prog 7 Try.f7 := ⟨Try.func7, by kernel_rfl, by kernel_rfl⟩
theorem e8 : Enters Try.prog 8 Try.f8 := ⟨Try.func8, by kernel_rfl, by kernel_rfl⟩
noncomputable def cG0 : CallSem := (cC.withBody Try.prog 9 20 Try.f20 false).withBody Try.prog 9 21 Try.f21 false
theorem cG0_sound : cG0.Sound Try.prog := CallSem.withBody_sound (CallSem.withBody_sound cC_sound mixed 9 e20 false) mixed 9 e21 false
noncomputable def cG : CallSem := (cG0.withRead 14 (bodyM cG0 Try.prog 9 Try.f14 [])).withRead 13 (bodyM cG0 Try.prog 9 Try.f13 [])
theorem cG_sound : cG.Sound Try.prog := CallSem.withRead_sound (CallSem.withRead_sound cG0_sound (bodyM_ok cG0_sound mixed 9 e14 [])) (bodyM_ok cG0_sound mixed 9 e13 [])
def trueS : FSpec := ⟨fun args k => match args with
  | [] => k (.lit (.bool true))
  | _ => none⟩
theorem awake_ok : trueS.Ok Try.prog 8 := by
  intro R args k r h
  simp only [trueS] at h
  split at h
  · exact ⟨_, h, pureOk_of (n := 9) cG_sound mixed e8 (by kernel_rfl)⟩
  · cases h
end Go.Proofs.Ytemhaijcebjhhaa
