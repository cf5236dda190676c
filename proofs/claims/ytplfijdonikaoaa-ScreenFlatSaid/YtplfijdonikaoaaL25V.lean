/- What vec's functions compute, and the document's, in this seat's program. -/
import Derived.Test.YtplfijdonikaoaaL25F
import Derived.Test.YtplfijdonikaoaaVecA
set_option linter.unusedVariables false
set_option linter.unusedSimpArgs false
namespace Go.Proofs.Ytplfijdonikaoaa
open Go Go.Sx Go.Fx

theorem ent_w1 : Enters Try.prog 44 Try.f44 := ⟨Try.func44, by kernel_rfl, by kernel_rfl⟩
theorem ent_IndexFunc : Enters Try.prog 35 Try.f35 := ⟨Try.func35, by kernel_rfl, by kernel_rfl⟩
theorem ent_ContainsFunc : Enters Try.prog 15 Try.f15 := ⟨Try.func15, by kernel_rfl, by kernel_rfl⟩
theorem ent_within : Enters Try.prog 38 Try.f38 := ⟨Try.func38, by kernel_rfl, by kernel_rfl⟩
noncomputable def cW : CallSem := (((CallSem.nil.withBody Try.prog 20 44 Try.f44 true).withBody Try.prog 20 35 Try.f35 false).withBody Try.prog 20 15 Try.f15 false).withBody Try.prog 20 38 Try.f38 false
theorem cW_sound : cW.Sound Try.prog := CallSem.withBody_sound (CallSem.withBody_sound (CallSem.withBody_sound (CallSem.withBody_sound nilS mixed 20 ent_w1 true) mixed 20 ent_IndexFunc false) mixed 20 ent_ContainsFunc false) mixed 20 ent_within false
theorem ent_May : Enters Try.prog 25 Try.f25 := ⟨Try.func25, by kernel_rfl, by kernel_rfl⟩
theorem ok_May : mayS.Ok Try.prog 25 := mS_ok fun a0 a1 a2 a3 a4 a5 a6 a7 a8 a9 a10 a11 a12 a13 a14 a15 => ok_of (n := 20) cW_sound mixed ent_May (by kernel_rfl) (mayT_eq [a0, a1, a2, a3, a4, a5, a6, a7, a8, a9, a10, a11, a12, a13, a14, a15])
theorem ent_rMay : Enters Try.prog 31 Try.f31 := ⟨Try.func31, by kernel_rfl, by kernel_rfl⟩
theorem ok_rMay : mayS.Ok Try.prog 31 := mS_ok fun a0 a1 a2 a3 a4 a5 a6 a7 a8 a9 a10 a11 a12 a13 a14 a15 => ok_of (n := 20) nilS mixed ent_rMay (by kernel_rfl) (mayT_eq [a0, a1, a2, a3, a4, a5, a6, a7, a8, a9, a10, a11, a12, a13, a14, a15])
noncomputable def cM : CallSem := ((((cW.withSpec 25 mayS).withSpec 21 rndS).withSpec 31 mayS).withSpec 24 nearS)
theorem cM_sound : cM.Sound Try.prog := (CallSem.withSpec_sound (CallSem.withSpec_sound (CallSem.withSpec_sound (CallSem.withSpec_sound cW_sound ok_May) ok_Round) ok_rMay) ok_near)
theorem ent_rOne : Enters Try.prog 14 Try.f14 := ⟨Try.func14, by kernel_rfl, by kernel_rfl⟩
theorem ok_rOne : oneS.Ok Try.prog 14 := oneS_ok (pureOk_of (n := 20) nilS mixed ent_rOne (by kernel_rfl))
noncomputable def cN : CallSem := (cM.withSpec 14 oneS)
theorem cN_sound : cN.Sound Try.prog := (CallSem.withSpec_sound cM_sound ok_rOne)
theorem ent_Apply : Enters Try.prog 29 Try.f29 := ⟨Try.func29, by kernel_rfl, by kernel_rfl⟩
theorem ok_Apply : appS.Ok Try.prog 29 := mvS_ok fun a0 a1 a2 a3 a4 a5 a6 a7 a8 a9 a10 a11 a12 a13 a14 a15 v0 v1 v2 v3 => ok_of (n := 20) cN_sound mixed ent_Apply (by kernel_rfl) (appP_eq a0 a1 a2 a3 a4 a5 a6 a7 a8 a9 a10 a11 a12 a13 a14 a15 v0 v1 v2 v3)
theorem ent_rApply : Enters Try.prog 33 Try.f33 := ⟨Try.func33, by kernel_rfl, by kernel_rfl⟩
theorem ok_rApply : appS.Ok Try.prog 33 := mvS_ok fun a0 a1 a2 a3 a4 a5 a6 a7 a8 a9 a10 a11 a12 a13 a14 a15 v0 v1 v2 v3 => ok_of (n := 20) cN_sound mixed ent_rApply (by kernel_rfl) (appR_eq a0 a1 a2 a3 a4 a5 a6 a7 a8 a9 a10 a11 a12 a13 a14 a15 v0 v1 v2 v3)
noncomputable def cV : CallSem := ((cN.withSpec 29 appS).withSpec 33 appS)
theorem cV_sound : cV.Sound Try.prog := (CallSem.withSpec_sound (CallSem.withSpec_sound cN_sound ok_Apply) ok_rApply)
end Go.Proofs.Ytplfijdonikaoaa

