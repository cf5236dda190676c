/- What vec's functions compute, and the document's, in this seat's program. -/
import Derived.Test.YtcfdnilakjgeoaaL2F
import Derived.Test.YtcfdnilakjgeoaaVecA
set_option linter.unusedVariables false
set_option linter.unusedSimpArgs false
namespace Go.Proofs.Ytcfdnilakjgeoaa
open Go Go.Sx Go.Fx

theorem ent_w1 : Enters Try.prog 28 Try.f28 := ⟨Try.func28, by kernel_rfl, by kernel_rfl⟩
theorem ent_IndexFunc : Enters Try.prog 29 Try.f29 := ⟨Try.func29, by kernel_rfl, by kernel_rfl⟩
theorem ent_ContainsFunc : Enters Try.prog 27 Try.f27 := ⟨Try.func27, by kernel_rfl, by kernel_rfl⟩
theorem ent_within : Enters Try.prog 24 Try.f24 := ⟨Try.func24, by kernel_rfl, by kernel_rfl⟩
noncomputable def cW : CallSem := (((CallSem.nil.withBody Try.prog 20 28 Try.f28 true).withBody Try.prog 20 29 Try.f29 false).withBody Try.prog 20 27 Try.f27 false).withBody Try.prog 20 24 Try.f24 false
theorem cW_sound : cW.Sound Try.prog := CallSem.withBody_sound (CallSem.withBody_sound (CallSem.withBody_sound (CallSem.withBody_sound nilS mixed 20 ent_w1 true) mixed 20 ent_IndexFunc false) mixed 20 ent_ContainsFunc false) mixed 20 ent_within false
theorem ent_May : Enters Try.prog 16 Try.f16 := ⟨Try.func16, by kernel_rfl, by kernel_rfl⟩
theorem ok_May : mayS.Ok Try.prog 16 := mS_ok fun a0 a1 a2 a3 a4 a5 a6 a7 a8 a9 a10 a11 a12 a13 a14 a15 => ok_of (n := 20) cW_sound mixed ent_May (by kernel_rfl) (mayT_eq [a0, a1, a2, a3, a4, a5, a6, a7, a8, a9, a10, a11, a12, a13, a14, a15])
theorem ent_rMay : Enters Try.prog 17 Try.f17 := ⟨Try.func17, by kernel_rfl, by kernel_rfl⟩
theorem ok_rMay : mayS.Ok Try.prog 17 := mS_ok fun a0 a1 a2 a3 a4 a5 a6 a7 a8 a9 a10 a11 a12 a13 a14 a15 => ok_of (n := 20) nilS mixed ent_rMay (by kernel_rfl) (mayT_eq [a0, a1, a2, a3, a4, a5, a6, a7, a8, a9, a10, a11, a12, a13, a14, a15])
noncomputable def cM : CallSem := ((((cW.withSpec 16 mayS).withSpec 21 rndS).withSpec 17 mayS).withSpec 23 nearS)
theorem cM_sound : cM.Sound Try.prog := (CallSem.withSpec_sound (CallSem.withSpec_sound (CallSem.withSpec_sound (CallSem.withSpec_sound cW_sound ok_May) ok_Round) ok_rMay) ok_near)
theorem ent_held : Enters Try.prog 22 Try.f22 := ⟨Try.func22, by kernel_rfl, by kernel_rfl⟩
theorem ok_held : heldS.Ok Try.prog 22 := mS_ok fun a0 a1 a2 a3 a4 a5 a6 a7 a8 a9 a10 a11 a12 a13 a14 a15 => ok_of (n := 20) cM_sound mixed ent_held (by kernel_rfl) (held_eq [a0, a1, a2, a3, a4, a5, a6, a7, a8, a9, a10, a11, a12, a13, a14, a15] rfl)
theorem ent_One : Enters Try.prog 18 Try.f18 := ⟨Try.func18, by kernel_rfl, by kernel_rfl⟩
theorem ok_One : oneS.Ok Try.prog 18 := oneS_ok (pureOk_of (n := 20) nilS mixed ent_One (by kernel_rfl))
theorem ent_rOne : Enters Try.prog 19 Try.f19 := ⟨Try.func19, by kernel_rfl, by kernel_rfl⟩
theorem ok_rOne : oneS.Ok Try.prog 19 := oneS_ok (pureOk_of (n := 20) nilS mixed ent_rOne (by kernel_rfl))
noncomputable def cN : CallSem := (((cM.withSpec 22 heldS).withSpec 18 oneS).withSpec 19 oneS)
theorem cN_sound : cN.Sound Try.prog := (CallSem.withSpec_sound (CallSem.withSpec_sound (CallSem.withSpec_sound cM_sound ok_held) ok_One) ok_rOne)
theorem ent_VMul : Enters Try.prog 8 Try.f8 := ⟨Try.func8, by kernel_rfl, by kernel_rfl⟩
theorem ok_VMul : mulS'.Ok Try.prog 8 := mmS_ok fun a0 a1 a2 a3 a4 a5 a6 a7 a8 a9 a10 a11 a12 a13 a14 a15 b0 b1 b2 b3 b4 b5 b6 b7 b8 b9 b10 b11 b12 b13 b14 b15 => ok_of (n := 20) cN_sound mixed ent_VMul (by kernel_rfl) (mulP_eq a0 a1 a2 a3 a4 a5 a6 a7 a8 a9 a10 a11 a12 a13 a14 a15 b0 b1 b2 b3 b4 b5 b6 b7 b8 b9 b10 b11 b12 b13 b14 b15)
theorem ent_rVMul : Enters Try.prog 9 Try.f9 := ⟨Try.func9, by kernel_rfl, by kernel_rfl⟩
theorem ok_rVMul : mulS'.Ok Try.prog 9 := mmS_ok fun a0 a1 a2 a3 a4 a5 a6 a7 a8 a9 a10 a11 a12 a13 a14 a15 b0 b1 b2 b3 b4 b5 b6 b7 b8 b9 b10 b11 b12 b13 b14 b15 => ok_of (n := 20) cN_sound mixed ent_rVMul (by kernel_rfl) (mulR_eq a0 a1 a2 a3 a4 a5 a6 a7 a8 a9 a10 a11 a12 a13 a14 a15 b0 b1 b2 b3 b4 b5 b6 b7 b8 b9 b10 b11 b12 b13 b14 b15)
theorem ent_Apply : Enters Try.prog 10 Try.f10 := ⟨Try.func10, by kernel_rfl, by kernel_rfl⟩
theorem ok_Apply : appS.Ok Try.prog 10 := mvS_ok fun a0 a1 a2 a3 a4 a5 a6 a7 a8 a9 a10 a11 a12 a13 a14 a15 v0 v1 v2 v3 => ok_of (n := 20) cN_sound mixed ent_Apply (by kernel_rfl) (appP_eq a0 a1 a2 a3 a4 a5 a6 a7 a8 a9 a10 a11 a12 a13 a14 a15 v0 v1 v2 v3)
theorem ent_rApply : Enters Try.prog 11 Try.f11 := ⟨Try.func11, by kernel_rfl, by kernel_rfl⟩
theorem ok_rApply : appS.Ok Try.prog 11 := mvS_ok fun a0 a1 a2 a3 a4 a5 a6 a7 a8 a9 a10 a11 a12 a13 a14 a15 v0 v1 v2 v3 => ok_of (n := 20) cN_sound mixed ent_rApply (by kernel_rfl) (appR_eq a0 a1 a2 a3 a4 a5 a6 a7 a8 a9 a10 a11 a12 a13 a14 a15 v0 v1 v2 v3)
theorem ent_Move : Enters Try.prog 12 Try.f12 := ⟨Try.func12, by kernel_rfl, by kernel_rfl⟩
theorem ok_Move : moveS.Ok Try.prog 12 := i3S_ok fun x y z => pureOk_of (n := 20) cN_sound mixed ent_Move (by kernel_rfl)
theorem ent_rMove : Enters Try.prog 13 Try.f13 := ⟨Try.func13, by kernel_rfl, by kernel_rfl⟩
theorem ok_rMove : moveS.Ok Try.prog 13 := i3S_ok fun x y z => ok_of (n := 20) cN_sound mixed ent_rMove (by kernel_rfl) (held_eq (moveL x y z) rfl)
theorem ent_Stretch : Enters Try.prog 14 Try.f14 := ⟨Try.func14, by kernel_rfl, by kernel_rfl⟩
theorem ok_Stretch : stretchS.Ok Try.prog 14 := i3S_ok fun x y z => pureOk_of (n := 20) cN_sound mixed ent_Stretch (by kernel_rfl)
theorem ent_rStretch : Enters Try.prog 15 Try.f15 := ⟨Try.func15, by kernel_rfl, by kernel_rfl⟩
theorem ok_rStretch : stretchS.Ok Try.prog 15 := i3S_ok fun x y z => ok_of (n := 20) cN_sound mixed ent_rStretch (by kernel_rfl) (held_eq (stretchL x y z) rfl)
noncomputable def cV : CallSem := ((((((((cN.withSpec 8 mulS').withSpec 9 mulS').withSpec 10 appS).withSpec 11 appS).withSpec 12 moveS).withSpec 13 moveS).withSpec 14 stretchS).withSpec 15 stretchS)
theorem cV_sound : cV.Sound Try.prog := (CallSem.withSpec_sound (CallSem.withSpec_sound (CallSem.withSpec_sound (CallSem.withSpec_sound (CallSem.withSpec_sound (CallSem.withSpec_sound (CallSem.withSpec_sound (CallSem.withSpec_sound cN_sound ok_VMul) ok_rVMul) ok_Apply) ok_rApply) ok_Move) ok_rMove) ok_Stretch) ok_rStretch)
end Go.Proofs.Ytcfdnilakjgeoaa

