/- What persp's functions compute, and the document's, in this seat's program. -/
import Derived.Test.YthnkgakjnfghoaaL27F
import Derived.Test.YthnkgakjnfghoaaPerspA
set_option linter.unusedVariables false
set_option linter.unusedSimpArgs false
namespace Go.Proofs.Ythnkgakjnfghoaa
open Go Go.Sx Go.Fx

theorem ent_Side : Enters Try.prog 32 Try.f32 := ⟨Try.func32, by kernel_rfl, by kernel_rfl⟩
theorem ent_rSide : Enters Try.prog 31 Try.f31 := ⟨Try.func31, by kernel_rfl, by kernel_rfl⟩
theorem ent_sides : Enters Try.prog 18 Try.f18 := ⟨Try.func18, by kernel_rfl, by kernel_rfl⟩
theorem ent_Edges : Enters Try.prog 21 Try.f21 := ⟨Try.func21, by kernel_rfl, by kernel_rfl⟩
theorem ent_hold : Enters Try.prog 25 Try.f25 := ⟨Try.func25, by kernel_rfl, by kernel_rfl⟩
theorem ent_Area : Enters Try.prog 26 Try.f26 := ⟨Try.func26, by kernel_rfl, by kernel_rfl⟩
theorem ent_rArea : Enters Try.prog 17 Try.f17 := ⟨Try.func17, by kernel_rfl, by kernel_rfl⟩
theorem ent_Weights : Enters Try.prog 10 Try.f10 := ⟨Try.func10, by kernel_rfl, by kernel_rfl⟩
theorem ent_rWeights : Enters Try.prog 11 Try.f11 := ⟨Try.func11, by kernel_rfl, by kernel_rfl⟩
noncomputable def cS : CallSem := (CallSem.nil.withBody Try.prog 9 32 Try.f32 true).withBody Try.prog 9 31 Try.f31 true
theorem cS_sound : cS.Sound Try.prog := CallSem.withBody_sound (CallSem.withBody_sound nilS mixed 9 ent_Side true) mixed 9 ent_rSide true
theorem ok_Area : areaS.Ok Try.prog 26 := tS_ok fun x0 y0 z0 w0 u0 v0 x1 y1 z1 w1 u1 v1 x2 y2 z2 w2 u2 v2 _ => pureOk_of (n := 9) cS_sound mixed ent_Area (by kernel_rfl)
theorem ok_rArea : areaS.Ok Try.prog 17 := tS_ok fun x0 y0 z0 w0 u0 v0 x1 y1 z1 w1 u1 v1 x2 y2 z2 w2 u2 v2 _ => pureOk_of (n := 9) cS_sound mixed ent_rArea (by kernel_rfl)
theorem ok_sides : edgesS.Ok Try.prog 18 := tpS_ok fun x0 y0 z0 w0 u0 v0 x1 y1 z1 w1 u1 v1 x2 y2 z2 w2 u2 v2 x y _ => pureOk_of (n := 9) cS_sound mixed ent_sides (by kernel_rfl)
theorem ok_Edges : edgesS.Ok Try.prog 21 := tpS_ok fun x0 y0 z0 w0 u0 v0 x1 y1 z1 w1 u1 v1 x2 y2 z2 w2 u2 v2 x y _ => pureOk_of (n := 9) cS_sound mixed ent_Edges (by kernel_rfl)
noncomputable def cE : CallSem := ((((((cF.withSpec 18 edgesS).withSpec 21 edgesS).withSpec 26 areaS).withSpec 17 areaS).withSpec 22 nearS).withBody Try.prog 9 25 Try.f25 true).withBody Try.prog 9 24 Try.f24 true
theorem cE_sound : cE.Sound Try.prog := CallSem.withBody_sound (CallSem.withBody_sound (CallSem.withSpec_sound (CallSem.withSpec_sound (CallSem.withSpec_sound (CallSem.withSpec_sound (CallSem.withSpec_sound cF_sound ok_sides) ok_Edges) ok_Area) ok_rArea) ok_near) mixed 9 ent_hold true) mixed 9 ent_down true
theorem ok_Weights : weightsS.Ok Try.prog 10 := tpS_ok fun x0 y0 z0 w0 u0 v0 x1 y1 z1 w1 u1 v1 x2 y2 z2 w2 u2 v2 x y hg => ok_of (n := 9) cE_sound mixed ent_Weights (by kernel_rfl) (wtP_eq x0 y0 z0 w0 u0 v0 x1 y1 z1 w1 u1 v1 x2 y2 z2 w2 u2 v2 x y hg)
theorem ok_rWeights : weightsS.Ok Try.prog 11 := tpS_ok fun x0 y0 z0 w0 u0 v0 x1 y1 z1 w1 u1 v1 x2 y2 z2 w2 u2 v2 x y hg => ok_of (n := 9) cE_sound mixed ent_rWeights (by kernel_rfl) (wtR_eq x0 y0 z0 w0 u0 v0 x1 y1 z1 w1 u1 v1 x2 y2 z2 w2 u2 v2 x y hg)
end Go.Proofs.Ythnkgakjnfghoaa
