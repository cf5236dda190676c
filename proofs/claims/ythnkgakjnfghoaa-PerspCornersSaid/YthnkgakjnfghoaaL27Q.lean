/- Places and depths, in this seat's program. -/
import Derived.Test.YthnkgakjnfghoaaL27P
import Derived.Test.YthnkgakjnfghoaaPerspB
set_option linter.unusedVariables false
set_option linter.unusedSimpArgs false
namespace Go.Proofs.Ythnkgakjnfghoaa
open Go Go.Sx Go.Fx

theorem ent_place : Enters Try.prog 27 Try.f27 := ⟨Try.func27, by kernel_rfl, by kernel_rfl⟩
theorem ent_uv : Enters Try.prog 28 Try.f28 := ⟨Try.func28, by kernel_rfl, by kernel_rfl⟩
theorem ent_At : Enters Try.prog 12 Try.f12 := ⟨Try.func12, by kernel_rfl, by kernel_rfl⟩
theorem ent_rAt : Enters Try.prog 13 Try.f13 := ⟨Try.func13, by kernel_rfl, by kernel_rfl⟩
theorem ent_Slopes : Enters Try.prog 14 Try.f14 := ⟨Try.func14, by kernel_rfl, by kernel_rfl⟩
theorem ent_rSlopes : Enters Try.prog 15 Try.f15 := ⟨Try.func15, by kernel_rfl, by kernel_rfl⟩
theorem ent_slope : Enters Try.prog 29 Try.f29 := ⟨Try.func29, by kernel_rfl, by kernel_rfl⟩
theorem ent_rslope : Enters Try.prog 30 Try.f30 := ⟨Try.func30, by kernel_rfl, by kernel_rfl⟩
def downS : FSpec := ⟨fun args k => match args with
  | [.lit (.int .i64 n), .lit (.int .i64 d)] => bif decide (d = 0) then none else k (i64 (dwn n d))
  | _ => none⟩
theorem dwT_eq (n d : Int) (h : ¬ d = 0) : (if d = 0 then none else if d = 0 then none else bif decide (n.tmod d < 0) then some (i64 (wi (wi (n.tdiv d) - 1))) else some (i64 (wi (n.tdiv d)))) = some (i64 (dwn n d)) := by
  rw [if_neg h, if_neg h]
  unfold dwn
  cases decide (n.tmod d < 0) <;> rfl
theorem ok_down : downS.Ok Try.prog 24 := by
  intro R args k r e
  simp only [downS] at e
  split at e
  · rename_i n d
    by_cases h : d = 0
    · rw [decide_eq_true h] at e; cases e
    · rw [decide_eq_false h] at e
      exact ⟨_, e, ok_of (n := 9) nilS mixed ent_down (by kernel_rfl) (dwT_eq n d h)⟩
  · cases e
noncomputable def cP : CallSem := (((cE.withSpec 10 weightsS).withSpec 11 weightsS).withSpec 24 downS)
theorem cP_sound : cP.Sound Try.prog := CallSem.withSpec_sound (CallSem.withSpec_sound (CallSem.withSpec_sound cE_sound ok_Weights) ok_rWeights) ok_down
theorem ok_place : placeS.Ok Try.prog 27 := tpS_ok fun x0 y0 z0 w0 u0 v0 x1 y1 z1 w1 u1 v1 x2 y2 z2 w2 u2 v2 x y hg => ok_of (n := 9) cP_sound mixed ent_place (t := bif okT [x0, y0, z0, w0, u0, v0, x1, y1, z1, w1, u1, v1, x2, y2, z2, w2, u2, v2] x y then plT (okV [x0, y0, z0, w0, u0, v0, x1, y1, z1, w1, u1, v1, x2, y2, z2, w2, u2, v2] x y) (plP (o0V [x0, y0, z0, w0, u0, v0, x1, y1, z1, w1, u1, v1, x2, y2, z2, w2, u2, v2] x y) (o1V [x0, y0, z0, w0, u0, v0, x1, y1, z1, w1, u1, v1, x2, y2, z2, w2, u2, v2] x y) (o2V [x0, y0, z0, w0, u0, v0, x1, y1, z1, w1, u1, v1, x2, y2, z2, w2, u2, v2] x y) u0 u1 u2) (plP (o0V [x0, y0, z0, w0, u0, v0, x1, y1, z1, w1, u1, v1, x2, y2, z2, w2, u2, v2] x y) (o1V [x0, y0, z0, w0, u0, v0, x1, y1, z1, w1, u1, v1, x2, y2, z2, w2, u2, v2] x y) (o2V [x0, y0, z0, w0, u0, v0, x1, y1, z1, w1, u1, v1, x2, y2, z2, w2, u2, v2] x y) v0 v1 v2) else none) (by kernel_rfl) (plGuard hg (pl_eq plP_eq x0 y0 z0 w0 u0 v0 x1 y1 z1 w1 u1 v1 x2 y2 z2 w2 u2 v2 x y))
theorem ok_uv : placeS.Ok Try.prog 28 := tpS_ok fun x0 y0 z0 w0 u0 v0 x1 y1 z1 w1 u1 v1 x2 y2 z2 w2 u2 v2 x y hg => ok_of (n := 9) cP_sound mixed ent_uv (t := bif okT [x0, y0, z0, w0, u0, v0, x1, y1, z1, w1, u1, v1, x2, y2, z2, w2, u2, v2] x y then plT (okV [x0, y0, z0, w0, u0, v0, x1, y1, z1, w1, u1, v1, x2, y2, z2, w2, u2, v2] x y) (plR (o0V [x0, y0, z0, w0, u0, v0, x1, y1, z1, w1, u1, v1, x2, y2, z2, w2, u2, v2] x y) (o1V [x0, y0, z0, w0, u0, v0, x1, y1, z1, w1, u1, v1, x2, y2, z2, w2, u2, v2] x y) (o2V [x0, y0, z0, w0, u0, v0, x1, y1, z1, w1, u1, v1, x2, y2, z2, w2, u2, v2] x y) u0 u1 u2) (plR (o0V [x0, y0, z0, w0, u0, v0, x1, y1, z1, w1, u1, v1, x2, y2, z2, w2, u2, v2] x y) (o1V [x0, y0, z0, w0, u0, v0, x1, y1, z1, w1, u1, v1, x2, y2, z2, w2, u2, v2] x y) (o2V [x0, y0, z0, w0, u0, v0, x1, y1, z1, w1, u1, v1, x2, y2, z2, w2, u2, v2] x y) v0 v1 v2) else none) (by kernel_rfl) (plGuard hg (pl_eq plR_eq x0 y0 z0 w0 u0 v0 x1 y1 z1 w1 u1 v1 x2 y2 z2 w2 u2 v2 x y))
noncomputable def cU : CallSem := (cP.withSpec 27 placeS).withSpec 28 placeS
theorem cU_sound : cU.Sound Try.prog := CallSem.withSpec_sound (CallSem.withSpec_sound cP_sound ok_place) ok_uv
theorem ok_At : atS.Ok Try.prog 12 := tpS_ok fun x0 y0 z0 w0 u0 v0 x1 y1 z1 w1 u1 v1 x2 y2 z2 w2 u2 v2 px py hg => ok_of (n := 9) cU_sound mixed ent_At (t := atP [x0, y0, z0, w0, u0, v0, x1, y1, z1, w1, u1, v1, x2, y2, z2, w2, u2, v2] (mid px) (mid py)) (by kernel_rfl) (atP_eq hg)
theorem ok_rAt : atS.Ok Try.prog 13 := tpS_ok fun x0 y0 z0 w0 u0 v0 x1 y1 z1 w1 u1 v1 x2 y2 z2 w2 u2 v2 px py hg => ok_of (n := 9) cU_sound mixed ent_rAt (t := atR [x0, y0, z0, w0, u0, v0, x1, y1, z1, w1, u1, v1, x2, y2, z2, w2, u2, v2] (mid px) (mid py)) (by kernel_rfl) (atR_eq hg)
noncomputable def cX : CallSem := (cU.withBody Try.prog 9 29 Try.f29 false).withBody Try.prog 9 30 Try.f30 true
theorem cX_sound : cX.Sound Try.prog := CallSem.withBody_sound (CallSem.withBody_sound cU_sound mixed 9 ent_slope false) mixed 9 ent_rslope true
theorem ok_Slopes : slopesS.Ok Try.prog 14 := tpS_ok fun x0 y0 z0 w0 u0 v0 x1 y1 z1 w1 u1 v1 x2 y2 z2 w2 u2 v2 px py hg => ok_of (n := 9) cX_sound mixed ent_Slopes (t := slP [x0, y0, z0, w0, u0, v0, x1, y1, z1, w1, u1, v1, x2, y2, z2, w2, u2, v2] (mid px) (mid py)) (by kernel_rfl) (slP_eq (fun _ _ => hg) px py)
theorem ok_rSlopes : slopesS.Ok Try.prog 15 := tpS_ok fun x0 y0 z0 w0 u0 v0 x1 y1 z1 w1 u1 v1 x2 y2 z2 w2 u2 v2 px py hg => ok_of (n := 9) cX_sound mixed ent_rSlopes (t := slR [x0, y0, z0, w0, u0, v0, x1, y1, z1, w1, u1, v1, x2, y2, z2, w2, u2, v2] (mid px) (mid py)) (by kernel_rfl) (slR_eq (fun _ _ => hg) px py)
theorem ent_may : Enters Try.prog 8 Try.f8 := ⟨Try.func8, by kernel_rfl, by kernel_rfl⟩
theorem ent_awake : Enters Try.prog 9 Try.f9 := ⟨Try.func9, by kernel_rfl, by kernel_rfl⟩
theorem ok_may : maySt.Ok Try.prog 8 := tS_ok fun x0 y0 z0 w0 u0 v0 x1 y1 z1 w1 u1 v1 x2 y2 z2 w2 u2 v2 _ => ok_of (n := 9) cU_sound mixed ent_may (t := mayTT [x0, y0, z0, w0, u0, v0, x1, y1, z1, w1, u1, v1, x2, y2, z2, w2, u2, v2]) (by kernel_rfl) (mayTT_eq x0 y0 z0 w0 u0 v0 x1 y1 z1 w1 u1 v1 x2 y2 z2 w2 u2 v2)
noncomputable def cZ : CallSem := (((((cU.withSpec 12 atS).withSpec 13 atS).withSpec 14 slopesS).withSpec 15 slopesS).withSpec 8 maySt)
theorem cZ_sound : cZ.Sound Try.prog := CallSem.withSpec_sound (CallSem.withSpec_sound (CallSem.withSpec_sound (CallSem.withSpec_sound (CallSem.withSpec_sound cU_sound ok_At) ok_rAt) ok_Slopes) ok_rSlopes) ok_may
def trueS : FSpec := ⟨fun args k => match args with
  | [] => k (.lit (.bool true))
  | _ => none⟩
theorem awake_ok : trueS.Ok Try.prog 9 := by
  intro R args k r h
  simp only [trueS] at h
  split at h
  · exact ⟨_, h, pureOk_of (n := 9) cZ_sound mixed ent_awake (by kernel_rfl)⟩
  · cases h
noncomputable def calls : CallSem := cZ.withSpec 9 trueS
theorem calls_sound : calls.Sound Try.prog := CallSem.withSpec_sound cZ_sound awake_ok
end Go.Proofs.Ythnkgakjnfghoaa
