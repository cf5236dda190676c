/- awake; the calls of TableFinest (chapter 19). -/
import Derived.Test.YtddilbhjjlmopaaL19F
set_option linter.unusedVariables false
set_option linter.unusedSimpArgs false
namespace Go.Proofs.Ytddilbhjjlmopaa
open Go Go.Sx Go.Fx
set_option maxRecDepth 100000
theorem s6 : Enters Try.prog 6 Try.f6 := ⟨Try.func6, by kernel_rfl, by kernel_rfl⟩
noncomputable def cV0 : CallSem := (cT0.withRead 14 (bodyM cT0 Try.prog 9 Try.f14 [])).withBody Try.prog 9 11 Try.f11 false
theorem cV0_sound : cV0.Sound Try.prog := CallSem.withBody_sound (CallSem.withRead_sound cT0_sound (bodyM_ok cT0_sound mixed 9 s14 [])) mixed 9 s11 false
noncomputable def cV1 : CallSem := (cV0.withRead 12 (bodyM cV0 Try.prog 9 Try.f12 [])).withBody Try.prog 9 7 Try.f7 false
theorem cV1_sound : cV1.Sound Try.prog := CallSem.withBody_sound (CallSem.withRead_sound cV0_sound (bodyM_ok cV0_sound mixed 9 s12 [])) mixed 9 s7 false
def trueS : FSpec := ⟨fun args k => match args with
  | [] => k (.lit (.bool true))
  | _ => none⟩
theorem awake_ok : trueS.Ok Try.prog 6 := by
  intro R args k r h
  simp only [trueS] at h
  split at h
  · exact ⟨_, h, pureOk_of (n := 9) cV1_sound mixed s6 (by kernel_rfl)⟩
  · cases h
def pagesM : MSpec := ⟨[⟨0, 24, true, c3⟩], fun args M k => match args, M with
  | [.lit (.int .i64 d)], ⟨[], []⟩ => bif decide (d = 0) then k (.vec 0) ⟨[], [some ⟨24, true, c3, 0, true, true, pgs 0⟩]⟩ else
    bif decide (d = 1) then k (.vec 0) ⟨[], [some ⟨24, true, c3, 0, true, true, pgs 1⟩]⟩ else
    bif decide (d = 2) then k (.vec 0) ⟨[], [some ⟨24, true, c3, 0, true, true, pgs 2⟩]⟩ else
    bif decide (d = 3) then k (.vec 0) ⟨[], [some ⟨24, true, c3, 0, true, true, pgs 3⟩]⟩ else none
  | _, _ => none⟩
theorem pagesM_ok : pagesM.Ok Try.prog 8 := by
  intro R args M k r h
  simp only [pagesM] at h
  split at h
  · rename_i d
    simp only [cond_eq_ite, decide_eq_true_eq] at h
    split at h
    · rename_i hd; subst hd
      exact ⟨_, _, h, fn_ok cB2_sound mixed s8 (fun _ _ => LoopsOk.no _ _) pages_0 (by kernel_rfl)⟩
    split at h
    · rename_i hd; subst hd
      exact ⟨_, _, h, fn_ok cB2_sound mixed s8 (fun _ _ => LoopsOk.no _ _) pages_1 (by kernel_rfl)⟩
    split at h
    · rename_i hd; subst hd
      exact ⟨_, _, h, fn_ok cB2_sound mixed s8 (fun _ _ => LoopsOk.no _ _) pages_2 (by kernel_rfl)⟩
    split at h
    · rename_i hd; subst hd
      exact ⟨_, _, h, fn_ok cB2_sound mixed s8 (fun _ _ => LoopsOk.no _ _) pages_3 (by kernel_rfl)⟩
    cases h
  · cases h
noncomputable def cF0 : CallSem := ((cE1.withMem 7 newM).withRead 8 pagesM).withSpec 6 trueS
theorem cF0_sound : cF0.Sound Try.prog := CallSem.withSpec_sound (CallSem.withRead_sound (CallSem.withMem_sound cE1_sound newM_ok) pagesM_ok) awake_ok
end Go.Proofs.Ytddilbhjjlmopaa
