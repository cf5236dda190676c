/- The calls of TableTells (chapter 19). -/
import Derived.Test.YtddilbhjjlmopaaL19P
import Derived.Test.YtddilbhjjlmopaaTblJ
set_option linter.unusedVariables false
set_option linter.unusedSimpArgs false
namespace Go.Proofs.Ytddilbhjjlmopaa
open Go Go.Sx Go.Fx
set_option maxRecDepth 100000
theorem pages_no (d : Int) (hd : dB d = false) : fnK cB2 Try.prog 1 Try.f8 [i64 d] ⟨[], []⟩ [⟨0, 24, true, c3⟩] = some (.vec 0, ⟨[], [some ⟨24, true, c3, 0, true, true, []⟩]⟩) := by
  have e : fnK cB2 Try.prog 1 Try.f8 [i64 d] ⟨[], []⟩ [⟨0, 24, true, c3⟩] =
    (bif !dB d then some (.vec 0, ⟨[], [some ⟨24, true, c3, 0, true, true, []⟩]⟩) else
     bif decide (d ≥ 0) then (bif gS d d then (bif decide (0 < sd (d - d)) then (bif gS d d then (bif decide (0 < sd (d - d)) then none else none) else none) else none) else none) else some (.vec 0, ⟨[], [some ⟨24, true, c3, 0, true, true, []⟩]⟩)) := by kernel_rfl
  rw [e, hd]; rfl
def pagesN : MSpec := ⟨[⟨0, 24, true, c3⟩], fun args M k => match args, M with
  | [.lit (.int .i64 d)], ⟨[], []⟩ => bif decide (d = 0) then k (.vec 0) ⟨[], [some ⟨24, true, c3, 0, true, true, pgs 0⟩]⟩ else
    bif decide (d = 1) then k (.vec 0) ⟨[], [some ⟨24, true, c3, 0, true, true, pgs 1⟩]⟩ else
    bif decide (d = 2) then k (.vec 0) ⟨[], [some ⟨24, true, c3, 0, true, true, pgs 2⟩]⟩ else
    bif decide (d = 3) then k (.vec 0) ⟨[], [some ⟨24, true, c3, 0, true, true, pgs 3⟩]⟩ else
    bif !dB d then k (.vec 0) ⟨[], [some ⟨24, true, c3, 0, true, true, []⟩]⟩ else none
  | _, _ => none⟩
theorem pagesN_ok : pagesN.Ok Try.prog 8 := by
  intro R args M k r h
  simp only [pagesN] at h
  split at h
  · rename_i d
    simp only [cond_eq_ite, decide_eq_true_eq, Bool.not_eq_true'] at h
    split at h
    · rename_i hd; subst hd
      exact ⟨_, _, h, fn_ok cB2_sound mixed s8 (fun _ _ => LoopsOk.no _ _) pages_0 (by kernel_rfl)⟩
    split at h
    · rename_i hd; subst hd
      exact ⟨_, _, h, fn_ok cB2_sound mixed s8 (fun _ _ => LoopsOk.no _ _) pages_1 (by kernel_rfl)⟩
    split at h
    · rename_i hd; subst hd
      exact ⟨_, _, h, fn_ok cB2_sound mixed s8 (fun _ _ => LoopsOk.no _ _) pages_2 (by kernel_rfl)⟩
    split at h
    · rename_i hd; subst hd
      exact ⟨_, _, h, fn_ok cB2_sound mixed s8 (fun _ _ => LoopsOk.no _ _) pages_3 (by kernel_rfl)⟩
    split at h
    · rename_i hd
      exact ⟨_, _, h, fn_ok cB2_sound mixed s8 (fun _ _ => LoopsOk.no _ _) (pages_no d hd) (by kernel_rfl)⟩
    cases h
  · cases h
noncomputable def cTl0 : CallSem := ((cK0.withMem 7 newM).withRead 8 pagesN).withSpec 6 trueS
theorem cTl0_sound : cTl0.Sound Try.prog := CallSem.withSpec_sound (CallSem.withRead_sound (CallSem.withMem_sound cK0_sound newM_ok) pagesN_ok) awake_ok
def lp3 : Nat → Option LSpec := fun j => bif decide (j = 11) then some tells_L3 else none
noncomputable def cTl : CallSem := cTl0.withLoops lp3
theorem cTl_sound : cTl.Sound Try.prog := CallSem.withLoops_sound cTl0_sound _
theorem cTl_loops : ∀ c, Try.f3.body = some c → LoopsOk Try.prog cTl.loops c := loops_of nodes3 fun x hx L' h' => by
  simp only [List.mem_cons, List.not_mem_nil, or_false] at hx
  rcases hx with rfl | rfl | rfl
  · have e : nodeL lp3 (.loop L3) = some tells_L3 := by kernel_rfl
    rw [show cTl.loops = lp3 from rfl, e] at h'
    simp only [Option.some.injEq] at h'
    exact @fixL _ _ _ _ h' @tells_Lok3
  · exfalso
    have e : nodeL lp3 (.loop L3b) = none := by kernel_rfl
    rw [show cTl.loops = lp3 from rfl, e] at h'
    cases h'
  · exfalso
    have e : nodeL lp3 (.loop L3c) = none := by kernel_rfl
    rw [show cTl.loops = lp3 from rfl, e] at h'
    cases h'
end Go.Proofs.Ytddilbhjjlmopaa
