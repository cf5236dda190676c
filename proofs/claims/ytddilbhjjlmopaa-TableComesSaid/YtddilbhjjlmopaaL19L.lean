/- The calls of TableComes (chapter 19). -/
import Derived.Test.YtddilbhjjlmopaaL19K
set_option linter.unusedVariables false
set_option linter.unusedSimpArgs false
namespace Go.Proofs.Ytddilbhjjlmopaa
open Go Go.Sx Go.Fx
set_option maxRecDepth 100000
def lp5 : Nat → Option LSpec := fun j => bif decide (j = 9) then some set_L5 else bif decide (j = 16) then some was_L5b else bif decide (j = 23) then some chk_L5c else bif decide (j = 37) then some chk_L5d else none
noncomputable def cC : CallSem := (cF0.withSplit fun o => bif decide (o.dst = some 7) then some [0, 1, 2, 3] else none).withLoops lp5
theorem cC_sound : cC.Sound Try.prog := CallSem.withLoops_sound (CallSem.withSplit_sound cF0_sound _) _
theorem nodes5 : nodes (Try.f5.body.getD .skip) = [.loop L5, .loop L5b, .loop L5c, .loop L5d] := by kernel_rfl
theorem cC_loops : ∀ c, Try.f5.body = some c → LoopsOk Try.prog cC.loops c := loops_of nodes5 fun x hx L' h' => by
  simp only [List.mem_cons, List.not_mem_nil, or_false] at hx
  rcases hx with rfl | rfl | rfl | rfl
  · have e : nodeL lp5 (.loop L5) = some set_L5 := by kernel_rfl
    rw [show cC.loops = lp5 from rfl, e] at h'
    simp only [Option.some.injEq] at h'
    exact @fixL _ _ _ _ h' @set_Lok5
  · have e : nodeL lp5 (.loop L5b) = some was_L5b := by kernel_rfl
    rw [show cC.loops = lp5 from rfl, e] at h'
    simp only [Option.some.injEq] at h'
    exact @fixL _ _ _ _ h' @was_Lok5b
  · have e : nodeL lp5 (.loop L5c) = some chk_L5c := by kernel_rfl
    rw [show cC.loops = lp5 from rfl, e] at h'
    simp only [Option.some.injEq] at h'
    exact @fixL _ _ _ _ h' @chk_Lok5c
  · have e : nodeL lp5 (.loop L5d) = some chk_L5d := by kernel_rfl
    rw [show cC.loops = lp5 from rfl, e] at h'
    simp only [Option.some.injEq] at h'
    exact @fixL _ _ _ _ h' @chk_Lok5d
end Go.Proofs.Ytddilbhjjlmopaa
