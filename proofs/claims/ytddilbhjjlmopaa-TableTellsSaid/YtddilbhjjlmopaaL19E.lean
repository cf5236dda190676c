/- The calls of chapter 19's laws. -/
import Derived.Test.YtddilbhjjlmopaaL19D
import Derived.Test.YtddilbhjjlmopaaTblD
set_option linter.unusedVariables false
set_option linter.unusedSimpArgs false
namespace Go.Proofs.Ytddilbhjjlmopaa
open Go Go.Sx Go.Fx
set_option maxRecDepth 100000
set_option linter.unusedVariables false
set_option linter.unusedSimpArgs false
theorem ok9 : roundS.Ok Try.prog 9 := roundS_ok fun a n h => ok_of (n := 5) nilS mixed s9 (t := if n = 0 then none else if n = 0 then none else some (i64 ((wi (a.tmod n + n)).tmod n))) (by kernel_rfl) (by
  have hn : n ≠ 0 := by simp only [rG, Bool.and_eq_true, decide_eq_true_eq] at h; omega
  rw [if_neg hn, if_neg hn, round_val h])
noncomputable def cE0 : CallSem := ((cPg.withSpec 9 roundS).withMem 11 setM).withRead 14 thereM
theorem cE0_sound : cE0.Sound Try.prog := CallSem.withRead_sound (CallSem.withMem_sound (CallSem.withSpec_sound cPg_sound ok9) setM_ok) thereM_ok
noncomputable def cE1 : CallSem := cE0.withRead 12 lookM
theorem cE1_sound : cE1.Sound Try.prog := CallSem.withRead_sound cE0_sound lookM_ok
end Go.Proofs.Ytddilbhjjlmopaa
