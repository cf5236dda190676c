/- table's Look (chapter 19). -/
import Derived.Test.YtddilbhjjlmopaaL19B
set_option linter.unusedVariables false
set_option linter.unusedSimpArgs false
namespace Go.Proofs.Ytddilbhjjlmopaa
open Go Go.Sx Go.Fx
set_option maxRecDepth 100000
set_option linter.unusedVariables false
set_option linter.unusedSimpArgs false
noncomputable def cL0 : CallSem := (cPg.withRead 14 thereM).withSplit fun o => bif decide (o.dst = some 22) then some [0, 1, 2, 3] else none
theorem cL0_sound : cL0.Sound Try.prog := CallSem.withSplit_sound (CallSem.withRead_sound cPg_sound thereM_ok) _
theorem look_0 (own o2 hd : Bool) (el : TypeId) (T : List AV) (l x y : Int) : fnK cL0 Try.prog 9 Try.f12 [.ptr 0 0, .agg [i64 l, i64 x, i64 y]] (mR own o2 hd 0 el T) [] = lG T 0 l x y (mR own o2 hd 0 el T) := by kernel_rfl
theorem look_1 (own o2 hd : Bool) (el : TypeId) (T : List AV) (l x y : Int) : fnK cL0 Try.prog 9 Try.f12 [.ptr 0 0, .agg [i64 l, i64 x, i64 y]] (mR own o2 hd 1 el T) [] = lG T 1 l x y (mR own o2 hd 1 el T) := by kernel_rfl
theorem look_2 (own o2 hd : Bool) (el : TypeId) (T : List AV) (l x y : Int) : fnK cL0 Try.prog 9 Try.f12 [.ptr 0 0, .agg [i64 l, i64 x, i64 y]] (mR own o2 hd 2 el T) [] = lG T 2 l x y (mR own o2 hd 2 el T) := by kernel_rfl
theorem look_3 (own o2 hd : Bool) (el : TypeId) (T : List AV) (l x y : Int) : fnK cL0 Try.prog 9 Try.f12 [.ptr 0 0, .agg [i64 l, i64 x, i64 y]] (mR own o2 hd 3 el T) [] = lG T 3 l x y (mR own o2 hd 3 el T) := by kernel_rfl
end Go.Proofs.Ytddilbhjjlmopaa
