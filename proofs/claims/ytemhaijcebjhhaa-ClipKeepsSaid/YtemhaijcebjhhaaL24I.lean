/- How far a point is inside of a plane: the code's and the document's (chapter 24). -/
import Derived.Test.YtemhaijcebjhhaaL24F
import Derived.Test.YtemhaijcebjhhaaClipA
set_option linter.unusedVariables false
set_option linter.unusedSimpArgs false
namespace Go.Proofs.Ytemhaijcebjhhaa
open Go Go.Sx Go.Fx
noncomputable def cI9 : CallSem := CallSem.nil.withSplit fun o => bif decide (o.dst = some 17) then some [1, 2, 3, 4, 5, 6] else none
theorem cI9_sound : cI9.Sound Try.prog := CallSem.withSplit_sound nilS _
theorem e9 : Enters Try.prog 9 Try.f9 := ⟨Try.func9, by kernel_rfl, by kernel_rfl⟩
theorem e10 : Enters Try.prog 10 Try.f10 := ⟨Try.func10, by kernel_rfl, by kernel_rfl⟩
theorem ok9 : insS.Ok Try.prog 9 := insS_ok fun a b c d p => ok_of (n := 5) cI9_sound mixed e9 (by kernel_rfl) (ins_eq a b c d p)
theorem ok10 : insS.Ok Try.prog 10 := insS_ok fun a b c d p => ok_of (n := 5) nilS mixed e10 (by kernel_rfl) (rins_eq a b c d p)
theorem e17 : Enters Try.prog 17 Try.f17 := ⟨Try.func17, by kernel_rfl, by kernel_rfl⟩
theorem e19 : Enters Try.prog 19 Try.f19 := ⟨Try.func19, by kernel_rfl, by kernel_rfl⟩
noncomputable def cC0 : CallSem := ((cF.withSpec 9 insS).withSpec 10 insS).withSpec 18 nearS
theorem cC0_sound : cC0.Sound Try.prog := CallSem.withSpec_sound (CallSem.withSpec_sound (CallSem.withSpec_sound cF_sound ok9) ok10) ok_near
noncomputable def cC1 : CallSem := (cC0.withBody Try.prog 5 17 Try.f17 true).withBody Try.prog 5 19 Try.f19 true
theorem cC1_sound : cC1.Sound Try.prog := CallSem.withBody_sound (CallSem.withBody_sound cC0_sound mixed 5 e17 true) mixed 5 e19 true
theorem e11 : Enters Try.prog 11 Try.f11 := ⟨Try.func11, by kernel_rfl, by kernel_rfl⟩
theorem e12 : Enters Try.prog 12 Try.f12 := ⟨Try.func12, by kernel_rfl, by kernel_rfl⟩
end Go.Proofs.Ytemhaijcebjhhaa
