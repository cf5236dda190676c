/- How far a point is inside of a plane: the code's and the document's (chapter 24). -/
import Derived.Test.YtplfijdonikaoaaL25F
import Derived.Test.YtplfijdonikaoaaClipA
set_option linter.unusedVariables false
set_option linter.unusedSimpArgs false
namespace Go.Proofs.Ytplfijdonikaoaa
open Go Go.Sx Go.Fx
noncomputable def cI9 : CallSem := CallSem.nil.withSplit fun o => bif decide (o.dst = some 17) then some [1, 2, 3, 4, 5, 6] else none
theorem cI9_sound : cI9.Sound Try.prog := CallSem.withSplit_sound nilS _
theorem e9 : Enters Try.prog 45 Try.f45 := ⟨Try.func45, by kernel_rfl, by kernel_rfl⟩
theorem e10 : Enters Try.prog 42 Try.f42 := ⟨Try.func42, by kernel_rfl, by kernel_rfl⟩
theorem ok9 : insS.Ok Try.prog 45 := insS_ok fun a b c d p => ok_of (n := 5) cI9_sound mixed e9 (by kernel_rfl) (ins_eq a b c d p)
theorem ok10 : insS.Ok Try.prog 42 := insS_ok fun a b c d p => ok_of (n := 5) nilS mixed e10 (by kernel_rfl) (rins_eq a b c d p)
theorem e17 : Enters Try.prog 48 Try.f48 := ⟨Try.func48, by kernel_rfl, by kernel_rfl⟩
theorem e19 : Enters Try.prog 47 Try.f47 := ⟨Try.func47, by kernel_rfl, by kernel_rfl⟩
noncomputable def cC0 : CallSem := ((cF.withSpec 45 insS).withSpec 42 insS).withSpec 24 nearS
theorem cC0_sound : cC0.Sound Try.prog := CallSem.withSpec_sound (CallSem.withSpec_sound (CallSem.withSpec_sound cF_sound ok9) ok10) ok_near
noncomputable def cC1 : CallSem := (cC0.withBody Try.prog 5 48 Try.f48 true).withBody Try.prog 5 47 Try.f47 true
theorem cC1_sound : cC1.Sound Try.prog := CallSem.withBody_sound (CallSem.withBody_sound cC0_sound mixed 5 e17 true) mixed 5 e19 true
theorem e11 : Enters Try.prog 46 Try.f46 := ⟨Try.func46, by kernel_rfl, by kernel_rfl⟩
theorem e12 : Enters Try.prog 43 Try.f43 := ⟨Try.func43, by kernel_rfl, by kernel_rfl⟩
end Go.Proofs.Ytplfijdonikaoaa
