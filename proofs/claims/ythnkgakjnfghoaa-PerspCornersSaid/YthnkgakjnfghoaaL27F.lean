/- What fix's functions compute, and the document's, in this seat's program. -/
import Derived.Test.YthnkgakjnfghoaaFxB
import Derived.Test.YthnkgakjnfghoaaL27BL
import Derived.Test.YthnkgakjnfghoaaRows
import Derived.KernelRfl
set_option linter.unusedVariables false
set_option linter.unusedSimpArgs false
namespace Go.Proofs.Ythnkgakjnfghoaa
open Go Go.Sx Go.Fx

theorem mixed : Try.prog.follows .mixedOrders = true := by kernel_rfl
theorem nilS : CallSem.nil.Sound Try.prog := CallSem.nil_sound _
theorem ok_of {P : Program} {C : CallSem} (hC : C.Sound P) (hm : P.follows .mixedOrders = true) {n : Nat} {f : FuncId} {fn : Func} (hf : Enters P f fn) {args : List AV} {z : AV} {t : Option AV} (e : pureK C P n fn args some = t) (h : t = some z) : PureOk P f args z :=
  pureOk_of hC hm hf (e.trans h)
theorem ent_nearest : Enters Try.prog 33 Try.f33 := ⟨Try.func33, by kernel_rfl, by kernel_rfl⟩
theorem ok_nearest : nearS.Ok Try.prog 33 := nearS_ok fun n d h0 h1 h2 h3 => ok_of (n := 5) nilS mixed ent_nearest (by kernel_rfl) (nearest_eq h0 h1 h2 h3)
theorem ent_down : Enters Try.prog 24 Try.f24 := ⟨Try.func24, by kernel_rfl, by kernel_rfl⟩
theorem ent_near : Enters Try.prog 22 Try.f22 := ⟨Try.func22, by kernel_rfl, by kernel_rfl⟩
theorem ok_near : nearS.Ok Try.prog 22 := nearS_ok fun n d h0 h1 h2 h3 => ok_of (n := 5) (CallSem.withBody_sound nilS mixed 5 ent_down true) mixed ent_near (by kernel_rfl) (near_eq h0 h1 h2 h3)
noncomputable def cA0 : CallSem := CallSem.nil
theorem cA0_sound : cA0.Sound Try.prog := nilS
noncomputable def cA : CallSem := ((CallSem.nil.withSpec 33 nearS).withSpec 22 nearS)
theorem cA_sound : cA.Sound Try.prog := (CallSem.withSpec_sound (CallSem.withSpec_sound nilS ok_nearest) ok_near)
theorem ent_Round : Enters Try.prog 19 Try.f19 := ⟨Try.func19, by kernel_rfl, by kernel_rfl⟩
theorem ok_Round : rndS.Ok Try.prog 19 := i2S_ok fun a b => ok_of (n := 5) cA_sound mixed ent_Round (by kernel_rfl) (rnd_eq a b)
theorem ent_Len : Enters Try.prog 34 Try.f34 := ⟨Try.func34, by kernel_rfl, by kernel_rfl⟩
theorem ok_Len : lenS.Ok Try.prog 34 := lenS_ok ent_Len Try.bits_Len
theorem ent_Log : Enters Try.prog 20 Try.f20 := ⟨Try.func20, by kernel_rfl, by kernel_rfl⟩
theorem ok_Log : logS.Ok Try.prog 20 := logS_ok fun n h => ok_of (n := 5) (CallSem.withSpec_sound nilS ok_Len) mixed ent_Log (by kernel_rfl) (log_eq h)
theorem ent_rLog : Enters Try.prog 23 Try.f23 := ⟨Try.func23, by kernel_rfl, by kernel_rfl⟩
theorem ok_rLog : logS.Ok Try.prog 23 := logS_ok fun n h => ok_of (n := 64) nilS mixed ent_rLog (by kernel_rfl) (lgT_log h)
noncomputable def cF : CallSem := (((CallSem.nil.withSpec 19 rndS).withSpec 20 logS).withSpec 23 logS)
theorem cF_sound : cF.Sound Try.prog := (CallSem.withSpec_sound (CallSem.withSpec_sound (CallSem.withSpec_sound nilS ok_Round) ok_Log) ok_rLog)
end Go.Proofs.Ythnkgakjnfghoaa

