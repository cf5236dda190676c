/- What fix's functions compute, and the document's, in this seat's program. -/
import Derived.Test.YtihecmjcbnfjiaaFxB
import Derived.Test.YtihecmjcbnfjiaaL1BL
import Derived.Test.YtihecmjcbnfjiaaRows
import Derived.KernelRfl
set_option linter.unusedVariables false
set_option linter.unusedSimpArgs false
namespace Go.Proofs.Ytihecmjcbnfjiaa
open Go Go.Sx Go.Fx

theorem mixed : Try.prog.follows .mixedOrders = true := by kernel_rfl
theorem nilS : CallSem.nil.Sound Try.prog := CallSem.nil_sound _
theorem ok_of {P : Program} {C : CallSem} (hC : C.Sound P) (hm : P.follows .mixedOrders = true) {n : Nat} {f : FuncId} {fn : Func} (hf : Enters P f fn) {args : List AV} {z : AV} {t : Option AV} (e : pureK C P n fn args some = t) (h : t = some z) : PureOk P f args z :=
  pureOk_of hC hm hf (e.trans h)
theorem ent_Ok : Enters Try.prog 19 Try.f19 := ⟨Try.func19, by kernel_rfl, by kernel_rfl⟩
theorem ok_Ok : okS.Ok Try.prog 19 := i1S_ok fun n => ok_of (n := 5) nilS mixed ent_Ok (by kernel_rfl) (ok_eq n)
theorem ent_rOk : Enters Try.prog 20 Try.f20 := ⟨Try.func20, by kernel_rfl, by kernel_rfl⟩
theorem ok_rOk : okS.Ok Try.prog 20 := i1S_ok fun n => ok_of (n := 5) nilS mixed ent_rOk (by kernel_rfl) (ok_eq n)
theorem ent_nearest : Enters Try.prog 26 Try.f26 := ⟨Try.func26, by kernel_rfl, by kernel_rfl⟩
theorem ok_nearest : nearS.Ok Try.prog 26 := nearS_ok fun n d h0 h1 h2 h3 => ok_of (n := 5) nilS mixed ent_nearest (by kernel_rfl) (nearest_eq h0 h1 h2 h3)
theorem ent_down : Enters Try.prog 29 Try.f29 := ⟨Try.func29, by kernel_rfl, by kernel_rfl⟩
theorem ent_near : Enters Try.prog 27 Try.f27 := ⟨Try.func27, by kernel_rfl, by kernel_rfl⟩
theorem ok_near : nearS.Ok Try.prog 27 := nearS_ok fun n d h0 h1 h2 h3 => ok_of (n := 5) (CallSem.withBody_sound nilS mixed 5 ent_down true) mixed ent_near (by kernel_rfl) (near_eq h0 h1 h2 h3)
theorem ent_fits : Enters Try.prog 24 Try.f24 := ⟨Try.func24, by kernel_rfl, by kernel_rfl⟩
theorem ok_fits : fitS.Ok Try.prog 24 := i1S_ok fun n => ok_of (n := 5) (CallSem.withSpec_sound nilS ok_Ok) mixed ent_fits (by kernel_rfl) (fits_eq n)
theorem ent_rfits : Enters Try.prog 25 Try.f25 := ⟨Try.func25, by kernel_rfl, by kernel_rfl⟩
theorem ok_rfits : fitS.Ok Try.prog 25 := i1S_ok fun n => ok_of (n := 5) (CallSem.withSpec_sound nilS ok_rOk) mixed ent_rfits (by kernel_rfl) (fits_eq n)
noncomputable def cA0 : CallSem := CallSem.nil
theorem cA0_sound : cA0.Sound Try.prog := nilS
noncomputable def cA : CallSem := ((((((CallSem.nil.withSpec 19 okS).withSpec 24 fitS).withSpec 26 nearS).withSpec 20 okS).withSpec 25 fitS).withSpec 27 nearS)
theorem cA_sound : cA.Sound Try.prog := (CallSem.withSpec_sound (CallSem.withSpec_sound (CallSem.withSpec_sound (CallSem.withSpec_sound (CallSem.withSpec_sound (CallSem.withSpec_sound nilS ok_Ok) ok_fits) ok_nearest) ok_rOk) ok_rfits) ok_near)
theorem ent_Add : Enters Try.prog 9 Try.f9 := ⟨Try.func9, by kernel_rfl, by kernel_rfl⟩
theorem ok_Add : addS.Ok Try.prog 9 := i2S_ok fun a b => ok_of (n := 5) cA_sound mixed ent_Add (by kernel_rfl) (add_eq a b)
theorem ent_rAdd : Enters Try.prog 10 Try.f10 := ⟨Try.func10, by kernel_rfl, by kernel_rfl⟩
theorem ok_rAdd : addS.Ok Try.prog 10 := i2S_ok fun a b => ok_of (n := 5) cA_sound mixed ent_rAdd (by kernel_rfl) (add_eq a b)
theorem ent_Mul : Enters Try.prog 11 Try.f11 := ⟨Try.func11, by kernel_rfl, by kernel_rfl⟩
theorem ok_Mul : mulS.Ok Try.prog 11 := i2S_ok fun a b => ok_of (n := 5) cA_sound mixed ent_Mul (by kernel_rfl) (mul_eq a b)
theorem ent_rMul : Enters Try.prog 12 Try.f12 := ⟨Try.func12, by kernel_rfl, by kernel_rfl⟩
theorem ok_rMul : mulS.Ok Try.prog 12 := i2S_ok fun a b => ok_of (n := 5) cA_sound mixed ent_rMul (by kernel_rfl) (mul_eq a b)
theorem ent_Div : Enters Try.prog 13 Try.f13 := ⟨Try.func13, by kernel_rfl, by kernel_rfl⟩
theorem ok_Div : divS.Ok Try.prog 13 := i2S_ok fun a b => ok_of (n := 5) cA_sound mixed ent_Div (by kernel_rfl) (div_eq a b)
theorem ent_rDiv : Enters Try.prog 14 Try.f14 := ⟨Try.func14, by kernel_rfl, by kernel_rfl⟩
theorem ok_rDiv : divS.Ok Try.prog 14 := i2S_ok fun a b => ok_of (n := 5) cA_sound mixed ent_rDiv (by kernel_rfl) (div_eq a b)
theorem ent_Round : Enters Try.prog 15 Try.f15 := ⟨Try.func15, by kernel_rfl, by kernel_rfl⟩
theorem ok_Round : rndS.Ok Try.prog 15 := i2S_ok fun a b => ok_of (n := 5) cA_sound mixed ent_Round (by kernel_rfl) (rnd_eq a b)
theorem ent_rRound : Enters Try.prog 16 Try.f16 := ⟨Try.func16, by kernel_rfl, by kernel_rfl⟩
theorem ok_rRound : rndS.Ok Try.prog 16 := i2S_ok fun a b => ok_of (n := 5) cA_sound mixed ent_rRound (by kernel_rfl) (rnd_eq a b)
theorem ent_Lerp : Enters Try.prog 17 Try.f17 := ⟨Try.func17, by kernel_rfl, by kernel_rfl⟩
theorem ok_Lerp : lerpS.Ok Try.prog 17 := i3S_ok fun a b t => ok_of (n := 5) cA_sound mixed ent_Lerp (by kernel_rfl) (lerp_eq a b t)
theorem ent_rLerp : Enters Try.prog 18 Try.f18 := ⟨Try.func18, by kernel_rfl, by kernel_rfl⟩
theorem ok_rLerp : lerpS.Ok Try.prog 18 := i3S_ok fun a b t => ok_of (n := 5) cA_sound mixed ent_rLerp (by kernel_rfl) (lerp_eq a b t)
theorem ent_Len : Enters Try.prog 28 Try.f28 := ⟨Try.func28, by kernel_rfl, by kernel_rfl⟩
theorem ok_Len : lenS.Ok Try.prog 28 := lenS_ok ent_Len Try.bits_Len
theorem ent_Log : Enters Try.prog 21 Try.f21 := ⟨Try.func21, by kernel_rfl, by kernel_rfl⟩
theorem ok_Log : logS.Ok Try.prog 21 := logS_ok fun n h => ok_of (n := 5) (CallSem.withSpec_sound nilS ok_Len) mixed ent_Log (by kernel_rfl) (log_eq h)
theorem ent_rLog : Enters Try.prog 22 Try.f22 := ⟨Try.func22, by kernel_rfl, by kernel_rfl⟩
theorem ok_rLog : logS.Ok Try.prog 22 := logS_ok fun n h => ok_of (n := 64) nilS mixed ent_rLog (by kernel_rfl) (lgT_log h)
noncomputable def cF : CallSem := ((((((((((((((CallSem.nil.withSpec 19 okS).withSpec 20 okS).withSpec 9 addS).withSpec 10 addS).withSpec 11 mulS).withSpec 12 mulS).withSpec 13 divS).withSpec 14 divS).withSpec 15 rndS).withSpec 16 rndS).withSpec 17 lerpS).withSpec 18 lerpS).withSpec 21 logS).withSpec 22 logS)
theorem cF_sound : cF.Sound Try.prog := (CallSem.withSpec_sound (CallSem.withSpec_sound (CallSem.withSpec_sound (CallSem.withSpec_sound (CallSem.withSpec_sound (CallSem.withSpec_sound (CallSem.withSpec_sound (CallSem.withSpec_sound (CallSem.withSpec_sound (CallSem.withSpec_sound (CallSem.withSpec_sound (CallSem.withSpec_sound (CallSem.withSpec_sound (CallSem.withSpec_sound nilS ok_Ok) ok_rOk) ok_Add) ok_rAdd) ok_Mul) ok_rMul) ok_Div) ok_rDiv) ok_Round) ok_rRound) ok_Lerp) ok_rLerp) ok_Log) ok_rLog)
end Go.Proofs.Ytihecmjcbnfjiaa

