/- What fix's functions compute, and the document's, in this seat's program. -/
import Derived.Test.YtplfijdonikaoaaFxB
import Derived.Test.YtplfijdonikaoaaRows
import Derived.KernelRfl
set_option linter.unusedVariables false
set_option linter.unusedSimpArgs false
namespace Go.Proofs.Ytplfijdonikaoaa
open Go Go.Sx Go.Fx

theorem mixed : Try.prog.follows .mixedOrders = true := by kernel_rfl
theorem nilS : CallSem.nil.Sound Try.prog := CallSem.nil_sound _
theorem ok_of {P : Program} {C : CallSem} (hC : C.Sound P) (hm : P.follows .mixedOrders = true) {n : Nat} {f : FuncId} {fn : Func} (hf : Enters P f fn) {args : List AV} {z : AV} {t : Option AV} (e : pureK C P n fn args some = t) (h : t = some z) (hls : ∀ c, fn.body = some c → LoopsOk P C.loops c := by exact fun _ _ => LoopsOk.no _ _) : PureOk P f args z :=
  pureOk_of hC hm hf (e.trans h) hls
theorem ent_nearest : Enters Try.prog 36 Try.f36 := ⟨Try.func36, by kernel_rfl, by kernel_rfl⟩
theorem ok_nearest : nearS.Ok Try.prog 36 := nearS_ok fun n d h0 h1 h2 h3 => ok_of (n := 5) nilS mixed ent_nearest (by kernel_rfl) (nearest_eq h0 h1 h2 h3)
theorem ent_down : Enters Try.prog 37 Try.f37 := ⟨Try.func37, by kernel_rfl, by kernel_rfl⟩
theorem ent_near : Enters Try.prog 24 Try.f24 := ⟨Try.func24, by kernel_rfl, by kernel_rfl⟩
theorem ok_near : nearS.Ok Try.prog 24 := nearS_ok fun n d h0 h1 h2 h3 => ok_of (n := 5) (CallSem.withBody_sound nilS mixed 5 ent_down true) mixed ent_near (by kernel_rfl) (near_eq h0 h1 h2 h3)
noncomputable def cA0 : CallSem := CallSem.nil
theorem cA0_sound : cA0.Sound Try.prog := nilS
noncomputable def cA : CallSem := ((CallSem.nil.withSpec 36 nearS).withSpec 24 nearS)
theorem cA_sound : cA.Sound Try.prog := (CallSem.withSpec_sound (CallSem.withSpec_sound nilS ok_nearest) ok_near)
theorem ent_Round : Enters Try.prog 21 Try.f21 := ⟨Try.func21, by kernel_rfl, by kernel_rfl⟩
theorem ok_Round : rndS.Ok Try.prog 21 := i2S_ok fun a b => ok_of (n := 5) cA_sound mixed ent_Round (by kernel_rfl) (rnd_eq a b)
noncomputable def cF : CallSem := (CallSem.nil.withSpec 21 rndS)
theorem cF_sound : cF.Sound Try.prog := (CallSem.withSpec_sound nilS ok_Round)
end Go.Proofs.Ytplfijdonikaoaa

