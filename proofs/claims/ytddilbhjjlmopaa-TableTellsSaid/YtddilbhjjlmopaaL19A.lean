/- page's functions (chapter 11), the code's and the document's. -/
import Derived.Test.YtddilbhjjlmopaaTblA
import Derived.Test.YtddilbhjjlmopaaFxB
import Derived.Test.YtddilbhjjlmopaaSxThree
import Derived.Test.YtddilbhjjlmopaaRows
import Derived.KernelRfl
set_option linter.unusedVariables false
set_option linter.unusedSimpArgs false
namespace Go.Proofs.Ytddilbhjjlmopaa
open Go Go.Sx Go.Fx
theorem mixed : Try.prog.follows .mixedOrders = true := by kernel_rfl
theorem nilS : CallSem.nil.Sound Try.prog := CallSem.nil_sound _
theorem ok_of {P : Program} {C : CallSem} (hC : C.Sound P) (hm : P.follows .mixedOrders = true) {n : Nat} {f : FuncId} {fn : Func} (hf : Enters P f fn) {args : List AV} {z : AV} {t : Option AV} (e : pureK C P n fn args some = t) (h : t = some z) (hls : ∀ c, fn.body = some c → LoopsOk P C.loops c := by exact fun _ _ => LoopsOk.no _ _) : PureOk P f args z :=
  pureOk_of hC hm hf (e.trans h) hls
theorem s9 : Enters Try.prog 9 Try.f9 := ⟨Try.func9, by kernel_rfl, by kernel_rfl⟩
theorem s10 : Enters Try.prog 10 Try.f10 := ⟨Try.func10, by kernel_rfl, by kernel_rfl⟩
theorem s16 : Enters Try.prog 16 Try.f16 := ⟨Try.func16, by kernel_rfl, by kernel_rfl⟩
theorem s17 : Enters Try.prog 17 Try.f17 := ⟨Try.func17, by kernel_rfl, by kernel_rfl⟩
theorem s18 : Enters Try.prog 18 Try.f18 := ⟨Try.func18, by kernel_rfl, by kernel_rfl⟩
theorem s19 : Enters Try.prog 19 Try.f19 := ⟨Try.func19, by kernel_rfl, by kernel_rfl⟩
theorem s20 : Enters Try.prog 20 Try.f20 := ⟨Try.func20, by kernel_rfl, by kernel_rfl⟩
theorem s21 : Enters Try.prog 21 Try.f21 := ⟨Try.func21, by kernel_rfl, by kernel_rfl⟩
theorem s22 : Enters Try.prog 22 Try.f22 := ⟨Try.func22, by kernel_rfl, by kernel_rfl⟩
theorem s23 : Enters Try.prog 23 Try.f23 := ⟨Try.func23, by kernel_rfl, by kernel_rfl⟩
theorem s24 : Enters Try.prog 24 Try.f24 := ⟨Try.func24, by kernel_rfl, by kernel_rfl⟩
theorem s25 : Enters Try.prog 25 Try.f25 := ⟨Try.func25, by kernel_rfl, by kernel_rfl⟩
theorem s26 : Enters Try.prog 26 Try.f26 := ⟨Try.func26, by kernel_rfl, by kernel_rfl⟩
theorem s27 : Enters Try.prog 27 Try.f27 := ⟨Try.func27, by kernel_rfl, by kernel_rfl⟩
theorem ok27 : sideS.Ok Try.prog 27 := sideS_ok fun d l h => dl_cases (p := fun d l => PureOk Try.prog 27 [i64 d, i64 l] (i64 (sd (d - l))))
  (pureOk_of (n := 5) nilS mixed s27 (by kernel_rfl)) (pureOk_of (n := 5) nilS mixed s27 (by kernel_rfl)) (pureOk_of (n := 5) nilS mixed s27 (by kernel_rfl)) (pureOk_of (n := 5) nilS mixed s27 (by kernel_rfl)) (pureOk_of (n := 5) nilS mixed s27 (by kernel_rfl)) (pureOk_of (n := 5) nilS mixed s27 (by kernel_rfl)) (pureOk_of (n := 5) nilS mixed s27 (by kernel_rfl)) (pureOk_of (n := 5) nilS mixed s27 (by kernel_rfl)) (pureOk_of (n := 5) nilS mixed s27 (by kernel_rfl)) (pureOk_of (n := 5) nilS mixed s27 (by kernel_rfl)) h
theorem ok19 : sideS.Ok Try.prog 19 := sideS_ok fun d l h => dl_cases (p := fun d l => PureOk Try.prog 19 [i64 d, i64 l] (i64 (sd (d - l))))
  (pureOk_of (n := 5) nilS mixed s19 (by kernel_rfl)) (pureOk_of (n := 5) nilS mixed s19 (by kernel_rfl)) (pureOk_of (n := 5) nilS mixed s19 (by kernel_rfl)) (pureOk_of (n := 5) nilS mixed s19 (by kernel_rfl)) (pureOk_of (n := 5) nilS mixed s19 (by kernel_rfl)) (pureOk_of (n := 5) nilS mixed s19 (by kernel_rfl)) (pureOk_of (n := 5) nilS mixed s19 (by kernel_rfl)) (pureOk_of (n := 5) nilS mixed s19 (by kernel_rfl)) (pureOk_of (n := 5) nilS mixed s19 (by kernel_rfl)) (pureOk_of (n := 5) nilS mixed s19 (by kernel_rfl)) h
noncomputable def cB1 : CallSem := ((CallSem.nil.withSpec 27 sideS).withSpec 19 sideS).withJoin
theorem cB1_sound : cB1.Sound Try.prog := CallSem.withJoin_sound (CallSem.withSpec_sound (CallSem.withSpec_sound nilS ok27) ok19)
theorem ok26 : aheadS.Ok Try.prog 26 := aheadS_ok fun d l h => dla_cases (p := fun d l => PureOk Try.prog 26 [i64 d, i64 l] (i64 (ah (d - l))))
  (pureOk_of (n := 9) cB1_sound mixed s26 (by kernel_rfl)) (pureOk_of (n := 9) cB1_sound mixed s26 (by kernel_rfl)) (pureOk_of (n := 9) cB1_sound mixed s26 (by kernel_rfl)) (pureOk_of (n := 9) cB1_sound mixed s26 (by kernel_rfl)) (pureOk_of (n := 9) cB1_sound mixed s26 (by kernel_rfl)) (pureOk_of (n := 9) cB1_sound mixed s26 (by kernel_rfl)) (pureOk_of (n := 9) cB1_sound mixed s26 (by kernel_rfl)) (pureOk_of (n := 9) cB1_sound mixed s26 (by kernel_rfl)) (pureOk_of (n := 9) cB1_sound mixed s26 (by kernel_rfl)) (pureOk_of (n := 9) cB1_sound mixed s26 (by kernel_rfl)) (pureOk_of (n := 9) cB1_sound mixed s26 (by kernel_rfl)) (pureOk_of (n := 9) cB1_sound mixed s26 (by kernel_rfl)) (pureOk_of (n := 9) cB1_sound mixed s26 (by kernel_rfl)) (pureOk_of (n := 9) cB1_sound mixed s26 (by kernel_rfl)) h
noncomputable def cB2 : CallSem := ((cB1.withSpec 26 aheadS).withBody Try.prog 5 25 Try.f25 true).withBody Try.prog 5 18 Try.f18 true
theorem cB2_sound : cB2.Sound Try.prog := CallSem.withBody_sound (CallSem.withBody_sound (CallSem.withSpec_sound cB1_sound ok26) mixed 5 s25 true) mixed 5 s18 true
theorem ok20 : validS.Ok Try.prog 20 := pageS_ok fun d l x y => ok_of (n := 9) cB2_sound mixed s20 (by kernel_rfl) (valid_eq d l x y)
theorem ok10 : validS.Ok Try.prog 10 := pageS_ok fun d l x y => ok_of (n := 9) cB2_sound mixed s10 (by kernel_rfl) (rvalid_eq d l x y)
noncomputable def cB3 : CallSem := (cB2.withSpec 20 validS).withSpec 10 validS
theorem cB3_sound : cB3.Sound Try.prog := CallSem.withSpec_sound (CallSem.withSpec_sound cB2_sound ok20) ok10
theorem ok22 : keyS.Ok Try.prog 22 := pageS_ok fun d l x y => ok_of (n := 9) cB3_sound mixed s22 (by kernel_rfl) (key_eq d l x y)
theorem ok23 : upS.Ok Try.prog 23 := upS_ok fun d l x y m => ok_of (n := 9) cB3_sound mixed s23 (by kernel_rfl) (up_eq d l x y m)
theorem ok16 : upS.Ok Try.prog 16 := upS_ok fun d l x y m => ok_of (n := 9) cB3_sound mixed s16 (by kernel_rfl) (rup_eq d l x y m)
theorem ok17 : (i1S fun d => i64 (cn d)).Ok Try.prog 17 := i1S_ok fun d => ok_of (n := 9) cB3_sound mixed s17 (by kernel_rfl) (count_eq d)
theorem ok21 : rootS.Ok Try.prog 21 := i1S_ok fun d => ok_of (n := 9) cB3_sound mixed s21 (by kernel_rfl) (root_eq d)
theorem ok24 : rootS.Ok Try.prog 24 := i1S_ok fun d => ok_of (n := 9) cB3_sound mixed s24 (by kernel_rfl) (root_eq d)
noncomputable def cPg : CallSem := ((((((CallSem.nil.withSpec 20 validS).withSpec 10 validS).withSpec 22 keyS).withSpec 23 upS).withSpec 16 upS).withSpec 21 rootS).withSpec 24 rootS
theorem cPg_sound : cPg.Sound Try.prog := CallSem.withSpec_sound (CallSem.withSpec_sound (CallSem.withSpec_sound (CallSem.withSpec_sound (CallSem.withSpec_sound (CallSem.withSpec_sound (CallSem.withSpec_sound nilS ok20) ok10) ok22) ok23) ok16) ok21) ok24
end Go.Proofs.Ytddilbhjjlmopaa
