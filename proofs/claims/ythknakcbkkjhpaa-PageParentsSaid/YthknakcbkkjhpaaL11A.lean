/- page's functions (chapter 11), the code's and the document's. -/
import Derived.Test.YthknakcbkkjhpaaTblA
import Derived.Test.YthknakcbkkjhpaaFxB
import Derived.Test.YthknakcbkkjhpaaSxThree
import Derived.Test.YthknakcbkkjhpaaRows
import Derived.KernelRfl
set_option linter.unusedVariables false
set_option linter.unusedSimpArgs false
namespace Go.Proofs.Ythknakcbkkjhpaa
open Go Go.Sx Go.Fx
theorem mixed : Try.prog.follows .mixedOrders = true := by kernel_rfl
theorem nilS : CallSem.nil.Sound Try.prog := CallSem.nil_sound _
theorem ok_of {P : Program} {C : CallSem} (hC : C.Sound P) (hm : P.follows .mixedOrders = true) {n : Nat} {f : FuncId} {fn : Func} (hf : Enters P f fn) {args : List AV} {z : AV} {t : Option AV} (e : pureK C P n fn args some = t) (h : t = some z) (hls : ∀ c, fn.body = some c → LoopsOk P C.loops c := by exact fun _ _ => LoopsOk.no _ _) : PureOk P f args z :=
  pureOk_of hC hm hf (e.trans h) hls
theorem s10 : Enters Try.prog 10 Try.f10 := ⟨Try.func10, by kernel_rfl, by kernel_rfl⟩
theorem s14 : Enters Try.prog 14 Try.f14 := ⟨Try.func14, by kernel_rfl, by kernel_rfl⟩
theorem s9 : Enters Try.prog 9 Try.f9 := ⟨Try.func9, by kernel_rfl, by kernel_rfl⟩
theorem s16 : Enters Try.prog 16 Try.f16 := ⟨Try.func16, by kernel_rfl, by kernel_rfl⟩
theorem s22 : Enters Try.prog 22 Try.f22 := ⟨Try.func22, by kernel_rfl, by kernel_rfl⟩
theorem s23 : Enters Try.prog 23 Try.f23 := ⟨Try.func23, by kernel_rfl, by kernel_rfl⟩
theorem s13 : Enters Try.prog 13 Try.f13 := ⟨Try.func13, by kernel_rfl, by kernel_rfl⟩
theorem s17 : Enters Try.prog 17 Try.f17 := ⟨Try.func17, by kernel_rfl, by kernel_rfl⟩
theorem s15 : Enters Try.prog 15 Try.f15 := ⟨Try.func15, by kernel_rfl, by kernel_rfl⟩
theorem s8 : Enters Try.prog 8 Try.f8 := ⟨Try.func8, by kernel_rfl, by kernel_rfl⟩
theorem s18 : Enters Try.prog 18 Try.f18 := ⟨Try.func18, by kernel_rfl, by kernel_rfl⟩
theorem s27 : Enters Try.prog 27 Try.f27 := ⟨Try.func27, by kernel_rfl, by kernel_rfl⟩
theorem s24 : Enters Try.prog 24 Try.f24 := ⟨Try.func24, by kernel_rfl, by kernel_rfl⟩
theorem s25 : Enters Try.prog 25 Try.f25 := ⟨Try.func25, by kernel_rfl, by kernel_rfl⟩
theorem ok25 : sideS.Ok Try.prog 25 := sideS_ok fun d l h => dl_cases (p := fun d l => PureOk Try.prog 25 [i64 d, i64 l] (i64 (sd (d - l))))
  (pureOk_of (n := 5) nilS mixed s25 (by kernel_rfl)) (pureOk_of (n := 5) nilS mixed s25 (by kernel_rfl)) (pureOk_of (n := 5) nilS mixed s25 (by kernel_rfl)) (pureOk_of (n := 5) nilS mixed s25 (by kernel_rfl)) (pureOk_of (n := 5) nilS mixed s25 (by kernel_rfl)) (pureOk_of (n := 5) nilS mixed s25 (by kernel_rfl)) (pureOk_of (n := 5) nilS mixed s25 (by kernel_rfl)) (pureOk_of (n := 5) nilS mixed s25 (by kernel_rfl)) (pureOk_of (n := 5) nilS mixed s25 (by kernel_rfl)) (pureOk_of (n := 5) nilS mixed s25 (by kernel_rfl)) h
theorem ok23 : sideS.Ok Try.prog 23 := sideS_ok fun d l h => dl_cases (p := fun d l => PureOk Try.prog 23 [i64 d, i64 l] (i64 (sd (d - l))))
  (pureOk_of (n := 5) nilS mixed s23 (by kernel_rfl)) (pureOk_of (n := 5) nilS mixed s23 (by kernel_rfl)) (pureOk_of (n := 5) nilS mixed s23 (by kernel_rfl)) (pureOk_of (n := 5) nilS mixed s23 (by kernel_rfl)) (pureOk_of (n := 5) nilS mixed s23 (by kernel_rfl)) (pureOk_of (n := 5) nilS mixed s23 (by kernel_rfl)) (pureOk_of (n := 5) nilS mixed s23 (by kernel_rfl)) (pureOk_of (n := 5) nilS mixed s23 (by kernel_rfl)) (pureOk_of (n := 5) nilS mixed s23 (by kernel_rfl)) (pureOk_of (n := 5) nilS mixed s23 (by kernel_rfl)) h
noncomputable def cB1 : CallSem := ((CallSem.nil.withSpec 25 sideS).withSpec 23 sideS).withJoin
theorem cB1_sound : cB1.Sound Try.prog := CallSem.withJoin_sound (CallSem.withSpec_sound (CallSem.withSpec_sound nilS ok25) ok23)
theorem ok24 : aheadS.Ok Try.prog 24 := aheadS_ok fun d l h => dla_cases (p := fun d l => PureOk Try.prog 24 [i64 d, i64 l] (i64 (ah (d - l))))
  (pureOk_of (n := 9) cB1_sound mixed s24 (by kernel_rfl)) (pureOk_of (n := 9) cB1_sound mixed s24 (by kernel_rfl)) (pureOk_of (n := 9) cB1_sound mixed s24 (by kernel_rfl)) (pureOk_of (n := 9) cB1_sound mixed s24 (by kernel_rfl)) (pureOk_of (n := 9) cB1_sound mixed s24 (by kernel_rfl)) (pureOk_of (n := 9) cB1_sound mixed s24 (by kernel_rfl)) (pureOk_of (n := 9) cB1_sound mixed s24 (by kernel_rfl)) (pureOk_of (n := 9) cB1_sound mixed s24 (by kernel_rfl)) (pureOk_of (n := 9) cB1_sound mixed s24 (by kernel_rfl)) (pureOk_of (n := 9) cB1_sound mixed s24 (by kernel_rfl)) (pureOk_of (n := 9) cB1_sound mixed s24 (by kernel_rfl)) (pureOk_of (n := 9) cB1_sound mixed s24 (by kernel_rfl)) (pureOk_of (n := 9) cB1_sound mixed s24 (by kernel_rfl)) (pureOk_of (n := 9) cB1_sound mixed s24 (by kernel_rfl)) h
noncomputable def cB2 : CallSem := ((cB1.withSpec 24 aheadS).withBody Try.prog 5 27 Try.f27 true).withBody Try.prog 5 22 Try.f22 true
theorem cB2_sound : cB2.Sound Try.prog := CallSem.withBody_sound (CallSem.withBody_sound (CallSem.withSpec_sound cB1_sound ok24) mixed 5 s27 true) mixed 5 s22 true
theorem ok13 : validS.Ok Try.prog 13 := pageS_ok fun d l x y => ok_of (n := 9) cB2_sound mixed s13 (by kernel_rfl) (valid_eq d l x y)
theorem ok14 : validS.Ok Try.prog 14 := pageS_ok fun d l x y => ok_of (n := 9) cB2_sound mixed s14 (by kernel_rfl) (rvalid_eq d l x y)
noncomputable def cB3 : CallSem := (cB2.withSpec 13 validS).withSpec 14 validS
theorem cB3_sound : cB3.Sound Try.prog := CallSem.withSpec_sound (CallSem.withSpec_sound cB2_sound ok13) ok14
theorem ok15 : keyS.Ok Try.prog 15 := pageS_ok fun d l x y => ok_of (n := 9) cB3_sound mixed s15 (by kernel_rfl) (key_eq d l x y)
theorem ok8 : upS.Ok Try.prog 8 := upS_ok fun d l x y m => ok_of (n := 9) cB3_sound mixed s8 (by kernel_rfl) (up_eq d l x y m)
theorem ok9 : upS.Ok Try.prog 9 := upS_ok fun d l x y m => ok_of (n := 9) cB3_sound mixed s9 (by kernel_rfl) (rup_eq d l x y m)
theorem ok16 : (i1S fun d => i64 (cn d)).Ok Try.prog 16 := i1S_ok fun d => ok_of (n := 9) cB3_sound mixed s16 (by kernel_rfl) (count_eq d)
theorem ok17 : rootS.Ok Try.prog 17 := i1S_ok fun d => ok_of (n := 9) cB3_sound mixed s17 (by kernel_rfl) (root_eq d)
theorem ok18 : rootS.Ok Try.prog 18 := i1S_ok fun d => ok_of (n := 9) cB3_sound mixed s18 (by kernel_rfl) (root_eq d)
noncomputable def cPg : CallSem := ((((((CallSem.nil.withSpec 13 validS).withSpec 14 validS).withSpec 15 keyS).withSpec 8 upS).withSpec 9 upS).withSpec 17 rootS).withSpec 18 rootS
theorem cPg_sound : cPg.Sound Try.prog := CallSem.withSpec_sound (CallSem.withSpec_sound (CallSem.withSpec_sound (CallSem.withSpec_sound (CallSem.withSpec_sound (CallSem.withSpec_sound (CallSem.withSpec_sound nilS ok13) ok14) ok15) ok8) ok9) ok17) ok18
end Go.Proofs.Ythknakcbkkjhpaa
