/- The calls of MipsWith, and its tree (chapter 14): depth by depth. -/
import Derived.Test.YtfnpnenndbdcpaaL14S
set_option linter.unusedVariables false
set_option linter.unusedSimpArgs false
namespace Go.Proofs.Ytfnpnenndbdcpaa
open Go Go.Sx Go.Fx
set_option maxRecDepth 100000
set_option linter.unusedVariables false
set_option linter.unusedSimpArgs false
noncomputable def cW1 (D : Int) : CallSem := ((((((((CallSem.nil.withSpec 21 roundS).withMem 7 (paintD D)).withRead 8 build_M).withMem 22 step_M).withRead 11 withR_M).withRead 18 tex_M).withRead 17 stex_M).withSpec 6 trueS)
theorem cW1_sound {D : Int} (h : D = 0 ∨ D = 1 ∨ D = 2 ∨ D = 3) : (cW1 D).Sound Try.prog := CallSem.withSpec_sound (CallSem.withRead_sound (CallSem.withRead_sound (CallSem.withRead_sound (CallSem.withMem_sound (CallSem.withRead_sound (CallSem.withMem_sound (CallSem.withSpec_sound nilS ok21) (paintD_ok h)) build_Mok) step_Mok) withR_Mok) tex_Mok) stex_Mok) awake_ok
def yOf (ok : Int → List (List AV) → Bool) (D : Int) : LSpec := bif D == 0 then y_L0 ok else bif D == 1 then y_L1 ok else bif D == 2 then y_L2 ok else y_L3 ok
theorem yOf_ok {ok : Int → List (List AV) → Bool} (hok : ∀ D Ls, ok D Ls = true → okL D Ls = true) (D : Int) : (yOf ok D).Ok Try.prog (.loop L5y) := by
  unfold yOf
  cases D == 0
  · cases D == 1
    · cases D == 2
      · exact y_Lok3 hok
      · exact y_Lok2 hok
    · exact y_Lok1 hok
  · exact y_Lok0 hok
noncomputable def cW (ok : Int → List (List AV) → Bool) (D : Int) : CallSem := (cW1 D).withLoops (tabL [(15, yOf ok D)])
theorem cW_sound {ok : Int → List (List AV) → Bool} (hok : ∀ D Ls, ok D Ls = true → okL D Ls = true) {D : Int} (h : D = 0 ∨ D = 1 ∨ D = 2 ∨ D = 3) : (cW ok D).Sound Try.prog := CallSem.withLoops_sound (cW1_sound h) _
theorem cW_loops {ok : Int → List (List AV) → Bool} (hok : ∀ D Ls, ok D Ls = true → okL D Ls = true) (D : Int) : ∀ c, Try.f5.body = some c → LoopsOk Try.prog (cW ok D).loops c := tab_ok (cs := [.loop L5y]) (by kernel_rfl) (by kernel_rfl) ⟨⟨by kernel_rfl, yOf_ok hok D⟩, trivial⟩
/-- the levels over the finest -/
def lvls (D : Int) (R : List AV) : List (List AV) :=
  bif D == 0 then [R] else bif D == 1 then [R, coarL R 8] else
  bif D == 2 then [R, coarL R 16, coarL (coarL R 16) 8] else
   [R, coarL R 32, coarL (coarL R 32) 16, coarL (coarL (coarL R 32) 16) 8]
def wT (D : Int) (L : List AV) : List AV := pnt (sqD D) (sideD D) L
def gN_ (ok : Int → List (List AV) → Bool) (wr : Bool) (D : Int) (R R' T : List AV) (X Y W H n : Int) : Bool := (bif wr then wr else !wr) && gY ok wr D (lvls D R) (lvls D R') T X Y W H n
def loopsW (ok : Int → List (List AV) → Bool) (wr : Bool) (D : Int) (R R' T : List AV) (X Y W H : Int) (Z : Option Bool) : Option Bool :=
  gd (gN_ ok wr D R R' T X Y W H 0) (bif decide (D < 1) then Z else gd (gN_ ok wr D R R' T X Y W H 1) (bif decide (D < 2) then Z else gd (gN_ ok wr D R R' T X Y W H 2) (bif decide (D < 3) then Z else gd (gN_ ok wr D R R' T X Y W H 3) Z)))
def lawW (ok : Int → List (List AV) → Bool) (D : Int) (a0 : Int) (a1 : Bool) (L2 : List AV) (b0 b1 b2 b3 : Int) : Option Bool :=
  bif decide ((L2.length : Int) > 50) then some true else
  bif rnd a0 4 == D then
    (bif okW (sideD D) (stX (l5 b0 b1 b2 b3 3) (sideD D)) (stY (l5 b0 b1 b2 b3 3) (sideD D)) (stW (l5 b0 b1 b2 b3 3) (sideD D)) (stH (l5 b0 b1 b2 b3 3) (sideD D)) (stT (l5 b0 b1 b2 b3 3) (sideD D)).length then
      loopsW ok a1 D (wT D L2) (withL (sideD D) (stX (l5 b0 b1 b2 b3 3) (sideD D)) (stY (l5 b0 b1 b2 b3 3) (sideD D)) (stW (l5 b0 b1 b2 b3 3) (sideD D)) (stH (l5 b0 b1 b2 b3 3) (sideD D)) (stT (l5 b0 b1 b2 b3 3) (sideD D)) (wT D L2)) (stT (l5 b0 b1 b2 b3 3) (sideD D)) (stX (l5 b0 b1 b2 b3 3) (sideD D)) (stY (l5 b0 b1 b2 b3 3) (sideD D)) (stW (l5 b0 b1 b2 b3 3) (sideD D)) (stH (l5 b0 b1 b2 b3 3) (sideD D))
        (gd ((bif a1 then a1 else !a1) && eqR (wT D L2) (wT D L2)) (some true))
     else some false) else none
end Go.Proofs.Ytfnpnenndbdcpaa
