/- The calls of MipsMeans (chapter 14): for each depth its own. -/
import Derived.Test.YtfnpnenndbdcpaaL14V
set_option linter.unusedVariables false
set_option linter.unusedSimpArgs false
namespace Go.Proofs.Ytfnpnenndbdcpaa
open Go Go.Sx Go.Fx
set_option linter.unusedVariables false
set_option linter.unusedSimpArgs false
def sideD (D : Int) : Int := bif D == 0 then 4 else bif D == 1 then 8 else bif D == 2 then 16 else 32
/-- Paint, of a depth that is known -/
def paintD (D : Int) : MSpec := ⟨[⟨2, 3, false, cN⟩], fun args M k => match args, M with
  | [.lit (.int .i64 d), .lit (.bool wr), .vec h0], ⟨[], [some ⟨el, false, sh, tr, o2, hd, L⟩]⟩ =>
    bif decide (h0 = 0) && decide (sh = cN) && decide (tr = 0) then
      (bif rnd d 4 == D then k (.agg [i64 D, bv wr, .vec 1]) (mP el o2 hd L (pnt (sqD D) (sideD D) L)) else none) else none
  | _, _ => none⟩
theorem paintD_ok {D : Int} (h : D = 0 ∨ D = 1 ∨ D = 2 ∨ D = 3) : (paintD D).Ok Try.prog 7 := by
  intro R args M k r e
  simp only [paintD] at e
  split at e
  · rename_i d wr h0 el sh tr o2 hd L
    simp only [cond_eq_ite, Bool.and_eq_true, decide_eq_true_eq, beq_iff_eq] at e
    split at e
    · rename_i hc
      obtain ⟨⟨rfl, rfl⟩, rfl⟩ := hc
      split at e
      · rename_i hd
        refine paint_Mok (k := k) ?_
        show (bif true then (bif rnd d 4 == 0 then _ else bif rnd d 4 == 1 then _ else bif rnd d 4 == 2 then _ else _) else none) = _
        rw [hd]
        rcases h with rfl | rfl | rfl | rfl <;> exact e
      · cases e
    · cases e
  · cases e
noncomputable def cK (ok : Int → List (List AV) → Bool) (D : Int) : CallSem := ((((((CallSem.nil.withSpec 21 roundS).withSpec 23 meanS).withMem 7 (paintD D)).withRead 8 build_M).withRead 15 size_M).withRead 13 (atV ok)).withSpec 6 trueS
theorem cK_sound {ok : Int → List (List AV) → Bool} (hok : ∀ D Ls, ok D Ls = true → okL D Ls = true) {D : Int} (h : D = 0 ∨ D = 1 ∨ D = 2 ∨ D = 3) : (cK ok D).Sound Try.prog := CallSem.withSpec_sound (CallSem.withRead_sound (CallSem.withRead_sound (CallSem.withRead_sound (CallSem.withMem_sound (CallSem.withSpec_sound (CallSem.withSpec_sound nilS ok21) ok23) (paintD_ok h)) build_Mok) size_Mok) (atV_ok hok)) awake_ok
noncomputable def cMn (ok : Int → List (List AV) → Bool) (D : Int) : CallSem := (cK ok D).withSplit fun o => bif decide (o.dst = some 18) then some [0, 1, 2, 3] else none
theorem cMn_sound {ok : Int → List (List AV) → Bool} (hok : ∀ D Ls, ok D Ls = true → okL D Ls = true) {D : Int} (h : D = 0 ∨ D = 1 ∨ D = 2 ∨ D = 3) : (cMn ok D).Sound Try.prog := CallSem.withSplit_sound (cK_sound hok h) _
end Go.Proofs.Ytfnpnenndbdcpaa
