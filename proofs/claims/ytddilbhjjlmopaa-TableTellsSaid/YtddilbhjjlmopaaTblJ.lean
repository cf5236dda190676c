/- TableTells, outright (chapter 19). -/
import Derived.Test.YtddilbhjjlmopaaTblI
import Derived.KernelRfl
set_option linter.unusedVariables false
set_option linter.unusedSimpArgs false
namespace Go.Fx
open Go Go.Sx
set_option linter.unusedVariables false
set_option linter.unusedSimpArgs false
def tlM (L1 A P : List AV) (d o0 o1 o2 : Int) : Option Bool :=
  bif decide (d = d) && decide (L1.length ≤ 60) && invB (newLL d) P A d then
    (bif dB d && decide (((rnT L1 A d o0 o1 o2 L1.length 0 (newLL d)).length : Int) = cn d) then (bif lkB (rnT L1 A d o0 o1 o2 L1.length 0 (newLL d)) d o0 o1 o2 == validB d o0 o1 o2 then some true else some false) else none) else none
def tlP (d : Int) : List AV := [.agg [i64 d, i64 0, i64 0]]
theorem inv0 : invB (newLL 0) (tlP 0) (pgs 0) 0 = true := by kernel_rfl
theorem inv1 : invB (newLL 1) (tlP 1) (pgs 1) 1 = true := by kernel_rfl
theorem inv2 : invB (newLL 2) (tlP 2) (pgs 2) 2 = true := by kernel_rfl
theorem inv3 : invB (newLL 3) (tlP 3) (pgs 3) 3 = true := by kernel_rfl
theorem tlM_true {L1 A P : List AV} {d o0 o1 o2 : Int} (hL : L1.length ≤ 60) (hI : invB (newLL d) P A d = true) : tlM L1 A P d o0 o1 o2 = some true := by
  have h0 := invB_inv hI
  have h := run_inv (L := L1) (e0 := o0) (e1 := o1) (e2 := o2) L1.length 0 _ _ 100 h0
  unfold tlM
  rw [decide_eq_true rfl, decide_eq_true hL, hI, h.dep, decide_eq_true h.len]
  have hk : lkB (rnT L1 A d o0 o1 o2 L1.length 0 (newLL d)) d o0 o1 o2 = validB d o0 o1 o2 := by
    cases hv : validB d o0 o1 o2
    · unfold lkB; rw [hv]; rfl
    · exact (lk_spec hv h.root).1
  rw [hk]
  simp
def tlD (L1 : List AV) (d o0 o1 o2 : Int) : Option Bool :=
  bif decide ((L1.length : Int) > 60) then some true else
  bif cn d == 0 then (bif decide (d = 0) then some false else bif decide (d = 1) then some false else bif decide (d = 2) then some false else bif decide (d = 3) then some false else bif !dB d then some true else none) else
  (bif decide (d = 0) then tlM L1 (pgs 0) (tlP 0) d o0 o1 o2 else bif decide (d = 1) then tlM L1 (pgs 1) (tlP 1) d o0 o1 o2 else bif decide (d = 2) then tlM L1 (pgs 2) (tlP 2) d o0 o1 o2 else bif decide (d = 3) then tlM L1 (pgs 3) (tlP 3) d o0 o1 o2 else bif !dB d then some false else none)
theorem tlD_true (L1 : List AV) (d o0 o1 o2 : Int) : tlD L1 d o0 o1 o2 = some true := by
  unfold tlD
  by_cases hl : (L1.length : Int) > 60
  · rw [decide_eq_true hl]; rfl
  · rw [decide_eq_false hl, cond_false]
    have hL : L1.length ≤ 60 := by omega
    by_cases h0 : d = 0
    · subst h0; exact tlM_true hL inv0
    by_cases h1 : d = 1
    · subst h1; exact tlM_true hL inv1
    by_cases h2 : d = 2
    · subst h2; exact tlM_true hL inv2
    by_cases h3 : d = 3
    · subst h3; exact tlM_true hL inv3
    have hd : dB d = false := by
      cases h : dB d with
      | false => rfl
      | true => simp only [dB, Bool.and_eq_true, decide_eq_true_eq] at h; omega
    have hc : cn d = 0 := by unfold cn; rw [hd]; rfl
    rw [hc, decide_eq_false h0, decide_eq_false h1, decide_eq_false h2, decide_eq_false h3, hd]
    rfl
end Go.Fx
