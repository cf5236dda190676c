/- PageParents: what its tests tell (chapter 11). -/
import Derived.Test.YthknakcbkkjhpaaL11O
set_option linter.unusedVariables false
set_option linter.unusedSimpArgs false
namespace Go.Proofs.Ythknakcbkkjhpaa
open Go Go.Sx Go.Fx
set_option maxRecDepth 100000
set_option linter.unusedVariables false
set_option linter.unusedSimpArgs false
noncomputable def okJ (n : Nat) (W : List AV) (p0 p1 p2 : Int) : Bool := gP TR n p0 p1 p2 W && (cntP TR n p0 p1 p2 W == bif p0 == 0 then 0 else 4) && upB n p0 p1 p2 p0 && (hv p1 (p0 - p0) == p1 && hv p2 (p0 - p0) == p2)
noncomputable def chk (n N : Nat) : Bool := (List.range N).all fun j => okJ n (pgK n N) (pL n j) (pX n j) (pY n j)
theorem chk0 : chk 0 1 = true := by kernel_rfl
theorem chk1 : chk 1 5 = true := by kernel_rfl
theorem chk2 : chk 2 21 = true := by kernel_rfl
theorem chk3 : chk 3 85 = true := by kernel_rfl
theorem pTree_true {n N : Nat} (hN : (cn (n : Int)).toNat = N) (hc : chk n N = true) (a0 : Int) (h0 : rnd a0 4 = n) {j : Nat} (hj : j < N) : pTree TR n a0 j (pgK n N) = some true := by
  have hnn := cn_nonneg n
  unfold chk at hc
  rw [List.all_eq_true] at hc
  have h := hc j (List.mem_range.2 hj)
  unfold okJ at h
  simp only [Bool.and_eq_true, beq_iff_eq] at h
  obtain ⟨⟨⟨h1, h2⟩, h3⟩, h4, h5⟩ := h
  have hr : TR.rg n j = true := by
    show inR n j = true
    simp only [inR, Bool.and_eq_true, decide_eq_true_eq]; omega
  have ea : TR.al n (-1) (pgK n N) = true := by
    show sameL (pgK n (amt n (-1))) _ = true
    rw [amt_all, hN]; exact sameL_self _
  have f0 : TR.aL n j = pL n j := by show pL (n : Int).toNat (j : Int).toNat = _; simp
  have f1 : TR.aX n j = pX n j := by show pX (n : Int).toNat (j : Int).toNat = _; simp
  have f2 : TR.aY n j = pY n j := by show pY (n : Int).toNat (j : Int).toNat = _; simp
  unfold pTree
  rw [show TR.rn a0 4 = n from h0, beq_self_eq_true, cond_true, hr, cond_true, ea, cond_true, f0, f1, f2, h1, cond_true, h2]
  have fin : ∀ w : Int, pFin TR n (pL n j) (pX n j) (pY n j) w w = some true := by
    intro w
    unfold pFin
    show (bif w == w then (bif upB n (pL n j) (pX n j) (pY n j) (pL n j) then (bif (bif upB n (pL n j) (pX n j) (pY n j) (pL n j) then pL n j else 0) == pL n j && ((bif upB n (pL n j) (pX n j) (pY n j) (pL n j) then hv (pX n j) (pL n j - pL n j) else 0) == pX n j && ((bif upB n (pL n j) (pX n j) (pY n j) (pL n j) then hv (pY n j) (pL n j - pL n j) else 0) == pY n j && true)) then some true else some false) else some false) else some false) = some true
    rw [h3]
    simp only [cond_true, h4, h5, beq_self_eq_true, Bool.and_self]
  cases hp : (pL n j == (0 : Int))
  · simp only [cond_false]; exact fin 4
  · simp only [cond_true]; exact fin 0
noncomputable def cPa (a0 : Int) : CallSem := cPP TR (rnd a0 4) (pgK (rnd a0 4) (cn (rnd a0 4)).toNat)
theorem cPa_sound (a0 : Int) : (cPa a0).Sound Try.prog := cPP_sound _ _
theorem cPa_loops (a0 : Int) : ∀ c, Try.f4.body = some c → LoopsOk Try.prog (cPa a0).loops c := cPP_loops _ _
theorem par_true (a0 a1 : Int) : bodyK (cPa a0) Try.prog 9 Try.f4 [.lit (.int .i64 a0), .lit (.int .i64 a1)] Sx.empty boolOf = some true := by
  obtain ⟨n, h0, hn⟩ := rnd_in a0 (N := 4) (by omega)
  have hc : n = 0 ∨ n = 1 ∨ n = 2 ∨ n = 3 := by omega
  rcases hc with rfl | rfl | rfl | rfl
  · obtain ⟨i, h1, hi⟩ := rnd_in a1 (N := 1) (by omega)
    have h0' : rnd a0 4 = (0 : Int) := h0
    have hw : (cn (0 : Int)).toNat = 1 := by kernel_rfl
    unfold cPa
    rw [h0', hw]
    exact (par_0 TR _ a0 a1).trans (by rw [show TR.rn a1 1 = i from h1]; exact pTree_true (n := 0) hw chk0 a0 h0 hi)
  · obtain ⟨i, h1, hi⟩ := rnd_in a1 (N := 5) (by omega)
    have h0' : rnd a0 4 = (1 : Int) := h0
    have hw : (cn (1 : Int)).toNat = 5 := by kernel_rfl
    unfold cPa
    rw [h0', hw]
    exact (par_1 TR _ a0 a1).trans (by rw [show TR.rn a1 5 = i from h1]; exact pTree_true (n := 1) hw chk1 a0 h0 hi)
  · obtain ⟨i, h1, hi⟩ := rnd_in a1 (N := 21) (by omega)
    have h0' : rnd a0 4 = (2 : Int) := h0
    have hw : (cn (2 : Int)).toNat = 21 := by kernel_rfl
    unfold cPa
    rw [h0', hw]
    exact (par_2 TR _ a0 a1).trans (by rw [show TR.rn a1 21 = i from h1]; exact pTree_true (n := 2) hw chk2 a0 h0 hi)
  · obtain ⟨i, h1, hi⟩ := rnd_in a1 (N := 85) (by omega)
    have h0' : rnd a0 4 = (3 : Int) := h0
    have hw : (cn (3 : Int)).toNat = 85 := by kernel_rfl
    unfold cPa
    rw [h0', hw]
    exact (par_3 TR _ a0 a1).trans (by rw [show TR.rn a1 85 = i from h1]; exact pTree_true (n := 3) hw chk3 a0 h0 hi)
end Go.Proofs.Ythknakcbkkjhpaa
