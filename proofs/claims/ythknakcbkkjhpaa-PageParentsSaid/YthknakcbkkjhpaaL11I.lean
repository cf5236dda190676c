/- What the laws call is as the letters tell (chapter 11). -/
import Derived.Test.YthknakcbkkjhpaaL11G
set_option linter.unusedVariables false
set_option linter.unusedSimpArgs false
namespace Go.Proofs.Ythknakcbkkjhpaa
open Go Go.Sx Go.Fx
set_option maxRecDepth 100000
set_option linter.unusedVariables false
set_option linter.unusedSimpArgs false
noncomputable def TR : Lt where
  kv := keyV
  vb := validB
  ub := upB
  ul := fun d l x y m => bif upB d l x y m then m else 0
  ux := fun d l x y m => bif upB d l x y m then hv x (m - l) else 0
  uy := fun d l x y m => bif upB d l x y m then hv y (m - l) else 0
  cn := cn
  rt := fun d => bif dB d then d else 0
  rn := rnd
  cm := cmV
  rg := inR
  aL := fun d key => pL d.toNat key.toNat
  aX := fun d key => pX d.toNat key.toNat
  aY := fun d key => pY d.toNat key.toNat
  pg := fun d W => sameL (pgK d (cn d).toNat) W
  al := fun d most W => sameL (pgK d (amt d most)) W
  eq := fun L X => decide (L.map c3I = X.map c3I) && decide (L.length ≤ 16384)
theorem atTT_ok : (atTT TR).Ok Try.prog 7 := by
  intro R args k r e
  simp only [atTT, TR] at e
  split at e
  · rename_i d key
    cases hi : inR d key
    · rw [hi] at e; cases e
    · rw [hi] at e
      have h := at_ok d key
      simp only [atA, atL, atX, atY, hi, cond_true] at h
      exact ⟨_, e, h⟩
  · cases e
theorem atNT_ok : (atNT TR).Ok Try.prog 7 := by
  intro R args k r e
  simp only [atNT, TR] at e
  split at e
  · rename_i d key
    cases hi : inR d key
    · rw [hi] at e
      have h := at_ok d key
      simp only [atA, atL, atX, atY, hi, cond_false] at h
      exact ⟨_, e, h⟩
    · rw [hi] at e; cases e
  · cases e
theorem upT_ok {f : FuncId} (h : upS.Ok Try.prog f) : (upT TR).Ok Try.prog f := h
theorem roundT_ok : (roundT TR).Ok Try.prog 10 := ok10
theorem cmpT_ok : (cmpT TR).Ok Try.prog 12 := ok12
theorem roundN_ok (n0 : Int) : (roundN TR n0).Ok Try.prog 10 := by
  intro R args k r e
  simp only [roundN, TR] at e
  split at e
  · rename_i a n
    simp only [cond_eq_ite, decide_eq_true_eq] at e
    split at e
    · rename_i hn
      subst hn
      split at e
      · rename_i hr
        have h := ok10 (R := AV) (args := [i64 a, i64 4]) (k := some) (r := i64 (rnd a 4)) rfl
        obtain ⟨z, hz, hp⟩ := h
        simp only [Option.some.injEq] at hz
        subst hz
        rw [eq_of_beq hr] at hp
        exact ⟨_, e, hp⟩
      · cases e
    · exact ok10 (R := R) (args := [i64 a, i64 n]) (k := k) (r := r) (by simpa only [roundS, i64, cond_eq_ite] using e)
  · cases e
theorem pagesT_ok (W : List AV) : (pagesT TR W).Ok Try.prog 6 := by
  intro R args M k r h
  simp only [pagesT, TR] at h
  split at h
  · rename_i d
    cases hs : sameL (pgK d (cn d).toNat) W
    · rw [hs] at h; cases h
    · rw [hs] at h
      obtain rfl := sameL_spec hs
      exact pagesM_ok (args := [i64 d]) (M := ⟨[], []⟩) (k := k) h
  · cases h
theorem allT_ok (W : List AV) : (allT TR W).Ok Try.prog 20 := by
  intro R args M k r h
  simp only [allT, TR] at h
  split at h
  · rename_i d most
    cases hm : decide (most < 0)
    · rw [hm] at h
      cases hs : sameL (pgK d (amt d most)) (W.take most.toNat)
      · rw [hs] at h; cases h
      · rw [hs] at h
        rw [← sameL_spec hs] at h
        exact allM_ok (args := [i64 d, i64 most]) (M := ⟨[], []⟩) (k := k) h
    · rw [hm] at h
      cases hs : sameL (pgK d (amt d most)) W
      · rw [hs] at h; cases h
      · rw [hs] at h
        obtain rfl := sameL_spec hs
        exact allM_ok (args := [i64 d, i64 most]) (M := ⟨[], []⟩) (k := k) h
  · cases h
theorem eqT_ok : (eqT TR).Ok Try.prog 19 := by
  intro R args M k r h
  simp only [eqT, TR] at h
  split at h
  · rename_i h0 h1 el sh t0 o hh L el' sh' t1 o' hh' X
    refine same_Mok (args := [.vec h0, .vec h1]) (M := ⟨[], [some ⟨el, true, sh, t0, o, hh, L⟩, some ⟨el', true, sh', t1, o', hh', X⟩]⟩) (k := k) ?_
    simp only [same_M]
    rw [Bool.and_assoc _ (decide (L.map c3I = X.map c3I)) (decide (L.length ≤ 16384))]
    exact h
  · cases h
theorem cL0_sound : (cL0 TR).Sound Try.prog := CallSem.withSpec_sound (CallSem.withSpec_sound (CallSem.withSpec_sound (CallSem.withSpec_sound (CallSem.withSpec_sound (CallSem.withSpec_sound (CallSem.withSpec_sound (CallSem.withSpec_sound (CallSem.withSpec_sound (CallSem.withSpec_sound (CallSem.withSpec_sound nilS (upT_ok ok8)) (upT_ok ok9)) roundT_ok) ok11) cmpT_ok) ok13) ok14) ok15) ok16) ok17) ok18
theorem cL1_sound (W : List AV) : (cL1 TR W).Sound Try.prog := CallSem.withSpec_sound (CallSem.withRead_sound (CallSem.withRead_sound (CallSem.withRead_sound cL0_sound (pagesT_ok W)) eqT_ok) (allT_ok W)) awake_ok
theorem cLT_sound (W : List AV) : (cLT TR W).Sound Try.prog := CallSem.withSpec_sound (cL1_sound W) atTT_ok
theorem cLN_sound (W : List AV) : (cLN TR W).Sound Try.prog := CallSem.withSpec_sound (cL1_sound W) atNT_ok
theorem cLO_sound (n0 : Int) (W : List AV) : (cLO TR n0 W).Sound Try.prog := CallSem.withJoin_sound (CallSem.withSpec_sound (cLT_sound W) (roundN_ok n0))
end Go.Proofs.Ythknakcbkkjhpaa
