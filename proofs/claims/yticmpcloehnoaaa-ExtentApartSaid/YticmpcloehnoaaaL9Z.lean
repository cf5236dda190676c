/- ExtentApart: its loop (chapter 9). -/
import Derived.Test.YticmpcloehnoaaaL9Y
set_option linter.unusedVariables false
set_option linter.unusedSimpArgs false
namespace Go.Proofs.Yticmpcloehnoaaa
open Go Go.Sx Go.Fx
set_option maxRecDepth 100000
set_option linter.unusedVariables false
set_option linter.unusedSimpArgs false
structure Sg where
  O : List AV
  L : List AV
  u : Int
  j : Nat
structure InvM (N : Nat) (s : Sg) : Prop where
  sim : Sim s.O s.L
  len : s.L.length = N
  used : s.u = (usedN s.L s.L.length : Nat)
def kN (sz : List AV) (j : Nat) : Nat := (kOf sz j).toNat
def backB (bk : List AV) (j : Nat) : Bool := decide (j < bk.length) && bA bk j
/-- a turn, as a reckoning -/
def goM (sz bk : List AV) (s : Sg) : Sg := match fit s.L (kN sz s.j) with
  | none => ⟨s.O, s.L, s.u, s.j + 1⟩
  | some p => bif backB bk s.j then ⟨setI (setI s.O p (wi ((s.j : Int) + 1)) (kN sz s.j)) p 0 (kN sz s.j), setN (setN s.L p true (kN sz s.j)) p false (kN sz s.j), wi (wi (s.u + (kN sz s.j : Nat)) - (kN sz s.j : Nat)), s.j + 1⟩
    else ⟨setI s.O p (wi ((s.j : Int) + 1)) (kN sz s.j), setN s.L p true (kN sz s.j), wi (s.u + (kN sz s.j : Nat)), s.j + 1⟩
theorem goM_j (sz bk : List AV) (s : Sg) : (goM sz bk s).j = s.j + 1 := by
  unfold goM
  cases fit s.L (kN sz s.j) with
  | none => rfl
  | some p => cases backB bk s.j <;> rfl
theorem kOf_eq (sz : List AV) (j : Nat) : kOf sz j = (kN sz j : Nat) ∧ 1 ≤ kN sz j ∧ kN sz j ≤ 12 := by
  have h1 : 0 ≤ rnd (gI sz j) 12 := Int.emod_nonneg _ (by omega)
  have h2 : rnd (gI sz j) 12 < 12 := Int.emod_lt_of_pos _ (by omega)
  unfold kN kOf
  rw [wi_s (by omega) (by omega)]
  omega
theorem took_cells {L : List AV} {p k : Nat} (h : fit L k = some p) : p + k ≤ L.length ∧ ∀ x, p ≤ x → x < p + k → bA L x = false := by
  obtain ⟨_, h1, h2⟩ := fitF_spec L k _ _ _ h
  exact ⟨h1, allN_iff.1 h2⟩
theorem inv_go {N : Nat} (hN : N ≤ 65535) {sz bk : List AV} {s : Sg} (hs : InvM N s) (hj : s.j < 65536) : InvM N (goM sz bk s) := by
  obtain ⟨_, hk1, hk2⟩ := kOf_eq sz s.j
  unfold goM
  cases hf : fit s.L (kN sz s.j) with
  | none => exact ⟨hs.sim, hs.len, hs.used⟩
  | some p =>
    obtain ⟨h1, h2⟩ := took_cells hf
    have hlen := hs.len
    have hu := usedN_le s.L s.L.length
    have hw : (wi ((s.j : Int) + 1) != 0) = true := by rw [wi_s (by omega) (by omega)]; simp; omega
    have hsim := sim_set hs.sim h1 hw
    have hused := used_took h1 h2
    have hu' := usedN_le (setN s.L p true (kN sz s.j)) s.L.length
    have e1 : wi (s.u + (kN sz s.j : Nat)) = ((usedN s.L s.L.length + kN sz s.j : Nat) : Int) := by rw [hs.used, wi_s (by omega) (by omega)]; omega
    cases hb : backB bk s.j
    · refine ⟨hsim, by rw [← hlen]; exact setN_len _ _ _ _, ?_⟩
      show wi (s.u + (kN sz s.j : Nat)) = (usedN (setN s.L p true (kN sz s.j)) (setN s.L p true (kN sz s.j)).length : Nat)
      rw [setN_len, hused, e1]
    · refine ⟨sim_set hsim (by rw [setN_len]; exact h1) rfl, ?_, ?_⟩
      · show (setN (setN s.L p true (kN sz s.j)) p false (kN sz s.j)).length = N
        rw [setN_len, setN_len]; exact hlen
      · show wi (wi (s.u + (kN sz s.j : Nat)) - (kN sz s.j : Nat)) = (usedN (setN (setN s.L p true (kN sz s.j)) p false (kN sz s.j)) (setN (setN s.L p true (kN sz s.j)) p false (kN sz s.j)).length : Nat)
        have hc : usedN (setN (setN s.L p true (kN sz s.j)) p false (kN sz s.j)) s.L.length = usedN s.L s.L.length := used_cong fun x hx => by
          rw [setN_get false x (by rw [setN_len]; exact h1), setN_get true x h1]
          by_cases q : p ≤ x ∧ x < p + kN sz s.j
          · rw [if_pos q]; exact (h2 x q.1 q.2).symm
          · rw [if_neg q, if_neg q]
        rw [setN_len, setN_len, hc, e1, wi_s (by omega) (by omega)]; omega
theorem treeM_ok {α : Type} {N : Nat} (h0 : 0 < N) (hN : N ≤ 65535) {sz bk : List AV} {s : Sg} (hs : InvM N s) (hj : s.j < sz.length) (hsz : sz.length ≤ 65536) (F A : List AV → List AV → Int → α) :
    treeM N sz bk s.O s.L s.u s.j F A = some (A (goM sz bk s).O (goM sz bk s).L (goM sz bk s).u) := by
  obtain ⟨hk, hk1, hk2⟩ := kOf_eq sz s.j
  have hlen := hs.len
  have hOl := hs.sim.len
  have hinv := inv_go hN (sz := sz) (bk := bk) hs (by omega)
  unfold treeM
  rw [ix_in hj, show gM s.O N = true by unfold gM; rw [decide_eq_true (by omega), decide_eq_true (by omega)]; rfl, decide_eq_true (show 0 < s.L.length by omega), decide_eq_true (show s.L.length ≤ 65535 by omega), hk]
  simp only [Bool.and_self, cond_true]
  have hnk : ¬ ((kN sz s.j : Nat) : Int) < 1 := by omega
  have hsr := srchR_fit hs.sim (by omega) hk1 (show kN sz s.j ≤ 65536 by omega)
  unfold goM at hinv ⊢
  cases hf : fit s.L (kN sz s.j) with
  | none =>
    rw [hf] at hsr
    have hv : takeV s.L (kN sz s.j : Nat) = 0 := by unfold takeV; rw [decide_eq_false hnk, Int.toNat_natCast, hf]; rfl
    have he : takeE s.L (kN sz s.j : Nat) = 6 := by unfold takeE; rw [decide_eq_false hnk, Int.toNat_natCast, hf]; rfl
    have hl : takeL s.L (kN sz s.j : Nat) = s.L := by unfold takeL; rw [decide_eq_false hnk, Int.toNat_natCast, hf]; rfl
    rw [hsr, hv, he, hl]
    rfl
  | some p =>
    rw [hf] at hinv hsr
    obtain ⟨h1, h2⟩ := took_cells hf
    have hok : okS s.O (p : Nat) (kN sz s.j : Nat) = true := okS_nat (by rw [hOl]; exact h1) (by omega)
    have hok2 : okS (setI s.O p (wi ((s.j : Int) + 1)) (kN sz s.j)) (p : Nat) (kN sz s.j : Nat) = true := okS_nat (by rw [setI_len, hOl]; exact h1) (by rw [setI_len]; omega)
    have hv : takeV s.L (kN sz s.j : Nat) = (p : Nat) := by unfold takeV; rw [decide_eq_false hnk, Int.toNat_natCast, hf]; rfl
    have he : takeE s.L (kN sz s.j : Nat) = 0 := by unfold takeE; rw [decide_eq_false hnk, Int.toNat_natCast, hf]; rfl
    have hl : takeL s.L (kN sz s.j : Nat) = setN s.L p true (kN sz s.j) := by unfold takeL; rw [decide_eq_false hnk, Int.toNat_natCast, hf]; rfl
    have hsr' : (srchR s.O (kN sz s.j : Nat)).1 = (p : Nat) := hsr
    rw [hsr', hv, he, hl, decide_eq_false (show ¬ ((p : Nat) : Int) < 0 by omega)]
    simp only [cond_false, bne_self_eq_false]
    unfold tookM
    rw [decide_eq_true rfl, hok]
    simp only [Bool.and_self, cond_true, Int.toNat_natCast]
    have hend : ∀ (L : List AV) (u : Int) (x y : α), L.length = N → u = (usedN L L.length : Nat) → endM L u x y = some y := by
      intro L u x y hl hu
      unfold endM
      rw [decide_eq_true (by omega), hu]
      simp
    have hlen1 : (setN s.L p true (kN sz s.j)).length = N := by rw [setN_len]; exact hlen
    have hb2 : (bif decide ((s.j : Int) < (bk.length : Int)) then bA bk s.j else false) = backB bk s.j := by
      unfold backB
      by_cases h : s.j < bk.length
      · rw [decide_eq_true (by omega), decide_eq_true h]; rfl
      · rw [decide_eq_false (by omega), decide_eq_false h]; rfl
    cases hb : backB bk s.j
    · rw [hb] at hinv hb2
      have hfin := hend _ _ (F (setI s.O p (wi ((s.j : Int) + 1)) (kN sz s.j)) (setN s.L p true (kN sz s.j)) (wi (s.u + (kN sz s.j : Nat)))) (A (setI s.O p (wi ((s.j : Int) + 1)) (kN sz s.j)) (setN s.L p true (kN sz s.j)) (wi (s.u + (kN sz s.j : Nat)))) hinv.len hinv.used
      by_cases h : s.j < bk.length
      · rw [decide_eq_true (show (s.j : Int) < (bk.length : Int) by omega)] at hb2 ⊢
        simp only [cond_true] at hb2 ⊢
        rw [ix_in h, show atB bk ((s.j : Nat) : Int) = bA bk s.j from rfl, hb2]
        exact hfin
      · rw [decide_eq_false (show ¬ (s.j : Int) < (bk.length : Int) by omega)]
        exact hfin
    · rw [hb] at hinv hb2
      have h : s.j < bk.length := by
        unfold backB at hb
        simp only [Bool.and_eq_true, decide_eq_true_eq] at hb
        exact hb.1
      rw [decide_eq_true (show (s.j : Int) < (bk.length : Int) by omega)] at hb2 ⊢
      simp only [cond_true] at hb2 ⊢
      rw [ix_in h, show atB bk ((s.j : Nat) : Int) = bA bk s.j from rfl, hb2, cond_true]
      have hm1 : mayB (setN s.L p true (kN sz s.j)) (p : Nat) (kN sz s.j : Nat) = true := by rw [may_nat hk1, setN_len]; exact decide_eq_true h1
      have ha1 : allN (setN s.L p true (kN sz s.j)) p true (kN sz s.j) = true := allN_iff.2 fun x g1 g2 => by rw [setN_get true x h1, if_pos ⟨g1, g2⟩]
      have ht1 : turnL (setN s.L p true (kN sz s.j)) (p : Nat) (kN sz s.j : Nat) true = setN (setN s.L p true (kN sz s.j)) p false (kN sz s.j) := by
        unfold turnL; rw [hm1, Int.toNat_natCast, Int.toNat_natCast, ha1]; rfl
      have he1 : turnE (setN s.L p true (kN sz s.j)) (p : Nat) (kN sz s.j : Nat) true 4 = 0 := by
        unfold turnE; rw [hm1, Int.toNat_natCast, Int.toNat_natCast, ha1]; rfl
      have ha2 : allN (setN (setN s.L p true (kN sz s.j)) p false (kN sz s.j)) p true (kN sz s.j) = false := by
        cases hq : allN (setN (setN s.L p true (kN sz s.j)) p false (kN sz s.j)) p true (kN sz s.j) with
        | false => rfl
        | true =>
          have := (allN_iff.1 hq) p (Nat.le_refl _) (by omega)
          rw [setN_get false p (by rw [setN_len]; exact h1), if_pos ⟨Nat.le_refl _, by omega⟩] at this
          cases this
      have hm2 : mayB (setN (setN s.L p true (kN sz s.j)) p false (kN sz s.j)) (p : Nat) (kN sz s.j : Nat) = true := by rw [may_nat hk1, setN_len, setN_len]; exact decide_eq_true h1
      have ht2 : turnL (setN (setN s.L p true (kN sz s.j)) p false (kN sz s.j)) (p : Nat) (kN sz s.j : Nat) true = setN (setN s.L p true (kN sz s.j)) p false (kN sz s.j) := by
        unfold turnL; rw [hm2, Int.toNat_natCast, Int.toNat_natCast, ha2]; rfl
      have he2 : turnE (setN (setN s.L p true (kN sz s.j)) p false (kN sz s.j)) (p : Nat) (kN sz s.j : Nat) true 4 = 4 := by
        unfold turnE; rw [hm2, Int.toNat_natCast, Int.toNat_natCast, ha2]; rfl
      unfold giveM
      rw [decide_eq_true (show (setN s.L p true (kN sz s.j)).length ≤ 65536 by omega), he1, ht1, he2, ht2, decide_eq_true rfl, hok2, decide_eq_true (show (setN (setN s.L p true (kN sz s.j)) p false (kN sz s.j)).length ≤ 65536 by rw [setN_len]; omega), Int.toNat_natCast, Int.toNat_natCast]
      exact hend _ _ _ _ hinv.len hinv.used
end Go.Proofs.Yticmpcloehnoaaa
