/- PageTells: what its tests tell (chapter 11). -/
import Derived.Test.YthknakcbkkjhpaaL11L
set_option linter.unusedVariables false
set_option linter.unusedSimpArgs false
namespace Go.Proofs.Ythknakcbkkjhpaa
open Go Go.Sx Go.Fx
set_option maxRecDepth 100000
set_option linter.unusedVariables false
set_option linter.unusedSimpArgs false
theorem cn_le (d : Int) : cn d ≤ 85 := by
  by_cases h : 0 ≤ d ∧ d ≤ 3
  · have hc : d = 0 ∨ d = 1 ∨ d = 2 ∨ d = 3 := by omega
    have key : ∀ x : Int, decide (x ≤ 85) = true → x ≤ 85 := fun x hx => of_decide_eq_true hx
    rcases hc with rfl | rfl | rfl | rfl
    · exact key _ (by kernel_rfl)
    · exact key _ (by kernel_rfl)
    · exact key _ (by kernel_rfl)
    · exact key _ (by kernel_rfl)
  · rw [cn_neg (by simp [dB]; omega)]; omega
theorem pgK_take (d : Int) {m k : Nat} (h : k ≤ m) : (pgK d m).take k = pgK d k := by
  unfold pgK
  rw [← List.map_take, List.take_range, Nat.min_eq_left h]
theorem amt_k (d : Int) {k : Nat} (h : (k : Int) ≤ cn d) : amt d k = k := by
  unfold amt
  by_cases hh : (k : Int) < cn d
  · rw [decide_eq_true (by omega), decide_eq_true hh]; simp
  · rw [decide_eq_true (by omega), decide_eq_false hh]; simp; omega
theorem eq_self {W : List AV} (h : W.length ≤ 16384) : TR.eq W W = true := by
  show (decide (W.map c3I = W.map c3I) && decide (W.length ≤ 16384)) = true
  simp [h]
theorem g6_true (d key : Int) : g6 key (TR.rg d key) (inK (pgK d (cn d).toNat) key) (bif TR.rg d key then TR.aL d key else 0) (bif TR.rg d key then TR.aX d key else 0) (bif TR.rg d key then TR.aY d key else 0) (pgK d (cn d).toNat) = true := by
  have hc := cn_nonneg d
  have e : inK (pgK d (cn d).toNat) key = TR.rg d key := by
    unfold inK
    show _ = inR d key
    unfold inR
    rw [pgK_len]
    rw [show (((cn d).toNat : Nat) : Int) = cn d by omega]
    rw [show decide (key ≥ 0) = decide (0 ≤ key) from rfl]
    cases decide (0 ≤ key) <;> rfl
  rw [e]
  unfold g6
  cases hr : TR.rg d key
  · simp
  · have hk : inR d key = true := hr
    simp only [inR, Bool.and_eq_true, decide_eq_true_eq] at hk
    simp only [cond_true, pgK_len, beq_self_eq_true, Bool.true_and]
    rw [pgK_get d (show key.toNat < (cn d).toNat by omega), (cI_pgE d _).1, (cI_pgE d _).2.1, (cI_pgE d _).2.2, decide_eq_true hk.1, decide_eq_true (by omega)]
    simp [TR]
theorem g18_true (d l0 x0 y0 l most : Int) : g18 TR d (TR.ub d l0 x0 y0 l) (TR.ub d l0 x0 y0 l) (TR.rn most (wi (((pgK d (cn d).toNat).length : Int) + 1))) (TR.kv d l0 x0 y0) l0 x0 y0 (TR.ul d l0 x0 y0 l) (TR.ux d l0 x0 y0 l) (TR.uy d l0 x0 y0 l) (TR.ul d l0 x0 y0 l) (TR.ux d l0 x0 y0 l) (TR.uy d l0 x0 y0 l) (pgK d (cn d).toNat) = true := by
  have hc := cn_nonneg d
  have hl := cn_le d
  have e1 : wi (((pgK d (cn d).toNat).length : Int) + 1) = (((cn d).toNat + 1 : Nat) : Int) := by rw [pgK_len, wi_id (by omega) (by omega)]; omega
  rw [e1]
  obtain ⟨k, hk, hk'⟩ := rnd_in most (N := (cn d).toNat + 1) (by omega)
  rw [show TR.rn most (((cn d).toNat + 1 : Nat) : Int) = (k : Int) from hk]
  have ek : (pgK d (cn d).toNat).take k = pgK d k := pgK_take d (by omega)
  have es : cutC (some (i64 (k : Int))) k 0 (pgK d (cn d).toNat) = pgK d k := by
    show ((pgK d (cn d).toNat).take k).drop 0 = _
    rw [ek]; rfl
  unfold g18
  simp only [Int.toNat_natCast, es, ek, pgK_len, decide_true, Bool.true_and, Bool.and_eq_true, decide_eq_true_eq]
  refine ⟨⟨⟨⟨⟨⟨?_, by omega⟩, by omega⟩, ?_⟩, ?_⟩, ?_⟩, ?_⟩
  · refine ⟨⟨⟨⟨?_, trivial⟩, trivial⟩, trivial⟩, trivial⟩
    show cn d = _; omega
  · show sameL (pgK d (amt d (-1))) _ = true
    rw [amt_all]; exact sameL_self _
  · exact eq_self (by rw [pgK_len]; omega)
  · show sameL (pgK d (amt d k)) _ = true
    rw [amt_k d (by omega)]; exact sameL_self _
  · exact eq_self (by rw [pgK_len]; omega)
theorem tMid_true (x y : Int) : tMid TR x y (some true) = some true := by
  unfold tMid tCmp
  show (bif (bif decide (x ≥ 0) then decide (y ≥ 0) else false) then (bif decide (x < y) then (bif decide (x > y) then (bif cmV x y != 1 then some false else some true) else (bif cmV x y != -1 then some false else some true)) else (bif decide (x > y) then (bif cmV x y != 1 then some false else some true) else (bif cmV x y != 0 then some false else some true))) else some true) = some true
  rcases Int.lt_trichotomy x y with h | h | h
  · have e : cmV x y = -1 := by unfold cmV; rw [decide_eq_true h]; rfl
    rw [e, decide_eq_true h, decide_eq_false (show ¬ x > y by omega)]
    cases (bif decide (x ≥ 0) then decide (y ≥ 0) else false) <;> rfl
  · subst h
    have e : cmV x x = 0 := by unfold cmV; simp
    rw [e]
    simp
  · have e : cmV x y = 1 := by unfold cmV; rw [decide_eq_false (by omega), decide_eq_true h]; rfl
    rw [e, decide_eq_false (show ¬ x < y by omega), decide_eq_true h]
    cases (bif decide (x ≥ 0) then decide (y ≥ 0) else false) <;> rfl
theorem tTree_true (d l0 x0 y0 l1 x1 y1 key l most : Int) : tTree TR d l0 x0 y0 l1 x1 y1 key l most (pgK d (cn d).toNat) = some true := by
  have hc := cn_nonneg d
  have hl := cn_le d
  unfold tTree
  rw [show TR.pg d (pgK d (cn d).toNat) = true from sameL_self _, g6_true, g18_true]
  simp only [cond_true]
  rw [pgK_len, wi_id (by omega) (by omega), decide_eq_true (by omega), decide_eq_true (by omega), tMid_true]
  rfl
noncomputable def cTl (d : Int) : CallSem := cLP TR (pgK d (cn d).toNat)
theorem cTl_sound (d : Int) : (cTl d).Sound Try.prog := cLP_sound _
theorem cTl_loops (d : Int) : ∀ c, Try.f3.body = some c → LoopsOk Try.prog (cTl d).loops c := cLP_loops _
theorem tells_true (a0 : Int) (a1_0 : Int) (a1_1 : Int) (a1_2 : Int) (a2_0 : Int) (a2_1 : Int) (a2_2 : Int) (a3 : Int) (a4 : Int) (a5 : Int) : bodyK (cTl a0) Try.prog 9 Try.f3 [.lit (.int .i64 a0), .agg [.lit (.int .i64 a1_0), .lit (.int .i64 a1_1), .lit (.int .i64 a1_2)], .agg [.lit (.int .i64 a2_0), .lit (.int .i64 a2_1), .lit (.int .i64 a2_2)], .lit (.int .i64 a3), .lit (.int .i64 a4), .lit (.int .i64 a5)] Sx.empty boolOf = some true :=
  (tells_T TR _ _ _ _ _ _ _ _ _ _ _).trans (tTree_true _ _ _ _ _ _ _ _ _ _)
end Go.Proofs.Ythknakcbkkjhpaa
