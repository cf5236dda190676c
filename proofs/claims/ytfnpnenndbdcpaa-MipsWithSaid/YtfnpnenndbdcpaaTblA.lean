/- The pages of a pyramid (chapter 11), outright. -/
import Derived.Test.YtfnpnenndbdcpaaFxC
set_option linter.unusedVariables false
set_option linter.unusedSimpArgs false
namespace Go.Fx
open Go Go.Sx
set_option linter.unusedVariables false
set_option linter.unusedSimpArgs false
def sd (n : Int) : Int := bif n == 0 then 1 else bif n == 1 then 2 else bif n == 2 then 4 else 8
def ah (n : Int) : Int := bif n == 0 then 0 else bif n == 1 then 1 else bif n == 2 then 5 else bif n == 3 then 21 else 85
def gS (d l : Int) : Bool := decide (0 ≤ d) && decide (d ≤ 3) && decide (0 ≤ l) && decide (l ≤ d)
def gA (d l : Int) : Bool := decide (0 ≤ d) && decide (d ≤ 3) && decide (-1 ≤ l) && decide (l ≤ d)
def sideS : FSpec := ⟨fun args k => match args with
  | [.lit (.int .i64 d), .lit (.int .i64 l)] => bif gS d l then k (i64 (sd (d - l))) else none
  | _ => none⟩
def aheadS : FSpec := ⟨fun args k => match args with
  | [.lit (.int .i64 d), .lit (.int .i64 l)] => bif gA d l then k (i64 (ah (d - l))) else none
  | _ => none⟩
theorem gS_iff {d l : Int} : gS d l = true ↔ 0 ≤ d ∧ d ≤ 3 ∧ 0 ≤ l ∧ l ≤ d := by simp [gS, and_assoc]
theorem gA_iff {d l : Int} : gA d l = true ↔ 0 ≤ d ∧ d ≤ 3 ∧ -1 ≤ l ∧ l ≤ d := by simp [gA, and_assoc]
theorem sideS_ok {P : Program} {f : FuncId} (h : ∀ d l, gS d l = true → PureOk P f [i64 d, i64 l] (i64 (sd (d - l)))) : sideS.Ok P f := by
  intro R args k r e
  simp only [sideS] at e
  split at e
  · rename_i d l
    simp only [cond_eq_ite] at e
    split at e
    · rename_i hg; exact ⟨_, e, h d l hg⟩
    · cases e
  · cases e
theorem aheadS_ok {P : Program} {f : FuncId} (h : ∀ d l, gA d l = true → PureOk P f [i64 d, i64 l] (i64 (ah (d - l)))) : aheadS.Ok P f := by
  intro R args k r e
  simp only [aheadS] at e
  split at e
  · rename_i d l
    simp only [cond_eq_ite] at e
    split at e
    · rename_i hg; exact ⟨_, e, h d l hg⟩
    · cases e
  · cases e
/-- by cases: all depths and levels -/
theorem dl_cases {p : Int → Int → Prop} (h00 : p 0 0) (h10 : p 1 0) (h11 : p 1 1) (h20 : p 2 0) (h21 : p 2 1) (h22 : p 2 2) (h30 : p 3 0) (h31 : p 3 1) (h32 : p 3 2) (h33 : p 3 3) {d l : Int} (h : gS d l = true) : p d l := by
  obtain ⟨a, b, c, e⟩ := gS_iff.1 h
  have hd : d = 0 ∨ d = 1 ∨ d = 2 ∨ d = 3 := by omega
  rcases hd with rfl | rfl | rfl | rfl
  · have : l = 0 := by omega
    subst this; exact h00
  · have : l = 0 ∨ l = 1 := by omega
    rcases this with rfl | rfl <;> assumption
  · have : l = 0 ∨ l = 1 ∨ l = 2 := by omega
    rcases this with rfl | rfl | rfl <;> assumption
  · have : l = 0 ∨ l = 1 ∨ l = 2 ∨ l = 3 := by omega
    rcases this with rfl | rfl | rfl | rfl <;> assumption
theorem dla_cases {p : Int → Int → Prop} (n0 : p 0 (-1)) (n1 : p 1 (-1)) (n2 : p 2 (-1)) (n3 : p 3 (-1)) (h00 : p 0 0) (h10 : p 1 0) (h11 : p 1 1) (h20 : p 2 0) (h21 : p 2 1) (h22 : p 2 2) (h30 : p 3 0) (h31 : p 3 1) (h32 : p 3 2) (h33 : p 3 3) {d l : Int} (h : gA d l = true) : p d l := by
  obtain ⟨a, b, c, e⟩ := gA_iff.1 h
  by_cases hl : l = -1
  · subst hl
    have hd : d = 0 ∨ d = 1 ∨ d = 2 ∨ d = 3 := by omega
    rcases hd with rfl | rfl | rfl | rfl <;> assumption
  · exact dl_cases h00 h10 h11 h20 h21 h22 h30 h31 h32 h33 (gS_iff.2 ⟨a, b, by omega, e⟩)
def dB (d : Int) : Bool := decide (d ≥ 0) && decide (d ≤ 3)
def validB (d l x y : Int) : Bool := gS d l && (decide (0 ≤ x) && (decide (x < sd (d - l)) && (decide (0 ≤ y) && decide (y < sd (d - l)))))
def keyV (d l x y : Int) : Int := bif validB d l x y then ah (d - l) + y * sd (d - l) + x else -1
def upB (d l x y m : Int) : Bool := validB d l x y && (decide (l ≤ m) && decide (m ≤ d))
def hv (x k : Int) : Int := x.fdiv (2 ^ min k.toNat 64)
def pageS (f : Int → Int → Int → Int → AV) : FSpec := ⟨fun args k => match args with
  | [.lit (.int .i64 d), .agg [.lit (.int .i64 l), .lit (.int .i64 x), .lit (.int .i64 y)]] => k (f d l x y)
  | _ => none⟩
theorem pageS_ok {P : Program} {f : FuncId} {g : Int → Int → Int → Int → AV} (h : ∀ d l x y, PureOk P f [i64 d, .agg [i64 l, i64 x, i64 y]] (g d l x y)) : (pageS g).Ok P f := by
  intro R args k r e
  simp only [pageS] at e
  split at e
  · exact ⟨_, e, h _ _ _ _⟩
  · cases e
def upS : FSpec := ⟨fun args k => match args with
  | [.lit (.int .i64 d), .agg [.lit (.int .i64 l), .lit (.int .i64 x), .lit (.int .i64 y)], .lit (.int .i64 m)] => k (.tup [.agg [i64 (bif upB d l x y m then m else 0), i64 (bif upB d l x y m then hv x (m - l) else 0), i64 (bif upB d l x y m then hv y (m - l) else 0)], .lit (.bool (upB d l x y m))])
  | _ => none⟩
theorem upS_ok {P : Program} {f : FuncId} (h : ∀ d l x y m, PureOk P f [i64 d, .agg [i64 l, i64 x, i64 y], i64 m] (.tup [.agg [i64 (bif upB d l x y m then m else 0), i64 (bif upB d l x y m then hv x (m - l) else 0), i64 (bif upB d l x y m then hv y (m - l) else 0)], .lit (.bool (upB d l x y m))])) : upS.Ok P f := by
  intro R args k r e
  simp only [upS] at e
  split at e
  · exact ⟨_, e, h _ _ _ _ _⟩
  · cases e
def validS : FSpec := pageS fun d l x y => .lit (.bool (validB d l x y))
def keyS : FSpec := pageS fun d l x y => i64 (keyV d l x y)
def rootS : FSpec := i1S fun d => .agg [i64 (bif dB d then d else 0), i64 0, i64 0]
theorem sd_cases (n : Int) : sd n = 1 ∨ sd n = 2 ∨ sd n = 4 ∨ sd n = 8 := by
  unfold sd
  cases (n == 0) <;> cases (n == 1) <;> cases (n == 2) <;> simp
theorem ah_cases (n : Int) : ah n = 0 ∨ ah n = 1 ∨ ah n = 5 ∨ ah n = 21 ∨ ah n = 85 := by
  unfold ah
  cases (n == 0) <;> cases (n == 1) <;> cases (n == 2) <;> cases (n == 3) <;> simp
theorem validB_iff {d l x y : Int} : validB d l x y = true ↔ (0 ≤ d ∧ d ≤ 3 ∧ 0 ≤ l ∧ l ≤ d) ∧ 0 ≤ x ∧ x < sd (d - l) ∧ 0 ≤ y ∧ y < sd (d - l) := by
  simp [validB, gS_iff]
theorem bo_eq {a b : Bool} (h : a = b) : (some (AV.lit (.bool a))) = some (.lit (.bool b)) := by rw [h]
theorem valid_eq (d l x y : Int) : (bif !dB d then some (AV.lit (.bool false)) else bif decide (l < 0) then some (.lit (.bool false)) else bif decide (l > d) then some (.lit (.bool false)) else bif gS d l then some (.lit (.bool (((decide (x ≥ 0) && decide (x < sd (d - l))) && decide (y ≥ 0)) && decide (y < sd (d - l))))) else none) = some (.lit (.bool (validB d l x y))) := by
  simp only [cond_eq_ite, Bool.not_eq_true', dB, Bool.and_eq_false_iff, decide_eq_false_iff_not, decide_eq_true_eq, gS_iff]
  split
  · exact bo_eq (by simp [validB, gS]; omega)
  split
  · exact bo_eq (by simp [validB, gS]; omega)
  split
  · exact bo_eq (by simp [validB, gS]; omega)
  rw [if_pos (by omega)]
  refine bo_eq ?_
  have hg : gS d l = true := gS_iff.2 (by omega)
  unfold validB
  rw [hg]
  simp [Bool.and_assoc]
theorem rvalid_eq (d l x y : Int) : (bif (decide (d ≥ 0) && decide (d ≤ 3)) then (bif (decide (l ≥ 0) && decide (l ≤ d)) then (bif gS d l then (bif (decide (x ≥ 0) && decide (x ≤ wi (sd (d - l) - 1))) then (bif gS d l then some (AV.lit (.bool (decide (y ≥ 0) && decide (y ≤ wi (sd (d - l) - 1))))) else none) else some (.lit (.bool false))) else none) else some (.lit (.bool false))) else some (.lit (.bool false))) = some (.lit (.bool (validB d l x y))) := by
  have hs := sd_cases (d - l)
  have e1 : wi (sd (d - l) - 1) = sd (d - l) - 1 := wi_id (by omega) (by omega)
  rw [e1]
  simp only [cond_eq_ite, Bool.and_eq_true, decide_eq_true_eq, gS_iff]
  split
  · split
    · rw [if_pos (by omega)]
      have hg : gS d l = true := gS_iff.2 (by omega)
      split
      · rw [if_pos (by omega)]
        refine bo_eq ?_
        unfold validB
        rw [hg, decide_eq_true (show 0 ≤ x by omega), decide_eq_true (show x < sd (d - l) by omega), Bool.true_and, Bool.true_and, Bool.true_and]
        congr 1
        exact decide_eq_decide.2 (by omega)
      · refine bo_eq ?_
        cases hv : validB d l x y with
        | false => rfl
        | true => have := validB_iff.1 hv; omega
    · refine bo_eq ?_
      cases hv : validB d l x y with
      | false => rfl
      | true => have := validB_iff.1 hv; omega
  · refine bo_eq ?_
    cases hv : validB d l x y with
    | false => rfl
    | true => have := validB_iff.1 hv; omega
theorem key_bd {d l x y : Int} (h : validB d l x y = true) : 0 ≤ y * sd (d - l) ∧ y * sd (d - l) ≤ 56 := by
  obtain ⟨_, h1, h2, h3, h4⟩ := validB_iff.1 h
  have hs := sd_cases (d - l)
  generalize sd (d - l) = s at *
  rcases hs with rfl | rfl | rfl | rfl <;> omega
theorem key_eq (d l x y : Int) : (bif !validB d l x y then some (i64 (-1)) else bif gA d l then (bif gS d l then some (i64 (wi (wi (ah (d - l) + wi (y * sd (d - l))) + x))) else none) else none) = some (i64 (keyV d l x y)) := by
  unfold keyV
  cases h : validB d l x y
  · rfl
  · have hb := key_bd h
    have hv := validB_iff.1 h
    have hsd := sd_cases (d - l)
    have ha := ah_cases (d - l)
    have g1 : gA d l = true := gA_iff.2 (by omega)
    have g2 : gS d l = true := gS_iff.2 (by omega)
    rw [g1, g2, wi_id (n := y * sd (d - l)) (by omega) (by omega), wi_id (n := ah (d - l) + y * sd (d - l)) (by omega) (by omega), wi_id (n := ah (d - l) + y * sd (d - l) + x) (by omega) (by omega)]
    rfl
def noP : AV := .tup [.agg [i64 0, i64 0, i64 0], .lit (.bool false)]
def upA (d l x y m : Int) : AV := .tup [.agg [i64 (bif upB d l x y m then m else 0), i64 (bif upB d l x y m then hv x (m - l) else 0), i64 (bif upB d l x y m then hv y (m - l) else 0)], .lit (.bool (upB d l x y m))]
theorem up_no {d l x y m : Int} (h : upB d l x y m = false) : upA d l x y m = noP := by unfold upA; rw [h]; rfl
theorem up_eq (d l x y m : Int) : (bif !validB d l x y then some noP else bif decide (m < l) then some noP else bif decide (m > d) then some noP else
    if wi (m - l) < 0 then none else if wi (m - l) < 0 then none else some (.tup [.agg [i64 m, i64 (hv x (wi (m - l))), i64 (hv y (wi (m - l)))], .lit (.bool true)])) = some (upA d l x y m) := by
  cases h : validB d l x y
  · rw [up_no (by unfold upB; rw [h]; rfl)]; rfl
  · have hv := validB_iff.1 h
    by_cases h1 : m < l
    · rw [decide_eq_true h1, up_no (by unfold upB; rw [h]; simp; omega)]; rfl
    · by_cases h2 : m > d
      · rw [decide_eq_false h1, decide_eq_true h2, up_no (by unfold upB; rw [h]; simp; omega)]; rfl
      · rw [decide_eq_false h1, decide_eq_false h2, wi_id (n := m - l) (by omega) (by omega), if_neg (by omega), if_neg (by omega)]
        have hu : upB d l x y m = true := by unfold upB; rw [h]; simp; omega
        unfold upA
        rw [hu]; rfl
theorem rup_eq (d l x y m : Int) : (bif !validB d l x y then some noP else bif !(decide (m ≥ l) && decide (m ≤ d)) then some noP else
    if wi (m - l) < 0 then none else if wi (m - l) < 0 then none else some (.tup [.agg [i64 m, i64 (hv x (wi (m - l))), i64 (hv y (wi (m - l)))], .lit (.bool true)])) = some (upA d l x y m) := by
  rw [← up_eq d l x y m]
  cases validB d l x y
  · rfl
  · by_cases h1 : m < l
    · rw [decide_eq_true h1, decide_eq_false (show ¬ m ≥ l by omega)]; rfl
    · rw [decide_eq_false h1, decide_eq_true (show m ≥ l by omega)]
      by_cases h2 : m > d
      · rw [decide_eq_true h2, decide_eq_false (show ¬ m ≤ d by omega)]; rfl
      · rw [decide_eq_false h2, decide_eq_true (show m ≤ d by omega)]; rfl
def cn (d : Int) : Int := bif dB d then ah (d + 1) else 0
theorem count_eq (d : Int) : (bif !dB d then some (i64 0) else bif gA d (-1) then some (i64 (ah (d - -1))) else none) = some (i64 (cn d)) := by
  unfold cn
  cases h : dB d
  · rfl
  · simp only [dB, Bool.and_eq_true, decide_eq_true_eq] at h
    have g : gA d (-1) = true := gA_iff.2 (by omega)
    rw [g]
    simp only [Bool.not_true, cond_false, cond_true, Int.sub_neg]
theorem root_eq (d : Int) : (bif !dB d then some (AV.agg [i64 0, i64 0, i64 0]) else some (.agg [i64 d, i64 0, i64 0])) = some (.agg [i64 (bif dB d then d else 0), i64 0, i64 0]) := by
  cases dB d <;> rfl
end Go.Fx
