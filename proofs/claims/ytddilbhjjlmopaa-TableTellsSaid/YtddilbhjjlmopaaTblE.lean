/- What is found is there, and nothing finer (chapter 19), outright. -/
import Derived.Test.YtddilbhjjlmopaaTblD
set_option linter.unusedVariables false
set_option linter.unusedSimpArgs false
namespace Go.Fx
open Go Go.Sx
set_option linter.unusedVariables false
set_option linter.unusedSimpArgs false
def a0F (T : List AV) (d l x y : Int) : Int := bif lkB T d l x y then u0 d l x y (lk T d l x y) else 0
def a1F (T : List AV) (d l x y : Int) : Int := bif lkB T d l x y then u1 d l x y (lk T d l x y) else 0
def a2F (T : List AV) (d l x y : Int) : Int := bif lkB T d l x y then u2 d l x y (lk T d l x y) else 0
def gT (T : List AV) (d : Int) (t : Option Bool) : Option Bool := bif decide ((T.length : Int) = cn d) then t else none
def eqF (d l x y m a0 a1 a2 : Int) : Bool := u0 d l x y m == a0 && (u1 d l x y m == a1 && (u2 d l x y m == a2 && true))
/-- nothing is wrong at level m -/
def okM (T : List AV) (d l x y a0 a1 a2 m : Int) : Bool := !(decide (m < a0) && inT T d l x y m) && !(m == a0 && !eqF d l x y m a0 a1 a2)
def okA (T : List AV) (d l x y a0 a1 a2 : Int) : Nat → Int → Bool
  | 0, _ => true
  | n + 1, m => okM T d l x y a0 a1 a2 m && okA T d l x y a0 a1 a2 n (m + 1)
def finT (T : List AV) (d l x y : Int) : Option Bool :=
  bif dB d && decide ((T.length : Int) = cn d) then
    (bif !lkB T d l x y then some false else gT T d (bif !thereB T d (a0F T d l x y) (a1F T d l x y) (a2F T d l x y) then some false else
      bif decide (a0F T d l x y < l) then some false else
      bif dB d && decide (0 ≤ l) && decide ((T.length : Int) = cn d) && okA T d l x y (a0F T d l x y) (a1F T d l x y) (a2F T d l x y) (d - l + 1).toNat l then some true else none))
  else none
/-- the whole of the law, for one depth -/
def finD (L1 A : List AV) (d a2 : Int) : Option Bool :=
  bif decide ((L1.length : Int) > 60) then some true else
  bif decide (L1.length ≤ 16384) && goodL d A && decide (((newLL d).length : Int) = cn d) then
    (if 0 ≤ a2 % (A.length : Int) ∧ a2 % (A.length : Int) < (A.length : Int) then (if (a2 % (A.length : Int)).toNat < A.length then
      finT (setF L1 A L1.length 0 (newLL d)) d (cI (A.getD (a2 % (A.length : Int)).toNat .bad) 0) (cI (A.getD (a2 % (A.length : Int)).toNat .bad) 1) (cI (A.getD (a2 % (A.length : Int)).toNat .bad) 2) else none) else none)
  else none
/-- the root of all is there: so one is found -/
theorem u_of {d l x y m : Int} (hv : validB d l x y = true) (h : l ≤ m) (h' : m ≤ d) : upB d l x y m = true := by
  unfold upB; rw [hv]; simp; exact ⟨h, h'⟩
theorem up_root {d l x y : Int} (hw : validB d l x y = true) : u0 d l x y d = d ∧ u1 d l x y d = 0 ∧ u2 d l x y d = 0 := by
  obtain ⟨⟨a, b, c, e⟩, h1, h2, h3, h4⟩ := validB_iff.1 hw
  have hu := u_of hw e (Int.le_refl d)
  have sh : ∀ z, 0 ≤ z → z < sd (d - l) → hv z (d - l) = 0 := by
    intro z z0 z1
    have hn : d - l = 0 ∨ d - l = 1 ∨ d - l = 2 ∨ d - l = 3 := by omega
    generalize d - l = n at *
    unfold hv
    rw [Int.fdiv_eq_ediv_of_nonneg _ (by
      rcases hn with rfl | rfl | rfl | rfl <;> decide)]
    rcases hn with rfl | rfl | rfl | rfl
    · have : z < 1 := z1
      have e1 : z = 0 := by omega
      subst e1; rfl
    · have : z < 2 := z1
      show z / 2 = 0; omega
    · have : z < 4 := z1
      show z / 4 = 0; omega
    · have : z < 8 := z1
      show z / 8 = 0; omega
  unfold u0 u1 u2
  rw [hu]
  exact ⟨rfl, sh x h1 h2, sh y h3 h4⟩
theorem root_valid {d : Int} (h0 : 0 ≤ d) (h1 : d ≤ 3) : validB d d 0 0 = true ∧ keyV d d 0 0 = 0 := by
  have hv : validB d d 0 0 = true := validB_iff.2 ⟨⟨h0, h1, h0, Int.le_refl d⟩, by omega, by rw [Int.sub_self]; decide, by omega, by rw [Int.sub_self]; decide⟩
  exact ⟨hv, by rw [keyV_of hv, Int.sub_self]; rfl⟩
theorem in_root {T : List AV} {d l x y : Int} (hv : validB d l x y = true) (hT : atB T 0 = true) : inT T d l x y d = true := by
  obtain ⟨⟨a, b, c, e⟩, _⟩ := validB_iff.1 hv
  obtain ⟨e0, e1, e2⟩ := up_root hv
  obtain ⟨r0, r1⟩ := root_valid a b
  unfold inT thereB
  rw [e0, e1, e2, r0, r1, hT]; rfl
/-- the first that is there -/
theorem lkF_spec (T : List AV) (d l x y : Int) : ∀ (n : Nat) (m : Int), 0 ≤ m → (∃ q, m ≤ q ∧ q < m + n ∧ inT T d l x y q = true) →
    m ≤ lkF T d l x y n m ∧ lkF T d l x y n m < m + n ∧ inT T d l x y (lkF T d l x y n m) = true ∧ ∀ q, m ≤ q → q < lkF T d l x y n m → inT T d l x y q = false
  | 0, m, _, ⟨q, h1, h2, _⟩ => by omega
  | n + 1, m, hm, ⟨q, h1, h2, h3⟩ => by
    unfold lkF
    cases hi : inT T d l x y m with
    | true => simp only [cond_true]; exact ⟨Int.le_refl _, by omega, hi, fun q h1 h2 => by omega⟩
    | false =>
      simp only [cond_false]
      have hq : m + 1 ≤ q := by
        by_cases e : q = m
        · subst e; rw [hi] at h3; cases h3
        · omega
      obtain ⟨g1, g2, g3, g4⟩ := lkF_spec T d l x y n (m + 1) (by omega) ⟨q, hq, by omega, h3⟩
      refine ⟨by omega, by omega, g3, fun q h1 h2 => ?_⟩
      by_cases e : q = m
      · subst e; exact hi
      · exact g4 q (by omega) h2
theorem lk_spec {T : List AV} {d l x y : Int} (hv : validB d l x y = true) (hT : atB T 0 = true) :
    lkB T d l x y = true ∧ l ≤ lk T d l x y ∧ lk T d l x y ≤ d ∧ inT T d l x y (lk T d l x y) = true ∧ ∀ q, l ≤ q → q < lk T d l x y → inT T d l x y q = false := by
  obtain ⟨⟨a, b, c, e⟩, _⟩ := validB_iff.1 hv
  obtain ⟨g1, g2, g3, g4⟩ := lkF_spec T d l x y (d - l + 1).toNat l c ⟨d, e, by omega, in_root hv hT⟩
  refine ⟨?_, g1, ?_, g3, g4⟩
  · unfold lkB; rw [hv]; simp; exact Int.le_trans c g1
  · have : lk T d l x y < l + ((d - l + 1).toNat : Nat) := g2
    omega
theorem aF_of {T : List AV} {d l x y : Int} (h : lkB T d l x y = true) : a0F T d l x y = u0 d l x y (lk T d l x y) ∧ a1F T d l x y = u1 d l x y (lk T d l x y) ∧ a2F T d l x y = u2 d l x y (lk T d l x y) := by
  unfold a0F a1F a2F; rw [h]; exact ⟨rfl, rfl, rfl⟩
theorem u0_of {d l x y m : Int} (hv : validB d l x y = true) (h : l ≤ m) (h' : m ≤ d) : u0 d l x y m = m := by
  unfold u0; rw [u_of hv h h']; rfl
theorem okA_true {T : List AV} {d l x y : Int} (hv : validB d l x y = true) (hT : atB T 0 = true) : ∀ (n : Nat) (m : Int), l ≤ m → m + n ≤ d + 1 → okA T d l x y (a0F T d l x y) (a1F T d l x y) (a2F T d l x y) n m = true
  | 0, _, _, _ => rfl
  | n + 1, m, h, h' => by
    obtain ⟨k1, k2, k3, k4, k5⟩ := lk_spec hv hT
    obtain ⟨q0, q1, q2⟩ := aF_of k1
    have ih := okA_true hv hT n (m + 1) (by omega) (by omega)
    have ha : a0F T d l x y = lk T d l x y := by rw [q0, u0_of hv k2 k3]
    unfold okA
    rw [ih, Bool.and_true]
    unfold okM
    have h1 : (decide (m < a0F T d l x y) && inT T d l x y m) = false := by
      rw [ha]
      by_cases hm : m < lk T d l x y
      · rw [k5 m h hm, Bool.and_false]
      · rw [decide_eq_false hm]; rfl
    have h2 : (m == a0F T d l x y && !eqF d l x y m (a0F T d l x y) (a1F T d l x y) (a2F T d l x y)) = false := by
      by_cases he : m = lk T d l x y
      · have : eqF d l x y m (a0F T d l x y) (a1F T d l x y) (a2F T d l x y) = true := by
          unfold eqF
          rw [q0, q1, q2, ← he]
          simp
        rw [this]; simp
      · rw [ha, show (m == lk T d l x y) = false by simpa using he]; rfl
    rw [h1, h2]; rfl
theorem finT_true {T : List AV} {d l x y : Int} (hv : validB d l x y = true) (hT : atB T 0 = true) (hl : (T.length : Int) = cn d) : finT T d l x y = some true := by
  obtain ⟨⟨a, b, c, e⟩, _⟩ := validB_iff.1 hv
  obtain ⟨k1, k2, k3, k4, k5⟩ := lk_spec hv hT
  obtain ⟨q0, q1, q2⟩ := aF_of k1
  have ha : a0F T d l x y = lk T d l x y := by rw [q0, u0_of hv k2 k3]
  have ht : thereB T d (a0F T d l x y) (a1F T d l x y) (a2F T d l x y) = true := by rw [q0, q1, q2]; exact k4
  have hd : dB d = true := by simp [dB]; exact ⟨a, b⟩
  unfold finT gT
  rw [hd, decide_eq_true hl, k1, ht, okA_true hv hT _ l (Int.le_refl l) (by omega), ha, decide_eq_false (show ¬ lk T d l x y < l by omega), decide_eq_true c]
  rfl
theorem finD_true (L1 : List AV) (d : Nat) (a2 : Int) (hd : d ≤ 3) : finD L1 (pgs d) d a2 = some true := by
  have hA := goodL_pgs hd
  have hlen := goodL_len hA
  unfold finD
  by_cases h : (L1.length : Int) > 60
  · rw [decide_eq_true h]; rfl
  · have b0 := Int.emod_nonneg a2 (show ((pgs d).length : Int) ≠ 0 by omega)
    have b1 := Int.emod_lt_of_pos a2 (show 0 < ((pgs d).length : Int) by omega)
    have hk : (a2 % ((pgs d).length : Int)).toNat < (pgs d).length := by omega
    obtain ⟨n0, n1⟩ := newL_len (d : Int)
    rw [decide_eq_false h, cond_false, decide_eq_true (show L1.length ≤ 16384 by omega), hA, decide_eq_true n0, if_pos ⟨b0, b1⟩, if_pos hk]
    refine finT_true (goodL_at hA hk).1 (setF_root _ _ _ _ _ ?_ (n1 (by omega))) (by rw [setF_len]; exact n0)
    have : (0 : Int) < ((newLL (d : Int)).length : Int) := by rw [n0]; omega
    omega
end Go.Fx
