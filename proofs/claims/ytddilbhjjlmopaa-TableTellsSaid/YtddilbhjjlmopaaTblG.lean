/- What comes and goes (chapter 19): it is so, outright. -/
import Derived.Test.YtddilbhjjlmopaaTblF
set_option linter.unusedVariables false
set_option linter.unusedSimpArgs false
namespace Go.Fx
open Go Go.Sx
set_option linter.unusedVariables false
set_option linter.unusedSimpArgs false
theorem hv_sd {n k x : Int} (hn : n = 0 ∨ n = 1 ∨ n = 2 ∨ n = 3) (h0 : 0 ≤ k) (h1 : k ≤ n) (hx : 0 ≤ x) (hx' : x < sd n) : 0 ≤ hv x k ∧ hv x k < sd (n - k) := by
  unfold hv
  have s0 : sd 0 = 1 := rfl
  have s1 : sd 1 = 2 := rfl
  have s2 : sd 2 = 4 := rfl
  have s3 : sd 3 = 8 := rfl
  have hk : k = 0 ∨ k = 1 ∨ k = 2 ∨ k = 3 := by omega
  rw [Int.fdiv_eq_ediv_of_nonneg _ (by rcases hk with rfl | rfl | rfl | rfl <;> decide)]
  have p0 : ((2 : Int) ^ min (0 : Int).toNat 64) = 1 := rfl
  have p1 : ((2 : Int) ^ min (1 : Int).toNat 64) = 2 := rfl
  have p2 : ((2 : Int) ^ min (2 : Int).toNat 64) = 4 := rfl
  have p3 : ((2 : Int) ^ min (3 : Int).toNat 64) = 8 := rfl
  rcases hk with rfl | rfl | rfl | rfl
  · rw [p0, Int.sub_zero]; omega
  · rw [p1]
    rcases hn with rfl | rfl | rfl | rfl
    · omega
    · rw [s1] at hx'; show 0 ≤ x / 2 ∧ x / 2 < sd 0; rw [s0]; omega
    · rw [s2] at hx'; show 0 ≤ x / 2 ∧ x / 2 < sd 1; rw [s1]; omega
    · rw [s3] at hx'; show 0 ≤ x / 2 ∧ x / 2 < sd 2; rw [s2]; omega
  · rw [p2]
    rcases hn with rfl | rfl | rfl | rfl
    · omega
    · omega
    · rw [s2] at hx'; show 0 ≤ x / 4 ∧ x / 4 < sd 0; rw [s0]; omega
    · rw [s3] at hx'; show 0 ≤ x / 4 ∧ x / 4 < sd 1; rw [s1]; omega
  · rw [p3]
    rcases hn with rfl | rfl | rfl | rfl
    · omega
    · omega
    · omega
    · rw [s3] at hx'; show 0 ≤ x / 8 ∧ x / 8 < sd 0; rw [s0]; omega
theorem up_valid {d l x y m : Int} (hw : validB d l x y = true) (h : l ≤ m) (h' : m ≤ d) : validB d (u0 d l x y m) (u1 d l x y m) (u2 d l x y m) = true := by
  obtain ⟨⟨a, b, c, e⟩, h1, h2, h3, h4⟩ := validB_iff.1 hw
  have hu := u_of hw h h'
  unfold u0 u1 u2
  rw [hu]
  simp only [cond_true]
  have hn : d - l = 0 ∨ d - l = 1 ∨ d - l = 2 ∨ d - l = 3 := by omega
  have e1 : d - l - (m - l) = d - m := by omega
  obtain ⟨g1, g2⟩ := hv_sd (k := m - l) hn (by omega) (by omega) h1 h2
  obtain ⟨g3, g4⟩ := hv_sd (k := m - l) hn (by omega) (by omega) h3 h4
  rw [e1] at g2 g4
  exact validB_iff.2 ⟨⟨a, b, by omega, h'⟩, g1, g2, g3, g4⟩
theorem key_inj {d l x y l' x' y' : Int} (h : validB d l x y = true) (h' : validB d l' x' y' = true) (e : keyV d l x y = keyV d l' x' y') : l = l' ∧ x = x' ∧ y = y' := by
  rw [keyV_of h, keyV_of h'] at e
  obtain ⟨⟨a, b, c, q⟩, h1, h2, h3, h4⟩ := validB_iff.1 h
  obtain ⟨⟨a', b', c', q'⟩, g1, g2, g3, g4⟩ := validB_iff.1 h'
  have hn : d - l = 0 ∨ d - l = 1 ∨ d - l = 2 ∨ d - l = 3 := by omega
  have hn' : d - l' = 0 ∨ d - l' = 1 ∨ d - l' = 2 ∨ d - l' = 3 := by omega
  have s0 : sd 0 = 1 := rfl
  have s1 : sd 1 = 2 := rfl
  have s2 : sd 2 = 4 := rfl
  have s3 : sd 3 = 8 := rfl
  have t0 : ah 0 = 0 := rfl
  have t1 : ah 1 = 1 := rfl
  have t2 : ah 2 = 5 := rfl
  have t3 : ah 3 = 21 := rfl
  clear h h'
  generalize hq : d - l = n at *
  generalize hq' : d - l' = n' at *
  rcases hn with rfl | rfl | rfl | rfl <;> rcases hn' with rfl | rfl | rfl | rfl <;> simp only [s0, s1, s2, s3, t0, t1, t2, t3] at * <;> omega
theorem inT_at {T : List AV} {d l x y m : Int} (hw : validB d l x y = true) (h : l ≤ m) (h' : m ≤ d) : inT T d l x y m = atB T (keyV d (u0 d l x y m) (u1 d l x y m) (u2 d l x y m)) := by
  unfold inT thereB; rw [up_valid hw h h']; rfl
theorem lk_uniq {T : List AV} {d l x y m : Int} (hw : validB d l x y = true) (hT : atB T 0 = true) (h : l ≤ m) (h' : m ≤ d) (hi : inT T d l x y m = true) (hn : ∀ q, l ≤ q → q < m → inT T d l x y q = false) : lk T d l x y = m := by
  obtain ⟨_, k2, k3, k4, k5⟩ := lk_spec hw hT
  rcases Int.lt_trichotomy (lk T d l x y) m with g | g | g
  · rw [hn _ k2 g] at k4; cases k4
  · exact g
  · rw [k5 m h g] at hi; cases hi
theorem lkF_congr {T T' : List AV} {d l x y : Int} : ∀ (n : Nat) (m : Int), (∀ q, m ≤ q → q < m + n → inT T d l x y q = inT T' d l x y q) → lkF T d l x y n m = lkF T' d l x y n m
  | 0, _, _ => rfl
  | n + 1, m, h => by
    unfold lkF
    rw [h m (Int.le_refl m) (by omega), lkF_congr n (m + 1) fun q h1 h2 => h q (by omega) (by omega)]
theorem aF_congr {T T' : List AV} {d l x y : Int} (hw : validB d l x y = true) (h : ∀ k, 0 ≤ k → k < cn d → atB T k = atB T' k) : lkB T d l x y = lkB T' d l x y ∧ a0F T d l x y = a0F T' d l x y ∧ a1F T d l x y = a1F T' d l x y ∧ a2F T d l x y = a2F T' d l x y := by
  obtain ⟨⟨a, b, c, e⟩, _⟩ := validB_iff.1 hw
  have hl : lk T d l x y = lk T' d l x y := by
    unfold lk
    refine lkF_congr _ _ fun q h1 h2 => ?_
    have hq : q ≤ d := by omega
    obtain ⟨k0, k1⟩ := key_lt (up_valid hw h1 hq)
    rw [inT_at hw h1 hq, inT_at hw h1 hq, h _ k0 k1]
  have hb : lkB T d l x y = lkB T' d l x y := by unfold lkB; rw [hl]
  unfold a0F a1F a2F
  rw [hl, hb]
  exact ⟨rfl, rfl, rfl, rfl⟩
theorem atB_setI {T : List AV} {k j : Int} (b : Bool) (hk : 0 ≤ k) (hj : 0 ≤ j) (hl : j < (T.length : Int)) : atB (T.set k.toNat (bv b)) j = if k = j then b else atB T j := by
  have := atB_set T k.toNat j.toNat b
  rw [Int.toNat_of_nonneg hj] at this
  rw [this]
  by_cases e : k = j
  · rw [if_pos ⟨by omega, by omega⟩, if_pos e]
  · rw [if_neg (by omega), if_neg e]
theorem wasA_cI (T : List AV) (d : Int) (q : AV) : cI (wasA T d q) 0 = a0F T d (cI q 0) (cI q 1) (cI q 2) ∧ cI (wasA T d q) 1 = a1F T d (cI q 0) (cI q 1) (cI q 2) ∧ cI (wasA T d q) 2 = a2F T d (cI q 0) (cI q 1) (cI q 2) := ⟨rfl, rfl, rfl⟩
theorem eq3_refl (a b c : Int) : eq3 a b c a b c = true := by simp [eq3]
theorem eq3_iff {a b c x y z : Int} : eq3 a b c x y z = true ↔ a = x ∧ b = y ∧ c = z := by simp [eq3]
/-- one more is there -/
theorem okC_true {T : List AV} {d l x y : Int} {q : AV} (hp : validB d l x y = true) (hq : validB d (cI q 0) (cI q 1) (cI q 2) = true) (hT : atB T 0 = true) (hl : (T.length : Int) = cn d) :
    okC (setL T d l x y true) d q (wasA T d q) l x y = true := by
  have hs : setB d l x y true = true := by unfold setB; rw [hp]; simp
  have e2 : setL T d l x y true = T.set (keyV d l x y).toNat (bv true) := by unfold setL; rw [hs]; rfl
  rw [e2]
  obtain ⟨kp0, kp1⟩ := key_lt hp
  generalize hT2 : T.set (keyV d l x y).toNat (bv true) = T2
  have hat : ∀ k, 0 ≤ k → k < cn d → atB T2 k = if keyV d l x y = k then true else atB T k := fun k h0 h1 => by
    rw [← hT2]; exact atB_setI true kp0 h0 (by omega)
  have hT2r : atB T2 0 = true := by rw [hat 0 (by omega) (by omega)]; split <;> first | rfl | exact hT
  obtain ⟨w0, w1, w2⟩ := wasA_cI T d q
  unfold okC wcB badQ
  rw [w0, w1, w2]
  clear w0 w1 w2
  generalize cI q 0 = l1 at *
  generalize cI q 1 = x1 at *
  generalize cI q 2 = y1 at *
  obtain ⟨b1, k2, k3, k4, k5⟩ := lk_spec hq hT
  obtain ⟨q0, q1, q2⟩ := aF_of b1
  have ha : a0F T d l1 x1 y1 = lk T d l1 x1 y1 := by rw [q0, u0_of hq k2 k3]
  have hin : ∀ m, l1 ≤ m → m ≤ d → inT T2 d l1 x1 y1 m = if keyV d l x y = keyV d (u0 d l1 x1 y1 m) (u1 d l1 x1 y1 m) (u2 d l1 x1 y1 m) then true else inT T d l1 x1 y1 m := fun m h h' => by
    obtain ⟨g0, g1⟩ := key_lt (up_valid hq h h')
    rw [inT_at hq h h', inT_at hq h h', hat _ g0 g1]
  have hkey : ∀ m, l1 ≤ m → m ≤ d → keyV d l x y = keyV d (u0 d l1 x1 y1 m) (u1 d l1 x1 y1 m) (u2 d l1 x1 y1 m) → m = l ∧ eq3 (u0 d l1 x1 y1 l) (u1 d l1 x1 y1 l) (u2 d l1 x1 y1 l) l x y = true := fun m h h' hk => by
    obtain ⟨g0, g1, g2⟩ := key_inj hp (up_valid hq h h') hk
    have g3 := u0_of hq h h'
    have hm : m = l := by omega
    subst hm
    exact ⟨rfl, eq3_iff.2 ⟨g3, g1.symm, g2.symm⟩⟩
  obtain ⟨c1, _⟩ := lk_spec hq hT2r
  obtain ⟨r0, r1, r2⟩ := aF_of c1
  by_cases hc : (upB d l1 x1 y1 l = true ∧ eq3 (u0 d l1 x1 y1 l) (u1 d l1 x1 y1 l) (u2 d l1 x1 y1 l) l x y = true) ∧ l < lk T d l1 x1 y1
  · obtain ⟨⟨hu, he⟩, hlt⟩ := hc
    have hu' := hu
    unfold upB at hu'
    simp only [Bool.and_eq_true, decide_eq_true_eq] at hu'
    obtain ⟨e0, e1, e3⟩ := eq3_iff.1 he
    have hlk : lk T2 d l1 x1 y1 = l := lk_uniq hq hT2r hu'.2.1 hu'.2.2 (by rw [hin l hu'.2.1 hu'.2.2, e0, e1, e3, if_pos rfl]) fun r g1 g2 => by
      rw [hin r g1 (by omega), if_neg fun hk => by have := (hkey r g1 (by omega) hk).1; omega]
      exact k5 r g1 (by omega)
    rw [hu, he, ha, decide_eq_true (show lk T d l1 x1 y1 > l from hlt), r0, r1, r2, hlk, c1, he]
    rfl
  · have hw : ((upB d l1 x1 y1 l && eq3 (u0 d l1 x1 y1 l) (u1 d l1 x1 y1 l) (u2 d l1 x1 y1 l) l x y) && decide (a0F T d l1 x1 y1 > l)) = false := by
      rw [ha]
      cases h1 : upB d l1 x1 y1 l
      · rfl
      cases h2 : eq3 (u0 d l1 x1 y1 l) (u1 d l1 x1 y1 l) (u2 d l1 x1 y1 l) l x y
      · rfl
      · exact decide_eq_false fun h => hc ⟨⟨h1, h2⟩, h⟩
    have hlk : lk T2 d l1 x1 y1 = lk T d l1 x1 y1 := lk_uniq hq hT2r k2 k3 (by rw [hin _ k2 k3]; split <;> first | rfl | exact k4) fun r g1 g2 => by
      rw [hin r g1 (by omega), if_neg fun hk => ?_]
      · exact k5 r g1 g2
      · obtain ⟨z1, z2⟩ := hkey r g1 (by omega) hk
        subst z1
        exact hc ⟨⟨u_of hq g1 (by omega), z2⟩, g2⟩
    rw [hw, cond_false, c1, r0, r1, r2, hlk, q0, q1, q2, eq3_refl]
    rfl
/-- and goes again -/
theorem okD_true {T : List AV} {d l x y : Int} {q : AV} (hp : validB d l x y = true) (hq : validB d (cI q 0) (cI q 1) (cI q 2) = true) (hT : atB T 0 = true) (hl : (T.length : Int) = cn d) (hn : thereB T d l x y = false) :
    setB d l x y false = true ∧ okD (setL (setL T d l x y true) d l x y false) d q (wasA T d q) = true := by
  obtain ⟨kp0, kp1⟩ := key_lt hp
  have hn' : atB T (keyV d l x y) = false := by unfold thereB at hn; rw [hp] at hn; exact hn
  have hr : rootB d l x y = false := by
    cases h : rootB d l x y with
    | false => rfl
    | true =>
      obtain ⟨⟨a, b, c, e⟩, _⟩ := validB_iff.1 hp
      have hd : dB d = true := by simp [dB]; exact ⟨a, b⟩
      unfold rootB at h
      rw [hd] at h
      simp at h
      obtain ⟨rfl, rfl, rfl⟩ := h
      rw [(root_valid a b).2, hT] at hn'
      cases hn'
  have hs : setB d l x y true = true := by unfold setB; rw [hp]; simp
  have hs' : setB d l x y false = true := by unfold setB; rw [hp, hr]; rfl
  refine ⟨hs', ?_⟩
  have e2 : setL T d l x y true = T.set (keyV d l x y).toNat (bv true) := by unfold setL; rw [hs]; rfl
  have e3 : setL (setL T d l x y true) d l x y false = (T.set (keyV d l x y).toNat (bv true)).set (keyV d l x y).toNat (bv false) := by rw [e2]; unfold setL; rw [hs']; rfl
  rw [e3]
  have hat : ∀ k, 0 ≤ k → k < cn d → atB ((T.set (keyV d l x y).toNat (bv true)).set (keyV d l x y).toNat (bv false)) k = atB T k := fun k h0 h1 => by
    rw [atB_setI false kp0 h0 (by rw [List.length_set]; omega)]
    split
    · rename_i e; rw [← e, hn']
    · rename_i e; rw [atB_setI true kp0 h0 (by omega), if_neg e]
  obtain ⟨g0, g1, g2, g3⟩ := aF_congr hq hat
  unfold okD
  obtain ⟨w0, w1, w2⟩ := wasA_cI T d q
  rw [w0, w1, w2, g1, g2, g3, eq3_refl]
theorem comT_true {T A : List AV} {d l x y : Int} (hp : validB d l x y = true) (hA : goodL d A = true) (hT : atB T 0 = true) (hl : (T.length : Int) = cn d) : comT T A d l x y = some true := by
  obtain ⟨⟨a, b, c, e⟩, _⟩ := validB_iff.1 hp
  have hd : dB d = true := by simp [dB]; exact ⟨a, b⟩
  have hal := goodL_len hA
  have hs : setB d l x y true = true := by unfold setB; rw [hp]; simp
  have wat : ∀ i, i < A.length → (wasF T d A A.length 0).getD i .bad = wasA T d (A.getD i .bad) := fun i hi => by
    have := wasF_at T d A A.length 0 i hi
    rwa [Nat.zero_add] at this
  have hC : okCs (setL T d l x y true) d A (wasF T d A A.length 0) l x y = true := by
    simp only [okCs, List.all_eq_true]
    intro i hi
    have hi := List.mem_range.1 hi
    rw [wat i hi]
    exact okC_true hp (goodL_at hA hi).1 hT hl
  unfold comT gO
  rw [decide_eq_true hl, hd, decide_eq_true (show A.length ≤ 16384 by omega), wasF_len, decide_eq_true rfl, setL_len, decide_eq_true hl, hs, hC]
  cases hn : thereB T d l x y
  · obtain ⟨h1, _⟩ := okD_true (q := A.getD 0 .bad) hp (goodL_at hA (by omega)).1 hT hl hn
    have hD : okDs (setL (setL T d l x y true) d l x y false) d A (wasF T d A A.length 0) = true := by
      simp only [okDs, List.all_eq_true]
      intro i hi
      have hi := List.mem_range.1 hi
      rw [wat i hi]
      exact (okD_true hp (goodL_at hA hi).1 hT hl hn).2
    rw [h1, setL_len, setL_len, decide_eq_true hl, hD]
    rfl
  · rfl
theorem comD_true (L1 : List AV) (d : Nat) (a2 : Int) (hd : d ≤ 3) : comD L1 (pgs d) d a2 = some true := by
  have hA := goodL_pgs hd
  have hlen := goodL_len hA
  unfold comD gO
  by_cases h : (L1.length : Int) > 60
  · rw [decide_eq_true h]; rfl
  · have b0 := Int.emod_nonneg a2 (show ((pgs d).length : Int) ≠ 0 by omega)
    have b1 := Int.emod_lt_of_pos a2 (show 0 < ((pgs d).length : Int) by omega)
    have hk : (a2 % ((pgs d).length : Int)).toNat < (pgs d).length := by omega
    obtain ⟨n0, n1⟩ := newL_len (d : Int)
    rw [decide_eq_false h, cond_false, decide_eq_true (show L1.length ≤ 16384 by omega), hA, decide_eq_true n0, if_pos ⟨b0, b1⟩, if_pos hk]
    refine comT_true (goodL_at hA hk).1 hA (setF_root _ _ _ _ _ ?_ (n1 (by omega))) (by rw [setF_len]; exact n0)
    have : (0 : Int) < ((newLL (d : Int)).length : Int) := by rw [n0]; omega
    omega
end Go.Fx
