/- MipsMeans, outright (chapter 14). -/
import Derived.Test.YtfnpnenndbdcpaaL14L
import Derived.Test.YtfnpnenndbdcpaaMipC
set_option linter.unusedVariables false
set_option linter.unusedSimpArgs false
namespace Go.Proofs.Ytfnpnenndbdcpaa
open Go Go.Sx Go.Fx
set_option maxRecDepth 100000
set_option linter.unusedVariables false
set_option linter.unusedSimpArgs false
theorem adr_id {wr : Bool} {n x : Int} (h : gA n = true) (h0 : 0 ≤ x) (h1 : x < n) : adr wr n x = x := by
  simp only [gA, Bool.and_eq_true, decide_eq_true_eq] at h
  unfold adr
  cases wr with
  | true => simp only [cond_true, rnd]; exact Int.emod_eq_of_lt h0 h1
  | false =>
    simp only [cond_false, clampV]
    rw [wi_id (n := n - 1) (by omega) (by omega)]
    split <;> split <;> omega
theorem txl_eq {wr : Bool} {D : Int} {Ls : List (List AV)} {l x y x' y' : Int} (hx : adr wr (szl D l) x = adr wr (szl D l) x') (hy : adr wr (szl D l) y = adr wr (szl D l) y') : txl wr D Ls l x y = txl wr D Ls l x' y' := by
  unfold txl idx; rw [hx, hy]
theorem eqc_refl (a : AV) : eqc a a = true := by simp [eqc]
theorem txl_at {wr : Bool} {D l : Int} {Ls : List (List AV)} {n x y : Nat} (ho : outB D l = false) (hs : szl D l = (n : Nat)) (h32 : n ≤ 32) (hx : x < n) (hy : y < n) : txl wr D Ls l (x : Nat) (y : Nat) = Go.Fx.cA ((Ls.getD l.toNat []).getD (y * n + x) .bad) := by
  have hg : gA (n : Nat) = true := by simp [gA]; omega
  have hyn : (y + 1) * n ≤ n * n := Nat.mul_le_mul_right n hy
  rw [Nat.succ_mul] at hyn
  have hnn : n * n ≤ 32 * 32 := Nat.mul_le_mul h32 h32
  have hi : idx wr (n : Nat) (x : Nat) (y : Nat) = ((y * n + x : Nat) : Int) := by
    unfold idx
    rw [adr_id hg (by omega) (by omega), adr_id hg (by omega) (by omega)]
    have e : (y : Int) * (n : Int) = ((y * n : Nat) : Int) := by rw [Int.natCast_mul]
    rw [e, wi_id (n := ((y * n : Nat) : Int)) (by omega) (by omega), wi_id (by omega) (by omega)]; omega
  unfold txl
  rw [ho, hs, hi]
  rfl
/-! held, or gone round -/
theorem k11_ {k s : Int} (h0 : -5 ≤ k) (h5 : k ≤ 5) (hs : 0 ≤ s ∧ s ≤ 32) : (-160 ≤ k * s ∧ k * s ≤ 160) ∧ 0 ≤ k * k ∧ k * k ≤ 25 := by
  have h11 : k = -5 ∨ k = -4 ∨ k = -3 ∨ k = -2 ∨ k = -1 ∨ k = 0 ∨ k = 1 ∨ k = 2 ∨ k = 3 ∨ k = 4 ∨ k = 5 := by omega
  rcases h11 with rfl | rfl | rfl | rfl | rfl | rfl | rfl | rfl | rfl | rfl | rfl <;> omega
theorem tail_true {wr : Bool} {D l s i j k : Int} {Ls : List (List AV)} (hs : szl D l = s) (h1 : 1 ≤ s) (h32 : s ≤ 32) (hi : 0 ≤ i ∧ i < s) (hj : 0 ≤ j ∧ j < s) (hk0 : -5 ≤ k) (hk5 : k ≤ 5) :
    tailM true wr (txl wr D Ls l) s i j k = some true := by
  obtain ⟨hb, hq⟩ := k11_ hk0 hk5 (s := s) (by omega)
  have e1 : wi (k * s) = k * s := wi_id (by omega) (by omega)
  have e2 : wi (k * k) = k * k := wi_id (by omega) (by omega)
  unfold tailM gd
  cases wr with
  | true =>
    have : txl true D Ls l (wi (i + wi (k * s))) (wi (j - wi (k * s))) = txl true D Ls l i j := by
      apply txl_eq <;> rw [hs, e1, wi_id (by omega) (by omega)] <;> simp only [adr, cond_true, rnd]
      · exact Int.add_mul_emod_self_right i k s
      · exact Int.sub_mul_emod_self_right j k s
    rw [this, eqc_refl]; rfl
  | false =>
    have c : ∀ x : Int, -100 ≤ x → x ≤ 100 → adr false s x = if s - 1 < (if 0 > x then 0 else x) then s - 1 else (if 0 > x then 0 else x) := by
      intro x _ _
      simp only [adr, cond_false, clampV]
      rw [wi_id (n := s - 1) (by omega) (by omega)]
    have t1 : txl false D Ls l (wi (-1 - wi (k * k))) j = txl false D Ls l 0 j := by
      refine txl_eq ?_ rfl
      rw [hs, e2, wi_id (by omega) (by omega), c _ (by omega) (by omega), c _ (by omega) (by omega)]
      repeat' split
      all_goals omega
    have t2 : txl false D Ls l (wi (s + wi (k * k))) s = txl false D Ls l (wi (s - 1)) (wi (s - 1)) := by
      rw [e2, wi_id (n := s + k * k) (by omega) (by omega), wi_id (n := s - 1) (by omega) (by omega)]
      apply txl_eq <;> rw [hs, c _ (by omega) (by omega), c _ (by omega) (by omega)]
      · repeat' split
        all_goals omega
      · repeat' split
        all_goals omega
    rw [t1, t2, eqc_refl, eqc_refl]; rfl
/-! between the least and the greatest -/
theorem mn_le (a b : Int) : mn a b ≤ a ∧ mn a b ≤ b := by unfold mn; split <;> omega
theorem le_mx (a b : Int) : a ≤ mx a b ∧ b ≤ mx a b := by unfold mx; split <;> omega
theorem byte_true {U : Int → Int → AV} {c : AV} {i j : Int} {b : Nat} {R : Option Bool} {v0 v1 v2 v3 : Int} (h0 : 0 ≤ v0 ∧ v0 ≤ 255) (h1 : 0 ≤ v1 ∧ v1 ≤ 255) (h2 : 0 ≤ v2 ∧ v2 ≤ 255) (h3 : 0 ≤ v3 ∧ v3 ≤ 255)
    (e0 : cv U i j b 0 = v0) (e1 : cv U i j b 1 = v1) (e2 : cv U i j b 2 = v2) (e3 : cv U i j b 3 = v3) (hc : cI c b = mnz v0 v1 v2 v3) : byteM true U c i j b R = R := by
  have hl : lowM U i j b ≤ v0 ∧ lowM U i j b ≤ v1 ∧ lowM U i j b ≤ v2 ∧ lowM U i j b ≤ v3 := by
    unfold lowM
    rw [e0, e1, e2, e3]
    have a1 := mn_le 255 v0
    have a2 := mn_le (mn 255 v0) v1
    have a3 := mn_le (mn (mn 255 v0) v1) v2
    have a4 := mn_le (mn (mn (mn 255 v0) v1) v2) v3
    omega
  have hh : v0 ≤ highM U i j b ∧ v1 ≤ highM U i j b ∧ v2 ≤ highM U i j b ∧ v3 ≤ highM U i j b := by
    unfold highM
    rw [e0, e1, e2, e3]
    have a1 := le_mx 0 v0
    have a2 := le_mx (mx 0 v0) v1
    have a3 := le_mx (mx (mx 0 v0) v1) v2
    have a4 := le_mx (mx (mx (mx 0 v0) v1) v2) v3
    omega
  rw [mnz_eq h0 h1 h2 h3] at hc
  unfold byteM gd
  rw [hc, wi_id (by omega) (by omega), decide_eq_false (by omega), decide_eq_false (by omega)]
  rfl
theorem cv_at {wr : Bool} {D m : Int} {Ls : List (List AV)} {s i j b : Nat} (ho : outB D m = false) (hs : szl D m = ((2 * s : Nat) : Int)) (h32 : 2 * s ≤ 32) (hi : i < s) (hj : j < s) (hb : b < 4) (hR : rowB (Ls.getD m.toNat [])) (hl : (Ls.getD m.toNat []).length = 2 * s * (2 * s)) {q : Int} {p r : Nat} (hq1 : q.tmod 2 = (p : Nat)) (hq2 : q.tdiv 2 = (r : Nat)) (hp : p < 2) (hr : r < 2) :
    cv (txl wr D Ls m) (i : Nat) (j : Nat) b q = cI ((Ls.getD m.toNat []).getD ((2 * j + r) * (2 * s) + (2 * i + p)) .bad) b ∧ 0 ≤ cI ((Ls.getD m.toNat []).getD ((2 * j + r) * (2 * s) + (2 * i + p)) .bad) b ∧ cI ((Ls.getD m.toNat []).getD ((2 * j + r) * (2 * s) + (2 * i + p)) .bad) b ≤ 255 := by
  have e1 : wi (wi (2 * (i : Int)) + q.tmod 2) = ((2 * i + p : Nat) : Int) := by
    rw [hq1, wi_id (n := 2 * (i : Int)) (by omega) (by omega), wi_id (by omega) (by omega)]; omega
  have e2 : wi (wi (2 * (j : Int)) + q.tdiv 2) = ((2 * j + r : Nat) : Int) := by
    rw [hq2, wi_id (n := 2 * (j : Int)) (by omega) (by omega), wi_id (by omega) (by omega)]; omega
  have hlt : (2 * j + r) * (2 * s) + (2 * i + p) < 2 * s * (2 * s) := by
    have : (2 * j + r + 1) * (2 * s) ≤ 2 * s * (2 * s) := Nat.mul_le_mul_right _ (by omega)
    rw [Nat.succ_mul] at this; omega
  have hok := rowB_at hR (by rw [hl]; exact hlt) b hb
  refine ⟨?_, hok⟩
  unfold cv
  rw [e1, e2, txl_at ho hs h32 (by omega) (by omega), cI_cA _ hb, wi_id (by omega) (by omega)]
theorem head_true {wr : Bool} {D m n : Int} {Ls : List (List AV)} {s i j : Nat} {R : Option Bool} (ho : outB D m = false) (hs : szl D m = ((2 * s : Nat) : Int)) (ho' : outB D n = false) (hs' : szl D n = (s : Nat)) (h32 : 2 * s ≤ 32) (hi : i < s) (hj : j < s) (hR : rowB (Ls.getD m.toNat [])) (hl : (Ls.getD m.toNat []).length = 2 * s * (2 * s))
    (hc : Ls.getD n.toNat [] = coarL (Ls.getD m.toNat []) (2 * s)) : headM true (txl wr D Ls m) (txl wr D Ls n (i : Nat) (j : Nat)) (i : Nat) (j : Nat) R = R := by
  have key : ∀ (b : Nat) (R : Option Bool), b < 4 → byteM true (txl wr D Ls m) (txl wr D Ls n (i : Nat) (j : Nat)) (i : Nat) (j : Nat) b R = R := by
    intro b R hb
    obtain ⟨e0, h0⟩ := cv_at (wr := wr) ho hs h32 hi hj hb hR hl (q := 0) (p := 0) (r := 0) rfl rfl (by omega) (by omega)
    obtain ⟨e1, h1⟩ := cv_at (wr := wr) ho hs h32 hi hj hb hR hl (q := 1) (p := 1) (r := 0) rfl rfl (by omega) (by omega)
    obtain ⟨e2, h2⟩ := cv_at (wr := wr) ho hs h32 hi hj hb hR hl (q := 2) (p := 0) (r := 1) rfl rfl (by omega) (by omega)
    obtain ⟨e3, h3⟩ := cv_at (wr := wr) ho hs h32 hi hj hb hR hl (q := 3) (p := 1) (r := 1) rfl rfl (by omega) (by omega)
    refine byte_true h0 h1 h2 h3 e0 e1 e2 e3 ?_
    rw [txl_at ho' hs' (by omega) hi hj, cI_cA _ hb, hc, coar_at _ hi hj, cI_mean _ _ _ _ hb]
    have x1 : (2 * j + 0) * (2 * s) + (2 * i + 0) = 2 * j * (2 * s) + 2 * i := rfl
    have x2 : (2 * j + 0) * (2 * s) + (2 * i + 1) = 2 * j * (2 * s) + 2 * i + 1 := rfl
    have x3 : (2 * j + 1) * (2 * s) + (2 * i + 0) = 2 * j * (2 * s) + 2 * i + 2 * s := by rw [Nat.succ_mul]; omega
    have x4 : (2 * j + 1) * (2 * s) + (2 * i + 1) = 2 * j * (2 * s) + 2 * i + 2 * s + 1 := by rw [Nat.succ_mul]; omega
    rw [x1, x2, x3, x4]
  unfold headM
  rw [key 0 _ (by omega), key 1 _ (by omega), key 2 _ (by omega), key 3 _ (by omega)]
theorem rnd_in (x : Int) {s : Nat} (h : 1 ≤ s) : ∃ i : Nat, rnd x s = (i : Nat) ∧ i < s := by
  have h0 : 0 ≤ rnd x s := Int.emod_nonneg _ (by omega)
  have h1 : rnd x s < s := Int.emod_lt_of_pos _ (by omega)
  exact ⟨(rnd x s).toNat, by omega, by omega⟩
theorem leaf0 {wr : Bool} {D : Int} {s : Nat} {L : List AV} (x y : Int) {k : Int} (hs : szl D 0 = (s : Nat)) (h1 : 1 ≤ s) (h32 : s ≤ 32) (hk0 : -5 ≤ k) (hk5 : k ≤ 5) : leafM true wr D 0 (szl D 0) L x y k = some true := by
  obtain ⟨i, ei, hi⟩ := rnd_in x h1
  obtain ⟨j, ej, hj⟩ := rnd_in y h1
  show tailM true wr (txl wr D (pyrL D L) 0) (szl D 0) (rnd x (szl D 0)) (rnd y (szl D 0)) k = some true
  rw [hs, ei, ej]
  exact tail_true hs (by omega) (by omega) (by omega) (by omega) hk0 hk5
theorem leafS {wr : Bool} {D : Int} {m s : Nat} {L : List AV} (x y : Int) {k : Int} (ho : outB D (m : Nat) = false) (hs : szl D (m : Nat) = ((2 * s : Nat) : Int)) (ho' : outB D ((m + 1 : Nat) : Int) = false) (hs' : szl D ((m + 1 : Nat) : Int) = (s : Nat)) (h1 : 1 ≤ s) (h32 : 2 * s ≤ 32) (hk0 : -5 ≤ k) (hk5 : k ≤ 5)
    (hR : rowB ((pyrL D L).getD m [])) (hl : ((pyrL D L).getD m []).length = 2 * s * (2 * s)) (hc : (pyrL D L).getD (m + 1) [] = coarL ((pyrL D L).getD m []) (2 * s)) : leafM true wr D (m + 1) (szl D ((m + 1 : Nat) : Int)) L x y k = some true := by
  obtain ⟨i, ei, hi⟩ := rnd_in x h1
  obtain ⟨j, ej, hj⟩ := rnd_in y h1
  show headM true _ _ _ _ _ = some true
  rw [hs', ei, ej, head_true ho hs ho' hs' h32 hi hj hR hl hc]
  exact tail_true hs' (by omega) (by omega) (by omega) (by omega) hk0 hk5
theorem pnt_B (N : Nat) (n : Int) (L : List AV) : rowB (pnt N n L) := rowB_paint _ _ _ _
theorem tree_true {wr : Bool} {D : Int} (hD : D = 0 ∨ D = 1 ∨ D = 2 ∨ D = 3) (L : List AV) (l x y : Int) {k : Int} (hk0 : -5 ≤ k) (hk5 : k ≤ 5) : treeM true wr D L l x y k = some true := by
  unfold treeM
  have hr : 0 ≤ rnd l (wi (D + 1)) ∧ rnd l (wi (D + 1)) < D + 1 := by
    rw [wi_id (by omega) (by omega)]
    exact ⟨Int.emod_nonneg _ (by omega), Int.emod_lt_of_pos _ (by omega)⟩
  have h4 : rnd l (wi (D + 1)) = 0 ∨ rnd l (wi (D + 1)) = 1 ∨ rnd l (wi (D + 1)) = 2 ∨ rnd l (wi (D + 1)) = 3 := by omega
  rcases h4 with h | h | h | h <;> rw [h]
  · show leafM true wr D 0 (szl D 0) L x y k = some true
    rcases hD with rfl | rfl | rfl | rfl
    · exact leaf0 (s := 4) x y (by decide) (by omega) (by omega) hk0 hk5
    · exact leaf0 (s := 8) x y (by decide) (by omega) (by omega) hk0 hk5
    · exact leaf0 (s := 16) x y (by decide) (by omega) (by omega) hk0 hk5
    · exact leaf0 (s := 32) x y (by decide) (by omega) (by omega) hk0 hk5
  · show (bif decide (1 ≤ D) then leafM true wr D 1 (szl D 1) L x y k else none) = some true
    rw [decide_eq_true (by omega), cond_true]
    rcases hD with rfl | rfl | rfl | rfl
    · omega
    · exact leafS (m := 0) (s := 4) x y (by decide) (by decide) (by decide) (by decide) (by omega) (by omega) hk0 hk5 (pnt_B _ _ _) (pnt_len _ _ _) rfl
    · exact leafS (m := 0) (s := 8) x y (by decide) (by decide) (by decide) (by decide) (by omega) (by omega) hk0 hk5 (pnt_B _ _ _) (pnt_len _ _ _) rfl
    · exact leafS (m := 0) (s := 16) x y (by decide) (by decide) (by decide) (by decide) (by omega) (by omega) hk0 hk5 (pnt_B _ _ _) (pnt_len _ _ _) rfl
  · show (bif decide (2 ≤ D) then leafM true wr D 2 (szl D 2) L x y k else none) = some true
    rw [decide_eq_true (by omega), cond_true]
    rcases hD with rfl | rfl | rfl | rfl
    · omega
    · omega
    · exact leafS (m := 1) (s := 4) x y (by decide) (by decide) (by decide) (by decide) (by omega) (by omega) hk0 hk5 (rowB_coar _ _) (coarL_len (m := 8)) rfl
    · exact leafS (m := 1) (s := 8) x y (by decide) (by decide) (by decide) (by decide) (by omega) (by omega) hk0 hk5 (rowB_coar _ _) (coarL_len (m := 16)) rfl
  · show (bif decide (3 ≤ D) then leafM true wr D 3 (szl D 3) L x y k else none) = some true
    rw [decide_eq_true (by omega), cond_true]
    rcases hD with rfl | rfl | rfl | rfl
    · omega
    · omega
    · omega
    · exact leafS (m := 2) (s := 4) x y (by decide) (by decide) (by decide) (by decide) (by omega) (by omega) hk0 hk5 (rowB_coar _ _) (coarL_len (m := 8)) rfl
theorem okL_pyr {D : Int} (hD : D = 0 ∨ D = 1 ∨ D = 2 ∨ D = 3) (L : List AV) : okL D (pyrL D L) = true := by
  have h1 : ∀ X : List AV, (coarL X 8).length = 16 := fun X => coarL_len (m := 4)
  have h2 : ∀ X : List AV, (coarL X 16).length = 64 := fun X => coarL_len (m := 8)
  have h3 : ∀ X : List AV, (coarL X 32).length = 256 := fun X => coarL_len (m := 16)
  rcases hD with rfl | rfl | rfl | rfl
  · show ((pnt 16 4 L).length == 16 && true) = true
    rw [pnt_len]; rfl
  · show ((pnt 64 8 L).length == 64 && ((coarL (pnt 64 8 L) 8).length == 16 && true)) = true
    rw [pnt_len, h1]; rfl
  · show ((pnt 256 16 L).length == 256 && ((coarL (pnt 256 16 L) 16).length == 64 && ((coarL (coarL (pnt 256 16 L) 16) 8).length == 16 && true))) = true
    rw [pnt_len, h2, h1]; rfl
  · show ((pnt 1024 32 L).length == 1024 && ((coarL (pnt 1024 32 L) 32).length == 256 && ((coarL (coarL (pnt 1024 32 L) 32) 16).length == 64 && ((coarL (coarL (coarL (pnt 1024 32 L) 32) 16) 8).length == 16 && true)))) = true
    rw [pnt_len, h3, h2, h1]; rfl
theorem law_true {D a0 a3 a4 a5 a6 : Int} {a1 : Bool} {L2 : List AV} (hD : D = 0 ∨ D = 1 ∨ D = 2 ∨ D = 3) (h : rnd a0 4 = D) : lawM okL D a0 a1 L2 a3 a4 a5 a6 = some true := by
  unfold lawM
  by_cases h1 : (L2.length : Int) > 50
  · rw [decide_eq_true h1]; rfl
  · rw [decide_eq_false h1, cond_false]
    by_cases h2 : a6 < -5
    · rw [decide_eq_true h2]; rfl
    · rw [decide_eq_false h2, cond_false]
      by_cases h3 : a6 > 5
      · rw [decide_eq_true h3]; rfl
      · rw [decide_eq_false h3, cond_false, h, okL_pyr hD]
        simp only [beq_self_eq_true, cond_true]
        exact tree_true hD L2 a3 a4 a5 (by omega) (by omega)
end Go.Proofs.Ytfnpnenndbdcpaa
