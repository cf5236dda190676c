/- Which pixels a triangle covers, and what is shown inside (chapters 26, 27), of no program. -/
import Derived.Test.YthnkgakjnfghoaaPerspD
set_option linter.unusedVariables false
set_option linter.unusedSimpArgs false
namespace Go.Fx
open Go Go.Sx

def cvBad : AV := .tup [.agg [i64 0, i64 0, i64 0], .lit (.bool false)]
def cvT (e ax ay bx by_ : Int) (k : Option AV) : Option AV :=
  bif (bif decide (e < 0) then true else (bif (bif e == 0 then !(bif ay == by_ then decide (bx > ax) else false) else false) then !decide (by_ < ay) else false)) then some cvBad else k
def cvI (e ax ay bx by_ : Int) : Bool := !decide (e < 0) && !(e == 0 && (!(ay == by_ && decide (bx > ax)) && !decide (by_ < ay)))
theorem cvT_eq (e ax ay bx by_ : Int) (k : Option AV) : cvT e ax ay bx by_ k = bif cvI e ax ay bx by_ then k else some cvBad := by
  unfold cvT cvI
  cases decide (e < 0) <;> cases e == 0 <;> cases ay == by_ <;> cases decide (bx > ax) <;> cases decide (by_ < ay) <;> rfl
def cvTree : List Int → Int → Int → Option AV
  | [x0, y0, z0, w0, u0, v0, x1, y1, z1, w1, u1, v1, x2, y2, z2, w2, u2, v2], px, py => bif decide (arV [x0, y0, z0, w0, u0, v0, x1, y1, z1, w1, u1, v1, x2, y2, z2, w2, u2, v2] ≤ 0) then some cvBad else
      cvT (e0V [x0, y0, z0, w0, u0, v0, x1, y1, z1, w1, u1, v1, x2, y2, z2, w2, u2, v2] (mid px) (mid py)) x1 y1 x2 y2 (cvT (e1V [x0, y0, z0, w0, u0, v0, x1, y1, z1, w1, u1, v1, x2, y2, z2, w2, u2, v2] (mid px) (mid py)) x2 y2 x0 y0 (cvT (e2V [x0, y0, z0, w0, u0, v0, x1, y1, z1, w1, u1, v1, x2, y2, z2, w2, u2, v2] (mid px) (mid py)) x0 y0 x1 y1 (some (.tup [edA [x0, y0, z0, w0, u0, v0, x1, y1, z1, w1, u1, v1, x2, y2, z2, w2, u2, v2] (mid px) (mid py), .lit (.bool true)]))))
  | _, _, _ => none
def cvB : List Int → Int → Int → Bool
  | [x0, y0, z0, w0, u0, v0, x1, y1, z1, w1, u1, v1, x2, y2, z2, w2, u2, v2], px, py => !decide (arV [x0, y0, z0, w0, u0, v0, x1, y1, z1, w1, u1, v1, x2, y2, z2, w2, u2, v2] ≤ 0) && (cvI (e0V [x0, y0, z0, w0, u0, v0, x1, y1, z1, w1, u1, v1, x2, y2, z2, w2, u2, v2] (mid px) (mid py)) x1 y1 x2 y2 && (cvI (e1V [x0, y0, z0, w0, u0, v0, x1, y1, z1, w1, u1, v1, x2, y2, z2, w2, u2, v2] (mid px) (mid py)) x2 y2 x0 y0 && cvI (e2V [x0, y0, z0, w0, u0, v0, x1, y1, z1, w1, u1, v1, x2, y2, z2, w2, u2, v2] (mid px) (mid py)) x0 y0 x1 y1))
  | _, _, _ => false
def cvA (t : List Int) (px py : Int) : AV := .tup [.agg [i64 (bif cvB t px py then e0V t (mid px) (mid py) else 0), i64 (bif cvB t px py then e1V t (mid px) (mid py) else 0), i64 (bif cvB t px py then e2V t (mid px) (mid py) else 0)], .lit (.bool (cvB t px py))]
theorem cvTree_eq (x0 y0 z0 w0 u0 v0 x1 y1 z1 w1 u1 v1 x2 y2 z2 w2 u2 v2 px py : Int) : cvTree [x0, y0, z0, w0, u0, v0, x1, y1, z1, w1, u1, v1, x2, y2, z2, w2, u2, v2] px py = some (cvA [x0, y0, z0, w0, u0, v0, x1, y1, z1, w1, u1, v1, x2, y2, z2, w2, u2, v2] px py) := by
  show (bif decide (arV [x0, y0, z0, w0, u0, v0, x1, y1, z1, w1, u1, v1, x2, y2, z2, w2, u2, v2] ≤ 0) then some cvBad else cvT _ _ _ _ _ (cvT _ _ _ _ _ (cvT _ _ _ _ _ _))) = _
  rw [cvT_eq, cvT_eq, cvT_eq]
  unfold cvA
  have hb : cvB [x0, y0, z0, w0, u0, v0, x1, y1, z1, w1, u1, v1, x2, y2, z2, w2, u2, v2] px py = (!decide (arV [x0, y0, z0, w0, u0, v0, x1, y1, z1, w1, u1, v1, x2, y2, z2, w2, u2, v2] ≤ 0) && (cvI (e0V [x0, y0, z0, w0, u0, v0, x1, y1, z1, w1, u1, v1, x2, y2, z2, w2, u2, v2] (mid px) (mid py)) x1 y1 x2 y2 && (cvI (e1V [x0, y0, z0, w0, u0, v0, x1, y1, z1, w1, u1, v1, x2, y2, z2, w2, u2, v2] (mid px) (mid py)) x2 y2 x0 y0 && cvI (e2V [x0, y0, z0, w0, u0, v0, x1, y1, z1, w1, u1, v1, x2, y2, z2, w2, u2, v2] (mid px) (mid py)) x0 y0 x1 y1))) := rfl
  rw [hb]
  cases decide (arV [x0, y0, z0, w0, u0, v0, x1, y1, z1, w1, u1, v1, x2, y2, z2, w2, u2, v2] ≤ 0) <;> cases cvI (e0V [x0, y0, z0, w0, u0, v0, x1, y1, z1, w1, u1, v1, x2, y2, z2, w2, u2, v2] (mid px) (mid py)) x1 y1 x2 y2 <;> cases cvI (e1V [x0, y0, z0, w0, u0, v0, x1, y1, z1, w1, u1, v1, x2, y2, z2, w2, u2, v2] (mid px) (mid py)) x2 y2 x0 y0 <;> cases cvI (e2V [x0, y0, z0, w0, u0, v0, x1, y1, z1, w1, u1, v1, x2, y2, z2, w2, u2, v2] (mid px) (mid py)) x0 y0 x1 y1 <;> rfl
abbrev coversS : FSpec := tpS gTP cvA

/-- inside: no side is below 0; together they are the area -/
theorem in_spec {x0 y0 z0 w0 u0 v0 x1 y1 z1 w1 u1 v1 x2 y2 z2 w2 u2 v2 px py : Int} (s0 : Sp x0 y0 z0 w0 u0 v0) (s1 : Sp x1 y1 z1 w1 u1 v1) (s2 : Sp x2 y2 z2 w2 u2 v2) (hx : 0 ≤ px) (hx' : px ≤ 31) (hy : 0 ≤ py) (hy' : py ≤ 31) (h : cvB [x0, y0, z0, w0, u0, v0, x1, y1, z1, w1, u1, v1, x2, y2, z2, w2, u2, v2] px py = true) :
    ∃ a b c : Int, e0V [x0, y0, z0, w0, u0, v0, x1, y1, z1, w1, u1, v1, x2, y2, z2, w2, u2, v2] (mid px) (mid py) = a ∧ e1V [x0, y0, z0, w0, u0, v0, x1, y1, z1, w1, u1, v1, x2, y2, z2, w2, u2, v2] (mid px) (mid py) = b ∧ e2V [x0, y0, z0, w0, u0, v0, x1, y1, z1, w1, u1, v1, x2, y2, z2, w2, u2, v2] (mid px) (mid py) = c ∧ 0 ≤ a ∧ 0 ≤ b ∧ 0 ≤ c ∧ a ≤ 1610612736 ∧ b ≤ 1610612736 ∧ c ≤ 1610612736 ∧ a + b + c = arV [x0, y0, z0, w0, u0, v0, x1, y1, z1, w1, u1, v1, x2, y2, z2, w2, u2, v2] := by
  have hm := mid_eq hx (by omega)
  have hn := mid_eq hy (by omega)
  have h' : (!decide (arV [x0, y0, z0, w0, u0, v0, x1, y1, z1, w1, u1, v1, x2, y2, z2, w2, u2, v2] ≤ 0) && (cvI (e0V [x0, y0, z0, w0, u0, v0, x1, y1, z1, w1, u1, v1, x2, y2, z2, w2, u2, v2] (mid px) (mid py)) x1 y1 x2 y2 && (cvI (e1V [x0, y0, z0, w0, u0, v0, x1, y1, z1, w1, u1, v1, x2, y2, z2, w2, u2, v2] (mid px) (mid py)) x2 y2 x0 y0 && cvI (e2V [x0, y0, z0, w0, u0, v0, x1, y1, z1, w1, u1, v1, x2, y2, z2, w2, u2, v2] (mid px) (mid py)) x0 y0 x1 y1))) = true := h
  simp only [Bool.and_eq_true] at h'
  have ge : ∀ {e ax ay bx by_ : Int}, cvI e ax ay bx by_ = true → 0 ≤ e := fun h => by
    simp only [cvI, Bool.and_eq_true, Bool.not_eq_true', decide_eq_false_iff_not] at h
    omega
  have k0 := sd_in (x := mid px) (y := mid py) s1.x0 s1.x1 s1.y0 s1.y1 s2.x0 s2.x1 s2.y0 s2.y1 (by omega) (by omega) (by omega) (by omega)
  have k1 := sd_in (x := mid px) (y := mid py) s2.x0 s2.x1 s2.y0 s2.y1 s0.x0 s0.x1 s0.y0 s0.y1 (by omega) (by omega) (by omega) (by omega)
  have k2 := sd_in (x := mid px) (y := mid py) s0.x0 s0.x1 s0.y0 s0.y1 s1.x0 s1.x1 s1.y0 s1.y1 (by omega) (by omega) (by omega) (by omega)
  have kA := sd_in (x := x2) (y := y2) s0.x0 s0.x1 s0.y0 s0.y1 s1.x0 s1.x1 s1.y0 s1.y1 (by have := s2.x0; omega) (by have := s2.x1; omega) (by have := s2.y0; omega) (by have := s2.y1; omega)
  refine ⟨_, _, _, rfl, rfl, rfl, ge h'.2.1, ge h'.2.2.1, ge h'.2.2.2, k0.2.2, k1.2.2, k2.2.2, ?_⟩
  show sdV x1 y1 x2 y2 (mid px) (mid py) + sdV x2 y2 x0 y0 (mid px) (mid py) + sdV x0 y0 x1 y1 (mid px) (mid py) = sdV x0 y0 x1 y1 x2 y2
  rw [k0.1, k1.1, k2.1, kA.1]
  grind
theorem nr_w {w : Int} (h : 256 ≤ w) (h' : w ≤ 536870912) : 512 ≤ nr 274877906944 w ∧ nr 274877906944 w ≤ 1073741825 := by
  have h1 := nr_spec' 274877906944 (d := w) (by omega)
  constructor
  · by_cases hc : nr 274877906944 w ≤ 511
    · have : w * nr 274877906944 w ≤ 536870912 * 511 := by
        by_cases hn : 0 ≤ nr 274877906944 w
        · exact Int.mul_le_mul h' hc hn (by omega)
        · have := Int.mul_nonpos_of_nonneg_of_nonpos (show 0 ≤ w by omega) (show nr 274877906944 w ≤ 0 by omega)
          omega
      omega
    · omega
  · by_cases hc : 1073741826 ≤ nr 274877906944 w
    · have : 256 * 1073741826 ≤ w * nr 274877906944 w := Int.mul_le_mul h hc (by omega) (by omega)
      have : w * nr 274877906944 w ≥ w * 1073741826 := Int.mul_le_mul_of_nonneg_left hc (by omega)
      omega
    · omega
theorem ew_in {e w : Int} (h0 : 0 ≤ e) (h1 : e ≤ 1610612736) (hw : 256 ≤ w) (hw' : w ≤ 536870912) : wi (e * nr 274877906944 w) = e * nr 274877906944 w ∧ 512 * e ≤ e * nr 274877906944 w ∧ e * nr 274877906944 w ≤ 1729382258520883200 := by
  have hq := nr_w hw hw'
  have a : e * 512 ≤ e * nr 274877906944 w := Int.mul_le_mul_of_nonneg_left hq.1 h0
  have b : e * nr 274877906944 w ≤ 1610612736 * 1073741825 := Int.mul_le_mul h1 hq.2 (by omega) (by omega)
  refine ⟨wi_id (by omega) (by omega), by omega, by omega⟩
theorem sN_eq' {a b c : Int} (ha : 0 ≤ a) (ha' : a ≤ 1729382258520883200) (hb : 0 ≤ b) (hb' : b ≤ 1729382258520883200) (hc : 0 ≤ c) (hc' : c ≤ 1729382258520883200) : sN a b c = a + b + c := by
  unfold sN
  rw [wi_id (n := 0 + a) (by omega) (by omega), wi_id (n := 0 + a + b) (by omega) (by omega), wi_id (by omega) (by omega)]
  omega
/-- what stands at a point that is inside: the parts, none below 0 -/
theorem n_in {x0 y0 z0 w0 u0 v0 x1 y1 z1 w1 u1 v1 x2 y2 z2 w2 u2 v2 x y a b c : Int} (s0 : Sp x0 y0 z0 w0 u0 v0) (s1 : Sp x1 y1 z1 w1 u1 v1) (s2 : Sp x2 y2 z2 w2 u2 v2) (ha : e0V [x0, y0, z0, w0, u0, v0, x1, y1, z1, w1, u1, v1, x2, y2, z2, w2, u2, v2] x y = a) (hb : e1V [x0, y0, z0, w0, u0, v0, x1, y1, z1, w1, u1, v1, x2, y2, z2, w2, u2, v2] x y = b) (hc : e2V [x0, y0, z0, w0, u0, v0, x1, y1, z1, w1, u1, v1, x2, y2, z2, w2, u2, v2] x y = c)
    (a0 : 0 ≤ a) (b0 : 0 ≤ b) (c0 : 0 ≤ c) (a1 : a ≤ 1610612736) (b1 : b ≤ 1610612736) (c1 : c ≤ 1610612736) (hp : 0 < a + b + c) :
    ∃ p q r : Int, n0V [x0, y0, z0, w0, u0, v0, x1, y1, z1, w1, u1, v1, x2, y2, z2, w2, u2, v2] x y = p ∧ n1V [x0, y0, z0, w0, u0, v0, x1, y1, z1, w1, u1, v1, x2, y2, z2, w2, u2, v2] x y = q ∧ n2V [x0, y0, z0, w0, u0, v0, x1, y1, z1, w1, u1, v1, x2, y2, z2, w2, u2, v2] x y = r ∧ sV [x0, y0, z0, w0, u0, v0, x1, y1, z1, w1, u1, v1, x2, y2, z2, w2, u2, v2] x y = p + q + r ∧ 512 * a ≤ p ∧ 512 * b ≤ q ∧ 512 * c ≤ r ∧ p + q + r ≤ 5188146775562649600 ∧ (a = 0 → p = 0) ∧ (b = 0 → q = 0) ∧ (c = 0 → r = 0) := by
  have k0 := ew_in a0 a1 s0.w0 s0.w1
  have k1 := ew_in b0 b1 s1.w0 s1.w1
  have k2 := ew_in c0 c1 s2.w0 s2.w1
  have h0 : n0V [x0, y0, z0, w0, u0, v0, x1, y1, z1, w1, u1, v1, x2, y2, z2, w2, u2, v2] x y = a * nr 274877906944 w0 := by
    show wi (e0V [x0, y0, z0, w0, u0, v0, x1, y1, z1, w1, u1, v1, x2, y2, z2, w2, u2, v2] x y * _) = _
    rw [ha]; exact k0.1
  have h1 : n1V [x0, y0, z0, w0, u0, v0, x1, y1, z1, w1, u1, v1, x2, y2, z2, w2, u2, v2] x y = b * nr 274877906944 w1 := by
    show wi (e1V [x0, y0, z0, w0, u0, v0, x1, y1, z1, w1, u1, v1, x2, y2, z2, w2, u2, v2] x y * _) = _
    rw [hb]; exact k1.1
  have h2 : n2V [x0, y0, z0, w0, u0, v0, x1, y1, z1, w1, u1, v1, x2, y2, z2, w2, u2, v2] x y = c * nr 274877906944 w2 := by
    show wi (e2V [x0, y0, z0, w0, u0, v0, x1, y1, z1, w1, u1, v1, x2, y2, z2, w2, u2, v2] x y * _) = _
    rw [hc]; exact k2.1
  refine ⟨_, _, _, h0, h1, h2, ?_, k0.2.1, k1.2.1, k2.2.1, by omega, fun e => by rw [e, Int.zero_mul], fun e => by rw [e, Int.zero_mul], fun e => by rw [e, Int.zero_mul]⟩
  unfold sV
  rw [h0, h1, h2]
  exact sN_eq' (by omega) k0.2.2 (by omega) k1.2.2 (by omega) k2.2.2
/-- a part of a whole -/
theorem wO_in {s n : Int} (h1 : 1 ≤ s) (h2 : s ≤ 9223372036854775807) (h0 : 0 ≤ n) (hn : n ≤ s) : ∃ k : Nat, wO s n = n / 2 ^ k * 65536 / (s / 2 ^ k) ∧ 1 ≤ s / 2 ^ k ∧ s / 2 ^ k ≤ 4398046511103 ∧ 0 ≤ n / 2 ^ k ∧ n / 2 ^ k ≤ s / 2 ^ k ∧ kN s = k := by
  obtain ⟨k, hk, hk21, hQ, hq1, hq2⟩ := qN_spec h1 h2
  have hpos : (0 : Int) < 2 ^ k := Int.pow_pos (by omega)
  have hM : mN s n = n / 2 ^ k := by
    unfold mN
    rw [hk, Int.toNat_natCast, Nat.min_eq_left (by omega), Int.fdiv_eq_ediv_of_nonneg _ (Int.le_of_lt hpos)]
  have m0 : 0 ≤ n / 2 ^ k := Int.ediv_nonneg h0 (Int.le_of_lt hpos)
  have m1 : n / 2 ^ k ≤ s / 2 ^ k := Int.ediv_le_ediv hpos hn
  rw [hQ] at hq1 hq2
  refine ⟨k, ?_, hq1, hq2, m0, m1, hk⟩
  have hH : hN s n = n / 2 ^ k := by
    unfold hN
    rw [hM, hQ]
    generalize n / 2 ^ k = m at *
    generalize s / 2 ^ k = Q at *
    rw [wi_id (n := -16 * Q) (by omega) (by omega), wi_id (n := 16 * Q) (by omega) (by omega)]
    rw [if_neg (show ¬ -16 * Q > m by omega), if_neg (show ¬ 16 * Q < m by omega)]
  unfold wO
  rw [decide_eq_false (by omega), cond_false, hH, hQ]
  generalize n / 2 ^ k = m at *
  generalize s / 2 ^ k = Q at *
  rw [wi_id (n := m * 65536) (by omega) (by omega)]
  by_cases hq : 2 ≤ Q
  · exact dwn_eq (by omega) (by omega) hq (by omega)
  · have : Q = 1 := by omega
    subst this
    unfold dwn
    rw [Int.tmod_one, Int.tdiv_one, Int.ediv_one]
    exact wi_id (by omega) (by omega)

end Go.Fx
