/- Plain laws of places in a triangle (chapter 27), of no program. -/
import Derived.Test.YthnkgakjnfghoaaPerspB
set_option linter.unusedVariables false
set_option linter.unusedSimpArgs false
namespace Go.Fx
open Go Go.Sx

theorem gd {p : Prop} [Decidable p] {t : Option Bool} (h : ¬p → t = some true) : (bif decide p then some true else t) = some true := by
  by_cases k : p
  · rw [decide_eq_true k]; rfl
  · rw [decide_eq_false k]; exact h k
theorem gn {b : Bool} {t : Option Bool} (h : b = true → t = some true) : (bif !b then some true else t) = some true := by
  cases b with
  | true => exact h rfl
  | false => rfl
theorem mg {b : Bool} {t u : Option Bool} (hb : b = true) (h : t = some true) : (bif b then t else u) = some true := by rw [hb]; exact h
theorem pr_bd2 {x v : Int} (m n : Nat) (hx : -(m : Int) ≤ x) (hx' : x ≤ m) (hv : -(n : Int) ≤ v) (hv' : v ≤ n) : -((m * n : Nat) : Int) ≤ x * v ∧ x * v ≤ ((m * n : Nat) : Int) := by
  have h3 := Nat.mul_le_mul (show x.natAbs ≤ m by omega) (show v.natAbs ≤ n by omega)
  rw [← Int.natAbs_mul] at h3
  omega
structure Sp (x y z w u v : Int) : Prop where
  x0 : 0 ≤ x
  x1 : x ≤ 16384
  y0 : 0 ≤ y
  y1 : y ≤ 16384
  z0 : 0 ≤ z
  z1 : z ≤ 65535
  w0 : 256 ≤ w
  w1 : w ≤ 536870912
  u0 : -134217728 ≤ u
  u1 : u ≤ 134217728
  v0 : -134217728 ≤ v
  v1 : v ≤ 134217728
theorem spB_spec {x y z w u v : Int} {r : Bool} (h : spB x y z w u v r = true) : Sp x y z w u v ∧ r = true := by
  simp only [spB, Bool.and_eq_true, Bool.not_eq_true', decide_eq_false_iff_not] at h
  obtain ⟨h1, h2, h3, h4, h5, h6, h7, h8, h9, h10, h11, h12, h13⟩ := h
  exact ⟨⟨by omega, by omega, by omega, by omega, by omega, by omega, by omega, by omega, by omega, by omega, by omega, by omega⟩, h13⟩
theorem mayTr_spec {x0 y0 z0 w0 u0 v0 x1 y1 z1 w1 u1 v1 x2 y2 z2 w2 u2 v2 : Int} (h : mayTr [x0, y0, z0, w0, u0, v0, x1, y1, z1, w1, u1, v1, x2, y2, z2, w2, u2, v2] = true) : Sp x0 y0 z0 w0 u0 v0 ∧ Sp x1 y1 z1 w1 u1 v1 ∧ Sp x2 y2 z2 w2 u2 v2 ∧ 0 < arV [x0, y0, z0, w0, u0, v0, x1, y1, z1, w1, u1, v1, x2, y2, z2, w2, u2, v2] := by
  obtain ⟨h0, h⟩ := spB_spec (show spB x0 y0 z0 w0 u0 v0 (spB x1 y1 z1 w1 u1 v1 (spB x2 y2 z2 w2 u2 v2 (decide (arV [x0, y0, z0, w0, u0, v0, x1, y1, z1, w1, u1, v1, x2, y2, z2, w2, u2, v2] > 0)))) = true from h)
  obtain ⟨h1, h⟩ := spB_spec h
  obtain ⟨h2, h⟩ := spB_spec h
  exact ⟨h0, h1, h2, by simpa using h⟩
theorem okW_of {w : Int} (h : 256 ≤ w) (h' : w ≤ 536870912) : okW w = true := by simp [okW]; omega
theorem okT_of {x0 y0 z0 w0 u0 v0 x1 y1 z1 w1 u1 v1 x2 y2 z2 w2 u2 v2 : Int} (h0 : Sp x0 y0 z0 w0 u0 v0) (h1 : Sp x1 y1 z1 w1 u1 v1) (h2 : Sp x2 y2 z2 w2 u2 v2) (x y : Int) : okT [x0, y0, z0, w0, u0, v0, x1, y1, z1, w1, u1, v1, x2, y2, z2, w2, u2, v2] x y = true := by
  show (okW w0 && okW w1 && okW w2) = true
  rw [okW_of h0.w0 h0.w1, okW_of h1.w0 h1.w1, okW_of h2.w0 h2.w1]; rfl
theorem sd_in {ax ay bx by_ x y : Int} (a0 : 0 ≤ ax) (a1 : ax ≤ 16384) (a2 : 0 ≤ ay) (a3 : ay ≤ 16384) (b0 : 0 ≤ bx) (b1 : bx ≤ 16384) (b2 : 0 ≤ by_) (b3 : by_ ≤ 16384) (hx : -32768 ≤ x) (hx' : x ≤ 32768) (hy : -32768 ≤ y) (hy' : y ≤ 32768) :
    sdV ax ay bx by_ x y = (bx - ax) * (y - ay) - (by_ - ay) * (x - ax) ∧ -1610612736 ≤ sdV ax ay bx by_ x y ∧ sdV ax ay bx by_ x y ≤ 1610612736 := by
  have p := pr_bd2 (x := bx - ax) (v := y - ay) 16384 49152 (by omega) (by omega) (by omega) (by omega)
  have q := pr_bd2 (x := by_ - ay) (v := x - ax) 16384 49152 (by omega) (by omega) (by omega) (by omega)
  unfold sdV
  rw [wi_id (n := bx - ax) (by omega) (by omega), wi_id (n := y - ay) (by omega) (by omega), wi_id (n := by_ - ay) (by omega) (by omega), wi_id (n := x - ax) (by omega) (by omega)]
  generalize (bx - ax) * (y - ay) = P at *
  generalize (by_ - ay) * (x - ax) = Q at *
  rw [wi_id (n := P) (by omega) (by omega), wi_id (n := Q) (by omega) (by omega), wi_id (n := P - Q) (by omega) (by omega)]
  omega
theorem zz_in {a b c z0 z1 z2 : Int} (ha : -1610612736 ≤ a) (ha' : a ≤ 1610612736) (hb : -1610612736 ≤ b) (hb' : b ≤ 1610612736) (hc : -1610612736 ≤ c) (hc' : c ≤ 1610612736)
    (h0 : 0 ≤ z0) (h0' : z0 ≤ 65535) (h1 : 0 ≤ z1) (h1' : z1 ≤ 65535) (h2 : 0 ≤ z2) (h2' : z2 ≤ 65535) :
    wi (wi (wi (0 + wi (a * z0)) + wi (b * z1)) + wi (c * z2)) = a * z0 + b * z1 + c * z2 ∧ -316659322060800 ≤ a * z0 + b * z1 + c * z2 ∧ a * z0 + b * z1 + c * z2 ≤ 316659322060800 := by
  have p := pr_bd2 (x := a) (v := z0) 1610612736 65535 (by omega) (by omega) (by omega) (by omega)
  have q := pr_bd2 (x := b) (v := z1) 1610612736 65535 (by omega) (by omega) (by omega) (by omega)
  have r := pr_bd2 (x := c) (v := z2) 1610612736 65535 (by omega) (by omega) (by omega) (by omega)
  simp only [wi_add_l, wi_add_r, Int.zero_add]
  rw [wi_id (by omega) (by omega)]
  omega
theorem mid_eq {p : Int} (h : 0 ≤ p) (h' : p ≤ 100) : mid p = 256 * p + 128 := by
  unfold mid
  rw [wi_id (n := 256 * p) (by omega) (by omega), wi_id (by omega) (by omega)]
theorem zV_in {x0 y0 z0 w0 u0 v0 x1 y1 z1 w1 u1 v1 x2 y2 z2 w2 u2 v2 : Int} (h0 : Sp x0 y0 z0 w0 u0 v0) (h1 : Sp x1 y1 z1 w1 u1 v1) (h2 : Sp x2 y2 z2 w2 u2 v2) {x y : Int} (hx : -32768 ≤ x) (hx' : x ≤ 32768) (hy : -32768 ≤ y) (hy' : y ≤ 32768) :
    zV [x0, y0, z0, w0, u0, v0, x1, y1, z1, w1, u1, v1, x2, y2, z2, w2, u2, v2] x y = sdV x1 y1 x2 y2 x y * z0 + sdV x2 y2 x0 y0 x y * z1 + sdV x0 y0 x1 y1 x y * z2 ∧ -316659322060800 ≤ zV [x0, y0, z0, w0, u0, v0, x1, y1, z1, w1, u1, v1, x2, y2, z2, w2, u2, v2] x y ∧ zV [x0, y0, z0, w0, u0, v0, x1, y1, z1, w1, u1, v1, x2, y2, z2, w2, u2, v2] x y ≤ 316659322060800 := by
  have e0 := sd_in h1.x0 h1.x1 h1.y0 h1.y1 h2.x0 h2.x1 h2.y0 h2.y1 hx hx' hy hy'
  have e1 := sd_in h2.x0 h2.x1 h2.y0 h2.y1 h0.x0 h0.x1 h0.y0 h0.y1 hx hx' hy hy'
  have e2 := sd_in h0.x0 h0.x1 h0.y0 h0.y1 h1.x0 h1.x1 h1.y0 h1.y1 hx hx' hy hy'
  have k := zz_in e0.2.1 e0.2.2 e1.2.1 e1.2.2 e2.2.1 e2.2.2 h0.z0 h0.z1 h1.z0 h1.z1 h2.z0 h2.z1
  have d : zV [x0, y0, z0, w0, u0, v0, x1, y1, z1, w1, u1, v1, x2, y2, z2, w2, u2, v2] x y = wi (wi (wi (0 + wi (sdV x1 y1 x2 y2 x y * z0)) + wi (sdV x2 y2 x0 y0 x y * z1)) + wi (sdV x0 y0 x1 y1 x y * z2)) := rfl
  rw [d, k.1]
  exact ⟨rfl, k.2⟩
theorem arV_in {x0 y0 z0 w0 u0 v0 x1 y1 z1 w1 u1 v1 x2 y2 z2 w2 u2 v2 : Int} (h0 : Sp x0 y0 z0 w0 u0 v0) (h1 : Sp x1 y1 z1 w1 u1 v1) (h2 : Sp x2 y2 z2 w2 u2 v2) : arV [x0, y0, z0, w0, u0, v0, x1, y1, z1, w1, u1, v1, x2, y2, z2, w2, u2, v2] ≤ 1610612736 := by
  have := (sd_in h0.x0 h0.x1 h0.y0 h0.y1 h1.x0 h1.x1 h1.y0 h1.y1 (x := x2) (y := y2) (by have := h2.x0; omega) (by have := h2.x1; omega) (by have := h2.y0; omega) (by have := h2.y1; omega)).2.2
  exact this
theorem okA_of {x0 y0 z0 w0 u0 v0 x1 y1 z1 w1 u1 v1 x2 y2 z2 w2 u2 v2 : Int} (h0 : Sp x0 y0 z0 w0 u0 v0) (h1 : Sp x1 y1 z1 w1 u1 v1) (h2 : Sp x2 y2 z2 w2 u2 v2) (ha : 0 < arV [x0, y0, z0, w0, u0, v0, x1, y1, z1, w1, u1, v1, x2, y2, z2, w2, u2, v2]) {px py : Int} (hx : 0 ≤ px) (hx' : px ≤ 31) (hy : 0 ≤ py) (hy' : py ≤ 31) : okA [x0, y0, z0, w0, u0, v0, x1, y1, z1, w1, u1, v1, x2, y2, z2, w2, u2, v2] px py = true := by
  unfold okA
  rw [okT_of h0 h1 h2]
  have hz := zV_in h0 h1 h2 (x := mid px) (y := mid py) (by rw [mid_eq hx (by omega)]; omega) (by rw [mid_eq hx (by omega)]; omega) (by rw [mid_eq hy (by omega)]; omega) (by rw [mid_eq hy (by omega)]; omega)
  have hA := arV_in h0 h1 h2
  generalize arV [x0, y0, z0, w0, u0, v0, x1, y1, z1, w1, u1, v1, x2, y2, z2, w2, u2, v2] = A at *
  generalize zV [x0, y0, z0, w0, u0, v0, x1, y1, z1, w1, u1, v1, x2, y2, z2, w2, u2, v2] (mid px) (mid py) = Z at *
  simp [ndZ, ndB]; omega

/-! moved -/
theorem sd_mv (ax ay bx by_ x y dx dy : Int) : sdV (ax + dx) (ay + dy) (bx + dx) (by_ + dy) (x + dx) (y + dy) = sdV ax ay bx by_ x y := by
  unfold sdV
  rw [show bx + dx - (ax + dx) = bx - ax by omega, show y + dy - (ay + dy) = y - ay by omega, show by_ + dy - (ay + dy) = by_ - ay by omega, show x + dx - (ax + dx) = x - ax by omega]
theorem arV_mv (x0 y0 z0 w0 u0 v0 x1 y1 z1 w1 u1 v1 x2 y2 z2 w2 u2 v2 dx dy : Int) : arV [x0 + dx, y0 + dy, z0, w0, u0, v0, x1 + dx, y1 + dy, z1, w1, u1, v1, x2 + dx, y2 + dy, z2, w2, u2, v2] = arV [x0, y0, z0, w0, u0, v0, x1, y1, z1, w1, u1, v1, x2, y2, z2, w2, u2, v2] := sd_mv _ _ _ _ _ _ _ _
theorem n0V_mv (x0 y0 z0 w0 u0 v0 x1 y1 z1 w1 u1 v1 x2 y2 z2 w2 u2 v2 dx dy x y : Int) : n0V [x0 + dx, y0 + dy, z0, w0, u0, v0, x1 + dx, y1 + dy, z1, w1, u1, v1, x2 + dx, y2 + dy, z2, w2, u2, v2] (x + dx) (y + dy) = n0V [x0, y0, z0, w0, u0, v0, x1, y1, z1, w1, u1, v1, x2, y2, z2, w2, u2, v2] x y := by
  show wi (sdV _ _ _ _ _ _ * _) = _
  rw [sd_mv]; rfl
theorem n1V_mv (x0 y0 z0 w0 u0 v0 x1 y1 z1 w1 u1 v1 x2 y2 z2 w2 u2 v2 dx dy x y : Int) : n1V [x0 + dx, y0 + dy, z0, w0, u0, v0, x1 + dx, y1 + dy, z1, w1, u1, v1, x2 + dx, y2 + dy, z2, w2, u2, v2] (x + dx) (y + dy) = n1V [x0, y0, z0, w0, u0, v0, x1, y1, z1, w1, u1, v1, x2, y2, z2, w2, u2, v2] x y := by
  show wi (sdV _ _ _ _ _ _ * _) = _
  rw [sd_mv]; rfl
theorem n2V_mv (x0 y0 z0 w0 u0 v0 x1 y1 z1 w1 u1 v1 x2 y2 z2 w2 u2 v2 dx dy x y : Int) : n2V [x0 + dx, y0 + dy, z0, w0, u0, v0, x1 + dx, y1 + dy, z1, w1, u1, v1, x2 + dx, y2 + dy, z2, w2, u2, v2] (x + dx) (y + dy) = n2V [x0, y0, z0, w0, u0, v0, x1, y1, z1, w1, u1, v1, x2, y2, z2, w2, u2, v2] x y := by
  show wi (sdV _ _ _ _ _ _ * _) = _
  rw [sd_mv]; rfl
theorem zV_mv (x0 y0 z0 w0 u0 v0 x1 y1 z1 w1 u1 v1 x2 y2 z2 w2 u2 v2 dx dy x y : Int) : zV [x0 + dx, y0 + dy, z0, w0, u0, v0, x1 + dx, y1 + dy, z1, w1, u1, v1, x2 + dx, y2 + dy, z2, w2, u2, v2] (x + dx) (y + dy) = zV [x0, y0, z0, w0, u0, v0, x1, y1, z1, w1, u1, v1, x2, y2, z2, w2, u2, v2] x y := by
  show wi (wi (wi (0 + wi (sdV _ _ _ _ _ _ * _)) + wi (sdV _ _ _ _ _ _ * _)) + wi (sdV _ _ _ _ _ _ * _)) = _
  rw [sd_mv, sd_mv, sd_mv]; rfl
theorem sV_mv (x0 y0 z0 w0 u0 v0 x1 y1 z1 w1 u1 v1 x2 y2 z2 w2 u2 v2 dx dy x y : Int) : sV [x0 + dx, y0 + dy, z0, w0, u0, v0, x1 + dx, y1 + dy, z1, w1, u1, v1, x2 + dx, y2 + dy, z2, w2, u2, v2] (x + dx) (y + dy) = sV [x0, y0, z0, w0, u0, v0, x1, y1, z1, w1, u1, v1, x2, y2, z2, w2, u2, v2] x y := by
  unfold sV; rw [n0V_mv, n1V_mv, n2V_mv]
theorem okV_mv (x0 y0 z0 w0 u0 v0 x1 y1 z1 w1 u1 v1 x2 y2 z2 w2 u2 v2 dx dy x y : Int) : okV [x0 + dx, y0 + dy, z0, w0, u0, v0, x1 + dx, y1 + dy, z1, w1, u1, v1, x2 + dx, y2 + dy, z2, w2, u2, v2] (x + dx) (y + dy) = okV [x0, y0, z0, w0, u0, v0, x1, y1, z1, w1, u1, v1, x2, y2, z2, w2, u2, v2] x y := by
  unfold okV; rw [sV_mv]
theorem oV_mv (x0 y0 z0 w0 u0 v0 x1 y1 z1 w1 u1 v1 x2 y2 z2 w2 u2 v2 dx dy x y : Int) : o0V [x0 + dx, y0 + dy, z0, w0, u0, v0, x1 + dx, y1 + dy, z1, w1, u1, v1, x2 + dx, y2 + dy, z2, w2, u2, v2] (x + dx) (y + dy) = o0V [x0, y0, z0, w0, u0, v0, x1, y1, z1, w1, u1, v1, x2, y2, z2, w2, u2, v2] x y ∧ o1V [x0 + dx, y0 + dy, z0, w0, u0, v0, x1 + dx, y1 + dy, z1, w1, u1, v1, x2 + dx, y2 + dy, z2, w2, u2, v2] (x + dx) (y + dy) = o1V [x0, y0, z0, w0, u0, v0, x1, y1, z1, w1, u1, v1, x2, y2, z2, w2, u2, v2] x y ∧ o2V [x0 + dx, y0 + dy, z0, w0, u0, v0, x1 + dx, y1 + dy, z1, w1, u1, v1, x2 + dx, y2 + dy, z2, w2, u2, v2] (x + dx) (y + dy) = o2V [x0, y0, z0, w0, u0, v0, x1, y1, z1, w1, u1, v1, x2, y2, z2, w2, u2, v2] x y := by
  unfold o0V o1V o2V; rw [sV_mv, n0V_mv, n1V_mv]; exact ⟨rfl, rfl, rfl⟩
theorem uV_mv (x0 y0 z0 w0 u0 v0 x1 y1 z1 w1 u1 v1 x2 y2 z2 w2 u2 v2 dx dy x y : Int) : uV [x0 + dx, y0 + dy, z0, w0, u0, v0, x1 + dx, y1 + dy, z1, w1, u1, v1, x2 + dx, y2 + dy, z2, w2, u2, v2] (x + dx) (y + dy) = uV [x0, y0, z0, w0, u0, v0, x1, y1, z1, w1, u1, v1, x2, y2, z2, w2, u2, v2] x y := by
  show plV (o0V _ _ _) (o1V _ _ _) (o2V _ _ _) _ _ _ = _
  rw [(oV_mv x0 y0 z0 w0 u0 v0 x1 y1 z1 w1 u1 v1 x2 y2 z2 w2 u2 v2 dx dy x y).1, (oV_mv x0 y0 z0 w0 u0 v0 x1 y1 z1 w1 u1 v1 x2 y2 z2 w2 u2 v2 dx dy x y).2.1, (oV_mv x0 y0 z0 w0 u0 v0 x1 y1 z1 w1 u1 v1 x2 y2 z2 w2 u2 v2 dx dy x y).2.2]; rfl
theorem vV_mv (x0 y0 z0 w0 u0 v0 x1 y1 z1 w1 u1 v1 x2 y2 z2 w2 u2 v2 dx dy x y : Int) : vV [x0 + dx, y0 + dy, z0, w0, u0, v0, x1 + dx, y1 + dy, z1, w1, u1, v1, x2 + dx, y2 + dy, z2, w2, u2, v2] (x + dx) (y + dy) = vV [x0, y0, z0, w0, u0, v0, x1, y1, z1, w1, u1, v1, x2, y2, z2, w2, u2, v2] x y := by
  show plV (o0V _ _ _) (o1V _ _ _) (o2V _ _ _) _ _ _ = _
  rw [(oV_mv x0 y0 z0 w0 u0 v0 x1 y1 z1 w1 u1 v1 x2 y2 z2 w2 u2 v2 dx dy x y).1, (oV_mv x0 y0 z0 w0 u0 v0 x1 y1 z1 w1 u1 v1 x2 y2 z2 w2 u2 v2 dx dy x y).2.1, (oV_mv x0 y0 z0 w0 u0 v0 x1 y1 z1 w1 u1 v1 x2 y2 z2 w2 u2 v2 dx dy x y).2.2]; rfl
abbrev Sm (x : Int) : Prop := -1099511627776 ≤ x ∧ x ≤ 1099511627776
theorem wi_mv {x d e : Int} (hx : Sm x) (hd : Sm d) (he : Sm e) : wi (x + d + e) = wi (x + e) + d ∧ wi (x + d - e) = wi (x - e) + d := by
  unfold Sm at *
  rw [wi_id (n := x + d + e) (by omega) (by omega), wi_id (n := x + e) (by omega) (by omega), wi_id (n := x + d - e) (by omega) (by omega), wi_id (n := x - e) (by omega) (by omega)]
  omega
theorem dU_mv (x0 y0 z0 w0 u0 v0 x1 y1 z1 w1 u1 v1 x2 y2 z2 w2 u2 v2 : Int) {dx dy x y ex ey : Int} (hx : Sm x) (hy : Sm y) (hdx : Sm dx) (hdy : Sm dy) (hex : Sm ex) (hey : Sm ey) : dU [x0 + dx, y0 + dy, z0, w0, u0, v0, x1 + dx, y1 + dy, z1, w1, u1, v1, x2 + dx, y2 + dy, z2, w2, u2, v2] (x + dx) (y + dy) ex ey = dU [x0, y0, z0, w0, u0, v0, x1, y1, z1, w1, u1, v1, x2, y2, z2, w2, u2, v2] x y ex ey := by
  unfold dU
  rw [(wi_mv hx hdx hex).1, (wi_mv hx hdx hex).2, (wi_mv hy hdy hey).1, (wi_mv hy hdy hey).2]
  simp only [okV_mv, uV_mv]
theorem dV_mv (x0 y0 z0 w0 u0 v0 x1 y1 z1 w1 u1 v1 x2 y2 z2 w2 u2 v2 : Int) {dx dy x y ex ey : Int} (hx : Sm x) (hy : Sm y) (hdx : Sm dx) (hdy : Sm dy) (hex : Sm ex) (hey : Sm ey) : dV [x0 + dx, y0 + dy, z0, w0, u0, v0, x1 + dx, y1 + dy, z1, w1, u1, v1, x2 + dx, y2 + dy, z2, w2, u2, v2] (x + dx) (y + dy) ex ey = dV [x0, y0, z0, w0, u0, v0, x1, y1, z1, w1, u1, v1, x2, y2, z2, w2, u2, v2] x y ex ey := by
  unfold dV
  rw [(wi_mv hx hdx hex).1, (wi_mv hx hdx hex).2, (wi_mv hy hdy hey).1, (wi_mv hy hdy hey).2]
  simp only [okV_mv, vV_mv]
theorem okA_mv (x0 y0 z0 w0 u0 v0 x1 y1 z1 w1 u1 v1 x2 y2 z2 w2 u2 v2 : Int) {dx dy px py qx qy : Int} (hx : mid qx = mid px + dx) (hy : mid qy = mid py + dy) : okA [x0 + dx, y0 + dy, z0, w0, u0, v0, x1 + dx, y1 + dy, z1, w1, u1, v1, x2 + dx, y2 + dy, z2, w2, u2, v2] qx qy = okA [x0, y0, z0, w0, u0, v0, x1, y1, z1, w1, u1, v1, x2, y2, z2, w2, u2, v2] px py := by
  unfold okA
  rw [hx, hy, zV_mv, arV_mv]; rfl

end Go.Fx
