/- Places and depths in a triangle (chapter 27), outright, of no program. -/
import Derived.Test.YthnkgakjnfghoaaPerspA
set_option linter.unusedVariables false
set_option linter.unusedSimpArgs false
namespace Go.Fx
open Go Go.Sx

theorem wi_mod (n : Int) : wi n = if n % 18446744073709551616 ≥ 9223372036854775808 then n % 18446744073709551616 - 18446744073709551616 else n % 18446744073709551616 := by
  unfold wi IntKind.wrap
  simp [IntKind.bits, IntKind.signed]
theorem wi_add_l (a b : Int) : wi (wi a + b) = wi (a + b) := by
  rw [wi_mod (wi a + b), wi_mod a, wi_mod (a + b)]
  omega
theorem wi_add_r (a b : Int) : wi (a + wi b) = wi (a + b) := by rw [Int.add_comm, wi_add_l, Int.add_comm]
theorem dwn_eq {n d : Int} (h0 : -9223372036854775808 ≤ n) (h1 : n ≤ 9223372036854775807) (hd : 2 ≤ d) (hd' : d ≤ 9223372036854775807) : dwn n d = n / d := by
  unfold dwn
  have e := Int.mul_tdiv_add_tmod n d
  have e2 := Int.mul_ediv_add_emod n d
  have hm := Int.emod_nonneg n (show d ≠ 0 by omega)
  have hm2 := Int.emod_lt_of_pos n (show 0 < d by omega)
  by_cases hn : 0 ≤ n
  · rw [Int.tmod_eq_emod_of_nonneg hn, Int.tdiv_eq_ediv_of_nonneg hn, decide_eq_false (by omega), cond_false]
    have h2 : 0 ≤ n / d := Int.ediv_nonneg hn (by omega)
    have h3 : n / d ≤ n := Int.ediv_le_self _ hn
    exact wi_id (by omega) (by omega)
  · have h2 : n / d ≤ -1 := by have := Int.ediv_neg_of_neg_of_pos (show n < 0 by omega) (show 0 < d by omega); omega
    have h3 : n ≤ n / d := by
      have h4 : d * (n / d) ≤ n := by omega
      have h5 : d * (n / d) ≤ 2 * (n / d) := Int.mul_le_mul_of_nonpos_right hd (by omega)
      have h6 : n < d * (n / d) + d := by omega
      have h7 : n / d * d = d * (n / d) := Int.mul_comm _ _
      by_cases hlt : n / d < n
      · have h8 : d * (n / d + 1) ≤ 2 * (n / d + 1) := Int.mul_le_mul_of_nonpos_right hd (by omega)
        rw [Int.mul_add, Int.mul_one] at h8
        omega
      · omega
    by_cases hz : n % d = 0
    · have t0 : n.tmod d = 0 := by
        have : d ∣ n := Int.dvd_of_emod_eq_zero hz
        exact Int.tmod_eq_zero_of_dvd this
      have t1 : n.tdiv d = n / d := Int.tdiv_eq_ediv_of_dvd (Int.dvd_of_emod_eq_zero hz)
      rw [t0, t1]
      exact wi_id (by omega) (by omega)
    · have t2 : n.tdiv d = n / d + 1 := by
        rw [Int.tdiv_eq_ediv, if_neg (by
          intro hc
          rcases hc with hc | hc
          · exact hn hc
          · exact hz (Int.emod_eq_zero_of_dvd hc)), Int.sign_eq_one_of_pos (by omega)]
      have t3 : n.tmod d < 0 := by
        rw [t2, Int.mul_add, Int.mul_one] at e
        omega
      rw [decide_eq_true t3, cond_true, t2, wi_id (n := n / d + 1) (by omega) (by omega), Int.add_sub_cancel]
      exact wi_id (by omega) (by omega)

/-- a place: three weighed -/
def plV (o0 o1 o2 a b c : Int) : Int := wi (o0 * a + o1 * b + o2 * c + 32768) / 65536
def plP (o0 o1 o2 a b c : Int) : Int := (wi (wi (wi (wi (0 + wi (o0 * a)) + wi (o1 * b)) + wi (o2 * c)) + 32768)).fdiv 65536
def plR (o0 o1 o2 a b c : Int) : Int := dwn (wi (wi (wi (32768 + wi (o0 * a)) + wi (o1 * b)) + wi (o2 * c))) 65536
theorem plP_eq (o0 o1 o2 a b c : Int) : plP o0 o1 o2 a b c = plV o0 o1 o2 a b c := by
  unfold plP plV
  rw [Int.fdiv_eq_ediv_of_nonneg _ (by omega)]
  simp only [wi_add_l, wi_add_r, Int.zero_add]
theorem plR_eq (o0 o1 o2 a b c : Int) : plR o0 o1 o2 a b c = plV o0 o1 o2 a b c := by
  unfold plR plV
  rw [dwn_eq (wi_le _).1 (wi_le _).2 (by omega) (by omega)]
  simp only [wi_add_l, wi_add_r]
  rw [show 32768 + o0 * a + o1 * b + o2 * c = o0 * a + o1 * b + o2 * c + 32768 by omega]
theorem plV_zero (a b c : Int) : plV 0 0 0 a b c = 0 := by
  unfold plV
  rw [Int.zero_mul, Int.zero_mul, Int.zero_mul]
  rw [wi_id (by omega) (by omega)]; rfl

def o0V (t : List Int) (x y : Int) : Int := wO (sV t x y) (n0V t x y)
def o1V (t : List Int) (x y : Int) : Int := wO (sV t x y) (n1V t x y)
def o2V (t : List Int) (x y : Int) : Int := wO2 (sV t x y) (n0V t x y) (n1V t x y)
def okV (t : List Int) (x y : Int) : Bool := wOk (sV t x y)
theorem oV_none {t : List Int} {x y : Int} (h : okV t x y = false) : o0V t x y = 0 ∧ o1V t x y = 0 ∧ o2V t x y = 0 := by
  simp only [okV, wOk, Bool.not_eq_false'] at h
  unfold o0V o1V o2V wO2 wO
  rw [h]; exact ⟨rfl, rfl, rfl⟩
def uV : List Int → Int → Int → Int
  | [x0, y0, z0, w0, u0, v0, x1, y1, z1, w1, u1, v1, x2, y2, z2, w2, u2, v2], x, y => plV (o0V [x0, y0, z0, w0, u0, v0, x1, y1, z1, w1, u1, v1, x2, y2, z2, w2, u2, v2] x y) (o1V [x0, y0, z0, w0, u0, v0, x1, y1, z1, w1, u1, v1, x2, y2, z2, w2, u2, v2] x y) (o2V [x0, y0, z0, w0, u0, v0, x1, y1, z1, w1, u1, v1, x2, y2, z2, w2, u2, v2] x y) u0 u1 u2
  | _, _, _ => 0
def vV : List Int → Int → Int → Int
  | [x0, y0, z0, w0, u0, v0, x1, y1, z1, w1, u1, v1, x2, y2, z2, w2, u2, v2], x, y => plV (o0V [x0, y0, z0, w0, u0, v0, x1, y1, z1, w1, u1, v1, x2, y2, z2, w2, u2, v2] x y) (o1V [x0, y0, z0, w0, u0, v0, x1, y1, z1, w1, u1, v1, x2, y2, z2, w2, u2, v2] x y) (o2V [x0, y0, z0, w0, u0, v0, x1, y1, z1, w1, u1, v1, x2, y2, z2, w2, u2, v2] x y) v0 v1 v2
  | _, _, _ => 0
def plA (t : List Int) (x y : Int) : AV := .tup [i64 (uV t x y), i64 (vV t x y), .lit (.bool (okV t x y))]
abbrev placeS : FSpec := tpS okT plA
def plT (ok : Bool) (u v : Int) : Option AV := bif !ok then some (.tup [i64 0, i64 0, .lit (.bool false)]) else some (.tup [i64 u, i64 v, .lit (.bool true)])
theorem pl_eq {f : Int → Int → Int → Int → Int → Int → Int} (hf : ∀ a b c d e g, f a b c d e g = plV a b c d e g) (x0 y0 z0 w0 u0 v0 x1 y1 z1 w1 u1 v1 x2 y2 z2 w2 u2 v2 x y : Int) :
    plT (okV [x0, y0, z0, w0, u0, v0, x1, y1, z1, w1, u1, v1, x2, y2, z2, w2, u2, v2] x y) (f (o0V [x0, y0, z0, w0, u0, v0, x1, y1, z1, w1, u1, v1, x2, y2, z2, w2, u2, v2] x y) (o1V [x0, y0, z0, w0, u0, v0, x1, y1, z1, w1, u1, v1, x2, y2, z2, w2, u2, v2] x y) (o2V [x0, y0, z0, w0, u0, v0, x1, y1, z1, w1, u1, v1, x2, y2, z2, w2, u2, v2] x y) u0 u1 u2) (f (o0V [x0, y0, z0, w0, u0, v0, x1, y1, z1, w1, u1, v1, x2, y2, z2, w2, u2, v2] x y) (o1V [x0, y0, z0, w0, u0, v0, x1, y1, z1, w1, u1, v1, x2, y2, z2, w2, u2, v2] x y) (o2V [x0, y0, z0, w0, u0, v0, x1, y1, z1, w1, u1, v1, x2, y2, z2, w2, u2, v2] x y) v0 v1 v2) = some (plA [x0, y0, z0, w0, u0, v0, x1, y1, z1, w1, u1, v1, x2, y2, z2, w2, u2, v2] x y) := by
  rw [hf, hf]
  show _ = some (AV.tup [i64 (plV (o0V [x0, y0, z0, w0, u0, v0, x1, y1, z1, w1, u1, v1, x2, y2, z2, w2, u2, v2] x y) (o1V [x0, y0, z0, w0, u0, v0, x1, y1, z1, w1, u1, v1, x2, y2, z2, w2, u2, v2] x y) (o2V [x0, y0, z0, w0, u0, v0, x1, y1, z1, w1, u1, v1, x2, y2, z2, w2, u2, v2] x y) u0 u1 u2), i64 (plV (o0V [x0, y0, z0, w0, u0, v0, x1, y1, z1, w1, u1, v1, x2, y2, z2, w2, u2, v2] x y) (o1V [x0, y0, z0, w0, u0, v0, x1, y1, z1, w1, u1, v1, x2, y2, z2, w2, u2, v2] x y) (o2V [x0, y0, z0, w0, u0, v0, x1, y1, z1, w1, u1, v1, x2, y2, z2, w2, u2, v2] x y) v0 v1 v2), .lit (.bool (okV [x0, y0, z0, w0, u0, v0, x1, y1, z1, w1, u1, v1, x2, y2, z2, w2, u2, v2] x y))])
  unfold plT
  cases h : okV [x0, y0, z0, w0, u0, v0, x1, y1, z1, w1, u1, v1, x2, y2, z2, w2, u2, v2] x y with
  | true => rfl
  | false =>
    obtain ⟨h0, h1, h2⟩ := oV_none h
    rw [h0, h1, h2, plV_zero, plV_zero]; rfl
theorem plGuard {t : List Int} {x y : Int} {r : Option AV} {z : AV} (hg : okT t x y = true) (h : r = some z) : (bif okT t x y then r else none) = some z := by rw [hg]; exact h

/-! depth -/
def zV : List Int → Int → Int → Int
  | [x0, y0, z0, w0, u0, v0, x1, y1, z1, w1, u1, v1, x2, y2, z2, w2, u2, v2], x, y => wi (wi (wi (0 + wi (e0V [x0, y0, z0, w0, u0, v0, x1, y1, z1, w1, u1, v1, x2, y2, z2, w2, u2, v2] x y * z0)) + wi (e1V [x0, y0, z0, w0, u0, v0, x1, y1, z1, w1, u1, v1, x2, y2, z2, w2, u2, v2] x y * z1)) + wi (e2V [x0, y0, z0, w0, u0, v0, x1, y1, z1, w1, u1, v1, x2, y2, z2, w2, u2, v2] x y * z2))
  | _, _, _ => 0
def hold0 (z : Int) : Int := if 65535 < (if 0 > z then 0 else z) then 65535 else (if 0 > z then 0 else z)
def mid (p : Int) : Int := wi (wi (256 * p) + 128)
def ndZ (n d : Int) : Bool := ndB n d && (decide (-2305843009213693952 ≤ n) && decide (n ≤ 2305843009213693952))
def okA (t : List Int) (px py : Int) : Bool := okT t (mid px) (mid py) && ndZ (zV t (mid px) (mid py)) (arV t)
def atA (t : List Int) (px py : Int) : AV := .tup [i64 (hold0 (nr (zV t (mid px) (mid py)) (arV t))), i64 (uV t (mid px) (mid py)), i64 (vV t (mid px) (mid py))]
abbrev atS : FSpec := tpS okA atA
theorem nd_rnd {n d : Int} (h : ndZ n d = true) : rndV n d = nr n d ∧ (if 1 > d then 1 else d) = d ∧ ndB n d = true := by
  have hb : ndB n d = true := by simp only [ndZ, Bool.and_eq_true] at h; exact h.1
  simp only [ndZ, ndB, Bool.and_eq_true, decide_eq_true_eq] at h
  exact ⟨(rnd_in (by omega) (by omega) (by omega) (by omega)).1, by split <;> omega, hb⟩
/-! slopes -/
def sl1 (t : List Int) (x y dx dy : Int) (k : Int → Int → Option AV) : Option AV :=
  bif okT t (wi (x + dx)) (wi (y + dy)) then bif okV t (wi (x + dx)) (wi (y + dy)) then k (wi (uV t (wi (x + dx)) (wi (y + dy)) - uV t x y)) (wi (vV t (wi (x + dx)) (wi (y + dy)) - vV t x y))
    else bif okT t (wi (x - dx)) (wi (y - dy)) then bif okV t (wi (x - dx)) (wi (y - dy)) then k (wi (uV t x y - uV t (wi (x - dx)) (wi (y - dy)))) (wi (vV t x y - vV t (wi (x - dx)) (wi (y - dy)))) else k 0 0 else none else none
def slP (t : List Int) (x y : Int) : Option AV :=
  bif okT t x y then bif !okV t x y then some (.tup [i64 0, i64 0, i64 0, i64 0]) else sl1 t x y 256 0 fun a b => sl1 t x y 0 256 fun c d => some (.tup [i64 a, i64 b, i64 c, i64 d]) else none
def sl2 (t : List Int) (x y dx dy : Int) (k : Int → Int → Option AV) : Option AV :=
  bif okT t x y then bif !okV t x y then k 0 0 else sl1 t x y dx dy k else none
def slR (t : List Int) (x y : Int) : Option AV := sl2 t x y 256 0 fun a b => sl2 t x y 0 256 fun c d => some (.tup [i64 a, i64 b, i64 c, i64 d])
def dU (t : List Int) (x y dx dy : Int) : Int := bif okV t x y then (bif okV t (wi (x + dx)) (wi (y + dy)) then wi (uV t (wi (x + dx)) (wi (y + dy)) - uV t x y) else bif okV t (wi (x - dx)) (wi (y - dy)) then wi (uV t x y - uV t (wi (x - dx)) (wi (y - dy))) else 0) else 0
def dV (t : List Int) (x y dx dy : Int) : Int := bif okV t x y then (bif okV t (wi (x + dx)) (wi (y + dy)) then wi (vV t (wi (x + dx)) (wi (y + dy)) - vV t x y) else bif okV t (wi (x - dx)) (wi (y - dy)) then wi (vV t x y - vV t (wi (x - dx)) (wi (y - dy))) else 0) else 0
def slA (t : List Int) (px py : Int) : AV := .tup [i64 (dU t (mid px) (mid py) 256 0), i64 (dV t (mid px) (mid py) 256 0), i64 (dU t (mid px) (mid py) 0 256), i64 (dV t (mid px) (mid py) 0 256)]
theorem sl1_eq {t : List Int} (h : ∀ a b, okT t a b = true) {x y : Int} (ho : okV t x y = true) (dx dy : Int) (k : Int → Int → Option AV) : sl1 t x y dx dy k = k (dU t x y dx dy) (dV t x y dx dy) := by
  unfold sl1 dU dV
  rw [h, h, ho]
  cases okV t (wi (x + dx)) (wi (y + dy)) <;> cases okV t (wi (x - dx)) (wi (y - dy)) <;> rfl
theorem slP_eq {t : List Int} (h : ∀ a b, okT t a b = true) (px py : Int) : slP t (mid px) (mid py) = some (slA t px py) := by
  unfold slP slA
  rw [h]
  cases ho : okV t (mid px) (mid py) with
  | true =>
    rw [sl1_eq h ho, sl1_eq h ho]; rfl
  | false => unfold dU dV; rw [ho]; rfl
theorem slR_eq {t : List Int} (h : ∀ a b, okT t a b = true) (px py : Int) : slR t (mid px) (mid py) = some (slA t px py) := by
  unfold slR slA sl2
  rw [h]
  cases ho : okV t (mid px) (mid py) with
  | true =>
    rw [sl1_eq h ho, sl1_eq h ho]; rfl
  | false => unfold dU dV; rw [ho]; rfl
abbrev slopesS : FSpec := tpS okT slA

/-! depth, told -/
def atP (t : List Int) (x y : Int) : Option AV := bif okT t x y then some (.tup [i64 (hold0 (rndV (zV t x y) (arV t))), i64 (uV t x y), i64 (vV t x y)]) else none
def atR (t : List Int) (x y : Int) : Option AV := bif okT t x y then bif ndB (zV t x y) (if 1 > arV t then 1 else arV t) then some (.tup [i64 (hold0 (nr (zV t x y) (if 1 > arV t then 1 else arV t))), i64 (uV t x y), i64 (vV t x y)]) else none else none
theorem atP_eq {t : List Int} {px py : Int} (h : okA t px py = true) : atP t (mid px) (mid py) = some (atA t px py) := by
  simp only [okA, Bool.and_eq_true] at h
  unfold atP
  rw [h.1, (nd_rnd h.2).1]; rfl
theorem atR_eq {t : List Int} {px py : Int} (h : okA t px py = true) : atR t (mid px) (mid py) = some (atA t px py) := by
  simp only [okA, Bool.and_eq_true] at h
  unfold atR
  rw [h.1, (nd_rnd h.2).2.1, (nd_rnd h.2).2.2]; rfl

/-! which triangles may be -/
def spB (x y z w u v : Int) (r : Bool) : Bool :=
  !decide (x < 0) && (!decide (x > 16384) && (!decide (y < 0) && (!decide (y > 16384) && (!decide (z < 0) && (!decide (z > 65535) && (!decide (w < 256) && (!decide (w > 536870912) && (!decide (u < -134217728) && (!decide (u > 134217728) && (!decide (v < -134217728) && (!decide (v > 134217728) && r)))))))))))
def mayTr : List Int → Bool
  | [x0, y0, z0, w0, u0, v0, x1, y1, z1, w1, u1, v1, x2, y2, z2, w2, u2, v2] => spB x0 y0 z0 w0 u0 v0 (spB x1 y1 z1 w1 u1 v1 (spB x2 y2 z2 w2 u2 v2 (decide (arV [x0, y0, z0, w0, u0, v0, x1, y1, z1, w1, u1, v1, x2, y2, z2, w2, u2, v2] > 0))))
  | _ => false
theorem nf {p q : Bool} {r : Option AV} (h : r = some (.lit (.bool q))) : (bif p then some (.lit (.bool false)) else r) = some (.lit (.bool (!p && q))) := by
  cases p with
  | true => rfl
  | false => exact h
def spT (x y z w u v : Int) (r : Option AV) : Option AV :=
  bif decide (x < 0) then some (.lit (.bool false)) else bif decide (x > 16384) then some (.lit (.bool false)) else bif decide (y < 0) then some (.lit (.bool false)) else bif decide (y > 16384) then some (.lit (.bool false)) else bif decide (z < 0) then some (.lit (.bool false)) else bif decide (z > 65535) then some (.lit (.bool false)) else bif decide (w < 256) then some (.lit (.bool false)) else bif decide (w > 536870912) then some (.lit (.bool false)) else bif decide (u < -134217728) then some (.lit (.bool false)) else bif decide (u > 134217728) then some (.lit (.bool false)) else bif decide (v < -134217728) then some (.lit (.bool false)) else bif decide (v > 134217728) then some (.lit (.bool false)) else r
theorem spT_eq {x y z w u v : Int} {r : Option AV} {q : Bool} (h : r = some (.lit (.bool q))) : spT x y z w u v r = some (.lit (.bool (spB x y z w u v q))) := by
  unfold spT spB
  exact nf (nf (nf (nf (nf (nf (nf (nf (nf (nf (nf (nf h)))))))))))
def mayTT : List Int → Option AV
  | [x0, y0, z0, w0, u0, v0, x1, y1, z1, w1, u1, v1, x2, y2, z2, w2, u2, v2] => spT x0 y0 z0 w0 u0 v0 (spT x1 y1 z1 w1 u1 v1 (spT x2 y2 z2 w2 u2 v2 (some (.lit (.bool (decide (arV [x0, y0, z0, w0, u0, v0, x1, y1, z1, w1, u1, v1, x2, y2, z2, w2, u2, v2] > 0)))))))
  | _ => none
theorem mayTT_eq (x0 y0 z0 w0 u0 v0 x1 y1 z1 w1 u1 v1 x2 y2 z2 w2 u2 v2 : Int) : mayTT [x0, y0, z0, w0, u0, v0, x1, y1, z1, w1, u1, v1, x2, y2, z2, w2, u2, v2] = some (.lit (.bool (mayTr [x0, y0, z0, w0, u0, v0, x1, y1, z1, w1, u1, v1, x2, y2, z2, w2, u2, v2]))) := spT_eq (spT_eq (spT_eq rfl))
abbrev maySt : FSpec := tS gT fun t => .lit (.bool (mayTr t))
end Go.Fx
