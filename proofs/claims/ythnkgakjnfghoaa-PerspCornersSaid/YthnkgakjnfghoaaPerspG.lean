/- At a corner, and inside (chapter 27), outright. -/
import Derived.Test.YthnkgakjnfghoaaPerspF
set_option linter.unusedVariables false
set_option linter.unusedSimpArgs false
namespace Go.Fx
open Go Go.Sx

def min3 (a b c : Int) : Int := if c < (if b < a then b else a) then c else (if b < a then b else a)
def max3 (a b c : Int) : Int := if c > (if b > a then b else a) then c else (if b > a then b else a)
theorem min3_le (a b c : Int) : min3 a b c ≤ a ∧ min3 a b c ≤ b ∧ min3 a b c ≤ c ∧ (min3 a b c = a ∨ min3 a b c = b ∨ min3 a b c = c) := by
  unfold min3
  split <;> split <;> (try split) <;> omega
theorem max3_ge (a b c : Int) : a ≤ max3 a b c ∧ b ≤ max3 a b c ∧ c ≤ max3 a b c ∧ (max3 a b c = a ∨ max3 a b c = b ∨ max3 a b c = c) := by
  unfold max3
  split <;> split <;> (try split) <;> omega
theorem mix {o0 o1 o2 a b c l h s : Int} (h0 : 0 ≤ o0) (h1 : 0 ≤ o1) (h2 : 0 ≤ o2) (hs : o0 + o1 + o2 = s) (la : l ≤ a) (lb : l ≤ b) (lc : l ≤ c) (ha : a ≤ h) (hb : b ≤ h) (hc : c ≤ h) :
    s * l ≤ o0 * a + o1 * b + o2 * c ∧ o0 * a + o1 * b + o2 * c ≤ s * h := by
  have p0 := Int.mul_nonneg h0 (show 0 ≤ a - l by omega)
  have p1 := Int.mul_nonneg h1 (show 0 ≤ b - l by omega)
  have p2 := Int.mul_nonneg h2 (show 0 ≤ c - l by omega)
  have q0 := Int.mul_nonneg h0 (show 0 ≤ h - a by omega)
  have q1 := Int.mul_nonneg h1 (show 0 ≤ h - b by omega)
  have q2 := Int.mul_nonneg h2 (show 0 ≤ h - c by omega)
  have e1 : o0 * a + o1 * b + o2 * c = s * l + (o0 * (a - l) + o1 * (b - l) + o2 * (c - l)) := by rw [← hs]; grind
  have e2 : s * h = o0 * a + o1 * b + o2 * c + (o0 * (h - a) + o1 * (h - b) + o2 * (h - c)) := by rw [← hs]; grind
  omega
theorem pl_in {o0 o1 o2 a b c : Int} (h0 : 0 ≤ o0) (h1 : 0 ≤ o1) (h2 : 0 ≤ o2) (hs : o0 + o1 + o2 = 65536) (a0 : -134217728 ≤ a) (a1 : a ≤ 134217728) (b0 : -134217728 ≤ b) (b1 : b ≤ 134217728) (c0 : -134217728 ≤ c) (c1 : c ≤ 134217728) :
    min3 a b c ≤ plV o0 o1 o2 a b c ∧ plV o0 o1 o2 a b c ≤ max3 a b c := by
  obtain ⟨la, lb, lc, le⟩ := min3_le a b c
  obtain ⟨ha, hb, hc, he⟩ := max3_ge a b c
  obtain ⟨m1, m2⟩ := mix h0 h1 h2 hs la lb lc ha hb hc
  unfold plV
  rw [wi_id (by omega) (by omega)]
  omega
theorem z_in {a b c z0 z1 z2 A : Int} (h0 : 0 ≤ a) (h1 : 0 ≤ b) (h2 : 0 ≤ c) (hs : a + b + c = A) (hA : 0 < A) (z00 : 0 ≤ z0) (z01 : z0 ≤ 65535) (z10 : 0 ≤ z1) (z11 : z1 ≤ 65535) (z20 : 0 ≤ z2) (z21 : z2 ≤ 65535) :
    min3 z0 z1 z2 ≤ hold0 (nr (a * z0 + b * z1 + c * z2) A) ∧ hold0 (nr (a * z0 + b * z1 + c * z2) A) ≤ max3 z0 z1 z2 := by
  obtain ⟨la, lb, lc, le⟩ := min3_le z0 z1 z2
  obtain ⟨ha, hb, hc, he⟩ := max3_ge z0 z1 z2
  obtain ⟨m1, m2⟩ := mix h0 h1 h2 hs la lb lc ha hb hc
  have n1 := nr_mono hA m1
  have n2 := nr_mono hA m2
  rw [nr_mul _ hA] at n1 n2
  generalize nr (a * z0 + b * z1 + c * z2) A = z at *
  have : hold0 z = z := by
    unfold hold0
    rw [if_neg (show ¬ 0 > z by omega), if_neg (by omega)]
  omega
theorem wO_full {s : Int} (h1 : 1 ≤ s) (h2 : s ≤ 9223372036854775807) : wO s s = 65536 := by
  obtain ⟨k, e, q1, _⟩ := wO_in h1 h2 (show 0 ≤ s by omega) (Int.le_refl s)
  rw [e]
  exact Int.mul_ediv_cancel_left _ (by omega)
theorem wO_zero {s : Int} (h1 : 1 ≤ s) (h2 : s ≤ 9223372036854775807) : wO s 0 = 0 := by
  obtain ⟨k, e, q1, _⟩ := wO_in h1 h2 (Int.le_refl 0) (show (0 : Int) ≤ s by omega)
  rw [e, Int.zero_ediv, Int.zero_mul, Int.zero_ediv]
/-- the parts at a point: none below 0, One together -/
theorem parts {s p q : Int} (h1 : 1 ≤ s) (h2 : s ≤ 9223372036854775807) (hp : 0 ≤ p) (hq : 0 ≤ q) (hs : p + q ≤ s) : 0 ≤ wO s p ∧ 0 ≤ wO s q ∧ wO s p + wO s q ≤ 65536 := by
  obtain ⟨k, e0, q1, q2, m0, m1, hk⟩ := wO_in h1 h2 hp (by omega)
  obtain ⟨k', e1, q1', q2', m0', m1', hk'⟩ := wO_in h1 h2 hq (by omega)
  have hkk : k' = k := by rw [hk] at hk'; omega
  subst hkk
  have hpos : (0 : Int) < 2 ^ k' := Int.pow_pos (by omega)
  have hsum : p / 2 ^ k' + q / 2 ^ k' ≤ s / 2 ^ k' := by
    refine (Int.le_ediv_iff_mul_le hpos).2 ?_
    have a := Int.mul_ediv_add_emod p (2 ^ k')
    have b := Int.mul_ediv_add_emod q (2 ^ k')
    have a' := Int.emod_nonneg p (show (2 : Int) ^ k' ≠ 0 by omega)
    have b' := Int.emod_nonneg q (show (2 : Int) ^ k' ≠ 0 by omega)
    have e : (p / 2 ^ k' + q / 2 ^ k') * 2 ^ k' = 2 ^ k' * (p / 2 ^ k') + 2 ^ k' * (q / 2 ^ k') := by grind
    omega
  rw [e0, e1]
  generalize p / 2 ^ k' = x at *
  generalize q / 2 ^ k' = y at *
  generalize s / 2 ^ k' = Q at *
  have x1 := Int.ediv_nonneg (show 0 ≤ x * 65536 by omega) (show 0 ≤ Q by omega)
  have y1 := Int.ediv_nonneg (show 0 ≤ y * 65536 by omega) (show 0 ≤ Q by omega)
  have x2 : Q * (x * 65536 / Q) ≤ x * 65536 := Int.mul_ediv_self_le (by omega)
  have y2 : Q * (y * 65536 / Q) ≤ y * 65536 := Int.mul_ediv_self_le (by omega)
  refine ⟨x1, y1, ?_⟩
  have e : Q * (x * 65536 / Q + y * 65536 / Q) = Q * (x * 65536 / Q) + Q * (y * 65536 / Q) := Int.mul_add _ _ _
  refine Int.le_of_mul_le_mul_left (a := Q) ?_ (by omega)
  omega
theorem oV_parts {t : List Int} {x y s p q : Int} (hs : sV t x y = s) (h0 : n0V t x y = p) (h1 : n1V t x y = q) (hs1 : 1 ≤ s) (hs2 : s ≤ 9223372036854775807) (hp : 0 ≤ p) (hq : 0 ≤ q) (hpq : p + q ≤ s) :
    okV t x y = true ∧ o0V t x y = wO s p ∧ o1V t x y = wO s q ∧ o2V t x y = 65536 - wO s p - wO s q ∧ 0 ≤ wO s p ∧ 0 ≤ wO s q ∧ wO s p + wO s q ≤ 65536 ∧ wi (wi (o0V t x y + o1V t x y) + o2V t x y) = 65536 := by
  obtain ⟨g0, g1, g2⟩ := parts hs1 hs2 hp hq hpq
  have e2 : o2V t x y = 65536 - wO s p - wO s q := by
    unfold o2V wO2
    rw [hs, h0, h1, decide_eq_false (by omega), cond_false, wi_id (n := 65536 - wO s p) (by omega) (by omega), wi_id (by omega) (by omega)]
  have e0 : o0V t x y = wO s p := by unfold o0V; rw [hs, h0]
  have e1 : o1V t x y = wO s q := by unfold o1V; rw [hs, h1]
  refine ⟨by unfold okV wOk; rw [hs, decide_eq_false (by omega)]; rfl, e0, e1, e2, g0, g1, g2, ?_⟩
  rw [e0, e1, e2, wi_id (n := wO s p + wO s q) (by omega) (by omega), wi_id (by omega) (by omega)]
  omega
end Go.Fx
