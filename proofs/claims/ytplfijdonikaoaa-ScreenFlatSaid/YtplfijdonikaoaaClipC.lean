/- A way is cut between its ends, near the plane (chapter 24), of no program. -/
import Derived.Test.YtplfijdonikaoaaClipB
set_option linter.unusedVariables false
set_option linter.unusedSimpArgs false
namespace Go.Fx
open Go Go.Sx
set_option linter.unusedVariables false
def kP (p : Int) : Int := (wi (p.tmod 7 + 7)).tmod 7
theorem kP_bd (p : Int) : 0 ≤ kP p ∧ kP p ≤ 6 := by
  have h1 := Int.tmod_lt_of_pos p (show (0 : Int) < 7 by omega)
  have h2 : -7 < p.tmod 7 := by
    have := Int.tmod_lt_of_pos (-p) (show (0 : Int) < 7 by omega)
    rw [Int.neg_tmod] at this; omega
  unfold kP
  rw [wi_id (by omega) (by omega)]
  rw [Int.tmod_eq_emod_of_nonneg (by omega)]
  omega
def mnV (a b : Int) : Int := if b < a then b else a
def mxV (a b : Int) : Int := if b > a then b else a
def offV (d e : Int) : Int := wi (wi ((wi (d - e)).tdiv 131072) + 3)
theorem mnV_eq (a b : Int) : mnV a b = min a b := by unfold mnV; split <;> omega
theorem mxV_eq (a b : Int) : mxV a b = max a b := by unfold mxV; split <;> omega
theorem offV_eq {d e : Int} (h0 : 0 ≤ d - e) (h1 : d - e ≤ 4294967296) : offV d e = (d - e) / 131072 + 3 := by
  unfold offV
  rw [wi_id (n := d - e) (by omega) (by omega), Int.tdiv_eq_ediv_of_nonneg h0, wi_id (n := (d - e) / 131072) (by omega) (by omega), wi_id (by omega) (by omega)]
theorem tC_near {d e : Int} (hd : 0 ≤ d) (he : e < 0) : 2 * (tC d e * (d - e)) ≤ 131072 * d + (d - e) ∧ 131072 * d - (d - e) ≤ 2 * (tC d e * (d - e)) := by
  obtain ⟨h1, h2⟩ := nr_spec' (65536 * d) (d := d - e) (by omega)
  have hb : 0 ≤ nr (65536 * d) (d - e) ∧ nr (65536 * d) (d - e) ≤ 65536 := by
    unfold nr
    refine ⟨Int.ediv_nonneg (by omega) (by omega), ?_⟩
    have : (2 * (65536 * d) + (d - e)) / (2 * (d - e)) < 65537 := Int.ediv_lt_of_lt_mul (by omega) (by omega)
    omega
  have e1 : tC d e = nr (65536 * d) (d - e) := by
    unfold tC clampT
    rw [decide_eq_true (by omega)]
    simp only [cond_true]
    split <;> split <;> omega
  rw [e1, Int.mul_comm (nr (65536 * d) (d - e)) (d - e)]
  omega
theorem onC_near (a b t : Int) : 65536 * onC a b t ≤ 65536 * a + t * (b - a) + 32768 ∧ 65536 * a + t * (b - a) - 32768 ≤ 65536 * onC a b t := by
  unfold onC nr
  omega
theorem near2 {d e u f x3 x0 : Int} (hd : 0 ≤ d) (he : e < 0) (hu : 2 * u ≤ 131072 * d + (d - e) ∧ 131072 * d - (d - e) ≤ 2 * u) (hs : x3 + x0 = - u) (h1 : 65536 * f ≤ 65536 * d + x3 + x0 + 65536) (h2 : 65536 * d + x3 + x0 - 65536 ≤ 65536 * f) :
    -((d - e) / 131072 + 3) ≤ f ∧ f ≤ (d - e) / 131072 + 3 := by omega
theorem cut_near {a0 a1 a2 a3 b0 b1 b2 b3 : Int} (ha0 : okP a0 = true) (ha1 : okP a1 = true) (ha2 : okP a2 = true) (ha3 : okP a3 = true) (hb0 : okP b0 = true) (hb1 : okP b1 = true) (hb2 : okP b2 = true) (hb3 : okP b3 = true) {k : Int} (hk0 : 0 ≤ k) (hk1 : k ≤ 6) {d e : Int}
    (ed : insV a0 a1 a2 a3 k = d) (ee : insV b0 b1 b2 b3 k = e) (hd : 0 ≤ d) (he : e < 0) :
    -((d - e) / 131072 + 3) ≤ insV (onC a0 b0 (tC d e)) (onC a1 b1 (tC d e)) (onC a2 b2 (tC d e)) (onC a3 b3 (tC d e)) k ∧ insV (onC a0 b0 (tC d e)) (onC a1 b1 (tC d e)) (onC a2 b2 (tC d e)) (onC a3 b3 (tC d e)) k ≤ (d - e) / 131072 + 3 := by
  have ht := tC_bd d e
  have hu := tC_near hd he
  generalize tC d e = t at ht hu ⊢
  have k0 := onC_bd (a := a0) (b := b0) ht.1 ht.2
  have k1 := onC_bd (a := a1) (b := b1) ht.1 ht.2
  have k2 := onC_bd (a := a2) (b := b2) ht.1 ht.2
  have k3 := onC_bd (a := a3) (b := b3) ht.1 ht.2
  have n0 := onC_near a0 b0 t
  have n1 := onC_near a1 b1 t
  have n2 := onC_near a2 b2 t
  have n3 := onC_near a3 b3 t
  rw [okP_iff] at ha0 ha1 ha2 ha3 hb0 hb1 hb2 hb3
  generalize onC a0 b0 t = c0 at *
  generalize onC a1 b1 t = c1 at *
  generalize onC a2 b2 t = c2 at *
  generalize onC a3 b3 t = c3 at *
  have hk : k = 0 ∨ k = 1 ∨ k = 2 ∨ k = 3 ∨ k = 4 ∨ k = 5 ∨ k = 6 := by omega
  rcases hk with rfl | rfl | rfl | rfl | rfl | rfl | rfl
  · change wi (a3 - 256) = d at ed
    change wi (b3 - 256) = e at ee
    show _ ≤ wi (c3 - 256) ∧ wi (c3 - 256) ≤ _
    rw [wi_id (by omega) (by omega)] at ed ee ⊢
    refine near2 hd he hu (x3 := t * (b3 - a3)) (x0 := 0) ?_ ?_ ?_
    · rw [← ed, ← ee]; grind
    · omega
    · omega
  · change wi (a3 + a0) = d at ed
    change wi (b3 + b0) = e at ee
    show _ ≤ wi (c3 + c0) ∧ wi (c3 + c0) ≤ _
    rw [wi_id (by omega) (by omega)] at ed ee ⊢
    refine near2 hd he hu (x3 := t * (b3 - a3)) (x0 := (t * (b0 - a0))) ?_ ?_ ?_
    · rw [← ed, ← ee]; grind
    · omega
    · omega
  · change wi (a3 - a0) = d at ed
    change wi (b3 - b0) = e at ee
    show _ ≤ wi (c3 - c0) ∧ wi (c3 - c0) ≤ _
    rw [wi_id (by omega) (by omega)] at ed ee ⊢
    refine near2 hd he hu (x3 := t * (b3 - a3)) (x0 := -(t * (b0 - a0))) ?_ ?_ ?_
    · rw [← ed, ← ee]; grind
    · omega
    · omega
  · change wi (a3 + a1) = d at ed
    change wi (b3 + b1) = e at ee
    show _ ≤ wi (c3 + c1) ∧ wi (c3 + c1) ≤ _
    rw [wi_id (by omega) (by omega)] at ed ee ⊢
    refine near2 hd he hu (x3 := t * (b3 - a3)) (x0 := (t * (b1 - a1))) ?_ ?_ ?_
    · rw [← ed, ← ee]; grind
    · omega
    · omega
  · change wi (a3 - a1) = d at ed
    change wi (b3 - b1) = e at ee
    show _ ≤ wi (c3 - c1) ∧ wi (c3 - c1) ≤ _
    rw [wi_id (by omega) (by omega)] at ed ee ⊢
    refine near2 hd he hu (x3 := t * (b3 - a3)) (x0 := -(t * (b1 - a1))) ?_ ?_ ?_
    · rw [← ed, ← ee]; grind
    · omega
    · omega
  · change wi (a3 + a2) = d at ed
    change wi (b3 + b2) = e at ee
    show _ ≤ wi (c3 + c2) ∧ wi (c3 + c2) ≤ _
    rw [wi_id (by omega) (by omega)] at ed ee ⊢
    refine near2 hd he hu (x3 := t * (b3 - a3)) (x0 := (t * (b2 - a2))) ?_ ?_ ?_
    · rw [← ed, ← ee]; grind
    · omega
    · omega
  · change wi (a3 - a2) = d at ed
    change wi (b3 - b2) = e at ee
    show _ ≤ wi (c3 - c2) ∧ wi (c3 - c2) ≤ _
    rw [wi_id (by omega) (by omega)] at ed ee ⊢
    refine near2 hd he hu (x3 := t * (b3 - a3)) (x0 := -(t * (b2 - a2))) ?_ ?_ ?_
    · rw [← ed, ← ee]; grind
    · omega
    · omega

def cutsT (a0 a1 a2 a3 a4 a5 b0 b1 b2 b3 b4 b5 p : Int) : Option Bool :=
  bif !(okv a0 a1 a2 a3 a4 a5 && okv b0 b1 b2 b3 b4 b5) then some true else bif decide (insV a0 a1 a2 a3 (kP p) < 0) then some true else bif decide (insV b0 b1 b2 b3 (kP p) ≥ 0) then some true else bif okv a0 a1 a2 a3 a4 a5 && okv b0 b1 b2 b3 b4 b5 then
  (bif decide (onC a0 b0 (tC (insV a0 a1 a2 a3 (kP p)) (insV b0 b1 b2 b3 (kP p))) < mnV a0 b0) then some false else bif decide (onC a0 b0 (tC (insV a0 a1 a2 a3 (kP p)) (insV b0 b1 b2 b3 (kP p))) > mxV a0 b0) then some false else (bif decide (onC a1 b1 (tC (insV a0 a1 a2 a3 (kP p)) (insV b0 b1 b2 b3 (kP p))) < mnV a1 b1) then some false else bif decide (onC a1 b1 (tC (insV a0 a1 a2 a3 (kP p)) (insV b0 b1 b2 b3 (kP p))) > mxV a1 b1) then some false else (bif decide (onC a2 b2 (tC (insV a0 a1 a2 a3 (kP p)) (insV b0 b1 b2 b3 (kP p))) < mnV a2 b2) then some false else bif decide (onC a2 b2 (tC (insV a0 a1 a2 a3 (kP p)) (insV b0 b1 b2 b3 (kP p))) > mxV a2 b2) then some false else (bif decide (onC a3 b3 (tC (insV a0 a1 a2 a3 (kP p)) (insV b0 b1 b2 b3 (kP p))) < mnV a3 b3) then some false else bif decide (onC a3 b3 (tC (insV a0 a1 a2 a3 (kP p)) (insV b0 b1 b2 b3 (kP p))) > mxV a3 b3) then some false else bif decide (onC a4 b4 (tC (insV a0 a1 a2 a3 (kP p)) (insV b0 b1 b2 b3 (kP p))) ≥ mnV a4 b4) then bif decide (onC a4 b4 (tC (insV a0 a1 a2 a3 (kP p)) (insV b0 b1 b2 b3 (kP p))) ≤ mxV a4 b4) then bif decide (onC a5 b5 (tC (insV a0 a1 a2 a3 (kP p)) (insV b0 b1 b2 b3 (kP p))) ≥ mnV a5 b5) then bif decide (onC a5 b5 (tC (insV a0 a1 a2 a3 (kP p)) (insV b0 b1 b2 b3 (kP p))) ≤ mxV a5 b5) then bif decide (insV (onC a0 b0 (tC (insV a0 a1 a2 a3 (kP p)) (insV b0 b1 b2 b3 (kP p)))) (onC a1 b1 (tC (insV a0 a1 a2 a3 (kP p)) (insV b0 b1 b2 b3 (kP p)))) (onC a2 b2 (tC (insV a0 a1 a2 a3 (kP p)) (insV b0 b1 b2 b3 (kP p)))) (onC a3 b3 (tC (insV a0 a1 a2 a3 (kP p)) (insV b0 b1 b2 b3 (kP p)))) (kP p) ≥ wi (0 - offV (insV a0 a1 a2 a3 (kP p)) (insV b0 b1 b2 b3 (kP p)))) then bif decide (insV (onC a0 b0 (tC (insV a0 a1 a2 a3 (kP p)) (insV b0 b1 b2 b3 (kP p)))) (onC a1 b1 (tC (insV a0 a1 a2 a3 (kP p)) (insV b0 b1 b2 b3 (kP p)))) (onC a2 b2 (tC (insV a0 a1 a2 a3 (kP p)) (insV b0 b1 b2 b3 (kP p)))) (onC a3 b3 (tC (insV a0 a1 a2 a3 (kP p)) (insV b0 b1 b2 b3 (kP p)))) (kP p) ≤ offV (insV a0 a1 a2 a3 (kP p)) (insV b0 b1 b2 b3 (kP p))) then some true else some false else some false else some false else some false else some false else some false))))
  else none
theorem cutsT_true (a0 a1 a2 a3 a4 a5 b0 b1 b2 b3 b4 b5 p : Int) : cutsT a0 a1 a2 a3 a4 a5 b0 b1 b2 b3 b4 b5 p = some true := by
  unfold cutsT
  cases hok : (okv a0 a1 a2 a3 a4 a5 && okv b0 b1 b2 b3 b4 b5)
  · rfl
  · simp only [Bool.and_eq_true, okv_iff] at hok
    obtain ⟨⟨ha0, ha1, ha2, ha3, ha4, ha5⟩, hb0, hb1, hb2, hb3, hb4, hb5⟩ := hok
    have hk := kP_bd p
    have bd := ins_bd ha0 ha1 ha2 ha3 (kP p)
    have be := ins_bd hb0 hb1 hb2 hb3 (kP p)
    have ed : insV a0 a1 a2 a3 (kP p) = insV a0 a1 a2 a3 (kP p) := rfl
    have ee : insV b0 b1 b2 b3 (kP p) = insV b0 b1 b2 b3 (kP p) := rfl
    generalize h1 : insV a0 a1 a2 a3 (kP p) = d at *
    generalize h2 : insV b0 b1 b2 b3 (kP p) = e at *
    simp only [Bool.not_true, cond_false, cond_true]
    by_cases hd : d < 0
    · rw [decide_eq_true hd]; rfl
    rw [decide_eq_false hd, cond_false]
    by_cases he : e ≥ 0
    · rw [decide_eq_true he]; rfl
    rw [decide_eq_false he, cond_false]
    have hn := cut_near ha0 ha1 ha2 ha3 hb0 hb1 hb2 hb3 hk.1 hk.2 h1 h2 (by omega) (by omega)
    have ht := tC_bd d e
    rw [offV_eq (by omega) (by omega)]
    generalize tC d e = t at *
    have k0 := onC_bd (a := a0) (b := b0) ht.1 ht.2
    have k1 := onC_bd (a := a1) (b := b1) ht.1 ht.2
    have k2 := onC_bd (a := a2) (b := b2) ht.1 ht.2
    have k3 := onC_bd (a := a3) (b := b3) ht.1 ht.2
    have k4 := onC_bd (a := a4) (b := b4) ht.1 ht.2
    have k5 := onC_bd (a := a5) (b := b5) ht.1 ht.2
    simp only [mnV_eq, mxV_eq]
    rw [decide_eq_false (show ¬ onC a0 b0 t < min a0 b0 by omega), decide_eq_false (show ¬ onC a0 b0 t > max a0 b0 by omega),
      decide_eq_false (show ¬ onC a1 b1 t < min a1 b1 by omega), decide_eq_false (show ¬ onC a1 b1 t > max a1 b1 by omega),
      decide_eq_false (show ¬ onC a2 b2 t < min a2 b2 by omega), decide_eq_false (show ¬ onC a2 b2 t > max a2 b2 by omega),
      decide_eq_false (show ¬ onC a3 b3 t < min a3 b3 by omega), decide_eq_false (show ¬ onC a3 b3 t > max a3 b3 by omega),
      decide_eq_true (show onC a4 b4 t ≥ min a4 b4 by omega), decide_eq_true (show onC a4 b4 t ≤ max a4 b4 by omega),
      decide_eq_true (show onC a5 b5 t ≥ min a5 b5 by omega), decide_eq_true (show onC a5 b5 t ≤ max a5 b5 by omega)]
    rw [wi_id (n := 0 - ((d - e) / 131072 + 3)) (by omega) (by omega)]
    rw [decide_eq_true (show insV (onC a0 b0 t) (onC a1 b1 t) (onC a2 b2 t) (onC a3 b3 t) (kP p) ≥ 0 - ((d - e) / 131072 + 3) by omega), decide_eq_true hn.2]
    rfl
end Go.Fx
