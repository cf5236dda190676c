/- Plain laws of colours (chapter 3). -/
import Derived.Test.YtpgheiegpcggbaaR1H
set_option linter.unusedVariables false
set_option linter.unusedSimpArgs false
namespace Go.Proofs.Ytpgheiegpcggbaa
open Go Go.Sx

abbrev By (a : Int) : Prop := 0 ≤ a ∧ a ≤ 255
theorem mnz_eq {a b c d : Int} (ha : By a) (hb : By b) (hc : By c) (hd : By d) : mnz a b c d = (a + b + c + d + 2) / 4 := by
  obtain ⟨a0, a1⟩ := ha
  obtain ⟨b0, b1⟩ := hb
  obtain ⟨c0, c1⟩ := hc
  obtain ⟨d0, d1⟩ := hd
  unfold mnz
  rw [W_id (n := a) (by omega) (by omega), W_id (n := b) (by omega) (by omega), W_id (n := c) (by omega) (by omega), W_id (n := d) (by omega) (by omega), W_id (n := a + b) (by omega) (by omega), W_id (n := a + b + c) (by omega) (by omega), W_id (n := a + b + c + d) (by omega) (by omega), W_id (n := a + b + c + d + 2) (by omega) (by omega), Int.tdiv_eq_ediv_of_nonneg (by omega), W_id (by omega) (by omega), B_id (by omega) (by omega)]
theorem lpt_bd (t : Int) : 0 ≤ lpt t ∧ lpt t ≤ 256 := by
  unfold lpt
  split <;> split <;> omega
theorem way {a b T : Int} (ha : By a) (hb : By b) (h0 : 0 ≤ T) (h1 : T ≤ 256) : 0 ≤ (256 - T) * a ∧ (256 - T) * a ≤ 65280 ∧ 0 ≤ T * b ∧ (256 - T) * a + T * b ≤ 65280 := by
  obtain ⟨a0, a1⟩ := ha
  obtain ⟨b0, b1⟩ := hb
  have p := Int.mul_nonneg (show 0 ≤ 256 - T by omega) a0
  have q := Int.mul_nonneg h0 b0
  have p' := Int.mul_le_mul_of_nonneg_left a1 (show 0 ≤ 256 - T by omega)
  have q' := Int.mul_le_mul_of_nonneg_left b1 h0
  omega
theorem lpz_eq {a b : Int} (ha : By a) (hb : By b) (t : Int) : lpz a b t = ((256 - lpt t) * a + lpt t * b + 128) / 256 := by
  obtain ⟨t0, t1⟩ := lpt_bd t
  obtain ⟨w1, w2, w3, w4⟩ := way ha hb t0 t1
  unfold lpz
  generalize lpt t = T at *
  rw [W_id (n := 256 - T) (by omega) (by omega), W_id (n := a) (by have := ha.1; omega) (by have := ha.2; omega), W_id (n := b) (by have := hb.1; omega) (by have := hb.2; omega)]
  generalize (256 - T) * a = p at *
  generalize T * b = q at *
  rw [W_id (n := p) (by omega) (by omega), W_id (n := q) (by omega) (by omega), W_id (n := p + q) (by omega) (by omega), W_id (n := p + q + 128) (by omega) (by omega), Int.tdiv_eq_ediv_of_nonneg (by omega), W_id (by omega) (by omega), B_id (by omega) (by omega)]
theorem lpz_bd {a b : Int} (ha : By a) (hb : By b) (t : Int) : (a ≤ b → a ≤ lpz a b t ∧ lpz a b t ≤ b) ∧ (b ≤ a → b ≤ lpz a b t ∧ lpz a b t ≤ a) := by
  obtain ⟨t0, t1⟩ := lpt_bd t
  rw [lpz_eq ha hb]
  generalize lpt t = T at *
  have e : (256 - T) * a + T * b = 256 * a + T * (b - a) := by grind
  have e2 : (256 - T) * a + T * b = 256 * b + (256 - T) * (a - b) := by grind
  constructor
  · intro h
    have p := Int.mul_nonneg t0 (show 0 ≤ b - a by omega)
    have q := Int.mul_nonneg (show 0 ≤ 256 - T by omega) (show 0 ≤ b - a by omega)
    have q' : (256 - T) * (a - b) = -((256 - T) * (b - a)) := by grind
    omega
  · intro h
    have p := Int.mul_nonneg t0 (show 0 ≤ a - b by omega)
    have p' : T * (b - a) = -(T * (a - b)) := by grind
    have q := Int.mul_nonneg (show 0 ≤ 256 - T by omega) (show 0 ≤ a - b by omega)
    omega
theorem lp_ge {a b : Int} (ha : By a) (hb : By b) (t : Int) : decide (lpz a b t < if b < a then b else a) = false := by
  obtain ⟨h1, h2⟩ := lpz_bd ha hb t
  rw [decide_eq_false_iff_not]
  split
  · have := (h2 (by omega)).1; omega
  · have := (h1 (by omega)).1; omega
theorem lp_le {a b : Int} (ha : By a) (hb : By b) (t : Int) : decide (lpz a b t > if b > a then b else a) = false := by
  obtain ⟨h1, h2⟩ := lpz_bd ha hb t
  rw [decide_eq_false_iff_not]
  split
  · have := (h1 (by omega)).2; omega
  · have := (h2 (by omega)).2; omega
theorem lp_0 {a b : Int} (ha : By a) (hb : By b) : lpz a b 0 = a := by
  rw [lpz_eq ha hb, show lpt 0 = 0 from rfl, Int.zero_mul]; omega
theorem lp_n {a b : Int} (ha : By a) (hb : By b) : lpz a b (-1) = a := by
  rw [lpz_eq ha hb, show lpt (-1) = 0 from rfl, Int.zero_mul]; omega
theorem lp_1 {a b : Int} (ha : By a) (hb : By b) : lpz a b 256 = b := by
  rw [lpz_eq ha hb, show lpt 256 = 256 from rfl, Int.sub_self, Int.zero_mul]; omega
theorem lp_9 {a b : Int} (ha : By a) (hb : By b) : lpz a b 999 = b := by
  rw [lpz_eq ha hb, show lpt 999 = 256 from rfl, Int.sub_self, Int.zero_mul]; omega
theorem lp_s {a : Int} (ha : By a) (t : Int) : lpz a a t = a := by
  have := (lpz_bd ha ha t).1 (by omega); omega
theorem mn_s {a : Int} (ha : By a) : mnz a a a a = a := by rw [mnz_eq ha ha ha ha]; omega
theorem tm_white' {a : Int} (ha : By a) : tmz 255 a = a := by rw [tmz_comm (by omega) (by omega) ha.1 ha.2]; exact tmz_white ha.1 ha.2
theorem mn_p {a b c d : Int} (ha : By a) (hb : By b) (hc : By c) (hd : By d) : mnz d b a c = mnz a b c d ∧ mnz b c d a = mnz a b c d := by
  rw [mnz_eq ha hb hc hd, mnz_eq hd hb ha hc, mnz_eq hb hc hd ha]
  constructor <;> congr 1 <;> omega
theorem mn_ge {a b c d : Int} (ha : By a) (hb : By b) (hc : By c) (hd : By d) :
    decide (mnz a b c d < if d < if c < if b < a then b else a then c else if b < a then b else a then d else if c < if b < a then b else a then c else if b < a then b else a) = false := by
  rw [mnz_eq ha hb hc hd, decide_eq_false_iff_not]
  split <;> split <;> (try split) <;> (try split) <;> omega
theorem mn_le {a b c d : Int} (ha : By a) (hb : By b) (hc : By c) (hd : By d) :
    decide (mnz a b c d > if d > if c > if b > a then b else a then c else if b > a then b else a then d else if c > if b > a then b else a then c else if b > a then b else a) = false := by
  rw [mnz_eq ha hb hc hd, decide_eq_false_iff_not]
  split <;> split <;> (try split) <;> (try split) <;> omega
theorem mn_up {a b c d m : Int} (ha : By a) (hb : By b) (hc : By c) (hd : By d) (hm : By m) : decide (mnz (if m > a then m else a) b c d < mnz a b c d) = false := by
  have hu : By (if m > a then m else a) := by split <;> assumption
  rw [mnz_eq ha hb hc hd, mnz_eq hu hb hc hd, decide_eq_false_iff_not]
  split <;> omega
end Go.Proofs.Ytpgheiegpcggbaa
