/- Plain laws of fix's numbers. -/
import Derived.Test.YtfnpnenndbdcpaaFxB
set_option linter.unusedVariables false
set_option linter.unusedSimpArgs false
namespace Go.Fx
open Go Go.Sx

theorem nr_spec' (n : Int) {d : Int} (hd : 0 < d) : 2 * (d * nr n d) ≤ 2 * n + d ∧ 2 * n + d < 2 * (d * nr n d) + 2 * d := by
  have h := nr_spec n hd
  rw [Int.mul_assoc] at h
  exact h
theorem nr_mono {n m d : Int} (hd : 0 < d) (h : n ≤ m) : nr n d ≤ nr m d := by
  unfold nr
  exact Int.ediv_le_ediv (by omega) (by omega)
theorem nr_mul (x : Int) {d : Int} (hd : 0 < d) : nr (d * x) d = x := by
  apply nr_unique hd
  · rw [Int.mul_assoc]; omega
  · rw [Int.mul_add, Int.mul_assoc]; omega
theorem nr_mul' (x : Int) {d : Int} (hd : 0 < d) : nr (x * d) d = x := by rw [Int.mul_comm]; exact nr_mul x hd
theorem nr_zero {d : Int} (hd : 0 < d) : nr 0 d = 0 := by
  have := nr_mul 0 hd
  rwa [Int.mul_zero] at this
theorem nr_one (n : Int) : nr n 1 = n := by have := nr_mul n (d := 1) (by omega); rwa [Int.one_mul] at this
theorem nr_two (n : Int) {d : Int} (hd : 0 < d) : nr (2 * n) (2 * d) = nr n d := by
  unfold nr
  rw [show 2 * (2 * n) + 2 * d = 2 * (2 * n + d) by omega, Int.mul_ediv_mul_of_pos _ _ (by omega)]
theorem nr_neg (n : Int) {d : Int} (hd : 0 < d) : nr (-n) d = - nr n d ∨ nr (-n) d = 1 - nr n d := by
  have h1 := nr_spec' n hd
  have h2 := nr_spec' (-n) hd
  have e : d * (nr n d + nr (-n) d) = d * nr n d + d * nr (-n) d := Int.mul_add _ _ _
  have a : nr n d + nr (-n) d ≤ 1 := Int.le_of_mul_le_mul_left (a := d) (by rw [e]; omega) hd
  have b : nr n d + nr (-n) d > -1 := Int.lt_of_mul_lt_mul_left (a := d) (by rw [e]; omega) (by omega)
  omega
theorem rnd_in {n d : Int} (h0 : 1 ≤ d) (h1 : d ≤ 1099511627776) (h2 : -2305843009213693952 ≤ n) (h3 : n ≤ 2305843009213693952) : rndV n d = nr n d ∧ rndE n d = 0 := by
  have a : rndD d = false := by simp [rndD]; omega
  have b : rndN n = false := by simp [rndN]; omega
  unfold rndV rndE
  rw [a, b]; exact ⟨rfl, rfl⟩
theorem add_in {a b : Int} (ha : okz a = true) (hb : okz b = true) (h : okz (a + b) = true) : addV a b = a + b ∧ addE a b = 0 := by
  unfold addV addE fitV fitE; rw [ha, hb, h]; exact ⟨rfl, rfl⟩
theorem add_out {a b : Int} (ha : okz a = true) (hb : okz b = true) (h : okz (a + b) = false) : addV a b = 0 ∧ addE a b = 2 := by
  unfold addV addE fitV fitE; rw [ha, hb, h]; exact ⟨rfl, rfl⟩
theorem lerp_in {a b t : Int} (ha : okz a = true) (hb : okz b = true) (h0 : 0 ≤ t) (h1 : t ≤ 65536) : lerpV a b t = a + nr (t * (b - a)) 65536 ∧ lerpE a b t = 0 := by
  have c : lerpT t = false := by simp [lerpT]; omega
  unfold lerpV lerpE; rw [ha, hb, c]; exact ⟨rfl, rfl⟩
theorem lerp_ends (a b : Int) : a + nr (0 * (b - a)) 65536 = a ∧ a + nr (65536 * (b - a)) 65536 = b := by
  rw [Int.zero_mul, nr_zero (by omega), nr_mul _ (by omega)]; omega
theorem lerp_up {a b s t : Int} (hab : a ≤ b) (h : s ≤ t) : a + nr (s * (b - a)) 65536 ≤ a + nr (t * (b - a)) 65536 := by
  have := nr_mono (d := 65536) (by omega) (Int.mul_le_mul_of_nonneg_right h (show 0 ≤ b - a by omega)); omega
theorem lerp_down {a b s t : Int} (hab : b ≤ a) (h : s ≤ t) : a + nr (t * (b - a)) 65536 ≤ a + nr (s * (b - a)) 65536 := by
  have := nr_mono (d := 65536) (by omega) (Int.mul_le_mul_of_nonpos_right h (show b - a ≤ 0 by omega)); omega
theorem nr_near {n d : Int} (h0 : 1 ≤ d) (h1 : d ≤ 1048576) (h2 : -1125899906842624 ≤ n) (h3 : n ≤ 1125899906842624) :
    -1125899906842625 ≤ nr n d ∧ nr n d ≤ 1125899906842625 ∧ -d ≤ 2 * n - 2 * (nr n d * d) ∧ 2 * n - 2 * (nr n d * d) < d ∧ 2 * (nr n d * d) = 2 * nr n d * d := by
  have a := nr_bd (n := n) (d := d) (by omega) (m := 1125899906842624) (by omega) h2 h3
  have b := nr_spec' n (d := d) (by omega)
  rw [Int.mul_comm d] at b
  exact ⟨by omega, by omega, by omega, by omega, (Int.mul_assoc _ _ _).symm⟩
end Go.Fx
