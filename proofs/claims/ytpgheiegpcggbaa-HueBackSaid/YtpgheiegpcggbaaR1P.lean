import Derived.Test.YtpgheiegpcggbaaR1S
set_option linter.unusedVariables false
set_option linter.unusedSimpArgs false
namespace Go.Proofs.Ytpgheiegpcggbaa
open Go Go.Sx

theorem W_id {n : Int} (h : -9223372036854775808 ≤ n) (h' : n ≤ 9223372036854775807) : W n = n := by
  have e : W n = if n % 18446744073709551616 ≥ 9223372036854775808 then n % 18446744073709551616 - 18446744073709551616 else n % 18446744073709551616 := by
    unfold W IntKind.wrap
    simp [IntKind.bits, IntKind.signed]
  rw [e]
  split <;> omega
theorem B_id {n : Int} (h : 0 ≤ n) (h' : n ≤ 255) : B n = n := by
  have e : B n = n % 256 := by
    unfold B IntKind.wrap
    simp [IntKind.bits, IntKind.signed]
  rw [e]; omega

theorem mul_bd {a b : Int} (ha : 0 ≤ a) (ha' : a ≤ 255) (hb : 0 ≤ b) (hb' : b ≤ 255) : 0 ≤ a * b ∧ a * b ≤ 255 * a ∧ a * b ≤ 255 * b := by
  refine ⟨Int.mul_nonneg ha hb, ?_, Int.mul_le_mul_of_nonneg_right ha' hb⟩
  rw [Int.mul_comm 255 a]; exact Int.mul_le_mul_of_nonneg_left hb' ha

theorem tmz_eq {a b : Int} (ha : 0 ≤ a) (ha' : a ≤ 255) (hb : 0 ≤ b) (hb' : b ≤ 255) : tmz a b = (a * b + 127) / 255 := by
  obtain ⟨h0, h1, h2⟩ := mul_bd ha ha' hb hb'
  unfold tmz
  rw [W_id (n := a) (by omega) (by omega), W_id (n := b) (by omega) (by omega), W_id (n := a * b) (by omega) (by omega), W_id (n := a * b + 127) (by omega) (by omega), Int.tdiv_eq_ediv_of_nonneg (by omega)]
  rw [W_id (by omega) (by omega), B_id (by omega) (by omega)]

theorem tmz_le {a b : Int} (ha : 0 ≤ a) (ha' : a ≤ 255) (hb : 0 ≤ b) (hb' : b ≤ 255) : 0 ≤ tmz a b ∧ tmz a b ≤ a ∧ tmz a b ≤ b := by
  obtain ⟨h0, h1, h2⟩ := mul_bd ha ha' hb hb'
  rw [tmz_eq ha ha' hb hb']
  omega

theorem tmz_comm {a b : Int} (ha : 0 ≤ a) (ha' : a ≤ 255) (hb : 0 ≤ b) (hb' : b ≤ 255) : tmz a b = tmz b a := by
  rw [tmz_eq ha ha' hb hb', tmz_eq hb hb' ha ha', Int.mul_comm]
theorem tmz_zero {a : Int} (ha : 0 ≤ a) (ha' : a ≤ 255) : tmz a 0 = 0 := by
  rw [tmz_eq ha ha' (by omega) (by omega)]; omega
theorem tmz_white {a : Int} (ha : 0 ≤ a) (ha' : a ≤ 255) : tmz a 255 = a := by
  rw [tmz_eq ha ha' (by omega) (by omega)]; omega

end Go.Proofs.Ytpgheiegpcggbaa
