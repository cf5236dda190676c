/- Where all corners have one place (chapter 27), outright. -/
import Derived.Test.YthnkgakjnfghoaaPerspE
set_option linter.unusedVariables false
set_option linter.unusedSimpArgs false
namespace Go.Fx
open Go Go.Sx

theorem wi_ex (a : Int) : ∃ k, wi a = a + 18446744073709551616 * k := by
  refine ⟨(wi a - a) / 18446744073709551616, ?_⟩
  have h := wi_mod a
  split at h <;> omega
theorem wi_per (a k : Int) : wi (a + 18446744073709551616 * k) = wi a := by
  rw [wi_mod, wi_mod a]
  have : (a + 18446744073709551616 * k) % 18446744073709551616 = a % 18446744073709551616 := by omega
  rw [this]
theorem o2V_ex {t : List Int} {x y : Int} (h : okV t x y = true) : ∃ k, o2V t x y = 65536 - o0V t x y - o1V t x y + 18446744073709551616 * k := by
  simp only [okV, wOk, Bool.not_eq_true'] at h
  have e : o2V t x y = wi (wi (65536 - o0V t x y) - o1V t x y) := by
    unfold o2V wO2
    rw [h]; rfl
  obtain ⟨k1, h1⟩ := wi_ex (65536 - o0V t x y)
  obtain ⟨k2, h2⟩ := wi_ex (wi (65536 - o0V t x y) - o1V t x y)
  exact ⟨k1 + k2, by rw [e, h2, h1]; omega⟩
theorem pl_flat {t : List Int} {x y u : Int} (h : okV t x y = true) (h0 : -134217728 ≤ u) (h1 : u ≤ 134217728) : plV (o0V t x y) (o1V t x y) (o2V t x y) u u u = u := by
  obtain ⟨k, hk⟩ := o2V_ex h
  unfold plV
  rw [hk, show o0V t x y * u + o1V t x y * u + (65536 - o0V t x y - o1V t x y + 18446744073709551616 * k) * u + 32768 = 65536 * u + 32768 + 18446744073709551616 * (k * u) by grind, wi_per, wi_id (by omega) (by omega)]
  omega
theorem dU_flat {t : List Int} {u : Int} (h : ∀ x y, okV t x y = true → uV t x y = u) {x y : Int} (ho : okV t x y = true) (dx dy : Int) : dU t x y dx dy = 0 := by
  unfold dU
  rw [ho, h x y ho]
  cases g1 : okV t (wi (x + dx)) (wi (y + dy)) with
  | true => rw [h _ _ g1, Int.sub_self]; rfl
  | false =>
    cases g2 : okV t (wi (x - dx)) (wi (y - dy)) with
    | true => rw [h _ _ g2, Int.sub_self]; rfl
    | false => rfl
theorem dV_flat {t : List Int} {u : Int} (h : ∀ x y, okV t x y = true → vV t x y = u) {x y : Int} (ho : okV t x y = true) (dx dy : Int) : dV t x y dx dy = 0 := by
  unfold dV
  rw [ho, h x y ho]
  cases g1 : okV t (wi (x + dx)) (wi (y + dy)) with
  | true => rw [h _ _ g1, Int.sub_self]; rfl
  | false =>
    cases g2 : okV t (wi (x - dx)) (wi (y - dy)) with
    | true => rw [h _ _ g2, Int.sub_self]; rfl
    | false => rfl
end Go.Fx
