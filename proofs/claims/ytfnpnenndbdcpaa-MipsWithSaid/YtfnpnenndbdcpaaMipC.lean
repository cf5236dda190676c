/- What is painted, and what is coarser: bytes, means, places (chapter 14), outright. -/
import Derived.Test.YtfnpnenndbdcpaaMipB
set_option linter.unusedVariables false
set_option linter.unusedSimpArgs false
namespace Go.Fx
open Go Go.Sx
set_option linter.unusedVariables false
set_option linter.unusedSimpArgs false
theorem wb_eq (n : Int) : wb n = n % 256 := by
  unfold wb IntKind.wrap
  simp [IntKind.bits, IntKind.signed]
theorem wb_in (n : Int) : 0 ≤ wb n ∧ wb n ≤ 255 := by rw [wb_eq]; omega
/-- four bytes -/
def okC (x : AV) : Prop := ∀ k, k < 4 → 0 ≤ cI x k ∧ cI x k ≤ 255
def rowB (L : List AV) : Prop := ∀ x, x ∈ L → okC x
theorem k4 {k : Nat} (h : k < 4) : k = 0 ∨ k = 1 ∨ k = 2 ∨ k = 3 := by omega
theorem okC_col {a b c d : Int} (ha : 0 ≤ a ∧ a ≤ 255) (hb : 0 ≤ b ∧ b ≤ 255) (hc : 0 ≤ c ∧ c ≤ 255) (hd : 0 ≤ d ∧ d ≤ 255) : okC (col a b c d) := by
  intro k hk
  rcases k4 hk with rfl | rfl | rfl | rfl
  · exact ha
  · exact hb
  · exact hc
  · exact hd
theorem cI_cA (x : AV) {k : Nat} (h : k < 4) : cI (cA x) k = cI x k := by
  rcases k4 h with rfl | rfl | rfl | rfl <;> rfl
theorem cI_mean (x y z w : AV) {k : Nat} (h : k < 4) : cI (meanA x y z w) k = mnz (cI x k) (cI y k) (cI z k) (cI w k) := by
  rcases k4 h with rfl | rfl | rfl | rfl <;> rfl
theorem okC_mean (x y z w : AV) : okC (meanA x y z w) := okC_col (wb_in _) (wb_in _) (wb_in _) (wb_in _)
theorem okC_sh (n : Int) : okC (shA n) := okC_col (wb_in _) (wb_in _) (wb_in _) (wb_in _)
theorem okC_pix (n kind : Int) (L : List AV) (i : Int) : okC (pix n kind L i) := by
  unfold pix
  cases kind == 0
  · cases kind == 1
    · cases kind == 2
      · exact okC_sh _
      · exact okC_col (wb_in _) (wb_in _) (wb_in _) (by omega)
    · exact okC_sh _
  · exact okC_sh _
theorem rowB_paint (n kind : Int) (L : List AV) (N : Nat) : rowB (paintL n kind L N) := by
  intro x hx
  obtain ⟨k, _, rfl⟩ := List.mem_map.1 hx
  exact okC_pix _ _ _ _
theorem rowB_coar (L : List AV) (s : Nat) : rowB (coarL L s) := by
  intro x hx
  obtain ⟨k, _, rfl⟩ := List.mem_map.1 hx
  exact okC_mean _ _ _ _
theorem rowB_at {L : List AV} (h : rowB L) {i : Nat} (hi : i < L.length) : okC (L.getD i .bad) := by
  refine h _ ?_
  rw [List.getD_eq_getElem?_getD, List.getElem?_eq_getElem hi]
  exact List.getElem_mem hi
theorem mnz_eq {a b c d : Int} (ha : 0 ≤ a ∧ a ≤ 255) (hb : 0 ≤ b ∧ b ≤ 255) (hc : 0 ≤ c ∧ c ≤ 255) (hd : 0 ≤ d ∧ d ≤ 255) : mnz a b c d = (a + b + c + d + 2) / 4 := by
  unfold mnz
  rw [wi_id (n := a) (by omega) (by omega), wi_id (n := b) (by omega) (by omega), wi_id (n := c) (by omega) (by omega), wi_id (n := d) (by omega) (by omega),
    wi_id (n := a + b) (by omega) (by omega), wi_id (n := a + b + c) (by omega) (by omega), wi_id (n := a + b + c + d) (by omega) (by omega), wi_id (n := a + b + c + d + 2) (by omega) (by omega),
    Int.tdiv_eq_ediv_of_nonneg (by omega), wi_id (by omega) (by omega), wb_eq]
  omega
theorem coarL_len {L : List AV} {m : Nat} : (coarL L (2 * m)).length = m * m := by
  unfold coarL; rw [coarP_len]; congr 1 <;> omega
theorem coar_at (L : List AV) {m i j : Nat} (hi : i < m) (hj : j < m) : (coarL L (2 * m)).getD (j * m + i) .bad =
    meanA (L.getD (2 * j * (2 * m) + 2 * i) .bad) (L.getD (2 * j * (2 * m) + 2 * i + 1) .bad) (L.getD (2 * j * (2 * m) + 2 * i + 2 * m) .bad) (L.getD (2 * j * (2 * m) + 2 * i + 2 * m + 1) .bad) := by
  have hm : 2 * m / 2 = m := by omega
  have hlt : j * m + i < m * m := by
    have : (j + 1) * m ≤ m * m := Nat.mul_le_mul_right m hj
    rw [Nat.succ_mul] at this; omega
  unfold coarL coarP
  rw [hm, List.getD_eq_getElem?_getD, List.getElem?_map, List.getElem?_range hlt]
  show coarE L (2 * m) (j * m + i) = _
  have := coarE_at (L := L) (s := 2 * m) (r := j) (j := i) (by omega)
  rw [hm, Nat.mul_comm m j] at this
  exact this
end Go.Fx
