/- Three corners: what is left (chapter 24), of no program. -/
import Derived.Test.YtplfijdonikaoaaClipF
set_option linter.unusedVariables false
set_option linter.unusedSimpArgs false
namespace Go.Fx
open Go Go.Sx
theorem itX_42 {L : List AV} (h : L.length = 3) : (itX L 7).length ≤ 42 := by
  have h0 : 2 * (itX L 1).length ≤ 3 * (itX L 0).length := byX_half (itX L 0) _
  have h1 : 2 * (itX L 2).length ≤ 3 * (itX L 1).length := byX_half (itX L 1) _
  have h2 : 2 * (itX L 3).length ≤ 3 * (itX L 2).length := byX_half (itX L 2) _
  have h3 : 2 * (itX L 4).length ≤ 3 * (itX L 3).length := byX_half (itX L 3) _
  have h4 : 2 * (itX L 5).length ≤ 3 * (itX L 4).length := byX_half (itX L 4) _
  have h5 : 2 * (itX L 6).length ≤ 3 * (itX L 5).length := byX_half (itX L 5) _
  have h6 : 2 * (itX L 7).length ≤ 3 * (itX L 6).length := byX_half (itX L 6) _
  have : (itX L 0).length = 3 := h
  omega
theorem polX_42 {L : List AV} (h : L.length = 3) : (polX L).length ≤ 42 ∧ (polX L).length ≠ 1 ∧ (polX L).length ≠ 2 := by
  have h1 := itX_42 h
  unfold polX
  rw [if_neg (by omega)]
  split
  · simp
  · omega
theorem byX_out (p : Int) (L : List AV) (h : (L.all fun x => !inB x p) = true) : byX L p = [] := by
  cases L with
  | nil => rfl
  | cons a l =>
    have h1 : nI p (a :: l) = 0 := by
      generalize a :: l = M at h
      induction M with
      | nil => rfl
      | cons b M ih =>
        simp only [List.all_cons, Bool.and_eq_true, Bool.not_eq_true'] at h
        rw [nI, h.1, ih (by simpa using h.2)]; rfl
    have h2 := byX_cnt p a l
    have h3 := nD_le p (a :: l) a
    exact List.eq_nil_of_length_eq_zero (by omega)
theorem polX_out {L : List AV} (h : (L.all fun x => !inB x ((0 : Nat) : Int)) = true) : polX L = [] := by
  unfold polX
  have : itX L 7 = [] := itX_nil (k := 1) (byX_out _ L h) 6
  rw [this]; split <;> rfl
end Go.Fx
