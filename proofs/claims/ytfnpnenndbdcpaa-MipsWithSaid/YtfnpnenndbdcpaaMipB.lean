/- Rows laid into a square (chapter 14), outright. -/
import Derived.Test.YtfnpnenndbdcpaaMipA
set_option linter.unusedVariables false
set_option linter.unusedSimpArgs false
namespace Go.Fx
open Go Go.Sx
set_option linter.unusedVariables false
set_option linter.unusedSimpArgs false
def lrow (l : List AV) (w r : Nat) : List AV := (l.take (r * w + w)).drop (r * w)
def layR (T l : List AV) (n x y w : Nat) : Nat → List AV
  | 0 => T
  | r + 1 => lay (layR T l n x y w r) (lrow l w r) ((y + r) * n + x)
theorem lrow_len {l : List AV} {w h r : Nat} (hl : l.length = w * h) (hr : r < h) : (lrow l w r).length = w := by
  have : r * w + w ≤ w * h := by
    rw [← Nat.succ_mul, Nat.mul_comm w h]; exact Nat.mul_le_mul_right w hr
  simp only [lrow, List.length_drop, List.length_take]; omega
theorem row_fit {n x y w r j : Nat} (hj : y + r < j) (hx : x + w ≤ n) : (y + r) * n + x + w ≤ j * n := by
  have : (y + r + 1) * n ≤ j * n := Nat.mul_le_mul_right n hj
  rw [Nat.succ_mul] at this; omega
theorem layR_len {T l : List AV} {n x y w h : Nat} (hT : T.length = n * n) (hl : l.length = w * h) (hx : x + w ≤ n) (hy : y + h ≤ n) : ∀ r, r ≤ h → (layR T l n x y w r).length = n * n
  | 0, _ => hT
  | r + 1, hr => by
    have ih := layR_len hT hl hx hy r (by omega)
    unfold layR
    rw [lay_len]
    · exact ih
    · rw [ih, lrow_len hl (by omega)]; exact row_fit (by omega) hx
theorem layR_at {T l : List AV} {n x y w h : Nat} (hT : T.length = n * n) (hl : l.length = w * h) (hx : x + w ≤ n) (hy : y + h ≤ n) {i j : Nat} (hi : i < n) (hj : j < n) : ∀ r, r ≤ h →
    (layR T l n x y w r)[j * n + i]? = if (x ≤ i ∧ i < x + w) ∧ (y ≤ j ∧ j < y + r) then l[(j - y) * w + (i - x)]? else T[j * n + i]?
  | 0, _ => by rw [if_neg (by omega)]; rfl
  | r + 1, hr => by
    have ih := layR_at hT hl hx hy hi hj r (by omega)
    have hlen := layR_len hT hl hx hy r (by omega)
    have hw := lrow_len hl (show r < h by omega)
    unfold layR
    rw [lay_at (by rw [hlen, hw]; exact row_fit (by omega) hx), hw, ih]
    rcases Nat.lt_trichotomy j (y + r) with h1 | h1 | h1
    · have := row_fit (x := i) (w := 1) (y := 0) (r := j) (j := y + r) (n := n) (by omega) (by omega)
      rw [if_pos (by simp only [Nat.zero_add] at this; omega)]
      by_cases hc : (x ≤ i ∧ i < x + w) ∧ (y ≤ j ∧ j < y + r)
      · rw [if_pos hc, if_pos ⟨hc.1, hc.2.1, by omega⟩]
      · rw [if_neg hc, if_neg (by omega)]
    · subst h1
      have hsub : y + r - y = r := by omega
      by_cases h2 : i < x
      · rw [if_pos (by omega), if_neg (by omega), if_neg (by omega)]
      · rw [if_neg (by omega)]
        by_cases h3 : i < x + w
        · rw [if_pos (by omega), if_pos ⟨⟨by omega, h3⟩, by omega, by omega⟩, hsub]
          unfold lrow
          rw [List.getElem?_drop, List.getElem?_take, if_pos (by omega)]
          congr 1; omega
        · rw [if_neg (by omega), if_neg (by omega), if_neg (by omega)]
    · have := row_fit (x := x) (w := w) (y := y) (r := r) (j := j) (n := n) (by omega) hx
      rw [if_neg (by omega), if_neg (by omega)]
      by_cases hc : (x ≤ i ∧ i < x + w) ∧ (y ≤ j ∧ j < y + r)
      · omega
      · rw [if_neg hc, if_neg (by omega)]
/-! what may be laid -/
def okW (n x y w h : Int) (k : Nat) : Bool := decide (1 ≤ w) && decide (1 ≤ h) && decide (0 ≤ x) && decide (0 ≤ y) && decide (x + w ≤ n) && decide (y + h ≤ n) && decide ((k : Int) = w * h)
theorem okW_nat {n x y w h : Int} {k : Nat} (hk : okW n x y w h k = true) : 1 ≤ w.toNat ∧ 1 ≤ h.toNat ∧ ((x.toNat : Int) = x ∧ (y.toNat : Int) = y ∧ (w.toNat : Int) = w ∧ (h.toNat : Int) = h ∧ (n.toNat : Int) = n) ∧ x.toNat + w.toNat ≤ n.toNat ∧ y.toNat + h.toNat ≤ n.toNat ∧ k = w.toNat * h.toNat := by
  simp only [okW, Bool.and_eq_true, decide_eq_true_eq] at hk
  obtain ⟨⟨⟨⟨⟨⟨h1, h2⟩, h3⟩, h4⟩, h5⟩, h6⟩, h7⟩ := hk
  have ew : (w.toNat : Int) = w := by omega
  have eh : (h.toNat : Int) = h := by omega
  refine ⟨by omega, by omega, ⟨by omega, by omega, ew, eh, by omega⟩, by omega, by omega, ?_⟩
  have : ((w.toNat * h.toNat : Nat) : Int) = w * h := by rw [Int.natCast_mul, ew, eh]
  omega
def withL (n x y w h : Int) (l T : List AV) : List AV := layR T l n.toNat x.toNat y.toNat w.toNat h.toNat
end Go.Fx
