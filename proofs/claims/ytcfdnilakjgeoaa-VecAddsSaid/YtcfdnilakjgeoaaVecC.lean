/- A matrix does to twice a vector twice what it does to it, but for a rounding, outright. -/
import Derived.Test.YtcfdnilakjgeoaaVecB
set_option linter.unusedVariables false
set_option linter.unusedSimpArgs false
namespace Go.Fx
open Go Go.Sx

theorem tm4 (a : Int) : -3 ≤ a.tmod 4 ∧ a.tmod 4 ≤ 3 := by
  by_cases h : 0 ≤ a
  · rw [Int.tmod_eq_emod_of_nonneg h]; omega
  · have : a.tmod 4 = -((-a).tmod 4) := by rw [Int.neg_tmod]; omega
    rw [this, Int.tmod_eq_emod_of_nonneg (by omega)]; omega
abbrev In27 (a : Int) : Prop := -134217728 ≤ a ∧ a ≤ 134217728
theorem In27.to28 {a : Int} (h : In27 a) : In28 a := ⟨by have := h.1; omega, by have := h.2; omega⟩
theorem In27.two {a : Int} (h : In27 a) : In28 (2 * a) := ⟨by have := h.1; omega, by have := h.2; omega⟩
def rowT (a b c d v0 v1 v2 v3 : Int) (k : Option Bool) : Option Bool :=
  bif decide (wi (nr (sx a (wi (2 * v0)) b (wi (2 * v1)) c (wi (2 * v2)) d (wi (2 * v3))) 65536 - wi (2 * nr (sx a v0 b v1 c v2 d v3) 65536)) < -1) then some false else
  bif decide (wi (nr (sx a (wi (2 * v0)) b (wi (2 * v1)) c (wi (2 * v2)) d (wi (2 * v3))) 65536 - wi (2 * nr (sx a v0 b v1 c v2 d v3) 65536)) > 1) then some false else k
theorem w2 {v : Int} (h : In27 v) : wi (2 * v) = 2 * v := wi_id (by have := h.1; omega) (by have := h.2; omega)
theorem rowT_eq {a b c d v0 v1 v2 v3 : Int} (ha : In20 a) (hb : In20 b) (hc : In20 c) (hd : In20 d) (h0 : In27 v0) (h1 : In27 v1) (h2 : In27 v2) (h3 : In27 v3) (k : Option Bool) : rowT a b c d v0 v1 v2 v3 k = k := by
  unfold rowT
  rw [w2 h0, w2 h1, w2 h2, w2 h3]
  have hs : sx a (2 * v0) b (2 * v1) c (2 * v2) d (2 * v3) = 2 * sx a v0 b v1 c v2 d v3 := by unfold sx; grind
  rw [hs]
  obtain ⟨_, s1, s2⟩ := sm_eq ha hb hc hd h0.to28 h1.to28 h2.to28 h3.to28
  generalize sx a v0 b v1 c v2 d v3 = s at *
  have p := nr_spec' s (d := 65536) (by omega)
  have q := nr_spec' (2 * s) (d := 65536) (by omega)
  generalize nr s 65536 = x at *
  generalize nr (2 * s) 65536 = y at *
  rw [wi_id (n := 2 * x) (by omega) (by omega), wi_id (by omega) (by omega), decide_eq_false (by omega), decide_eq_false (by omega)]
  rfl
def brT (m v w : List Int) (v0 v1 v2 v3 : Int) (k : Option Bool) : Option Bool :=
  bif appB m v then bif appB m w then bif nr (sx 0 v0 0 v1 0 v2 0 v3) 65536 != 0 then some false else k else none else none
theorem brT_eq {m : List Int} {v0 v1 v2 v3 : Int} (hm : mayL m = true) (h0 : In27 v0) (h1 : In27 v1) (h2 : In27 v2) (h3 : In27 v3) {k : Option Bool} (hk : k = some true) :
    brT m [v0, v1, v2, v3] [wi (2 * v0), wi (2 * v1), wi (2 * v2), wi (2 * v3)] v0 v1 v2 v3 k = some true := by
  unfold brT
  have g : ∀ {a b c d : Int}, In28 a → In28 b → In28 c → In28 d → appB m [a, b, c, d] = true := fun ha hb hc hd => by
    unfold appB
    rw [hm]
    unfold In28 at *
    simp [vinL]; omega
  rw [w2 h0, w2 h1, w2 h2, w2 h3, g h0.to28 h1.to28 h2.to28 h3.to28, g h0.two h1.two h2.two h3.two]
  have : sx 0 v0 0 v1 0 v2 0 v3 = 0 := by unfold sx; omega
  rw [this, nr0, hk]; rfl
theorem alt {v r : Int} {x y : Option Bool} (hx : x = some true) (hy : ¬ v = r → y = some true) : (bif decide (v = r) then x else y) = some true := by
  by_cases h : v = r
  · rw [decide_eq_true h]; exact hx
  · rw [decide_eq_false h]; exact hy h
end Go.Fx
