/- What is placed (chapter 25), outright. -/
import Derived.Test.YtplfijdonikaoaaScrD
import Derived.Test.YtplfijdonikaoaaClipF
set_option linter.unusedVariables false
set_option linter.unusedSimpArgs false
namespace Go.Fx
open Go Go.Sx
set_option linter.unusedVariables false
set_option linter.unusedSimpArgs false
/-- the k-th number of a vector that a matrix was applied to -/
def qA (m v : List Int) (k : Nat) : Int := ((appL m v).map fun c => bif appB m v then c else 0).getD k 0
def vtx (m : List Int) (a0 a1 a2 a3 a4 a5 : Int) : AV := .agg [i64 (qA m [a0, a1, a2, a3] 0), i64 (qA m [a0, a1, a2, a3] 1), i64 (qA m [a0, a1, a2, a3] 2), i64 (qA m [a0, a1, a2, a3] 3), i64 a4, i64 a5]
def plT (m : List Int) (a0 a1 a2 a3 a4 a5 b0 b1 b2 b3 b4 b5 d0 d1 d2 d3 d4 d5 : Int) : List AV := [vtx m a0 a1 a2 a3 a4 a5, vtx m b0 b1 b2 b3 b4 b5, vtx m d0 d1 d2 d3 d4 d5]
def corn3 (a0 a1 a2 a3 a4 a5 b0 b1 b2 b3 b4 b5 d0 d1 d2 d3 d4 d5 : Int) : Bool := cornB a0 a1 a2 a3 a4 a5 && (cornB b0 b1 b2 b3 b4 b5 && cornB d0 d1 d2 d3 d4 d5)
def plE (sm c : Bool) : Int := bif !sm then 1 else bif !c then 2 else 0
def plR (sm c : Bool) (L : List AV) (w h : Int) : List AV := bif sm && c then trA (polX L) w h else []
theorem nr_in {n M : Int} (h : -(M * 65536) ≤ n) (h' : n ≤ M * 65536) : -M ≤ nr n 65536 ∧ nr n 65536 ≤ M := by
  have a := nr_mono (d := 65536) (by omega) h
  have b := nr_mono (d := 65536) (by omega) h'
  rw [show -(M * 65536) = (-M) * 65536 by omega, nr_mul' _ (by omega)] at a
  rw [nr_mul' _ (by omega)] at b
  exact ⟨a, b⟩
theorem sx_in {a e b f c g d : Int} (ha : In20 a) (hb : In20 b) (hc : In20 c) (hd : In20 d) (he : -4194304 ≤ e ∧ e ≤ 4194304) (hf : -4194304 ≤ f ∧ f ≤ 4194304) (hg : -4194304 ≤ g ∧ g ≤ 4194304) :
    -(268435456 * 65536) ≤ sx a e b f c g d 65536 ∧ sx a e b f c g d 65536 ≤ 268435456 * 65536 := by
  have h1 := pr_bd ha.1 ha.2 he.1 he.2
  have h2 := pr_bd hb.1 hb.2 hf.1 hf.2
  have h3 := pr_bd hc.1 hc.2 hg.1 hg.2
  obtain ⟨h4, h5⟩ := hd
  unfold sx
  generalize a * e = p at *
  generalize b * f = q at *
  generalize c * g = r at *
  omega
theorem cornB_iff {a0 a1 a2 a3 a4 a5 : Int} : cornB a0 a1 a2 a3 a4 a5 = true ↔ (-4194304 ≤ a0 ∧ a0 ≤ 4194304) ∧ (-4194304 ≤ a1 ∧ a1 ≤ 4194304) ∧ (-4194304 ≤ a2 ∧ a2 ≤ 4194304) ∧ a3 = 65536 ∧ (-67108864 ≤ a4 ∧ a4 ≤ 67108864) ∧ (-67108864 ≤ a5 ∧ a5 ≤ 67108864) := by
  simp [cornB, nJ, and_assoc]
theorem vtx_ok {m0 m1 m2 m3 m4 m5 m6 m7 m8 m9 m10 m11 m12 m13 m14 m15 a0 a1 a2 a3 a4 a5 : Int} (hm : mayL [m0, m1, m2, m3, m4, m5, m6, m7, m8, m9, m10, m11, m12, m13, m14, m15] = true) (hc : cornB a0 a1 a2 a3 a4 a5 = true) :
    okx (vtx [m0, m1, m2, m3, m4, m5, m6, m7, m8, m9, m10, m11, m12, m13, m14, m15] a0 a1 a2 a3 a4 a5) = true ∧ appB [m0, m1, m2, m3, m4, m5, m6, m7, m8, m9, m10, m11, m12, m13, m14, m15] [a0, a1, a2, a3] = true := by
  obtain ⟨h0, h1, h2, rfl, h4, h5⟩ := cornB_iff.1 hc
  have hb : appB [m0, m1, m2, m3, m4, m5, m6, m7, m8, m9, m10, m11, m12, m13, m14, m15] [a0, a1, a2, 65536] = true := by
    unfold appB
    rw [hm, Bool.true_and, vinL_iff]
    intro x hx
    simp only [List.mem_cons, List.not_mem_nil, or_false] at hx
    rcases hx with rfl | rfl | rfl | rfl <;> exact ⟨by omega, by omega⟩
  refine ⟨?_, hb⟩
  rw [mayL_iff] at hm
  simp only [List.mem_cons, List.not_mem_nil, or_false, forall_eq_or_imp, forall_eq] at hm
  obtain ⟨g0, g1, g2, g3, g4, g5, g6, g7, g8, g9, g10, g11, g12, g13, g14, g15⟩ := hm
  have q0 := nr_in (sx_in g0 g1 g2 g3 h0 h1 h2).1 (sx_in g0 g1 g2 g3 h0 h1 h2).2
  have q1 := nr_in (sx_in g4 g5 g6 g7 h0 h1 h2).1 (sx_in g4 g5 g6 g7 h0 h1 h2).2
  have q2 := nr_in (sx_in g8 g9 g10 g11 h0 h1 h2).1 (sx_in g8 g9 g10 g11 h0 h1 h2).2
  have q3 := nr_in (sx_in g12 g13 g14 g15 h0 h1 h2).1 (sx_in g12 g13 g14 g15 h0 h1 h2).2
  show okv (bif appB _ _ then nr (sx m0 a0 m1 a1 m2 a2 m3 65536) 65536 else 0) (bif appB _ _ then nr (sx m4 a0 m5 a1 m6 a2 m7 65536) 65536 else 0) (bif appB _ _ then nr (sx m8 a0 m9 a1 m10 a2 m11 65536) 65536 else 0) (bif appB _ _ then nr (sx m12 a0 m13 a1 m14 a2 m15 65536) 65536 else 0) a4 a5 = true
  rw [hb]
  simp only [cond_true, okv, Bool.and_eq_true, okP_iff, okU_iff]
  omega
theorem plT_ok {m0 m1 m2 m3 m4 m5 m6 m7 m8 m9 m10 m11 m12 m13 m14 m15 a0 a1 a2 a3 a4 a5 b0 b1 b2 b3 b4 b5 d0 d1 d2 d3 d4 d5 : Int} (hm : mayL [m0, m1, m2, m3, m4, m5, m6, m7, m8, m9, m10, m11, m12, m13, m14, m15] = true) (ha : cornB a0 a1 a2 a3 a4 a5 = true) (hb : cornB b0 b1 b2 b3 b4 b5 = true) (hd : cornB d0 d1 d2 d3 d4 d5 = true) :
    (plT [m0, m1, m2, m3, m4, m5, m6, m7, m8, m9, m10, m11, m12, m13, m14, m15] a0 a1 a2 a3 a4 a5 b0 b1 b2 b3 b4 b5 d0 d1 d2 d3 d4 d5).all okx = true := by
  simp only [plT, List.all_cons, List.all_nil, Bool.and_true, (vtx_ok hm ha).1, (vtx_ok hm hb).1, (vtx_ok hm hd).1]
theorem polX_len {L : List AV} (h : L.length ≤ 64) : (polX L).length ≤ 16384 := by
  unfold polX
  split
  · simp
  · split
    · simp
    · have h1 := itX_len L 7
      have : 2 ^ 7 * L.length ≤ 2 ^ 7 * 64 := Nat.mul_le_mul_left _ h
      omega
theorem plR_len {sm c : Bool} {L : List AV} {w h : Int} (hl : L.length ≤ 64) : (plR sm c L w h).length ≤ 16384 := by
  unfold plR
  cases sm && c
  · simp
  · have := trG_len (polX L) w h ((polX L).length - 2) 1
    have := polX_len hl
    simp only [cond_true, trA]
    omega
end Go.Fx
