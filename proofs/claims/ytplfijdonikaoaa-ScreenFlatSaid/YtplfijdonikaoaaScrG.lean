/- What is seen straight (chapter 25), outright. -/
import Derived.Test.YtplfijdonikaoaaScrF
set_option linter.unusedVariables false
set_option linter.unusedSimpArgs false
namespace Go.Fx
open Go Go.Sx
set_option linter.unusedVariables false
set_option linter.unusedSimpArgs false
theorem may_one : mayL oneL = true := by decide
theorem vtx_one {x y u v : Int} (hc : cornB x y 0 65536 u v = true) : vtx oneL x y 0 65536 u v = .agg [i64 x, i64 y, i64 0, i64 65536, i64 u, i64 v] := by
  have hb : appB oneL [x, y, 0, 65536] = true := (vtx_ok (m0 := 65536) (m1 := 0) (m2 := 0) (m3 := 0) (m4 := 0) (m5 := 65536) (m6 := 0) (m7 := 0) (m8 := 0) (m9 := 0) (m10 := 65536) (m11 := 0) (m12 := 0) (m13 := 0) (m14 := 0) (m15 := 65536) may_one hc).2
  have q0 : qA oneL [x, y, 0, 65536] 0 = x := by
    show (bif appB oneL [x, y, 0, 65536] then nr (sx 65536 x 0 y 0 0 0 65536) 65536 else 0) = x
    rw [hb, cond_true, show sx 65536 x 0 y 0 0 0 65536 = 65536 * x by simp [sx], nr_mul x (by omega)]
  have q1 : qA oneL [x, y, 0, 65536] 1 = y := by
    show (bif appB oneL [x, y, 0, 65536] then nr (sx 0 x 65536 y 0 0 0 65536) 65536 else 0) = y
    rw [hb, cond_true, show sx 0 x 65536 y 0 0 0 65536 = 65536 * y by simp [sx], nr_mul y (by omega)]
  have q2 : qA oneL [x, y, 0, 65536] 2 = 0 := by
    show (bif appB oneL [x, y, 0, 65536] then nr (sx 0 x 0 y 65536 0 0 65536) 65536 else 0) = 0
    rw [hb, cond_true, show sx 0 x 0 y 65536 0 0 65536 = 0 by simp [sx], nr_zero (by omega)]
  have q3 : qA oneL [x, y, 0, 65536] 3 = 65536 := by
    show (bif appB oneL [x, y, 0, 65536] then nr (sx 0 x 0 y 0 0 65536 65536) 65536 else 0) = 65536
    rw [hb, cond_true, show sx 0 x 0 y 0 0 65536 65536 = 65536 * 65536 by simp [sx], nr_mul 65536 (by omega)]
  unfold vtx
  rw [q0, q1, q2, q3]
/-- one that stands within the screen -/
def fv (x y u : Int) : AV := .agg [i64 x, i64 y, i64 0, i64 65536, i64 u, i64 7]
theorem fv_in {x y u : Int} (hx : -65536 ≤ x ∧ x ≤ 65536) (hy : -65536 ≤ y ∧ y ≤ 65536) : ∀ j, j < 7 → inB (fv x y u) (j : Nat) = true := by
  intro j hj
  unfold inB
  refine decide_eq_true ?_
  have e : insX (fv x y u) (j : Nat) = insV x y 0 65536 (j : Nat) := rfl
  rw [e]
  have key : ∀ n : Int, -65536 ≤ n ∧ n ≤ 65536 → wi (65536 + n) ≥ 0 ∧ wi (65536 - n) ≥ 0 := fun n hn => by
    rw [wi_id (by omega) (by omega), wi_id (by omega) (by omega)]; omega
  match j, hj with
  | 0, _ => show wi (65536 - 256) ≥ 0; rw [wi_id (by omega) (by omega)]; omega
  | 1, _ => exact (key x hx).1
  | 2, _ => exact (key x hx).2
  | 3, _ => exact (key y hy).1
  | 4, _ => exact (key y hy).2
  | 5, _ => exact (key 0 (by omega)).1
  | 6, _ => exact (key 0 (by omega)).2
theorem pol_fv {x0 y0 u0 x1 y1 u1 x2 y2 u2 : Int} (h0 : -65536 ≤ x0 ∧ x0 ≤ 65536) (h1 : -65536 ≤ y0 ∧ y0 ≤ 65536) (h2 : -65536 ≤ x1 ∧ x1 ≤ 65536) (h3 : -65536 ≤ y1 ∧ y1 ≤ 65536) (h4 : -65536 ≤ x2 ∧ x2 ≤ 65536) (h5 : -65536 ≤ y2 ∧ y2 ≤ 65536) :
    polX [fv x0 y0 u0, fv x1 y1 u1, fv x2 y2 u2] = [fv x0 y0 u0, fv x1 y1 u1, fv x2 y2 u2] := by
  have e : itX [fv x0 y0 u0, fv x1 y1 u1, fv x2 y2 u2] 7 = [fv x0 y0 u0, fv x1 y1 u1, fv x2 y2 u2] :=
    itX_in _ 6 fun j hj => by
      simp only [List.all_cons, List.all_nil, fv_in h0 h1 j hj, fv_in h2 h3 j hj, fv_in h4 h5 j hj]; rfl
  unfold polX
  rw [e]; rfl
theorem fv_sp {x y u w h : Int} (hx : -65536 ≤ x ∧ x ≤ 65536) (hy : -65536 ≤ y ∧ y ≤ 65536) (hu : 0 ≤ u ∧ u ≤ 2) (hs : szB w h = true) : spP (fv x y u) w h = true :=
  okSp_iff.2 ⟨nJ_iff.2 ⟨show -536870912 ≤ x by omega, show x ≤ 536870912 by omega⟩, nJ_iff.2 ⟨show -536870912 ≤ y by omega, show y ≤ 536870912 by omega⟩, nJ_iff.2 ⟨show -536870912 ≤ (0:Int) by omega, show (0:Int) ≤ 536870912 by omega⟩, nJ_iff.2 ⟨show -536870912 ≤ (65536:Int) by omega, show (65536:Int) ≤ 536870912 by omega⟩, hs, nJ_iff.2 ⟨show -134217728 ≤ u by omega, show u ≤ 134217728 by omega⟩, nJ_iff.2 ⟨show -134217728 ≤ (7:Int) by omega, show (7:Int) ≤ 134217728 by omega⟩⟩
theorem flat_x {p w : Int} (hp : -128 ≤ p ∧ p ≤ 128) : spX 65536 (512 * p) w = w * (128 + p) := by
  have e : hd 65536 (512 * p) = 512 * p := by unfold hd; rw [if_neg (by omega), if_neg (by omega)]
  unfold spX
  rw [e, show (65536 + 512 * p) * (w * 128) = 65536 * (w * (128 + p)) by grind, nr_mul _ (by omega)]
theorem flat_y {p w : Int} (hp : -128 ≤ p ∧ p ≤ 128) : spY 65536 (512 * p) w = w * (128 - p) := by
  have e : hd 65536 (512 * p) = 512 * p := by unfold hd; rw [if_neg (by omega), if_neg (by omega)]
  unfold spY
  rw [e, show (65536 - 512 * p) * (w * 128) = 65536 * (w * (128 - p)) by grind, nr_mul _ (by omega)]
theorem flat_R {p0 q0 p1 q1 p2 q2 w h : Int} (h0 : -128 ≤ p0 ∧ p0 ≤ 128) (g0 : -128 ≤ q0 ∧ q0 ≤ 128) (h1 : -128 ≤ p1 ∧ p1 ≤ 128) (g1 : -128 ≤ q1 ∧ q1 ≤ 128) (h2 : -128 ≤ p2 ∧ p2 ≤ 128) (g2 : -128 ≤ q2 ∧ q2 ≤ 128) (hs : szB w h = true) :
    corn3 (512 * p0) (512 * q0) 0 65536 0 7 (512 * p1) (512 * q1) 0 65536 1 7 (512 * p2) (512 * q2) 0 65536 2 7 = true ∧
    trA (polX (plT oneL (512 * p0) (512 * q0) 0 65536 0 7 (512 * p1) (512 * q1) 0 65536 1 7 (512 * p2) (512 * q2) 0 65536 2 7)) w h =
      [.agg [i64 (w * (128 + p0)), i64 (h * (128 - q0)), i64 32767, i64 65536, i64 0, i64 7, i64 (w * (128 + p1)), i64 (h * (128 - q1)), i64 32767, i64 65536, i64 1, i64 7, i64 (w * (128 + p2)), i64 (h * (128 - q2)), i64 32767, i64 65536, i64 2, i64 7]] := by
  have c0 : cornB (512 * p0) (512 * q0) 0 65536 0 7 = true := cornB_iff.2 ⟨by omega, by omega, by omega, rfl, by omega, by omega⟩
  have c1 : cornB (512 * p1) (512 * q1) 0 65536 1 7 = true := cornB_iff.2 ⟨by omega, by omega, by omega, rfl, by omega, by omega⟩
  have c2 : cornB (512 * p2) (512 * q2) 0 65536 2 7 = true := cornB_iff.2 ⟨by omega, by omega, by omega, rfl, by omega, by omega⟩
  refine ⟨by unfold corn3; rw [c0, c1, c2]; rfl, ?_⟩
  unfold plT
  rw [vtx_one c0, vtx_one c1, vtx_one c2]
  have e := pol_fv (x0 := 512 * p0) (y0 := 512 * q0) (u0 := 0) (x1 := 512 * p1) (y1 := 512 * q1) (u1 := 1) (x2 := 512 * p2) (y2 := 512 * q2) (u2 := 2) (by omega) (by omega) (by omega) (by omega) (by omega) (by omega)
  have e' : polX [.agg [i64 (512 * p0), i64 (512 * q0), i64 0, i64 65536, i64 0, i64 7], .agg [i64 (512 * p1), i64 (512 * q1), i64 0, i64 65536, i64 1, i64 7], .agg [i64 (512 * p2), i64 (512 * q2), i64 0, i64 65536, i64 2, i64 7]] = [fv (512 * p0) (512 * q0) 0, fv (512 * p1) (512 * q1) 1, fv (512 * p2) (512 * q2) 2] := e
  rw [e']
  have s0 := fv_sp (x := 512 * p0) (y := 512 * q0) (u := 0) (by omega) (by omega) (by omega) hs
  have s1 := fv_sp (x := 512 * p1) (y := 512 * q1) (u := 1) (by omega) (by omega) (by omega) hs
  have s2 := fv_sp (x := 512 * p2) (y := 512 * q2) (u := 2) (by omega) (by omega) (by omega) hs
  show trS (fv (512 * p0) (512 * q0) 0) (fv (512 * p1) (512 * q1) 1) (fv (512 * p2) (512 * q2) 2) w h ++ [] = _
  have hz : spZ 65536 0 = 32767 := by decide
  have hd' : dW 65536 = 65536 := by decide
  unfold trS trX
  rw [s0, s1, s2]
  simp only [Bool.and_self, cond_true, List.append_nil, b0]
  show [AV.agg [i64 (spX (dW 65536) (512 * p0) w), i64 (spY (dW 65536) (512 * q0) h), i64 (spZ (dW 65536) 0), i64 (dW 65536), i64 0, i64 7, i64 (spX (dW 65536) (512 * p1) w), i64 (spY (dW 65536) (512 * q1) h), i64 (spZ (dW 65536) 0), i64 (dW 65536), i64 1, i64 7, i64 (spX (dW 65536) (512 * p2) w), i64 (spY (dW 65536) (512 * q2) h), i64 (spZ (dW 65536) 0), i64 (dW 65536), i64 2, i64 7]] = _
  rw [hd', hz, flat_x h0, flat_x h1, flat_x h2, flat_y g0, flat_y g1, flat_y g2]
end Go.Fx
