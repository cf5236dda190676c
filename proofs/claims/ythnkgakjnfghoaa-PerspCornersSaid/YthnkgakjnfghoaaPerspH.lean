/- The weights at a corner (chapter 27), of no program. -/
import Derived.Test.YthnkgakjnfghoaaPerspG
set_option linter.unusedVariables false
set_option linter.unusedSimpArgs false
namespace Go.Fx
open Go Go.Sx

theorem corner0 {x0 y0 z0 w0 u0 v0 x1 y1 z1 w1 u1 v1 x2 y2 z2 w2 u2 v2 : Int} (s0 : Sp x0 y0 z0 w0 u0 v0) (s1 : Sp x1 y1 z1 w1 u1 v1) (s2 : Sp x2 y2 z2 w2 u2 v2) (ha : 0 < arV [x0, y0, z0, w0, u0, v0, x1, y1, z1, w1, u1, v1, x2, y2, z2, w2, u2, v2]) :
    okV [x0, y0, z0, w0, u0, v0, x1, y1, z1, w1, u1, v1, x2, y2, z2, w2, u2, v2] x0 y0 = true ∧ o0V [x0, y0, z0, w0, u0, v0, x1, y1, z1, w1, u1, v1, x2, y2, z2, w2, u2, v2] x0 y0 = 65536 ∧ wi (wi (o0V [x0, y0, z0, w0, u0, v0, x1, y1, z1, w1, u1, v1, x2, y2, z2, w2, u2, v2] x0 y0 + o1V [x0, y0, z0, w0, u0, v0, x1, y1, z1, w1, u1, v1, x2, y2, z2, w2, u2, v2] x0 y0) + o2V [x0, y0, z0, w0, u0, v0, x1, y1, z1, w1, u1, v1, x2, y2, z2, w2, u2, v2] x0 y0) = 65536 := by
  have X0 := s0.x0
  have X1 := s0.x1
  have Y0 := s0.y0
  have Y1 := s0.y1
  have hA := arV_in s0 s1 s2
  have kA := sd_in (x := x2) (y := y2) s0.x0 s0.x1 s0.y0 s0.y1 s1.x0 s1.x1 s1.y0 s1.y1 (by have := s2.x0; omega) (by have := s2.x1; omega) (by have := s2.y0; omega) (by have := s2.y1; omega)
  have e0 : e0V [x0, y0, z0, w0, u0, v0, x1, y1, z1, w1, u1, v1, x2, y2, z2, w2, u2, v2] x0 y0 = arV [x0, y0, z0, w0, u0, v0, x1, y1, z1, w1, u1, v1, x2, y2, z2, w2, u2, v2] := by
    show sdV x1 y1 x2 y2 x0 y0 = sdV x0 y0 x1 y1 x2 y2
    rw [(sd_in (x := x0) (y := y0) s1.x0 s1.x1 s1.y0 s1.y1 s2.x0 s2.x1 s2.y0 s2.y1 (by omega) (by omega) (by omega) (by omega)).1, kA.1]
    grind
  have e1 : e1V [x0, y0, z0, w0, u0, v0, x1, y1, z1, w1, u1, v1, x2, y2, z2, w2, u2, v2] x0 y0 = 0 := by
    show sdV x2 y2 x0 y0 x0 y0 = 0
    rw [(sd_in (x := x0) (y := y0) s2.x0 s2.x1 s2.y0 s2.y1 s0.x0 s0.x1 s0.y0 s0.y1 (by omega) (by omega) (by omega) (by omega)).1]
    grind
  have e2 : e2V [x0, y0, z0, w0, u0, v0, x1, y1, z1, w1, u1, v1, x2, y2, z2, w2, u2, v2] x0 y0 = 0 := by
    show sdV x0 y0 x1 y1 x0 y0 = 0
    rw [(sd_in (x := x0) (y := y0) s0.x0 s0.x1 s0.y0 s0.y1 s1.x0 s1.x1 s1.y0 s1.y1 (by omega) (by omega) (by omega) (by omega)).1]
    grind
  obtain ⟨p, q, r, n0, n1, n2, hs, l0, l1, l2, lm, z0', z1', z2'⟩ := n_in s0 s1 s2 e0 e1 e2 (by omega) (by omega) (by omega) (by omega) (by omega) (by omega) (by omega)
  generalize arV [x0, y0, z0, w0, u0, v0, x1, y1, z1, w1, u1, v1, x2, y2, z2, w2, u2, v2] = A at *
  have k1 := z1' rfl
  have k2 := z2' rfl
  subst k1
  subst k2
  obtain ⟨a1, a2, a3, a4, _, _, _, a5⟩ := oV_parts (hs.trans (show p + 0 + 0 = p by omega)) n0 n1 (by omega) (by omega) (by omega) (by omega) (by omega)
  exact ⟨a1, by rw [a2, wO_full (s := p) (by omega) (by omega)], a5⟩

theorem corner1 {x0 y0 z0 w0 u0 v0 x1 y1 z1 w1 u1 v1 x2 y2 z2 w2 u2 v2 : Int} (s0 : Sp x0 y0 z0 w0 u0 v0) (s1 : Sp x1 y1 z1 w1 u1 v1) (s2 : Sp x2 y2 z2 w2 u2 v2) (ha : 0 < arV [x0, y0, z0, w0, u0, v0, x1, y1, z1, w1, u1, v1, x2, y2, z2, w2, u2, v2]) :
    okV [x0, y0, z0, w0, u0, v0, x1, y1, z1, w1, u1, v1, x2, y2, z2, w2, u2, v2] x1 y1 = true ∧ o1V [x0, y0, z0, w0, u0, v0, x1, y1, z1, w1, u1, v1, x2, y2, z2, w2, u2, v2] x1 y1 = 65536 ∧ wi (wi (o0V [x0, y0, z0, w0, u0, v0, x1, y1, z1, w1, u1, v1, x2, y2, z2, w2, u2, v2] x1 y1 + o1V [x0, y0, z0, w0, u0, v0, x1, y1, z1, w1, u1, v1, x2, y2, z2, w2, u2, v2] x1 y1) + o2V [x0, y0, z0, w0, u0, v0, x1, y1, z1, w1, u1, v1, x2, y2, z2, w2, u2, v2] x1 y1) = 65536 := by
  have X0 := s1.x0
  have X1 := s1.x1
  have Y0 := s1.y0
  have Y1 := s1.y1
  have hA := arV_in s0 s1 s2
  have kA := sd_in (x := x2) (y := y2) s0.x0 s0.x1 s0.y0 s0.y1 s1.x0 s1.x1 s1.y0 s1.y1 (by have := s2.x0; omega) (by have := s2.x1; omega) (by have := s2.y0; omega) (by have := s2.y1; omega)
  have e0 : e0V [x0, y0, z0, w0, u0, v0, x1, y1, z1, w1, u1, v1, x2, y2, z2, w2, u2, v2] x1 y1 = 0 := by
    show sdV x1 y1 x2 y2 x1 y1 = 0
    rw [(sd_in (x := x1) (y := y1) s1.x0 s1.x1 s1.y0 s1.y1 s2.x0 s2.x1 s2.y0 s2.y1 (by omega) (by omega) (by omega) (by omega)).1]
    grind
  have e1 : e1V [x0, y0, z0, w0, u0, v0, x1, y1, z1, w1, u1, v1, x2, y2, z2, w2, u2, v2] x1 y1 = arV [x0, y0, z0, w0, u0, v0, x1, y1, z1, w1, u1, v1, x2, y2, z2, w2, u2, v2] := by
    show sdV x2 y2 x0 y0 x1 y1 = sdV x0 y0 x1 y1 x2 y2
    rw [(sd_in (x := x1) (y := y1) s2.x0 s2.x1 s2.y0 s2.y1 s0.x0 s0.x1 s0.y0 s0.y1 (by omega) (by omega) (by omega) (by omega)).1, kA.1]
    grind
  have e2 : e2V [x0, y0, z0, w0, u0, v0, x1, y1, z1, w1, u1, v1, x2, y2, z2, w2, u2, v2] x1 y1 = 0 := by
    show sdV x0 y0 x1 y1 x1 y1 = 0
    rw [(sd_in (x := x1) (y := y1) s0.x0 s0.x1 s0.y0 s0.y1 s1.x0 s1.x1 s1.y0 s1.y1 (by omega) (by omega) (by omega) (by omega)).1]
    grind
  obtain ⟨p, q, r, n0, n1, n2, hs, l0, l1, l2, lm, z0', z1', z2'⟩ := n_in s0 s1 s2 e0 e1 e2 (by omega) (by omega) (by omega) (by omega) (by omega) (by omega) (by omega)
  generalize arV [x0, y0, z0, w0, u0, v0, x1, y1, z1, w1, u1, v1, x2, y2, z2, w2, u2, v2] = A at *
  have k0 := z0' rfl
  have k2 := z2' rfl
  subst k0
  subst k2
  obtain ⟨a1, a2, a3, a4, _, _, _, a5⟩ := oV_parts (hs.trans (show 0 + q + 0 = q by omega)) n0 n1 (by omega) (by omega) (by omega) (by omega) (by omega)
  exact ⟨a1, by rw [a3, wO_full (s := q) (by omega) (by omega)], a5⟩

theorem corner2 {x0 y0 z0 w0 u0 v0 x1 y1 z1 w1 u1 v1 x2 y2 z2 w2 u2 v2 : Int} (s0 : Sp x0 y0 z0 w0 u0 v0) (s1 : Sp x1 y1 z1 w1 u1 v1) (s2 : Sp x2 y2 z2 w2 u2 v2) (ha : 0 < arV [x0, y0, z0, w0, u0, v0, x1, y1, z1, w1, u1, v1, x2, y2, z2, w2, u2, v2]) :
    okV [x0, y0, z0, w0, u0, v0, x1, y1, z1, w1, u1, v1, x2, y2, z2, w2, u2, v2] x2 y2 = true ∧ o2V [x0, y0, z0, w0, u0, v0, x1, y1, z1, w1, u1, v1, x2, y2, z2, w2, u2, v2] x2 y2 = 65536 ∧ wi (wi (o0V [x0, y0, z0, w0, u0, v0, x1, y1, z1, w1, u1, v1, x2, y2, z2, w2, u2, v2] x2 y2 + o1V [x0, y0, z0, w0, u0, v0, x1, y1, z1, w1, u1, v1, x2, y2, z2, w2, u2, v2] x2 y2) + o2V [x0, y0, z0, w0, u0, v0, x1, y1, z1, w1, u1, v1, x2, y2, z2, w2, u2, v2] x2 y2) = 65536 := by
  have X0 := s2.x0
  have X1 := s2.x1
  have Y0 := s2.y0
  have Y1 := s2.y1
  have hA := arV_in s0 s1 s2
  have kA := sd_in (x := x2) (y := y2) s0.x0 s0.x1 s0.y0 s0.y1 s1.x0 s1.x1 s1.y0 s1.y1 (by have := s2.x0; omega) (by have := s2.x1; omega) (by have := s2.y0; omega) (by have := s2.y1; omega)
  have e0 : e0V [x0, y0, z0, w0, u0, v0, x1, y1, z1, w1, u1, v1, x2, y2, z2, w2, u2, v2] x2 y2 = 0 := by
    show sdV x1 y1 x2 y2 x2 y2 = 0
    rw [(sd_in (x := x2) (y := y2) s1.x0 s1.x1 s1.y0 s1.y1 s2.x0 s2.x1 s2.y0 s2.y1 (by omega) (by omega) (by omega) (by omega)).1]
    grind
  have e1 : e1V [x0, y0, z0, w0, u0, v0, x1, y1, z1, w1, u1, v1, x2, y2, z2, w2, u2, v2] x2 y2 = 0 := by
    show sdV x2 y2 x0 y0 x2 y2 = 0
    rw [(sd_in (x := x2) (y := y2) s2.x0 s2.x1 s2.y0 s2.y1 s0.x0 s0.x1 s0.y0 s0.y1 (by omega) (by omega) (by omega) (by omega)).1]
    grind
  have e2 : e2V [x0, y0, z0, w0, u0, v0, x1, y1, z1, w1, u1, v1, x2, y2, z2, w2, u2, v2] x2 y2 = arV [x0, y0, z0, w0, u0, v0, x1, y1, z1, w1, u1, v1, x2, y2, z2, w2, u2, v2] := rfl
  obtain ⟨p, q, r, n0, n1, n2, hs, l0, l1, l2, lm, z0', z1', z2'⟩ := n_in s0 s1 s2 e0 e1 e2 (by omega) (by omega) (by omega) (by omega) (by omega) (by omega) (by omega)
  generalize arV [x0, y0, z0, w0, u0, v0, x1, y1, z1, w1, u1, v1, x2, y2, z2, w2, u2, v2] = A at *
  have k0 := z0' rfl
  have k1 := z1' rfl
  subst k0
  subst k1
  obtain ⟨a1, a2, a3, a4, _, _, _, a5⟩ := oV_parts (hs.trans (show 0 + 0 + r = r by omega)) n0 n1 (by omega) (by omega) (by omega) (by omega) (by omega)
  exact ⟨a1, by rw [a4, wO_zero (s := r) (by omega) (by omega)]; rfl, a5⟩

end Go.Fx
