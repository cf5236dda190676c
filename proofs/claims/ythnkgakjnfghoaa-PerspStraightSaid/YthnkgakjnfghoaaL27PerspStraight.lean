/- Of all inputs the law answers true; no condition. -/
import Derived.Test.YthnkgakjnfghoaaL27Q
import Derived.Test.YthnkgakjnfghoaaPerspD
set_option linter.unusedVariables false
set_option linter.unusedSimpArgs false
namespace Go.Proofs.Ythnkgakjnfghoaa.perspStraight
open Go Go.Sx Go.ChangeShapes Go.WideShapes Go.ChangeAt Go.RowKit

theorem own : ownKnob Try.prog.godebug = none := by kernel_rfl
theorem mixed : Try.prog.follows .mixedOrders = true := by kernel_rfl
theorem laid : laidOutB Try.prog = true := by kernel_rfl
theorem entersF : Enters Try.prog 6 Try.f6 := ⟨Try.func6, by kernel_rfl, by kernel_rfl⟩

theorem list2 {l : List Value} (h : l.length = 2) : ∃ x0 x1, l = [x0, x1] := by
  match l, h with
  | [x0, x1], _ => exact ⟨x0, x1, rfl⟩
theorem list3 {l : List Value} (h : l.length = 3) : ∃ x0 x1 x2, l = [x0, x1, x2] := by
  match l, h with
  | [x0, x1, x2], _ => exact ⟨x0, x1, x2, rfl⟩

open Go.Fx
theorem bodyTrue (a0_0 : Int) (a0_1 : Int) (a1 : Int) (a2_0 : Int) (a2_1 : Int) (a2_2 : Int) (a3 : Int) (h_a0_0 : -9223372036854775808 ≤ a0_0 ∧ a0_0 ≤ 9223372036854775807) (h_a0_1 : -9223372036854775808 ≤ a0_1 ∧ a0_1 ≤ 9223372036854775807) (h_a1 : -9223372036854775808 ≤ a1 ∧ a1 ≤ 9223372036854775807) (h_a2_0 : -9223372036854775808 ≤ a2_0 ∧ a2_0 ≤ 9223372036854775807) (h_a2_1 : -9223372036854775808 ≤ a2_1 ∧ a2_1 ≤ 9223372036854775807) (h_a2_2 : -9223372036854775808 ≤ a2_2 ∧ a2_2 ≤ 9223372036854775807) (h_a3 : -9223372036854775808 ≤ a3 ∧ a3 ≤ 9223372036854775807) :
    bodyK calls Try.prog 9 Try.f6 [.agg [.lit (.int .i64 a0_0), .lit (.int .i64 a0_1)], .lit (.int .i64 a1), .agg [.lit (.int .i64 a2_0), .lit (.int .i64 a2_1), .lit (.int .i64 a2_2)], .lit (.int .i64 a3)] Sx.empty boolOf = some true := by
  have e : bodyK calls Try.prog 9 Try.f6 [.agg [.lit (.int .i64 a0_0), .lit (.int .i64 a0_1)], .lit (.int .i64 a1), .agg [.lit (.int .i64 a2_0), .lit (.int .i64 a2_1), .lit (.int .i64 a2_2)], .lit (.int .i64 a3)] Sx.empty boolOf =
    (bif decide (a2_0 < -1048576) then some true else bif decide (a2_0 > 1048576) then some true else bif decide (a2_1 < -1048576) then some true else bif decide (a2_1 > 1048576) then some true else bif decide (a2_2 < -1048576) then some true else bif decide (a2_2 > 1048576) then some true else bif decide (a0_0 < 0) then some true else bif decide (a0_0 > 2000) then some true else bif decide (a0_1 < 0) then some true else bif decide (a0_1 > 2000) then some true else bif decide (a3 < 256) then some true else bif decide (a3 > 1048576) then some true else bif okT [a0_0, a0_1, 0, a3, a2_0, 0, wi (a0_0 + wi (512 * wi (1 + (wi (a1.tmod 16 + 16)).tmod 16))), a0_1, 0, a3, a2_1, 0, a0_0, wi (a0_1 + wi (512 * wi (1 + (wi (a1.tmod 16 + 16)).tmod 16))), 0, a3, a2_2, 0] (wi (a0_0 + wi (256 * wi (1 + (wi (a1.tmod 16 + 16)).tmod 16)))) a0_1 then bif okT [a0_0, a0_1, 0, a3, a2_0, 0, wi (a0_0 + wi (512 * wi (1 + (wi (a1.tmod 16 + 16)).tmod 16))), a0_1, 0, a3, a2_1, 0, a0_0, wi (a0_1 + wi (512 * wi (1 + (wi (a1.tmod 16 + 16)).tmod 16))), 0, a3, a2_2, 0] (wi (a0_0 + wi (128 * wi (1 + (wi (a1.tmod 16 + 16)).tmod 16)))) (wi (a0_1 + wi (256 * wi (1 + (wi (a1.tmod 16 + 16)).tmod 16)))) then bif okV [a0_0, a0_1, 0, a3, a2_0, 0, wi (a0_0 + wi (512 * wi (1 + (wi (a1.tmod 16 + 16)).tmod 16))), a0_1, 0, a3, a2_1, 0, a0_0, wi (a0_1 + wi (512 * wi (1 + (wi (a1.tmod 16 + 16)).tmod 16))), 0, a3, a2_2, 0] (wi (a0_0 + wi (256 * wi (1 + (wi (a1.tmod 16 + 16)).tmod 16)))) a0_1 then bif okV [a0_0, a0_1, 0, a3, a2_0, 0, wi (a0_0 + wi (512 * wi (1 + (wi (a1.tmod 16 + 16)).tmod 16))), a0_1, 0, a3, a2_1, 0, a0_0, wi (a0_1 + wi (512 * wi (1 + (wi (a1.tmod 16 + 16)).tmod 16))), 0, a3, a2_2, 0] (wi (a0_0 + wi (128 * wi (1 + (wi (a1.tmod 16 + 16)).tmod 16)))) (wi (a0_1 + wi (256 * wi (1 + (wi (a1.tmod 16 + 16)).tmod 16)))) then bif o0V [a0_0, a0_1, 0, a3, a2_0, 0, wi (a0_0 + wi (512 * wi (1 + (wi (a1.tmod 16 + 16)).tmod 16))), a0_1, 0, a3, a2_1, 0, a0_0, wi (a0_1 + wi (512 * wi (1 + (wi (a1.tmod 16 + 16)).tmod 16))), 0, a3, a2_2, 0] (wi (a0_0 + wi (256 * wi (1 + (wi (a1.tmod 16 + 16)).tmod 16)))) a0_1 == 32768 && (o1V [a0_0, a0_1, 0, a3, a2_0, 0, wi (a0_0 + wi (512 * wi (1 + (wi (a1.tmod 16 + 16)).tmod 16))), a0_1, 0, a3, a2_1, 0, a0_0, wi (a0_1 + wi (512 * wi (1 + (wi (a1.tmod 16 + 16)).tmod 16))), 0, a3, a2_2, 0] (wi (a0_0 + wi (256 * wi (1 + (wi (a1.tmod 16 + 16)).tmod 16)))) a0_1 == 32768 && (o2V [a0_0, a0_1, 0, a3, a2_0, 0, wi (a0_0 + wi (512 * wi (1 + (wi (a1.tmod 16 + 16)).tmod 16))), a0_1, 0, a3, a2_1, 0, a0_0, wi (a0_1 + wi (512 * wi (1 + (wi (a1.tmod 16 + 16)).tmod 16))), 0, a3, a2_2, 0] (wi (a0_0 + wi (256 * wi (1 + (wi (a1.tmod 16 + 16)).tmod 16)))) a0_1 == 0 && true)) then bif o0V [a0_0, a0_1, 0, a3, a2_0, 0, wi (a0_0 + wi (512 * wi (1 + (wi (a1.tmod 16 + 16)).tmod 16))), a0_1, 0, a3, a2_1, 0, a0_0, wi (a0_1 + wi (512 * wi (1 + (wi (a1.tmod 16 + 16)).tmod 16))), 0, a3, a2_2, 0] (wi (a0_0 + wi (128 * wi (1 + (wi (a1.tmod 16 + 16)).tmod 16)))) (wi (a0_1 + wi (256 * wi (1 + (wi (a1.tmod 16 + 16)).tmod 16)))) == 16384 && (o1V [a0_0, a0_1, 0, a3, a2_0, 0, wi (a0_0 + wi (512 * wi (1 + (wi (a1.tmod 16 + 16)).tmod 16))), a0_1, 0, a3, a2_1, 0, a0_0, wi (a0_1 + wi (512 * wi (1 + (wi (a1.tmod 16 + 16)).tmod 16))), 0, a3, a2_2, 0] (wi (a0_0 + wi (128 * wi (1 + (wi (a1.tmod 16 + 16)).tmod 16)))) (wi (a0_1 + wi (256 * wi (1 + (wi (a1.tmod 16 + 16)).tmod 16)))) == 16384 && (o2V [a0_0, a0_1, 0, a3, a2_0, 0, wi (a0_0 + wi (512 * wi (1 + (wi (a1.tmod 16 + 16)).tmod 16))), a0_1, 0, a3, a2_1, 0, a0_0, wi (a0_1 + wi (512 * wi (1 + (wi (a1.tmod 16 + 16)).tmod 16))), 0, a3, a2_2, 0] (wi (a0_0 + wi (128 * wi (1 + (wi (a1.tmod 16 + 16)).tmod 16)))) (wi (a0_1 + wi (256 * wi (1 + (wi (a1.tmod 16 + 16)).tmod 16)))) == 32768 && true)) then some true else some false else some false else some false else some false else none else none) := by kernel_rfl
  rw [e]
  clear e
  refine gd fun g1 => gd fun g2 => gd fun g3 => gd fun g4 => gd fun g5 => gd fun g6 => gd fun g7 => gd fun g8 => gd fun g9 => gd fun g10 => gd fun g11 => gd fun g12 => ?_
  have hk : 1 ≤ wi (1 + (wi (a1.tmod 16 + 16)).tmod 16) ∧ wi (1 + (wi (a1.tmod 16 + 16)).tmod 16) ≤ 16 := by
    have h1 := tm16 a1
    generalize a1.tmod 16 = m at *
    rw [wi_id (n := m + 16) (by omega) (by omega), Int.tmod_eq_emod_of_nonneg (show 0 ≤ m + 16 by omega), wi_id (by omega) (by omega)]
    omega
  generalize wi (1 + (wi (a1.tmod 16 + 16)).tmod 16) = k at *
  rw [wi_id (n := 512 * k) (by omega) (by omega), wi_id (n := 256 * k) (by omega) (by omega), wi_id (n := 128 * k) (by omega) (by omega), wi_id (n := a0_0 + 512 * k) (by omega) (by omega), wi_id (n := a0_1 + 512 * k) (by omega) (by omega),
    wi_id (n := a0_0 + 256 * k) (by omega) (by omega), wi_id (n := a0_0 + 128 * k) (by omega) (by omega), wi_id (n := a0_1 + 256 * k) (by omega) (by omega)]
  have hT : ∀ x y, okT [a0_0, a0_1, 0, a3, a2_0, 0, a0_0 + 512 * k, a0_1, 0, a3, a2_1, 0, a0_0, a0_1 + 512 * k, 0, a3, a2_2, 0] x y = true := fun x y => by
    show (okW a3 && okW a3 && okW a3) = true
    rw [okW_of (by omega) (by omega)]; rfl
  refine mg (hT _ _) (mg (hT _ _) ?_)
  have hkk : 1 ≤ k * k ∧ k * k ≤ 256 := by
    have h1 := Int.mul_le_mul (show 1 ≤ k by omega) (show 1 ≤ k by omega) (by omega) (by omega)
    have h2 := Int.mul_le_mul (show k ≤ 16 by omega) (show k ≤ 16 by omega) (by omega) (by omega)
    omega
  have hq := nr_q (w := a3) (by omega) (by omega)
  have hv : 1 ≤ (k * k * nr 274877906944 a3) ∧ (k * k * nr 274877906944 a3) ≤ 274877907200 := by
    have h1 := Int.mul_le_mul hkk.1 hq.1 (by omega) (by omega)
    have h2 := Int.mul_le_mul hkk.2 hq.2 (by omega) (by omega)
    omega
  have p0 : n0V [a0_0, a0_1, 0, a3, a2_0, 0, a0_0 + 512 * k, a0_1, 0, a3, a2_1, 0, a0_0, a0_1 + 512 * k, 0, a3, a2_2, 0] (a0_0 + 256 * k) a0_1 = 131072 * (k * k * nr 274877906944 a3) := by
    show wi (sdV (a0_0 + 512 * k) a0_1 a0_0 (a0_1 + 512 * k) (a0_0 + 256 * k) a0_1 * nr 274877906944 a3) = _
    rw [(sd_in (ax := (a0_0 + 512 * k)) (ay := a0_1) (bx := a0_0) (by_ := (a0_1 + 512 * k)) (x := (a0_0 + 256 * k)) (y := a0_1) (by omega) (by omega) (by omega) (by omega) (by omega) (by omega) (by omega) (by omega) (by omega) (by omega) (by omega) (by omega)).1,
      show (a0_0 - (a0_0 + 512 * k)) * (a0_1 - a0_1) - ((a0_1 + 512 * k) - a0_1) * ((a0_0 + 256 * k) - (a0_0 + 512 * k)) = 131072 * (k * k) by grind,
      show 131072 * (k * k) * nr 274877906944 a3 = 131072 * (k * k * nr 274877906944 a3) by grind]
    exact wi_id (by omega) (by omega)
  have p1 : n1V [a0_0, a0_1, 0, a3, a2_0, 0, a0_0 + 512 * k, a0_1, 0, a3, a2_1, 0, a0_0, a0_1 + 512 * k, 0, a3, a2_2, 0] (a0_0 + 256 * k) a0_1 = 131072 * (k * k * nr 274877906944 a3) := by
    show wi (sdV a0_0 (a0_1 + 512 * k) a0_0 a0_1 (a0_0 + 256 * k) a0_1 * nr 274877906944 a3) = _
    rw [(sd_in (ax := a0_0) (ay := (a0_1 + 512 * k)) (bx := a0_0) (by_ := a0_1) (x := (a0_0 + 256 * k)) (y := a0_1) (by omega) (by omega) (by omega) (by omega) (by omega) (by omega) (by omega) (by omega) (by omega) (by omega) (by omega) (by omega)).1,
      show (a0_0 - a0_0) * (a0_1 - (a0_1 + 512 * k)) - (a0_1 - (a0_1 + 512 * k)) * ((a0_0 + 256 * k) - a0_0) = 131072 * (k * k) by grind,
      show 131072 * (k * k) * nr 274877906944 a3 = 131072 * (k * k * nr 274877906944 a3) by grind]
    exact wi_id (by omega) (by omega)
  have p2 : n2V [a0_0, a0_1, 0, a3, a2_0, 0, a0_0 + 512 * k, a0_1, 0, a3, a2_1, 0, a0_0, a0_1 + 512 * k, 0, a3, a2_2, 0] (a0_0 + 256 * k) a0_1 = 0 * (k * k * nr 274877906944 a3) := by
    show wi (sdV a0_0 a0_1 (a0_0 + 512 * k) a0_1 (a0_0 + 256 * k) a0_1 * nr 274877906944 a3) = _
    rw [(sd_in (ax := a0_0) (ay := a0_1) (bx := (a0_0 + 512 * k)) (by_ := a0_1) (x := (a0_0 + 256 * k)) (y := a0_1) (by omega) (by omega) (by omega) (by omega) (by omega) (by omega) (by omega) (by omega) (by omega) (by omega) (by omega) (by omega)).1,
      show ((a0_0 + 512 * k) - a0_0) * (a0_1 - a0_1) - (a0_1 - a0_1) * ((a0_0 + 256 * k) - a0_0) = 0 * (k * k) by grind,
      show 0 * (k * k) * nr 274877906944 a3 = 0 * (k * k * nr 274877906944 a3) by grind]
    exact wi_id (by omega) (by omega)
  have ps : sV [a0_0, a0_1, 0, a3, a2_0, 0, a0_0 + 512 * k, a0_1, 0, a3, a2_1, 0, a0_0, a0_1 + 512 * k, 0, a3, a2_2, 0] (a0_0 + 256 * k) a0_1 = 2 * (131072 * (k * k * nr 274877906944 a3)) := by
    unfold sV
    rw [p0, p1, p2, sN_eq (by omega) (by omega) (by omega) (by omega) (by omega) (by omega)]
    omega
  have pw := wO_exact (s := 2 * (131072 * (k * k * nr 274877906944 a3))) (n := 131072 * (k * k * nr 274877906944 a3)) (c := 2) (r := 2 * (k * k * nr 274877906944 a3)) (by omega) (by omega) (by omega) rfl (by omega)
  obtain ⟨pa, pb, pc, pk⟩ := oV_of ps p0 p1 (by omega) pw pw (by omega) (by omega)
  have q0 : n0V [a0_0, a0_1, 0, a3, a2_0, 0, a0_0 + 512 * k, a0_1, 0, a3, a2_1, 0, a0_0, a0_1 + 512 * k, 0, a3, a2_2, 0] (a0_0 + 128 * k) (a0_1 + 256 * k) = 65536 * (k * k * nr 274877906944 a3) := by
    show wi (sdV (a0_0 + 512 * k) a0_1 a0_0 (a0_1 + 512 * k) (a0_0 + 128 * k) (a0_1 + 256 * k) * nr 274877906944 a3) = _
    rw [(sd_in (ax := (a0_0 + 512 * k)) (ay := a0_1) (bx := a0_0) (by_ := (a0_1 + 512 * k)) (x := (a0_0 + 128 * k)) (y := (a0_1 + 256 * k)) (by omega) (by omega) (by omega) (by omega) (by omega) (by omega) (by omega) (by omega) (by omega) (by omega) (by omega) (by omega)).1,
      show (a0_0 - (a0_0 + 512 * k)) * ((a0_1 + 256 * k) - a0_1) - ((a0_1 + 512 * k) - a0_1) * ((a0_0 + 128 * k) - (a0_0 + 512 * k)) = 65536 * (k * k) by grind,
      show 65536 * (k * k) * nr 274877906944 a3 = 65536 * (k * k * nr 274877906944 a3) by grind]
    exact wi_id (by omega) (by omega)
  have q1 : n1V [a0_0, a0_1, 0, a3, a2_0, 0, a0_0 + 512 * k, a0_1, 0, a3, a2_1, 0, a0_0, a0_1 + 512 * k, 0, a3, a2_2, 0] (a0_0 + 128 * k) (a0_1 + 256 * k) = 65536 * (k * k * nr 274877906944 a3) := by
    show wi (sdV a0_0 (a0_1 + 512 * k) a0_0 a0_1 (a0_0 + 128 * k) (a0_1 + 256 * k) * nr 274877906944 a3) = _
    rw [(sd_in (ax := a0_0) (ay := (a0_1 + 512 * k)) (bx := a0_0) (by_ := a0_1) (x := (a0_0 + 128 * k)) (y := (a0_1 + 256 * k)) (by omega) (by omega) (by omega) (by omega) (by omega) (by omega) (by omega) (by omega) (by omega) (by omega) (by omega) (by omega)).1,
      show (a0_0 - a0_0) * ((a0_1 + 256 * k) - (a0_1 + 512 * k)) - (a0_1 - (a0_1 + 512 * k)) * ((a0_0 + 128 * k) - a0_0) = 65536 * (k * k) by grind,
      show 65536 * (k * k) * nr 274877906944 a3 = 65536 * (k * k * nr 274877906944 a3) by grind]
    exact wi_id (by omega) (by omega)
  have q2 : n2V [a0_0, a0_1, 0, a3, a2_0, 0, a0_0 + 512 * k, a0_1, 0, a3, a2_1, 0, a0_0, a0_1 + 512 * k, 0, a3, a2_2, 0] (a0_0 + 128 * k) (a0_1 + 256 * k) = 131072 * (k * k * nr 274877906944 a3) := by
    show wi (sdV a0_0 a0_1 (a0_0 + 512 * k) a0_1 (a0_0 + 128 * k) (a0_1 + 256 * k) * nr 274877906944 a3) = _
    rw [(sd_in (ax := a0_0) (ay := a0_1) (bx := (a0_0 + 512 * k)) (by_ := a0_1) (x := (a0_0 + 128 * k)) (y := (a0_1 + 256 * k)) (by omega) (by omega) (by omega) (by omega) (by omega) (by omega) (by omega) (by omega) (by omega) (by omega) (by omega) (by omega)).1,
      show ((a0_0 + 512 * k) - a0_0) * ((a0_1 + 256 * k) - a0_1) - (a0_1 - a0_1) * ((a0_0 + 128 * k) - a0_0) = 131072 * (k * k) by grind,
      show 131072 * (k * k) * nr 274877906944 a3 = 131072 * (k * k * nr 274877906944 a3) by grind]
    exact wi_id (by omega) (by omega)
  have qs : sV [a0_0, a0_1, 0, a3, a2_0, 0, a0_0 + 512 * k, a0_1, 0, a3, a2_1, 0, a0_0, a0_1 + 512 * k, 0, a3, a2_2, 0] (a0_0 + 128 * k) (a0_1 + 256 * k) = 4 * (65536 * (k * k * nr 274877906944 a3)) := by
    unfold sV
    rw [q0, q1, q2, sN_eq (by omega) (by omega) (by omega) (by omega) (by omega) (by omega)]
    omega
  have qw := wO_exact (s := 4 * (65536 * (k * k * nr 274877906944 a3))) (n := 65536 * (k * k * nr 274877906944 a3)) (c := 4) (r := (k * k * nr 274877906944 a3)) (by omega) (by omega) (by omega) rfl (by omega)
  obtain ⟨qa, qb, qc, qk⟩ := oV_of qs q0 q1 (by omega) qw qw (by omega) (by omega)
  rw [pa, pb, pc, pk, qa, qb, qc, qk]
  rfl

theorem walk (a0_0 : Int) (a0_1 : Int) (a1 : Int) (a2_0 : Int) (a2_1 : Int) (a2_2 : Int) (a3 : Int) (h_a0_0 : -9223372036854775808 ≤ a0_0 ∧ a0_0 ≤ 9223372036854775807) (h_a0_1 : -9223372036854775808 ≤ a0_1 ∧ a0_1 ≤ 9223372036854775807) (h_a1 : -9223372036854775808 ≤ a1 ∧ a1 ≤ 9223372036854775807) (h_a2_0 : -9223372036854775808 ≤ a2_0 ∧ a2_0 ≤ 9223372036854775807) (h_a2_1 : -9223372036854775808 ≤ a2_1 ∧ a2_1 ≤ 9223372036854775807) (h_a2_2 : -9223372036854775808 ≤ a2_2 ∧ a2_2 ≤ 9223372036854775807) (h_a3 : -9223372036854775808 ≤ a3 ∧ a3 ≤ 9223372036854775807) (w : World) :
    Calls Try.prog 6 #[.agg #[.int .i64 a0_0, .int .i64 a0_1], .int .i64 a1, .agg #[.int .i64 a2_0, .int .i64 a2_1, .int .i64 a2_2], .int .i64 a3] w fun e w' => e = .returned (.bool true) ∧ Below w.heap.size w w' := by
  have h := law_of calls_sound mixed entersF (bodyTrue a0_0 a0_1 a1 a2_0 a2_1 a2_2 a3 h_a0_0 h_a0_1 h_a1 h_a2_0 h_a2_1 h_a2_2 h_a3) (E := ⟨fun _ => 0, fun _ => undef⟩) (RepM.empty _ w) (by kernel_rfl) (by kernel_rfl)
  exact h

theorem walkV (W : World) (base : Nat) (v0 : Value) (v1 : Value) (v2 : Value) (v3 : Value) (hv0 : Value.okWide Try.prog W .any base 36 v0) (hv1 : Value.okWide Try.prog W .any base 3 v1) (hv2 : Value.okWide Try.prog W .any base 27 v2) (hv3 : Value.okWide Try.prog W .any base 3 v3) : Calls Try.prog 6 #[v0, v1, v2, v3] W fun e w' => e = .returned (.bool true) ∧ Below W.heap.size W w' := by
  obtain ⟨cs0, rfl, hl0, hc0⟩ := ok_agg (P := Try.prog) (t := 36) (ts := [3, 3]) (by kernel_rfl) (by kernel_rfl) (by kernel_rfl) hv0
  obtain ⟨c0_0, c0_1, rfl⟩ := list2 hl0
  obtain ⟨a0_0, rfl, b0_0, b0_0'⟩ := cell_int Try.underlying3 (hc0 0 3 _ rfl rfl)
  obtain ⟨a0_1, rfl, b0_1, b0_1'⟩ := cell_int Try.underlying3 (hc0 1 3 _ rfl rfl)
  obtain ⟨a1, rfl, b1, b1'⟩ := ok_int Try.underlying3 hv1
  obtain ⟨cs2, rfl, hl2, hc2⟩ := ok_agg (P := Try.prog) (t := 27) (ts := [3, 3, 3]) (by kernel_rfl) (by kernel_rfl) (by kernel_rfl) hv2
  obtain ⟨c2_0, c2_1, c2_2, rfl⟩ := list3 hl2
  obtain ⟨a2_0, rfl, b2_0, b2_0'⟩ := cell_int Try.underlying3 (hc2 0 3 _ rfl rfl)
  obtain ⟨a2_1, rfl, b2_1, b2_1'⟩ := cell_int Try.underlying3 (hc2 1 3 _ rfl rfl)
  obtain ⟨a2_2, rfl, b2_2, b2_2'⟩ := cell_int Try.underlying3 (hc2 2 3 _ rfl rfl)
  obtain ⟨a3, rfl, b3, b3'⟩ := ok_int Try.underlying3 hv3
  exact walk a0_0 a0_1 a1 a2_0 a2_1 a2_2 a3 ⟨b0_0, b0_0'⟩ ⟨b0_1, b0_1'⟩ ⟨b1, b1'⟩ ⟨b2_0, b2_0'⟩ ⟨b2_1, b2_1'⟩ ⟨b2_2, b2_2'⟩ ⟨b3, b3'⟩ W

set_option maxRecDepth 100000 in
theorem lifted (os : Os) (started : os.Started) (H : Type) (enc : TypeId × Value → H) :
    ReturnsInHanded {} Try.checked os 6 .any (Rows.perspStraightSpec.pre6 enc Try.prog Try.f6 Rows.perspStraightRow.domain false) (Rows.perspStraightSpec.post enc Try.prog Try.f6 false true false false) := by
  refine returnsInHanded_of_change (C := Try.checked) own started (by kernel_rfl) Try.func6
    (ChangeSpec.witness6 (enc := enc) (C := Try.checked) false ⟨#[], #[.agg #[.int .i64 0, .int .i64 0], .int .i64 0, .agg #[.int .i64 0, .int .i64 0, .int .i64 0], .int .i64 0], []⟩ 8 (by kernel_rfl) (by kernel_rfl) (by kernel_rfl) (by kernel_rfl)) ?_
  intro W base args ds gs before hval0 hW _ _
  have hval : ∀ (j : Nat) t v, Try.f6.params[j]? = some t → args[j]? = some v → Value.okWide Try.prog W .any base t v := hval0
  have hW' := hW
  obtain ⟨p, q, hA0, _, rfl, _, _⟩ := hW
  have hA : DataW.TrodAll enc Try.prog W 0 (fun _ => true) true Try.f6.params.toList args.toList ds p := hA0
  rw [Try.params6] at hA hval
  obtain ⟨v0, vs0, d0, ds0, p0, q0, hargs, rfl, rfl, h0, r0⟩ := trodAll_cons hA
  obtain ⟨v1, vs1, d1, ds1, p1, q1, rfl, rfl, rfl, h1, r1⟩ := trodAll_cons r0
  obtain ⟨v2, vs2, d2, ds2, p2, q2, rfl, rfl, rfl, h2, r2⟩ := trodAll_cons r1
  obtain ⟨v3, vs3, d3, ds3, p3, q3, rfl, rfl, rfl, h3, r3⟩ := trodAll_cons r2
  obtain ⟨rfl, rfl, rfl⟩ := trodAll_nil r3
  obtain rfl : args = #[v0, v1, v2, v3] := by cases args; simp_all
  refine (walkV W base v0 v1 v2 v3 (hval 0 36 v0 rfl rfl) (hval 1 3 v1 rfl rfl) (hval 2 27 v2 rfl rfl) (hval 3 3 v3 rfl rfl)).mono fun e W' ⟨he, hb⟩ => ?_
  subst he
  exact ⟨_, rfl, law_post (tb := 4) hW' rfl rfl laid (by kernel_rfl) rfl Try.underlying4 hb⟩

theorem over : Rows.perspStraightRow.holds Try.pinned (OpenSpec.ofChange Rows.perspStraightSpec) :=
  OpenClaim.holds_of_wide 6 Try.f6 rfl rfl rfl rfl rfl rfl rfl ⟨rfl, rfl, rfl, rfl, rfl⟩ rfl rfl rfl rfl rfl (by kernel_rfl) Try.func6 (by kernel_rfl)
    (of_decide_eq_true (by kernel_rfl)) (by unfold Func.isWrapper; first | (rw [if_pos (by decide +kernel)]; kernel_rfl) | (rw [if_neg (by decide +kernel)]; exact ⟨rfl, rfl⟩))
    (fun os started H enc _ => lifted os started H enc)

theorem proved : Rows.PerspStraightSaid := over
end Go.Proofs.Ythnkgakjnfghoaa.perspStraight

