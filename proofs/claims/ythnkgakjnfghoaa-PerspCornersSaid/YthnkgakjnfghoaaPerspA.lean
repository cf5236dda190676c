/- A triangle's sides, weights and places (chapter 27), outright, of no program. -/
import Derived.Test.YthnkgakjnfghoaaFxC
set_option linter.unusedVariables false
set_option linter.unusedSimpArgs false
namespace Go.Fx
open Go Go.Sx

/-! specifications over a triangle -/
def tS (g : List Int → Bool) (f : List Int → AV) : FSpec := ⟨fun args k => match args with
  | [.agg [.lit (.int .i64 x0), .lit (.int .i64 y0), .lit (.int .i64 z0), .lit (.int .i64 w0), .lit (.int .i64 u0), .lit (.int .i64 v0), .lit (.int .i64 x1), .lit (.int .i64 y1), .lit (.int .i64 z1), .lit (.int .i64 w1), .lit (.int .i64 u1), .lit (.int .i64 v1), .lit (.int .i64 x2), .lit (.int .i64 y2), .lit (.int .i64 z2), .lit (.int .i64 w2), .lit (.int .i64 u2), .lit (.int .i64 v2)]] => bif g [x0, y0, z0, w0, u0, v0, x1, y1, z1, w1, u1, v1, x2, y2, z2, w2, u2, v2] then k (f [x0, y0, z0, w0, u0, v0, x1, y1, z1, w1, u1, v1, x2, y2, z2, w2, u2, v2]) else none
  | _ => none⟩
def tpS (g : List Int → Int → Int → Bool) (f : List Int → Int → Int → AV) : FSpec := ⟨fun args k => match args with
  | [.agg [.lit (.int .i64 x0), .lit (.int .i64 y0), .lit (.int .i64 z0), .lit (.int .i64 w0), .lit (.int .i64 u0), .lit (.int .i64 v0), .lit (.int .i64 x1), .lit (.int .i64 y1), .lit (.int .i64 z1), .lit (.int .i64 w1), .lit (.int .i64 u1), .lit (.int .i64 v1), .lit (.int .i64 x2), .lit (.int .i64 y2), .lit (.int .i64 z2), .lit (.int .i64 w2), .lit (.int .i64 u2), .lit (.int .i64 v2)], .lit (.int .i64 x), .lit (.int .i64 y)] => bif g [x0, y0, z0, w0, u0, v0, x1, y1, z1, w1, u1, v1, x2, y2, z2, w2, u2, v2] x y then k (f [x0, y0, z0, w0, u0, v0, x1, y1, z1, w1, u1, v1, x2, y2, z2, w2, u2, v2] x y) else none
  | _ => none⟩
theorem tS_ok {P : Program} {f : FuncId} {g : List Int → Bool} {h : List Int → AV} (H : ∀ x0 y0 z0 w0 u0 v0 x1 y1 z1 w1 u1 v1 x2 y2 z2 w2 u2 v2 : Int, g [x0, y0, z0, w0, u0, v0, x1, y1, z1, w1, u1, v1, x2, y2, z2, w2, u2, v2] = true → PureOk P f [.agg [i64 x0, i64 y0, i64 z0, i64 w0, i64 u0, i64 v0, i64 x1, i64 y1, i64 z1, i64 w1, i64 u1, i64 v1, i64 x2, i64 y2, i64 z2, i64 w2, i64 u2, i64 v2]] (h [x0, y0, z0, w0, u0, v0, x1, y1, z1, w1, u1, v1, x2, y2, z2, w2, u2, v2])) : (tS g h).Ok P f := by
  intro R args k r e
  simp only [tS] at e
  split at e
  · rename_i x0 y0 z0 w0 u0 v0 x1 y1 z1 w1 u1 v1 x2 y2 z2 w2 u2 v2
    cases hg : g [x0, y0, z0, w0, u0, v0, x1, y1, z1, w1, u1, v1, x2, y2, z2, w2, u2, v2] with
    | false => rw [hg] at e; cases e
    | true => rw [hg] at e; exact ⟨_, e, H x0 y0 z0 w0 u0 v0 x1 y1 z1 w1 u1 v1 x2 y2 z2 w2 u2 v2 hg⟩
  · cases e
theorem tpS_ok {P : Program} {f : FuncId} {g : List Int → Int → Int → Bool} {h : List Int → Int → Int → AV} (H : ∀ x0 y0 z0 w0 u0 v0 x1 y1 z1 w1 u1 v1 x2 y2 z2 w2 u2 v2 x y : Int, g [x0, y0, z0, w0, u0, v0, x1, y1, z1, w1, u1, v1, x2, y2, z2, w2, u2, v2] x y = true → PureOk P f [.agg [i64 x0, i64 y0, i64 z0, i64 w0, i64 u0, i64 v0, i64 x1, i64 y1, i64 z1, i64 w1, i64 u1, i64 v1, i64 x2, i64 y2, i64 z2, i64 w2, i64 u2, i64 v2], i64 x, i64 y] (h [x0, y0, z0, w0, u0, v0, x1, y1, z1, w1, u1, v1, x2, y2, z2, w2, u2, v2] x y)) : (tpS g h).Ok P f := by
  intro R args k r e
  simp only [tpS] at e
  split at e
  · rename_i x0 y0 z0 w0 u0 v0 x1 y1 z1 w1 u1 v1 x2 y2 z2 w2 u2 v2 x y
    cases hg : g [x0, y0, z0, w0, u0, v0, x1, y1, z1, w1, u1, v1, x2, y2, z2, w2, u2, v2] x y with
    | false => rw [hg] at e; cases e
    | true => rw [hg] at e; exact ⟨_, e, H x0 y0 z0 w0 u0 v0 x1 y1 z1 w1 u1 v1 x2 y2 z2 w2 u2 v2 x y hg⟩
  · cases e
def sideS (f : Int → Int → Int → Int → Int → Int → AV) : FSpec := ⟨fun args k => match args with
  | [.agg [.lit (.int .i64 ax), .lit (.int .i64 ay), _, _, _, _], .agg [.lit (.int .i64 bx), .lit (.int .i64 by_), _, _, _, _], .lit (.int .i64 x), .lit (.int .i64 y)] => k (f ax ay bx by_ x y)
  | _ => none⟩

def sdV (ax ay bx by_ x y : Int) : Int := wi (wi (wi (bx - ax) * wi (y - ay)) - wi (wi (by_ - ay) * wi (x - ax)))
def arV : List Int → Int
  | [x0, y0, z0, w0, u0, v0, x1, y1, z1, w1, u1, v1, x2, y2, z2, w2, u2, v2] => sdV x0 y0 x1 y1 x2 y2
  | _ => 0
def e0V : List Int → Int → Int → Int
  | [x0, y0, z0, w0, u0, v0, x1, y1, z1, w1, u1, v1, x2, y2, z2, w2, u2, v2], x, y => sdV x1 y1 x2 y2 x y
  | _, _, _ => 0
def e1V : List Int → Int → Int → Int
  | [x0, y0, z0, w0, u0, v0, x1, y1, z1, w1, u1, v1, x2, y2, z2, w2, u2, v2], x, y => sdV x2 y2 x0 y0 x y
  | _, _, _ => 0
def e2V : List Int → Int → Int → Int
  | [x0, y0, z0, w0, u0, v0, x1, y1, z1, w1, u1, v1, x2, y2, z2, w2, u2, v2], x, y => sdV x0 y0 x1 y1 x y
  | _, _, _ => 0
def edA (t : List Int) (x y : Int) : AV := .agg [i64 (e0V t x y), i64 (e1V t x y), i64 (e2V t x y)]
def gT (_ : List Int) : Bool := true
def gTP (_ : List Int) (_ _ : Int) : Bool := true
abbrev areaS : FSpec := tS gT fun t => i64 (arV t)
abbrev edgesS : FSpec := tpS gTP edA

/-! weights -/
def sN (n0 n1 n2 : Int) : Int := wi (wi (wi (0 + n0) + n1) + n2)
def kN (s : Int) : Int := if 0 > wi (logV s - 41) then 0 else wi (logV s - 41)
def qN (s : Int) : Int := s.fdiv (2 ^ min (kN s).toNat 64)
def mN (s n : Int) : Int := n.fdiv (2 ^ min (kN s).toNat 64)
def hN (s n : Int) : Int := if wi (16 * qN s) < (if wi (-16 * qN s) > mN s n then wi (-16 * qN s) else mN s n) then wi (16 * qN s) else (if wi (-16 * qN s) > mN s n then wi (-16 * qN s) else mN s n)
def wBad : AV := .tup [.agg [i64 0, i64 0, i64 0], .lit (.bool false)]
def wGood (a b : Int) : AV := .tup [.agg [i64 a, i64 b, i64 (wi (wi (65536 - a) - b))], .lit (.bool true)]
def wtT (s x0 x1 : Int) : Option AV :=
  bif decide (s < 1) then some wBad else bif decide (s ≤ 9223372036854775807) then
    (if kN s < 0 then none else if kN s < 0 then none else if qN s = 0 then none else if qN s = 0 then none else
      bif decide (x0.tmod (qN s) < 0) then
        (if kN s < 0 then none else if qN s = 0 then none else if qN s = 0 then none else
          bif decide (x1.tmod (qN s) < 0) then some (wGood (wi (wi (x0.tdiv (qN s)) - 1)) (wi (wi (x1.tdiv (qN s)) - 1))) else some (wGood (wi (wi (x0.tdiv (qN s)) - 1)) (wi (x1.tdiv (qN s)))))
      else
        (if kN s < 0 then none else if qN s = 0 then none else if qN s = 0 then none else
          bif decide (x1.tmod (qN s) < 0) then some (wGood (wi (x0.tdiv (qN s))) (wi (wi (x1.tdiv (qN s)) - 1))) else some (wGood (wi (x0.tdiv (qN s))) (wi (x1.tdiv (qN s))))))
  else none
def dwn (n d : Int) : Int := bif decide (n.tmod d < 0) then wi (wi (n.tdiv d) - 1) else wi (n.tdiv d)
def wO (s n : Int) : Int := bif decide (s < 1) then 0 else dwn (wi (hN s n * 65536)) (qN s)
def wO2 (s n0 n1 : Int) : Int := bif decide (s < 1) then 0 else wi (wi (65536 - wO s n0) - wO s n1)
def wOk (s : Int) : Bool := !decide (s < 1)
def wA (s n0 n1 : Int) : AV := .tup [.agg [i64 (wO s n0), i64 (wO s n1), i64 (wO2 s n0 n1)], .lit (.bool (wOk s))]

theorem wi_le (n : Int) : -9223372036854775808 ≤ wi n ∧ wi n ≤ 9223372036854775807 := by
  have e : wi n = if n % 18446744073709551616 ≥ 9223372036854775808 then n % 18446744073709551616 - 18446744073709551616 else n % 18446744073709551616 := by
    unfold wi IntKind.wrap
    simp [IntKind.bits, IntKind.signed]
  rw [e]
  split <;> omega
theorem kN_ge (s : Int) : ¬ kN s < 0 := by unfold kN; split <;> omega
theorem pw {a b : Nat} (h : a ≤ b) : (2 : Int) ^ a ≤ 2 ^ b := by
  have := Nat.pow_le_pow_right (n := 2) (by omega) h
  exact_mod_cast this
/-- how far a sum is moved down, and what is left -/
theorem qN_spec {s : Int} (h1 : 1 ≤ s) (h2 : s ≤ 9223372036854775807) : ∃ k : Nat, kN s = k ∧ k ≤ 21 ∧ qN s = s / 2 ^ k ∧ 1 ≤ qN s ∧ qN s ≤ 4398046511103 := by
  obtain ⟨k, l1, l2, l3, l4⟩ := logV_spec h1 h2
  have hk : kN s = ((k - 41 : Nat) : Int) := by
    unfold kN
    rw [l1, wi_id (by omega) (by omega)]
    split <;> omega
  have hpow : ∀ j : Nat, (0 : Int) < 2 ^ j := fun j => Int.pow_pos (by omega)
  have hq : qN s = s / 2 ^ (k - 41) := by
    unfold qN
    rw [hk, Int.toNat_natCast, Nat.min_eq_left (by omega), Int.fdiv_eq_ediv_of_nonneg _ (Int.le_of_lt (hpow _))]
  refine ⟨k - 41, hk, by omega, hq, ?_, ?_⟩
  · rw [hq]
    refine (Int.le_ediv_iff_mul_le (hpow _)).2 ?_
    rw [Int.one_mul]
    exact Int.le_trans (pw (by omega)) l2
  · rw [hq]
    have : s / 2 ^ (k - 41) < 4398046511104 := by
      refine (Int.ediv_lt_iff_lt_mul (hpow _)).2 ?_
      refine Int.lt_of_lt_of_le l3 ?_
      have e : (4398046511104 : Int) = 2 ^ 42 := by decide
      rw [e, ← Int.pow_add]
      exact pw (by omega)
    omega
theorem wt_eq (n : Int) (n0 n1 : Int) : wtT (wi n) (wi (hN (wi n) n0 * 65536)) (wi (hN (wi n) n1 * 65536)) = some (wA (wi n) n0 n1) := by
  have hr := wi_le n
  generalize wi n = s at *
  unfold wtT wA wO wO2 wO wOk dwn
  by_cases h : s < 1
  · rw [decide_eq_true h]; rfl
  · obtain ⟨k, _, _, _, hq, _⟩ := qN_spec (s := s) (by omega) hr.2
    have hq0 : ¬ qN s = 0 := by omega
    rw [decide_eq_false h, decide_eq_true hr.2]
    simp only [cond_false, cond_true, if_neg (kN_ge s), if_neg hq0]
    cases decide ((wi (hN s n0 * 65536)).tmod (qN s) < 0) <;> cases decide ((wi (hN s n1 * 65536)).tmod (qN s) < 0) <;> rfl
def okW (w : Int) : Bool := decide (1 ≤ w) && decide (w ≤ 1099511627776)
def okT : List Int → Int → Int → Bool
  | [x0, y0, z0, w0, u0, v0, x1, y1, z1, w1, u1, v1, x2, y2, z2, w2, u2, v2], _, _ => okW w0 && okW w1 && okW w2
  | _, _, _ => false
def n0V : List Int → Int → Int → Int
  | [x0, y0, z0, w0, u0, v0, x1, y1, z1, w1, u1, v1, x2, y2, z2, w2, u2, v2], x, y => wi (sdV x1 y1 x2 y2 x y * nr 274877906944 w0)
  | _, _, _ => 0
def n1V : List Int → Int → Int → Int
  | [x0, y0, z0, w0, u0, v0, x1, y1, z1, w1, u1, v1, x2, y2, z2, w2, u2, v2], x, y => wi (sdV x2 y2 x0 y0 x y * nr 274877906944 w1)
  | _, _, _ => 0
def n2V : List Int → Int → Int → Int
  | [x0, y0, z0, w0, u0, v0, x1, y1, z1, w1, u1, v1, x2, y2, z2, w2, u2, v2], x, y => wi (sdV x0 y0 x1 y1 x y * nr 274877906944 w2)
  | _, _, _ => 0
def sV (t : List Int) (x y : Int) : Int := sN (n0V t x y) (n1V t x y) (n2V t x y)
def wF (t : List Int) (x y : Int) : AV := wA (sV t x y) (n0V t x y) (n1V t x y)
abbrev weightsS : FSpec := tpS okT wF
theorem okW_rnd {w : Int} (h : okW w = true) : rndV 274877906944 w = nr 274877906944 w ∧ ndB 274877906944 (if 1 > w then 1 else w) = true ∧ (if 1 > w then 1 else w) = w := by
  simp only [okW, Bool.and_eq_true, decide_eq_true_eq] at h
  have e : (if 1 > w then 1 else w) = w := by split <;> omega
  refine ⟨(rnd_in h.1 h.2 (by omega) (by omega)).1, ?_, e⟩
  rw [e]
  simp [ndB]; omega

def wtP (x0 y0 z0 w0 u0 v0 x1 y1 z1 w1 u1 v1 x2 y2 z2 w2 u2 v2 x y : Int) : Option AV :=
  wtT (sN (wi (sdV x1 y1 x2 y2 x y * rndV 274877906944 w0)) (wi (sdV x2 y2 x0 y0 x y * rndV 274877906944 w1)) (wi (sdV x0 y0 x1 y1 x y * rndV 274877906944 w2)))
    (wi (hN (sN (wi (sdV x1 y1 x2 y2 x y * rndV 274877906944 w0)) (wi (sdV x2 y2 x0 y0 x y * rndV 274877906944 w1)) (wi (sdV x0 y0 x1 y1 x y * rndV 274877906944 w2))) (wi (sdV x1 y1 x2 y2 x y * rndV 274877906944 w0)) * 65536))
    (wi (hN (sN (wi (sdV x1 y1 x2 y2 x y * rndV 274877906944 w0)) (wi (sdV x2 y2 x0 y0 x y * rndV 274877906944 w1)) (wi (sdV x0 y0 x1 y1 x y * rndV 274877906944 w2))) (wi (sdV x2 y2 x0 y0 x y * rndV 274877906944 w1)) * 65536))
def wtR (x0 y0 z0 w0 u0 v0 x1 y1 z1 w1 u1 v1 x2 y2 z2 w2 u2 v2 x y : Int) : Option AV :=
  bif ndB 274877906944 (if 1 > w0 then 1 else w0) then bif ndB 274877906944 (if 1 > w1 then 1 else w1) then bif ndB 274877906944 (if 1 > w2 then 1 else w2) then
  wtT (sN (wi (sdV x1 y1 x2 y2 x y * nr 274877906944 (if 1 > w0 then 1 else w0))) (wi (sdV x2 y2 x0 y0 x y * nr 274877906944 (if 1 > w1 then 1 else w1))) (wi (sdV x0 y0 x1 y1 x y * nr 274877906944 (if 1 > w2 then 1 else w2))))
    (wi (65536 * hN (sN (wi (sdV x1 y1 x2 y2 x y * nr 274877906944 (if 1 > w0 then 1 else w0))) (wi (sdV x2 y2 x0 y0 x y * nr 274877906944 (if 1 > w1 then 1 else w1))) (wi (sdV x0 y0 x1 y1 x y * nr 274877906944 (if 1 > w2 then 1 else w2)))) (wi (sdV x1 y1 x2 y2 x y * nr 274877906944 (if 1 > w0 then 1 else w0)))))
    (wi (65536 * hN (sN (wi (sdV x1 y1 x2 y2 x y * nr 274877906944 (if 1 > w0 then 1 else w0))) (wi (sdV x2 y2 x0 y0 x y * nr 274877906944 (if 1 > w1 then 1 else w1))) (wi (sdV x0 y0 x1 y1 x y * nr 274877906944 (if 1 > w2 then 1 else w2)))) (wi (sdV x2 y2 x0 y0 x y * nr 274877906944 (if 1 > w1 then 1 else w1)))))
  else none else none else none
theorem wtP_eq (x0 y0 z0 w0 u0 v0 x1 y1 z1 w1 u1 v1 x2 y2 z2 w2 u2 v2 x y : Int) (h : okT [x0, y0, z0, w0, u0, v0, x1, y1, z1, w1, u1, v1, x2, y2, z2, w2, u2, v2] x y = true) : wtP x0 y0 z0 w0 u0 v0 x1 y1 z1 w1 u1 v1 x2 y2 z2 w2 u2 v2 x y = some (wF [x0, y0, z0, w0, u0, v0, x1, y1, z1, w1, u1, v1, x2, y2, z2, w2, u2, v2] x y) := by
  simp only [okT, Bool.and_eq_true] at h
  unfold wtP
  rw [(okW_rnd h.1.1).1, (okW_rnd h.1.2).1, (okW_rnd h.2).1]
  exact wt_eq _ _ _
theorem wtR_eq (x0 y0 z0 w0 u0 v0 x1 y1 z1 w1 u1 v1 x2 y2 z2 w2 u2 v2 x y : Int) (h : okT [x0, y0, z0, w0, u0, v0, x1, y1, z1, w1, u1, v1, x2, y2, z2, w2, u2, v2] x y = true) : wtR x0 y0 z0 w0 u0 v0 x1 y1 z1 w1 u1 v1 x2 y2 z2 w2 u2 v2 x y = some (wF [x0, y0, z0, w0, u0, v0, x1, y1, z1, w1, u1, v1, x2, y2, z2, w2, u2, v2] x y) := by
  simp only [okT, Bool.and_eq_true] at h
  unfold wtR
  rw [(okW_rnd h.1.1).2.1, (okW_rnd h.1.2).2.1, (okW_rnd h.2).2.1, (okW_rnd h.1.1).2.2, (okW_rnd h.1.2).2.2, (okW_rnd h.2).2.2, Int.mul_comm 65536, Int.mul_comm 65536]
  exact wt_eq _ _ _

end Go.Fx
