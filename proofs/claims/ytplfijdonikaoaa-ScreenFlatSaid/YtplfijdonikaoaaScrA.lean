/- A point on the screen (chapter 25), outright, of no program. -/
import Derived.Test.YtplfijdonikaoaaFxC
set_option linter.unusedVariables false
set_option linter.unusedSimpArgs false
namespace Go.Fx
open Go Go.Sx
set_option linter.unusedVariables false
set_option linter.unusedSimpArgs false

def nJ (n m : Int) : Bool := decide (n ≥ -m) && decide (n ≤ m)
def wI (n a b : Int) : Bool := decide (n ≥ a) && decide (n ≤ b)
def szB (w h : Int) : Bool := ((decide (w ≥ 1) && decide (w ≤ 32)) && decide (h ≥ 1)) && decide (h ≤ 32)
def dW (p3 : Int) : Int := if 256 > p3 then 256 else p3
def hW (D n : Int) : Int := if D < (if wi (0 - D) > n then wi (0 - D) else n) then D else (if wi (0 - D) > n then wi (0 - D) else n)
/-- held between -D and D -/
def hd (D n : Int) : Int := if n < -D then -D else if D < n then D else n
def okSp (p0 p1 p2 p3 u v w h : Int) : Bool := nJ p0 536870912 && (nJ p1 536870912 && (nJ p2 536870912 && (nJ p3 536870912 && (szB w h && (nJ u 134217728 && nJ v 134217728)))))
def spX (D n w : Int) : Int := nr ((D + hd D n) * (w * 128)) D
def spY (D n h : Int) : Int := nr ((D - hd D n) * (h * 128)) D
def spZ (D n : Int) : Int := nr ((D + hd D n) * 32767) D
def badS : AV := .tup [.agg [i64 0, i64 0, i64 0, i64 0, i64 0, i64 0], .lit (.bool false)]
def b0 (b : Bool) (n : Int) : Int := bif b then n else 0
def spotA (p0 p1 p2 p3 u v w h : Int) : AV :=
  .tup [.agg [i64 (b0 (okSp p0 p1 p2 p3 u v w h) (spX (dW p3) p0 w)), i64 (b0 (okSp p0 p1 p2 p3 u v w h) (spY (dW p3) p1 h)), i64 (b0 (okSp p0 p1 p2 p3 u v w h) (spZ (dW p3) p2)), i64 (b0 (okSp p0 p1 p2 p3 u v w h) (dW p3)), i64 (b0 (okSp p0 p1 p2 p3 u v w h) u), i64 (b0 (okSp p0 p1 p2 p3 u v w h) v)], .lit (.bool (okSp p0 p1 p2 p3 u v w h))]
def spotS : FSpec := ⟨fun args k => match args with
  | [.agg [.lit (.int .i64 p0), .lit (.int .i64 p1), .lit (.int .i64 p2), .lit (.int .i64 p3), .lit (.int .i64 u), .lit (.int .i64 v)], .lit (.int .i64 w), .lit (.int .i64 h)] => k (spotA p0 p1 p2 p3 u v w h)
  | _ => none⟩
theorem spotS_ok {P : Program} {f : FuncId} (H : ∀ p0 p1 p2 p3 u v w h, PureOk P f [.agg [i64 p0, i64 p1, i64 p2, i64 p3, i64 u, i64 v], i64 w, i64 h] (spotA p0 p1 p2 p3 u v w h)) : spotS.Ok P f := by
  intro R args k r e
  simp only [spotS] at e
  split at e
  · exact ⟨_, e, H _ _ _ _ _ _ _ _⟩
  · cases e
theorem nJ_iff {n m : Int} : nJ n m = true ↔ -m ≤ n ∧ n ≤ m := by simp [nJ]
theorem szB_iff {w h : Int} : szB w h = true ↔ 1 ≤ w ∧ w ≤ 32 ∧ 1 ≤ h ∧ h ≤ 32 := by simp [szB, and_assoc]
theorem dW_bd {p3 : Int} (h : nJ p3 536870912 = true) : 256 ≤ dW p3 ∧ dW p3 ≤ 536870912 := by
  rw [nJ_iff] at h; unfold dW; split <;> omega
theorem hW_eq {D n : Int} (h : 256 ≤ D) (h' : D ≤ 536870912) : hW D n = hd D n := by
  unfold hW hd
  rw [wi_id (n := 0 - D) (by omega) (by omega)]
  split <;> split <;> omega
theorem hd_bd (D n : Int) (h : 0 ≤ D) : -D ≤ hd D n ∧ hd D n ≤ D := by unfold hd; split <;> (try split) <;> omega
theorem mul_bd {a b A B : Int} (h0 : 0 ≤ a) (h1 : a ≤ A) (h2 : 0 ≤ b) (h3 : b ≤ B) : 0 ≤ a * b ∧ a * b ≤ A * B :=
  ⟨Int.mul_nonneg h0 h2, Int.mul_le_mul h1 h3 h2 (by omega)⟩
def spT (p0 p1 p2 p3 u v w h : Int) : Option AV :=
  bif !nJ p0 536870912 then (bif !szB w h then some badS else some badS) else
  bif !nJ p1 536870912 then (bif !szB w h then some badS else some badS) else
  bif !nJ p2 536870912 then (bif !szB w h then some badS else some badS) else
  bif !nJ p3 536870912 then (bif !szB w h then some badS else some badS) else
  bif !szB w h then some badS else bif !nJ u 134217728 then some badS else bif !nJ v 134217728 then some badS else
  some (.tup [.agg [i64 (rndV (wi (wi (dW p3 + hW (dW p3) p0) * wi (w * 128))) (dW p3)), i64 (rndV (wi (wi (dW p3 + wi (0 - hW (dW p3) p1)) * wi (h * 128))) (dW p3)), i64 (rndV (wi (wi (dW p3 + hW (dW p3) p2) * 32767)) (dW p3)), i64 (dW p3), i64 u, i64 v], .lit (.bool true)])
def spRT (p0 p1 p2 p3 u v w h : Int) : Option AV :=
  bif !wI w 1 32 then some badS else bif !wI h 1 32 then some badS else
  bif !nJ u 134217728 then some badS else bif !nJ v 134217728 then some badS else
  bif !nJ p0 536870912 then some badS else bif !nJ p1 536870912 then some badS else
  bif !nJ p2 536870912 then some badS else bif !nJ p3 536870912 then some badS else
  bif ndB (wi (wi (wi (dW p3 + hW (dW p3) p0) * w) * 128)) (dW p3) then (bif ndB (wi (wi (wi (dW p3 - hW (dW p3) p1) * h) * 128)) (dW p3) then (bif ndB (wi (wi (dW p3 + hW (dW p3) p2) * 32767)) (dW p3) then
  some (.tup [.agg [i64 (nr (wi (wi (wi (dW p3 + hW (dW p3) p0) * w) * 128)) (dW p3)), i64 (nr (wi (wi (wi (dW p3 - hW (dW p3) p1) * h) * 128)) (dW p3)), i64 (nr (wi (wi (dW p3 + hW (dW p3) p2) * 32767)) (dW p3)), i64 (dW p3), i64 u, i64 v], .lit (.bool true)]) else none) else none) else none
theorem ex_bd {D w x : Int} (h : 256 ≤ D) (h' : D ≤ 536870912) (h0 : 0 ≤ x) (h1 : x ≤ 2 * D) (hw : 1 ≤ w) (hw' : w ≤ 32) :
    0 ≤ x * (w * 128) ∧ x * (w * 128) ≤ 4398046511104 ∧ 0 ≤ x * w ∧ x * w ≤ 34359738368 ∧ x * (w * 128) = x * w * 128 := by
  obtain ⟨a, b⟩ := mul_bd (A := 1073741824) (B := 32) h0 (by omega) (show 0 ≤ w by omega) hw'
  have e : x * (w * 128) = x * w * 128 := (Int.mul_assoc x w 128).symm
  refine ⟨?_, ?_, a, b, e⟩ <;> rw [e] <;> omega
theorem sp_eq (p0 p1 p2 p3 u v w h : Int) : spT p0 p1 p2 p3 u v w h = some (spotA p0 p1 p2 p3 u v w h) ∧ spRT p0 p1 p2 p3 u v w h = some (spotA p0 p1 p2 p3 u v w h) := by
  have hz : szB w h = (wI w 1 32 && wI h 1 32) := by simp [szB, wI, Bool.and_assoc]
  cases hk : okSp p0 p1 p2 p3 u v w h
  · have e : spotA p0 p1 p2 p3 u v w h = badS := by unfold spotA; rw [hk]; rfl
    rw [e]
    unfold spT spRT
    unfold okSp at hk
    rw [hz] at *
    revert hk
    cases nJ p0 536870912 <;> cases nJ p1 536870912 <;> cases nJ p2 536870912 <;> cases nJ p3 536870912 <;> cases wI w 1 32 <;> cases wI h 1 32 <;> cases nJ u 134217728 <;> cases nJ v 134217728 <;> intro hk <;> first | exact ⟨rfl, rfl⟩ | cases hk
  · have e : spotA p0 p1 p2 p3 u v w h = .tup [.agg [i64 (spX (dW p3) p0 w), i64 (spY (dW p3) p1 h), i64 (spZ (dW p3) p2), i64 (dW p3), i64 u, i64 v], .lit (.bool true)] := by unfold spotA; rw [hk]; rfl
    rw [e]
    unfold okSp at hk
    simp only [Bool.and_eq_true] at hk
    obtain ⟨h0, h1, h2, h3, hs, hu, hv⟩ := hk
    unfold spT spRT
    have hs' := hs
    rw [hz, Bool.and_eq_true] at hs'
    rw [h0, h1, h2, h3, hs, hu, hv, hs'.1, hs'.2]
    obtain ⟨d0, d1⟩ := dW_bd h3
    obtain ⟨w0, w1, w2, w3⟩ := szB_iff.1 hs
    generalize dW p3 = D at *
    rw [hW_eq d0 d1, hW_eq d0 d1, hW_eq d0 d1]
    obtain ⟨x0, x1⟩ := hd_bd D p0 (by omega)
    obtain ⟨y0, y1⟩ := hd_bd D p1 (by omega)
    obtain ⟨z0, z1⟩ := hd_bd D p2 (by omega)
    unfold spX spY spZ
    generalize hd D p0 = x at *
    generalize hd D p1 = y at *
    generalize hd D p2 = z at *
    have en : wi (0 - y) = -y := by rw [wi_id (by omega) (by omega)]; omega
    have bx := ex_bd d0 d1 (show 0 ≤ D + x by omega) (by omega) w0 w1
    have bY := ex_bd d0 d1 (show 0 ≤ D - y by omega) (by omega) w2 w3
    rw [en, show D + -y = D - y by omega, wi_id (n := D + x) (by omega) (by omega), wi_id (n := D - y) (by omega) (by omega), wi_id (n := D + z) (by omega) (by omega), wi_id (n := w * 128) (by omega) (by omega), wi_id (n := h * 128) (by omega) (by omega), wi_id (n := (D + z) * 32767) (by omega) (by omega)]
    generalize (D + x) * (w * 128) = X at *
    generalize (D + x) * w = X' at *
    generalize (D - y) * (h * 128) = Y at *
    generalize (D - y) * h = Y' at *
    obtain ⟨bx0, bx1, bx2, bx3, bx4⟩ := bx
    obtain ⟨by0, by1, by2, by3, by4⟩ := bY
    subst bx4; subst by4
    rw [wi_id (n := X') (by omega) (by omega), wi_id (n := Y') (by omega) (by omega), wi_id (n := X' * 128) (by omega) (by omega), wi_id (n := Y' * 128) (by omega) (by omega)]
    rw [(rnd_in (n := X' * 128) (d := D) (by omega) (by omega) (by omega) (by omega)).1, (rnd_in (n := Y' * 128) (d := D) (by omega) (by omega) (by omega) (by omega)).1, (rnd_in (n := (D + z) * 32767) (d := D) (by omega) (by omega) (by omega) (by omega)).1]
    have n1 : ndB (X' * 128) D = true := by simp [ndB]; omega
    have n2 : ndB (Y' * 128) D = true := by simp [ndB]; omega
    have n3 : ndB ((D + z) * 32767) D = true := by simp [ndB]; omega
    rw [n1, n2, n3]
    exact ⟨rfl, rfl⟩
end Go.Fx
