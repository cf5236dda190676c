/- Where a way meets a plane (chapter 24), of no program. -/
import Derived.Test.YtplfijdonikaoaaClipA
set_option linter.unusedVariables false
set_option linter.unusedSimpArgs false
namespace Go.Fx
open Go Go.Sx

def okP (n : Int) : Bool := decide (-536870912 ≤ n) && decide (n ≤ 536870912)
def okU (n : Int) : Bool := decide (-134217728 ≤ n) && decide (n ≤ 134217728)
def okv (a0 a1 a2 a3 a4 a5 : Int) : Bool := okP a0 && okP a1 && okP a2 && okP a3 && okU a4 && okU a5
theorem okP_iff {n : Int} : okP n = true ↔ -536870912 ≤ n ∧ n ≤ 536870912 := by simp [okP]
theorem okU_iff {n : Int} : okU n = true ↔ -134217728 ≤ n ∧ n ≤ 134217728 := by simp [okU]
theorem okP_z {n : Int} (h : okP n = true) : okz n = true := by rw [okz_iff]; rw [okP_iff] at h; omega
theorem okU_z {n : Int} (h : okU n = true) : okz n = true := by rw [okz_iff]; rw [okU_iff] at h; omega
theorem okv_iff {a0 a1 a2 a3 a4 a5 : Int} : okv a0 a1 a2 a3 a4 a5 = true ↔ okP a0 = true ∧ okP a1 = true ∧ okP a2 = true ∧ okP a3 = true ∧ okU a4 = true ∧ okU a5 = true := by
  simp [okv, and_assoc]
def clampT (q : Int) : Int := if 65536 < (if 0 > q then 0 else q) then 65536 else if 0 > q then 0 else q
theorem clampT_bd (q : Int) : 0 ≤ clampT q ∧ clampT q ≤ 65536 := by unfold clampT; split <;> split <;> omega
def tC (d e : Int) : Int := bif decide (d > e) then clampT (nr (65536 * d) (d - e)) else 0
theorem tC_bd (d e : Int) : 0 ≤ tC d e ∧ tC d e ≤ 65536 := by
  unfold tC
  cases decide (d > e)
  · exact ⟨Int.le_refl _, (by show (0 : Int) ≤ 65536; omega)⟩
  · exact clampT_bd _
def onC (a b t : Int) : Int := a + nr (t * (b - a)) 65536
def onR (a b t : Int) : Int := wi (a + rndV (wi (t * wi (b - a))) 65536)
def onW (a b t : Int) : Int := wi (a + nr (wi (t * wi (b - a))) 65536)
def onG (a b t : Int) : Bool := ndB (wi (t * wi (b - a))) 65536
theorem onC_bd {a b t : Int} (h0 : 0 ≤ t) (h1 : t ≤ 65536) : min a b ≤ onC a b t ∧ onC a b t ≤ max a b := by
  have e := lerp_ends a b
  rcases Int.le_total a b with h | h
  · have u := lerp_up (s := 0) (t := t) h h0
    have v := lerp_up (s := t) (t := 65536) h h1
    rw [e.1] at u; rw [e.2] at v
    unfold onC; omega
  · have u := lerp_down (s := 0) (t := t) h h0
    have v := lerp_down (s := t) (t := 65536) h h1
    rw [e.1] at u; rw [e.2] at v
    unfold onC; omega
theorem on_in {a b t : Int} (ha : okz a = true) (hb : okz b = true) (h0 : 0 ≤ t) (h1 : t ≤ 65536) : onR a b t = onC a b t ∧ onW a b t = onC a b t ∧ onG a b t = true := by
  have hp := lerp_bd ha hb h0 h1
  have hc := onC_bd (a := a) (b := b) h0 h1
  rw [okz_iff] at ha hb
  have e1 : wi (b - a) = b - a := wi_id (by omega) (by omega)
  have e2 : wi (t * (b - a)) = t * (b - a) := wi_id (by omega) (by omega)
  have e3 : rndV (t * (b - a)) 65536 = nr (t * (b - a)) 65536 := (rnd_in (by omega) (by omega) (by omega) (by omega)).1
  have e4 : wi (a + nr (t * (b - a)) 65536) = a + nr (t * (b - a)) 65536 := by unfold onC at hc; exact wi_id (by omega) (by omega)
  unfold onR onW onG
  rw [e1, e2, e3, e4]
  refine ⟨rfl, rfl, ?_⟩
  unfold ndB
  rw [decide_eq_true (by omega), decide_eq_true (by omega), decide_eq_true (by omega), decide_eq_true (by omega)]; rfl
/-- how far inside, outright -/
theorem ins_bd {a b c d : Int} (ha : okP a = true) (hb : okP b = true) (hc : okP c = true) (hd : okP d = true) (p : Int) : -1073742080 ≤ insV a b c d p ∧ insV a b c d p ≤ 1073742080 := by
  rw [okP_iff] at ha hb hc hd
  unfold insV
  cases p == 0
  · cases p == 1
    · cases p == 2
      · cases p == 3
        · cases p == 4
          · cases p == 5
            · cases p == 6
              · simp
              · simp only [cond_true, cond_false]; rw [wi_id (by omega) (by omega)]; omega
            · simp only [cond_true, cond_false]; rw [wi_id (by omega) (by omega)]; omega
          · simp only [cond_true, cond_false]; rw [wi_id (by omega) (by omega)]; omega
        · simp only [cond_true, cond_false]; rw [wi_id (by omega) (by omega)]; omega
      · simp only [cond_true, cond_false]; rw [wi_id (by omega) (by omega)]; omega
    · simp only [cond_true, cond_false]; rw [wi_id (by omega) (by omega)]; omega
  · simp only [cond_true, cond_false]; rw [wi_id (by omega) (by omega)]; omega
def cutA (a0 a1 a2 a3 a4 a5 b0 b1 b2 b3 b4 b5 p : Int) : AV := AV.agg [i64 (onC a0 b0 (tC (insV a0 a1 a2 a3 p) (insV b0 b1 b2 b3 p))), i64 (onC a1 b1 (tC (insV a0 a1 a2 a3 p) (insV b0 b1 b2 b3 p))), i64 (onC a2 b2 (tC (insV a0 a1 a2 a3 p) (insV b0 b1 b2 b3 p))), i64 (onC a3 b3 (tC (insV a0 a1 a2 a3 p) (insV b0 b1 b2 b3 p))), i64 (onC a4 b4 (tC (insV a0 a1 a2 a3 p) (insV b0 b1 b2 b3 p))), i64 (onC a5 b5 (tC (insV a0 a1 a2 a3 p) (insV b0 b1 b2 b3 p)))]
theorem cut_eq {a0 a1 a2 a3 a4 a5 b0 b1 b2 b3 b4 b5 : Int} (p : Int) (ha : okv a0 a1 a2 a3 a4 a5 = true) (hb : okv b0 b1 b2 b3 b4 b5 = true) :
    (bif decide ((insV a0 a1 a2 a3 p) > (insV b0 b1 b2 b3 p)) then some (AV.agg [i64 (onR a0 b0 (clampT (rndV (wi (65536 * (insV a0 a1 a2 a3 p))) (wi ((insV a0 a1 a2 a3 p) - (insV b0 b1 b2 b3 p)))))), i64 (onR a1 b1 (clampT (rndV (wi (65536 * (insV a0 a1 a2 a3 p))) (wi ((insV a0 a1 a2 a3 p) - (insV b0 b1 b2 b3 p)))))), i64 (onR a2 b2 (clampT (rndV (wi (65536 * (insV a0 a1 a2 a3 p))) (wi ((insV a0 a1 a2 a3 p) - (insV b0 b1 b2 b3 p)))))), i64 (onR a3 b3 (clampT (rndV (wi (65536 * (insV a0 a1 a2 a3 p))) (wi ((insV a0 a1 a2 a3 p) - (insV b0 b1 b2 b3 p)))))), i64 (onR a4 b4 (clampT (rndV (wi (65536 * (insV a0 a1 a2 a3 p))) (wi ((insV a0 a1 a2 a3 p) - (insV b0 b1 b2 b3 p)))))), i64 (onR a5 b5 (clampT (rndV (wi (65536 * (insV a0 a1 a2 a3 p))) (wi ((insV a0 a1 a2 a3 p) - (insV b0 b1 b2 b3 p))))))]) else some (AV.agg [i64 (onR a0 b0 0), i64 (onR a1 b1 0), i64 (onR a2 b2 0), i64 (onR a3 b3 0), i64 (onR a4 b4 0), i64 (onR a5 b5 0)])) = some (cutA a0 a1 a2 a3 a4 a5 b0 b1 b2 b3 b4 b5 p) ∧
    (bif decide ((insV a0 a1 a2 a3 p) > (insV b0 b1 b2 b3 p)) then (bif ndB (wi (65536 * (insV a0 a1 a2 a3 p))) (wi ((insV a0 a1 a2 a3 p) - (insV b0 b1 b2 b3 p))) then (bif onG a0 b0 (clampT (nr (wi (65536 * (insV a0 a1 a2 a3 p))) (wi ((insV a0 a1 a2 a3 p) - (insV b0 b1 b2 b3 p))))) then (bif onG a1 b1 (clampT (nr (wi (65536 * (insV a0 a1 a2 a3 p))) (wi ((insV a0 a1 a2 a3 p) - (insV b0 b1 b2 b3 p))))) then (bif onG a2 b2 (clampT (nr (wi (65536 * (insV a0 a1 a2 a3 p))) (wi ((insV a0 a1 a2 a3 p) - (insV b0 b1 b2 b3 p))))) then (bif onG a3 b3 (clampT (nr (wi (65536 * (insV a0 a1 a2 a3 p))) (wi ((insV a0 a1 a2 a3 p) - (insV b0 b1 b2 b3 p))))) then (bif onG a4 b4 (clampT (nr (wi (65536 * (insV a0 a1 a2 a3 p))) (wi ((insV a0 a1 a2 a3 p) - (insV b0 b1 b2 b3 p))))) then (bif onG a5 b5 (clampT (nr (wi (65536 * (insV a0 a1 a2 a3 p))) (wi ((insV a0 a1 a2 a3 p) - (insV b0 b1 b2 b3 p))))) then some (AV.agg [i64 (onW a0 b0 (clampT (nr (wi (65536 * (insV a0 a1 a2 a3 p))) (wi ((insV a0 a1 a2 a3 p) - (insV b0 b1 b2 b3 p)))))), i64 (onW a1 b1 (clampT (nr (wi (65536 * (insV a0 a1 a2 a3 p))) (wi ((insV a0 a1 a2 a3 p) - (insV b0 b1 b2 b3 p)))))), i64 (onW a2 b2 (clampT (nr (wi (65536 * (insV a0 a1 a2 a3 p))) (wi ((insV a0 a1 a2 a3 p) - (insV b0 b1 b2 b3 p)))))), i64 (onW a3 b3 (clampT (nr (wi (65536 * (insV a0 a1 a2 a3 p))) (wi ((insV a0 a1 a2 a3 p) - (insV b0 b1 b2 b3 p)))))), i64 (onW a4 b4 (clampT (nr (wi (65536 * (insV a0 a1 a2 a3 p))) (wi ((insV a0 a1 a2 a3 p) - (insV b0 b1 b2 b3 p)))))), i64 (onW a5 b5 (clampT (nr (wi (65536 * (insV a0 a1 a2 a3 p))) (wi ((insV a0 a1 a2 a3 p) - (insV b0 b1 b2 b3 p))))))]) else none) else none) else none) else none) else none) else none) else none) else (bif onG a0 b0 0 then (bif onG a1 b1 0 then (bif onG a2 b2 0 then (bif onG a3 b3 0 then (bif onG a4 b4 0 then (bif onG a5 b5 0 then some (AV.agg [i64 (onW a0 b0 0), i64 (onW a1 b1 0), i64 (onW a2 b2 0), i64 (onW a3 b3 0), i64 (onW a4 b4 0), i64 (onW a5 b5 0)]) else none) else none) else none) else none) else none) else none)) = some (cutA a0 a1 a2 a3 a4 a5 b0 b1 b2 b3 b4 b5 p) := by
  rw [okv_iff] at ha hb
  obtain ⟨x0, x1, x2, x3, x4, x5⟩ := ha
  obtain ⟨y0, y1, y2, y3, y4, y5⟩ := hb
  have hd := ins_bd x0 x1 x2 x3 p
  have he := ins_bd y0 y1 y2 y3 p
  have T0 := tC_bd (insV a0 a1 a2 a3 p) (insV b0 b1 b2 b3 p)
  unfold cutA
  generalize insV a0 a1 a2 a3 p = d at *
  generalize insV b0 b1 b2 b3 p = e at *
  have w1 : wi (65536 * d) = 65536 * d := wi_id (by omega) (by omega)
  have w2 : wi (d - e) = d - e := wi_id (by omega) (by omega)
  have fin : ∀ t, 0 ≤ t → t ≤ 65536 → (AV.agg [i64 (onR a0 b0 t), i64 (onR a1 b1 t), i64 (onR a2 b2 t), i64 (onR a3 b3 t), i64 (onR a4 b4 t), i64 (onR a5 b5 t)] : AV) = AV.agg [i64 (onC a0 b0 t), i64 (onC a1 b1 t), i64 (onC a2 b2 t), i64 (onC a3 b3 t), i64 (onC a4 b4 t), i64 (onC a5 b5 t)] ∧ (bif onG a0 b0 t then (bif onG a1 b1 t then (bif onG a2 b2 t then (bif onG a3 b3 t then (bif onG a4 b4 t then (bif onG a5 b5 t then some (AV.agg [i64 (onW a0 b0 t), i64 (onW a1 b1 t), i64 (onW a2 b2 t), i64 (onW a3 b3 t), i64 (onW a4 b4 t), i64 (onW a5 b5 t)]) else none) else none) else none) else none) else none) else none) = some (AV.agg [i64 (onC a0 b0 t), i64 (onC a1 b1 t), i64 (onC a2 b2 t), i64 (onC a3 b3 t), i64 (onC a4 b4 t), i64 (onC a5 b5 t)]) := by
    intro t h0 h1
    obtain ⟨p0, q0, r0⟩ := on_in (okP_z x0) (okP_z y0) h0 h1
    obtain ⟨p1, q1, r1⟩ := on_in (okP_z x1) (okP_z y1) h0 h1
    obtain ⟨p2, q2, r2⟩ := on_in (okP_z x2) (okP_z y2) h0 h1
    obtain ⟨p3, q3, r3⟩ := on_in (okP_z x3) (okP_z y3) h0 h1
    obtain ⟨p4, q4, r4⟩ := on_in (okU_z x4) (okU_z y4) h0 h1
    obtain ⟨p5, q5, r5⟩ := on_in (okU_z x5) (okU_z y5) h0 h1
    rw [p0, p1, p2, p3, p4, p5, q0, q1, q2, q3, q4, q5, r0, r1, r2, r3, r4, r5]
    exact ⟨rfl, rfl⟩
  rw [w1, w2]
  by_cases h : d > e
  · have e3 : rndV (65536 * d) (d - e) = nr (65536 * d) (d - e) := (rnd_in (by omega) (by omega) (by omega) (by omega)).1
    have e4 : ndB (65536 * d) (d - e) = true := by
      unfold ndB
      rw [decide_eq_true (by omega), decide_eq_true (by omega), decide_eq_true (by omega), decide_eq_true (by omega)]; rfl
    have hT : tC d e = clampT (nr (65536 * d) (d - e)) := by unfold tC; rw [decide_eq_true h]; rfl
    rw [hT] at T0 ⊢
    obtain ⟨f1, f2⟩ := fin _ T0.1 T0.2
    rw [decide_eq_true h, e3, e4]
    simp only [cond_true]
    exact ⟨congrArg some f1, f2⟩
  · have hT : tC d e = 0 := by unfold tC; rw [decide_eq_false h]; rfl
    rw [hT]
    obtain ⟨f1, f2⟩ := fin 0 (by omega) (by omega)
    rw [decide_eq_false h]
    simp only [cond_false]
    exact ⟨congrArg some f1, f2⟩
def cutS : FSpec := ⟨fun args k => match args with
  | [.agg [.lit (.int .i64 a0), .lit (.int .i64 a1), .lit (.int .i64 a2), .lit (.int .i64 a3), .lit (.int .i64 a4), .lit (.int .i64 a5)], .agg [.lit (.int .i64 b0), .lit (.int .i64 b1), .lit (.int .i64 b2), .lit (.int .i64 b3), .lit (.int .i64 b4), .lit (.int .i64 b5)], .lit (.int .i64 p)] => bif okv a0 a1 a2 a3 a4 a5 && okv b0 b1 b2 b3 b4 b5 then k (cutA a0 a1 a2 a3 a4 a5 b0 b1 b2 b3 b4 b5 p) else none
  | _ => none⟩
theorem cutS_ok {P : Program} {f : FuncId} (H : ∀ a0 a1 a2 a3 a4 a5 b0 b1 b2 b3 b4 b5 p : Int, okv a0 a1 a2 a3 a4 a5 = true → okv b0 b1 b2 b3 b4 b5 = true → PureOk P f [AV.agg [i64 a0, i64 a1, i64 a2, i64 a3, i64 a4, i64 a5], AV.agg [i64 b0, i64 b1, i64 b2, i64 b3, i64 b4, i64 b5], i64 p] (cutA a0 a1 a2 a3 a4 a5 b0 b1 b2 b3 b4 b5 p)) : cutS.Ok P f := by
  intro R args k r e
  simp only [cutS] at e
  split at e
  · rename_i a0 a1 a2 a3 a4 a5 b0 b1 b2 b3 b4 b5 p
    simp only [cond_eq_ite, Bool.and_eq_true] at e
    split at e
    · rename_i h
      exact ⟨_, e, H a0 a1 a2 a3 a4 a5 b0 b1 b2 b3 b4 b5 p h.1 h.2⟩
    · cases e
  · cases e
end Go.Fx
