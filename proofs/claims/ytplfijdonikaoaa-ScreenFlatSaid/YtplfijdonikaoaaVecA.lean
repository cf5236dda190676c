/- Matrices and vectors (chapter 2), outright, of no program. -/
import Derived.Test.YtplfijdonikaoaaFxC
set_option linter.unusedVariables false
set_option linter.unusedSimpArgs false
namespace Go.Fx
open Go Go.Sx

def mayL (l : List Int) : Bool := l.all fun n => decide (-1048576 ≤ n) && decide (n ≤ 1048576)
def vinL (l : List Int) : Bool := l.all fun n => decide (-268435456 ≤ n) && decide (n ≤ 268435456)
def mayT : List Int → Option AV
  | [] => some (.lit (.bool true))
  | c :: l => bif decide (c < -1048576) then some (.lit (.bool false)) else bif decide (c > 1048576) then some (.lit (.bool false)) else mayT l
theorem mayT_eq (l : List Int) : mayT l = some (.lit (.bool (mayL l))) := by
  induction l with
  | nil => rfl
  | cons c l ih =>
    unfold mayT
    rw [ih]
    show _ = some (AV.lit (.bool ((decide (-1048576 ≤ c) && decide (c ≤ 1048576)) && mayL l)))
    by_cases h : c < -1048576
    · rw [decide_eq_true h, decide_eq_false (p := -1048576 ≤ c) (by omega)]; rfl
    · rw [decide_eq_false h, decide_eq_true (p := -1048576 ≤ c) (by omega)]
      by_cases k : c > 1048576
      · rw [decide_eq_true k, decide_eq_false (p := c ≤ 1048576) (by omega)]; rfl
      · rw [decide_eq_false k, decide_eq_true (p := c ≤ 1048576) (by omega)]; rfl
def aL (l : List Int) : AV := .agg (l.map i64)
def heldA (l : List Int) : AV := .tup [aL (l.map fun c => bif mayL l then c else 0), i64 (bif mayL l then 0 else 2)]
def zer : List Int := [0, 0, 0, 0, 0, 0, 0, 0, 0, 0, 0, 0, 0, 0, 0, 0]
def badM : AV := .tup [aL zer, i64 2]
def mS (f : List Int → AV) : FSpec := ⟨fun args k => match args with
  | [.agg [.lit (.int .i64 a0), .lit (.int .i64 a1), .lit (.int .i64 a2), .lit (.int .i64 a3), .lit (.int .i64 a4), .lit (.int .i64 a5), .lit (.int .i64 a6), .lit (.int .i64 a7), .lit (.int .i64 a8), .lit (.int .i64 a9), .lit (.int .i64 a10), .lit (.int .i64 a11), .lit (.int .i64 a12), .lit (.int .i64 a13), .lit (.int .i64 a14), .lit (.int .i64 a15)]] => k (f [a0, a1, a2, a3, a4, a5, a6, a7, a8, a9, a10, a11, a12, a13, a14, a15])
  | _ => none⟩
def mmS (f : List Int → List Int → AV) : FSpec := ⟨fun args k => match args with
  | [.agg [.lit (.int .i64 a0), .lit (.int .i64 a1), .lit (.int .i64 a2), .lit (.int .i64 a3), .lit (.int .i64 a4), .lit (.int .i64 a5), .lit (.int .i64 a6), .lit (.int .i64 a7), .lit (.int .i64 a8), .lit (.int .i64 a9), .lit (.int .i64 a10), .lit (.int .i64 a11), .lit (.int .i64 a12), .lit (.int .i64 a13), .lit (.int .i64 a14), .lit (.int .i64 a15)], .agg [.lit (.int .i64 b0), .lit (.int .i64 b1), .lit (.int .i64 b2), .lit (.int .i64 b3), .lit (.int .i64 b4), .lit (.int .i64 b5), .lit (.int .i64 b6), .lit (.int .i64 b7), .lit (.int .i64 b8), .lit (.int .i64 b9), .lit (.int .i64 b10), .lit (.int .i64 b11), .lit (.int .i64 b12), .lit (.int .i64 b13), .lit (.int .i64 b14), .lit (.int .i64 b15)]] => k (f [a0, a1, a2, a3, a4, a5, a6, a7, a8, a9, a10, a11, a12, a13, a14, a15] [b0, b1, b2, b3, b4, b5, b6, b7, b8, b9, b10, b11, b12, b13, b14, b15])
  | _ => none⟩
def mvS (f : List Int → List Int → AV) : FSpec := ⟨fun args k => match args with
  | [.agg [.lit (.int .i64 a0), .lit (.int .i64 a1), .lit (.int .i64 a2), .lit (.int .i64 a3), .lit (.int .i64 a4), .lit (.int .i64 a5), .lit (.int .i64 a6), .lit (.int .i64 a7), .lit (.int .i64 a8), .lit (.int .i64 a9), .lit (.int .i64 a10), .lit (.int .i64 a11), .lit (.int .i64 a12), .lit (.int .i64 a13), .lit (.int .i64 a14), .lit (.int .i64 a15)], .agg [.lit (.int .i64 v0), .lit (.int .i64 v1), .lit (.int .i64 v2), .lit (.int .i64 v3)]] => k (f [a0, a1, a2, a3, a4, a5, a6, a7, a8, a9, a10, a11, a12, a13, a14, a15] [v0, v1, v2, v3])
  | _ => none⟩
theorem mS_ok {P : Program} {f : FuncId} {g : List Int → AV} (h : ∀ a0 a1 a2 a3 a4 a5 a6 a7 a8 a9 a10 a11 a12 a13 a14 a15, PureOk P f [.agg [i64 a0, i64 a1, i64 a2, i64 a3, i64 a4, i64 a5, i64 a6, i64 a7, i64 a8, i64 a9, i64 a10, i64 a11, i64 a12, i64 a13, i64 a14, i64 a15]] (g [a0, a1, a2, a3, a4, a5, a6, a7, a8, a9, a10, a11, a12, a13, a14, a15])) : (mS g).Ok P f := by
  intro R args k r e
  simp only [mS] at e
  split at e
  · exact ⟨_, e, h _ _ _ _ _ _ _ _ _ _ _ _ _ _ _ _⟩
  · cases e
theorem mmS_ok {P : Program} {f : FuncId} {g : List Int → List Int → AV} (h : ∀ a0 a1 a2 a3 a4 a5 a6 a7 a8 a9 a10 a11 a12 a13 a14 a15 b0 b1 b2 b3 b4 b5 b6 b7 b8 b9 b10 b11 b12 b13 b14 b15, PureOk P f [.agg [i64 a0, i64 a1, i64 a2, i64 a3, i64 a4, i64 a5, i64 a6, i64 a7, i64 a8, i64 a9, i64 a10, i64 a11, i64 a12, i64 a13, i64 a14, i64 a15], .agg [i64 b0, i64 b1, i64 b2, i64 b3, i64 b4, i64 b5, i64 b6, i64 b7, i64 b8, i64 b9, i64 b10, i64 b11, i64 b12, i64 b13, i64 b14, i64 b15]] (g [a0, a1, a2, a3, a4, a5, a6, a7, a8, a9, a10, a11, a12, a13, a14, a15] [b0, b1, b2, b3, b4, b5, b6, b7, b8, b9, b10, b11, b12, b13, b14, b15])) : (mmS g).Ok P f := by
  intro R args k r e
  simp only [mmS] at e
  split at e
  · exact ⟨_, e, h _ _ _ _ _ _ _ _ _ _ _ _ _ _ _ _ _ _ _ _ _ _ _ _ _ _ _ _ _ _ _ _⟩
  · cases e
theorem mvS_ok {P : Program} {f : FuncId} {g : List Int → List Int → AV} (h : ∀ a0 a1 a2 a3 a4 a5 a6 a7 a8 a9 a10 a11 a12 a13 a14 a15 v0 v1 v2 v3, PureOk P f [.agg [i64 a0, i64 a1, i64 a2, i64 a3, i64 a4, i64 a5, i64 a6, i64 a7, i64 a8, i64 a9, i64 a10, i64 a11, i64 a12, i64 a13, i64 a14, i64 a15], .agg [i64 v0, i64 v1, i64 v2, i64 v3]] (g [a0, a1, a2, a3, a4, a5, a6, a7, a8, a9, a10, a11, a12, a13, a14, a15] [v0, v1, v2, v3])) : (mvS g).Ok P f := by
  intro R args k r e
  simp only [mvS] at e
  split at e
  · exact ⟨_, e, h _ _ _ _ _ _ _ _ _ _ _ _ _ _ _ _ _ _ _ _⟩
  · cases e
abbrev mayS : FSpec := mS fun l => .lit (.bool (mayL l))
abbrev heldS : FSpec := mS heldA
theorem held_eq (l : List Int) (hl : l.length = 16) : (bif !mayL l then some badM else some (.tup [aL l, i64 0])) = some (heldA l) := by
  unfold heldA
  cases mayL l
  · match l, hl with
    | [a0, a1, a2, a3, a4, a5, a6, a7, a8, a9, a10, a11, a12, a13, a14, a15], _ => rfl
  · simp [cond_true]

def sm (a e b f c g d h : Int) : Int := wi (wi (wi (wi (0 + wi (a * e)) + wi (b * f)) + wi (c * g)) + wi (d * h))
def sx (a e b f c g d h : Int) : Int := a * e + b * f + c * g + d * h
theorem pr_bd {a e m : Int} (ha : -1048576 ≤ a) (ha' : a ≤ 1048576) (he : -m ≤ e) (he' : e ≤ m) : -(1048576 * m) ≤ a * e ∧ a * e ≤ 1048576 * m := by
  have h1 : a.natAbs ≤ 1048576 := by omega
  have h2 : e.natAbs ≤ m.toNat := by omega
  have h3 := Nat.mul_le_mul h1 h2
  rw [← Int.natAbs_mul] at h3
  have h4 : ((1048576 * m.toNat : Nat) : Int) = 1048576 * m := by omega
  omega
abbrev In20 (a : Int) : Prop := -1048576 ≤ a ∧ a ≤ 1048576
abbrev In28 (a : Int) : Prop := -268435456 ≤ a ∧ a ≤ 268435456
theorem sm_eq {a e b f c g d h : Int} (ha : In20 a) (hb : In20 b) (hc : In20 c) (hd : In20 d) (he : In28 e) (hf : In28 f) (hg : In28 g) (hh : In28 h) :
    sm a e b f c g d h = sx a e b f c g d h ∧ -1125899906842624 ≤ sx a e b f c g d h ∧ sx a e b f c g d h ≤ 1125899906842624 := by
  have h1 := pr_bd ha.1 ha.2 he.1 he.2
  have h2 := pr_bd hb.1 hb.2 hf.1 hf.2
  have h3 := pr_bd hc.1 hc.2 hg.1 hg.2
  have h4 := pr_bd hd.1 hd.2 hh.1 hh.2
  unfold sm sx
  generalize a * e = p at *
  generalize b * f = q at *
  generalize c * g = r at *
  generalize d * h = s at *
  rw [wi_id (n := p) (by omega) (by omega), wi_id (n := q) (by omega) (by omega), wi_id (n := r) (by omega) (by omega), wi_id (n := s) (by omega) (by omega), wi_id (n := 0 + p) (by omega) (by omega), wi_id (n := 0 + p + q) (by omega) (by omega), wi_id (n := 0 + p + q + r) (by omega) (by omega), wi_id (n := 0 + p + q + r + s) (by omega) (by omega)]
  omega
theorem In20.to28 {a : Int} (h : In20 a) : In28 a := ⟨by have := h.1; omega, by have := h.2; omega⟩
theorem rnd_sm {s : Int} (h : -1125899906842624 ≤ s) (h' : s ≤ 1125899906842624) : rndV s 65536 = nr s 65536 ∧ ndB s 65536 = true := by
  refine ⟨(rnd_in (by omega) (by omega) (by omega) (by omega)).1, ?_⟩
  simp [ndB]; omega
theorem mayL_iff {l : List Int} : mayL l = true ↔ ∀ x, x ∈ l → In20 x := by simp [mayL, In20]
theorem vinL_iff {l : List Int} : vinL l = true ↔ ∀ x, x ∈ l → In28 x := by simp [vinL, In28]
def cellsS : List Int → List Int → List Int
  | [a0, a1, a2, a3, a4, a5, a6, a7, a8, a9, a10, a11, a12, a13, a14, a15], [b0, b1, b2, b3, b4, b5, b6, b7, b8, b9, b10, b11, b12, b13, b14, b15] => [sm a0 b0 a1 b4 a2 b8 a3 b12, sm a0 b1 a1 b5 a2 b9 a3 b13, sm a0 b2 a1 b6 a2 b10 a3 b14, sm a0 b3 a1 b7 a2 b11 a3 b15, sm a4 b0 a5 b4 a6 b8 a7 b12, sm a4 b1 a5 b5 a6 b9 a7 b13, sm a4 b2 a5 b6 a6 b10 a7 b14, sm a4 b3 a5 b7 a6 b11 a7 b15, sm a8 b0 a9 b4 a10 b8 a11 b12, sm a8 b1 a9 b5 a10 b9 a11 b13, sm a8 b2 a9 b6 a10 b10 a11 b14, sm a8 b3 a9 b7 a10 b11 a11 b15, sm a12 b0 a13 b4 a14 b8 a15 b12, sm a12 b1 a13 b5 a14 b9 a15 b13, sm a12 b2 a13 b6 a14 b10 a15 b14, sm a12 b3 a13 b7 a14 b11 a15 b15]
  | _, _ => []
def cells : List Int → List Int → List Int
  | [a0, a1, a2, a3, a4, a5, a6, a7, a8, a9, a10, a11, a12, a13, a14, a15], [b0, b1, b2, b3, b4, b5, b6, b7, b8, b9, b10, b11, b12, b13, b14, b15] => [sx a0 b0 a1 b4 a2 b8 a3 b12, sx a0 b1 a1 b5 a2 b9 a3 b13, sx a0 b2 a1 b6 a2 b10 a3 b14, sx a0 b3 a1 b7 a2 b11 a3 b15, sx a4 b0 a5 b4 a6 b8 a7 b12, sx a4 b1 a5 b5 a6 b9 a7 b13, sx a4 b2 a5 b6 a6 b10 a7 b14, sx a4 b3 a5 b7 a6 b11 a7 b15, sx a8 b0 a9 b4 a10 b8 a11 b12, sx a8 b1 a9 b5 a10 b9 a11 b13, sx a8 b2 a9 b6 a10 b10 a11 b14, sx a8 b3 a9 b7 a10 b11 a11 b15, sx a12 b0 a13 b4 a14 b8 a15 b12, sx a12 b1 a13 b5 a14 b9 a15 b13, sx a12 b2 a13 b6 a14 b10 a15 b14, sx a12 b3 a13 b7 a14 b11 a15 b15]
  | _, _ => []
def mulL (m n : List Int) : List Int := (cells m n).map fun s => nr s 65536
def mulB (m n : List Int) : Bool := mayL m && mayL n && mayL (mulL m n)
def mulA (m n : List Int) : AV := .tup [aL ((mulL m n).map fun c => bif mulB m n then c else 0), i64 (bif mulB m n then 0 else 2)]
def ndT : List Int → Option AV → Option AV
  | [], t => t
  | s :: l, t => bif ndB s 65536 then ndT l t else none
theorem cells_eq (a0 a1 a2 a3 a4 a5 a6 a7 a8 a9 a10 a11 a12 a13 a14 a15 b0 b1 b2 b3 b4 b5 b6 b7 b8 b9 b10 b11 b12 b13 b14 b15 : Int) (hm : mayL [a0, a1, a2, a3, a4, a5, a6, a7, a8, a9, a10, a11, a12, a13, a14, a15] = true) (hn : mayL [b0, b1, b2, b3, b4, b5, b6, b7, b8, b9, b10, b11, b12, b13, b14, b15] = true) :
    cellsS [a0, a1, a2, a3, a4, a5, a6, a7, a8, a9, a10, a11, a12, a13, a14, a15] [b0, b1, b2, b3, b4, b5, b6, b7, b8, b9, b10, b11, b12, b13, b14, b15] = cells [a0, a1, a2, a3, a4, a5, a6, a7, a8, a9, a10, a11, a12, a13, a14, a15] [b0, b1, b2, b3, b4, b5, b6, b7, b8, b9, b10, b11, b12, b13, b14, b15] ∧ (∀ s, s ∈ cells [a0, a1, a2, a3, a4, a5, a6, a7, a8, a9, a10, a11, a12, a13, a14, a15] [b0, b1, b2, b3, b4, b5, b6, b7, b8, b9, b10, b11, b12, b13, b14, b15] → rndV s 65536 = nr s 65536 ∧ ndB s 65536 = true) := by
  rw [mayL_iff] at hm hn
  simp only [List.mem_cons, List.not_mem_nil, or_false, forall_eq_or_imp, forall_eq] at hm hn
  obtain ⟨ha0, ha1, ha2, ha3, ha4, ha5, ha6, ha7, ha8, ha9, ha10, ha11, ha12, ha13, ha14, ha15⟩ := hm
  obtain ⟨hb0, hb1, hb2, hb3, hb4, hb5, hb6, hb7, hb8, hb9, hb10, hb11, hb12, hb13, hb14, hb15⟩ := hn
  have q00 := sm_eq ha0 ha1 ha2 ha3 hb0.to28 hb4.to28 hb8.to28 hb12.to28
  have q01 := sm_eq ha0 ha1 ha2 ha3 hb1.to28 hb5.to28 hb9.to28 hb13.to28
  have q02 := sm_eq ha0 ha1 ha2 ha3 hb2.to28 hb6.to28 hb10.to28 hb14.to28
  have q03 := sm_eq ha0 ha1 ha2 ha3 hb3.to28 hb7.to28 hb11.to28 hb15.to28
  have q10 := sm_eq ha4 ha5 ha6 ha7 hb0.to28 hb4.to28 hb8.to28 hb12.to28
  have q11 := sm_eq ha4 ha5 ha6 ha7 hb1.to28 hb5.to28 hb9.to28 hb13.to28
  have q12 := sm_eq ha4 ha5 ha6 ha7 hb2.to28 hb6.to28 hb10.to28 hb14.to28
  have q13 := sm_eq ha4 ha5 ha6 ha7 hb3.to28 hb7.to28 hb11.to28 hb15.to28
  have q20 := sm_eq ha8 ha9 ha10 ha11 hb0.to28 hb4.to28 hb8.to28 hb12.to28
  have q21 := sm_eq ha8 ha9 ha10 ha11 hb1.to28 hb5.to28 hb9.to28 hb13.to28
  have q22 := sm_eq ha8 ha9 ha10 ha11 hb2.to28 hb6.to28 hb10.to28 hb14.to28
  have q23 := sm_eq ha8 ha9 ha10 ha11 hb3.to28 hb7.to28 hb11.to28 hb15.to28
  have q30 := sm_eq ha12 ha13 ha14 ha15 hb0.to28 hb4.to28 hb8.to28 hb12.to28
  have q31 := sm_eq ha12 ha13 ha14 ha15 hb1.to28 hb5.to28 hb9.to28 hb13.to28
  have q32 := sm_eq ha12 ha13 ha14 ha15 hb2.to28 hb6.to28 hb10.to28 hb14.to28
  have q33 := sm_eq ha12 ha13 ha14 ha15 hb3.to28 hb7.to28 hb11.to28 hb15.to28
  constructor
  · show [sm a0 b0 a1 b4 a2 b8 a3 b12, sm a0 b1 a1 b5 a2 b9 a3 b13, sm a0 b2 a1 b6 a2 b10 a3 b14, sm a0 b3 a1 b7 a2 b11 a3 b15, sm a4 b0 a5 b4 a6 b8 a7 b12, sm a4 b1 a5 b5 a6 b9 a7 b13, sm a4 b2 a5 b6 a6 b10 a7 b14, sm a4 b3 a5 b7 a6 b11 a7 b15, sm a8 b0 a9 b4 a10 b8 a11 b12, sm a8 b1 a9 b5 a10 b9 a11 b13, sm a8 b2 a9 b6 a10 b10 a11 b14, sm a8 b3 a9 b7 a10 b11 a11 b15, sm a12 b0 a13 b4 a14 b8 a15 b12, sm a12 b1 a13 b5 a14 b9 a15 b13, sm a12 b2 a13 b6 a14 b10 a15 b14, sm a12 b3 a13 b7 a14 b11 a15 b15] = [sx a0 b0 a1 b4 a2 b8 a3 b12, sx a0 b1 a1 b5 a2 b9 a3 b13, sx a0 b2 a1 b6 a2 b10 a3 b14, sx a0 b3 a1 b7 a2 b11 a3 b15, sx a4 b0 a5 b4 a6 b8 a7 b12, sx a4 b1 a5 b5 a6 b9 a7 b13, sx a4 b2 a5 b6 a6 b10 a7 b14, sx a4 b3 a5 b7 a6 b11 a7 b15, sx a8 b0 a9 b4 a10 b8 a11 b12, sx a8 b1 a9 b5 a10 b9 a11 b13, sx a8 b2 a9 b6 a10 b10 a11 b14, sx a8 b3 a9 b7 a10 b11 a11 b15, sx a12 b0 a13 b4 a14 b8 a15 b12, sx a12 b1 a13 b5 a14 b9 a15 b13, sx a12 b2 a13 b6 a14 b10 a15 b14, sx a12 b3 a13 b7 a14 b11 a15 b15]
    rw [q00.1, q01.1, q02.1, q03.1, q10.1, q11.1, q12.1, q13.1, q20.1, q21.1, q22.1, q23.1, q30.1, q31.1, q32.1, q33.1]
  · show ∀ s, s ∈ [sx a0 b0 a1 b4 a2 b8 a3 b12, sx a0 b1 a1 b5 a2 b9 a3 b13, sx a0 b2 a1 b6 a2 b10 a3 b14, sx a0 b3 a1 b7 a2 b11 a3 b15, sx a4 b0 a5 b4 a6 b8 a7 b12, sx a4 b1 a5 b5 a6 b9 a7 b13, sx a4 b2 a5 b6 a6 b10 a7 b14, sx a4 b3 a5 b7 a6 b11 a7 b15, sx a8 b0 a9 b4 a10 b8 a11 b12, sx a8 b1 a9 b5 a10 b9 a11 b13, sx a8 b2 a9 b6 a10 b10 a11 b14, sx a8 b3 a9 b7 a10 b11 a11 b15, sx a12 b0 a13 b4 a14 b8 a15 b12, sx a12 b1 a13 b5 a14 b9 a15 b13, sx a12 b2 a13 b6 a14 b10 a15 b14, sx a12 b3 a13 b7 a14 b11 a15 b15] → _
    simp only [List.mem_cons, List.not_mem_nil, or_false, forall_eq_or_imp, forall_eq]
    exact ⟨rnd_sm q00.2.1 q00.2.2, rnd_sm q01.2.1 q01.2.2, rnd_sm q02.2.1 q02.2.2, rnd_sm q03.2.1 q03.2.2, rnd_sm q10.2.1 q10.2.2, rnd_sm q11.2.1 q11.2.2, rnd_sm q12.2.1 q12.2.2, rnd_sm q13.2.1 q13.2.2, rnd_sm q20.2.1 q20.2.2, rnd_sm q21.2.1 q21.2.2, rnd_sm q22.2.1 q22.2.2, rnd_sm q23.2.1 q23.2.2, rnd_sm q30.2.1 q30.2.2, rnd_sm q31.2.1 q31.2.2, rnd_sm q32.2.1 q32.2.2, rnd_sm q33.2.1 q33.2.2⟩
theorem ndT_all (l : List Int) (t : Option AV) (h : ∀ s, s ∈ l → ndB s 65536 = true) : ndT l t = t := by
  induction l with
  | nil => rfl
  | cons s l ih => unfold ndT; rw [h s (by simp), ih fun x hx => h x (by simp [hx])]; rfl
theorem mulP_eq (a0 a1 a2 a3 a4 a5 a6 a7 a8 a9 a10 a11 a12 a13 a14 a15 b0 b1 b2 b3 b4 b5 b6 b7 b8 b9 b10 b11 b12 b13 b14 b15 : Int) : (bif !mayL [a0, a1, a2, a3, a4, a5, a6, a7, a8, a9, a10, a11, a12, a13, a14, a15] then some badM else bif !mayL [b0, b1, b2, b3, b4, b5, b6, b7, b8, b9, b10, b11, b12, b13, b14, b15] then some badM else some (heldA ((cellsS [a0, a1, a2, a3, a4, a5, a6, a7, a8, a9, a10, a11, a12, a13, a14, a15] [b0, b1, b2, b3, b4, b5, b6, b7, b8, b9, b10, b11, b12, b13, b14, b15]).map fun s => rndV s 65536))) = some (mulA [a0, a1, a2, a3, a4, a5, a6, a7, a8, a9, a10, a11, a12, a13, a14, a15] [b0, b1, b2, b3, b4, b5, b6, b7, b8, b9, b10, b11, b12, b13, b14, b15]) := by
  unfold mulA mulB
  cases hm : mayL [a0, a1, a2, a3, a4, a5, a6, a7, a8, a9, a10, a11, a12, a13, a14, a15]
  · rfl
  cases hn : mayL [b0, b1, b2, b3, b4, b5, b6, b7, b8, b9, b10, b11, b12, b13, b14, b15]
  · rfl
  obtain ⟨e, h⟩ := cells_eq a0 a1 a2 a3 a4 a5 a6 a7 a8 a9 a10 a11 a12 a13 a14 a15 b0 b1 b2 b3 b4 b5 b6 b7 b8 b9 b10 b11 b12 b13 b14 b15 hm hn
  rw [e, List.map_congr_left fun s hs => (h s hs).1]
  rfl
theorem mulR_eq (a0 a1 a2 a3 a4 a5 a6 a7 a8 a9 a10 a11 a12 a13 a14 a15 b0 b1 b2 b3 b4 b5 b6 b7 b8 b9 b10 b11 b12 b13 b14 b15 : Int) : (bif !mayL [a0, a1, a2, a3, a4, a5, a6, a7, a8, a9, a10, a11, a12, a13, a14, a15] then some badM else bif !mayL [b0, b1, b2, b3, b4, b5, b6, b7, b8, b9, b10, b11, b12, b13, b14, b15] then some badM else ndT (cellsS [a0, a1, a2, a3, a4, a5, a6, a7, a8, a9, a10, a11, a12, a13, a14, a15] [b0, b1, b2, b3, b4, b5, b6, b7, b8, b9, b10, b11, b12, b13, b14, b15])
    (bif !mayL ((cellsS [a0, a1, a2, a3, a4, a5, a6, a7, a8, a9, a10, a11, a12, a13, a14, a15] [b0, b1, b2, b3, b4, b5, b6, b7, b8, b9, b10, b11, b12, b13, b14, b15]).map fun s => nr s 65536) then some badM else some (.tup [aL ((cellsS [a0, a1, a2, a3, a4, a5, a6, a7, a8, a9, a10, a11, a12, a13, a14, a15] [b0, b1, b2, b3, b4, b5, b6, b7, b8, b9, b10, b11, b12, b13, b14, b15]).map fun s => nr s 65536), i64 0]))) = some (mulA [a0, a1, a2, a3, a4, a5, a6, a7, a8, a9, a10, a11, a12, a13, a14, a15] [b0, b1, b2, b3, b4, b5, b6, b7, b8, b9, b10, b11, b12, b13, b14, b15]) := by
  unfold mulA mulB
  cases hm : mayL [a0, a1, a2, a3, a4, a5, a6, a7, a8, a9, a10, a11, a12, a13, a14, a15]
  · rfl
  cases hn : mayL [b0, b1, b2, b3, b4, b5, b6, b7, b8, b9, b10, b11, b12, b13, b14, b15]
  · rfl
  obtain ⟨e, h⟩ := cells_eq a0 a1 a2 a3 a4 a5 a6 a7 a8 a9 a10 a11 a12 a13 a14 a15 b0 b1 b2 b3 b4 b5 b6 b7 b8 b9 b10 b11 b12 b13 b14 b15 hm hn
  rw [e, ndT_all _ _ fun s hs => (h s hs).2, held_eq _ rfl]
  rfl

/-! a matrix and a vector -/
def vcS : List Int → List Int → List Int
  | [a0, a1, a2, a3, a4, a5, a6, a7, a8, a9, a10, a11, a12, a13, a14, a15], [v0, v1, v2, v3] => [sm a0 v0 a1 v1 a2 v2 a3 v3, sm a4 v0 a5 v1 a6 v2 a7 v3, sm a8 v0 a9 v1 a10 v2 a11 v3, sm a12 v0 a13 v1 a14 v2 a15 v3]
  | _, _ => []
def vc : List Int → List Int → List Int
  | [a0, a1, a2, a3, a4, a5, a6, a7, a8, a9, a10, a11, a12, a13, a14, a15], [v0, v1, v2, v3] => [sx a0 v0 a1 v1 a2 v2 a3 v3, sx a4 v0 a5 v1 a6 v2 a7 v3, sx a8 v0 a9 v1 a10 v2 a11 v3, sx a12 v0 a13 v1 a14 v2 a15 v3]
  | _, _ => []
def appL (m v : List Int) : List Int := (vc m v).map fun s => nr s 65536
def appB (m v : List Int) : Bool := mayL m && vinL v
def appA (m v : List Int) : AV := .tup [aL ((appL m v).map fun c => bif appB m v then c else 0), i64 (bif appB m v then 0 else 2)]
def badV : AV := .tup [aL [0, 0, 0, 0], i64 2]
def vT : List Int → Option AV → Option AV
  | [], t => t
  | c :: l, t => bif decide (c < -268435456) then some badV else bif decide (c > 268435456) then some badV else vT l t
theorem vT_eq (l : List Int) (t : Option AV) : vT l t = bif vinL l then t else some badV := by
  induction l with
  | nil => rfl
  | cons c l ih =>
    unfold vT
    rw [ih]
    show _ = bif (decide (-268435456 ≤ c) && decide (c ≤ 268435456)) && vinL l then t else some badV
    by_cases h : c < -268435456
    · rw [decide_eq_true h, decide_eq_false (p := -268435456 ≤ c) (by omega)]; rfl
    · rw [decide_eq_false h, decide_eq_true (p := -268435456 ≤ c) (by omega)]
      by_cases k : c > 268435456
      · rw [decide_eq_true k, decide_eq_false (p := c ≤ 268435456) (by omega)]; rfl
      · rw [decide_eq_false k, decide_eq_true (p := c ≤ 268435456) (by omega)]; rfl
theorem vc_eq (a0 a1 a2 a3 a4 a5 a6 a7 a8 a9 a10 a11 a12 a13 a14 a15 v0 v1 v2 v3 : Int) (hm : mayL [a0, a1, a2, a3, a4, a5, a6, a7, a8, a9, a10, a11, a12, a13, a14, a15] = true) (hn : vinL [v0, v1, v2, v3] = true) :
    vcS [a0, a1, a2, a3, a4, a5, a6, a7, a8, a9, a10, a11, a12, a13, a14, a15] [v0, v1, v2, v3] = vc [a0, a1, a2, a3, a4, a5, a6, a7, a8, a9, a10, a11, a12, a13, a14, a15] [v0, v1, v2, v3] ∧ (∀ s, s ∈ vc [a0, a1, a2, a3, a4, a5, a6, a7, a8, a9, a10, a11, a12, a13, a14, a15] [v0, v1, v2, v3] → rndV s 65536 = nr s 65536 ∧ ndB s 65536 = true) := by
  rw [mayL_iff] at hm
  rw [vinL_iff] at hn
  simp only [List.mem_cons, List.not_mem_nil, or_false, forall_eq_or_imp, forall_eq] at hm hn
  obtain ⟨ha0, ha1, ha2, ha3, ha4, ha5, ha6, ha7, ha8, ha9, ha10, ha11, ha12, ha13, ha14, ha15⟩ := hm
  obtain ⟨hv0, hv1, hv2, hv3⟩ := hn
  have q0 := sm_eq ha0 ha1 ha2 ha3 hv0 hv1 hv2 hv3
  have q1 := sm_eq ha4 ha5 ha6 ha7 hv0 hv1 hv2 hv3
  have q2 := sm_eq ha8 ha9 ha10 ha11 hv0 hv1 hv2 hv3
  have q3 := sm_eq ha12 ha13 ha14 ha15 hv0 hv1 hv2 hv3
  constructor
  · show [sm a0 v0 a1 v1 a2 v2 a3 v3, sm a4 v0 a5 v1 a6 v2 a7 v3, sm a8 v0 a9 v1 a10 v2 a11 v3, sm a12 v0 a13 v1 a14 v2 a15 v3] = [sx a0 v0 a1 v1 a2 v2 a3 v3, sx a4 v0 a5 v1 a6 v2 a7 v3, sx a8 v0 a9 v1 a10 v2 a11 v3, sx a12 v0 a13 v1 a14 v2 a15 v3]
    rw [q0.1, q1.1, q2.1, q3.1]
  · show ∀ s, s ∈ [sx a0 v0 a1 v1 a2 v2 a3 v3, sx a4 v0 a5 v1 a6 v2 a7 v3, sx a8 v0 a9 v1 a10 v2 a11 v3, sx a12 v0 a13 v1 a14 v2 a15 v3] → _
    simp only [List.mem_cons, List.not_mem_nil, or_false, forall_eq_or_imp, forall_eq]
    exact ⟨rnd_sm q0.2.1 q0.2.2, rnd_sm q1.2.1 q1.2.2, rnd_sm q2.2.1 q2.2.2, rnd_sm q3.2.1 q3.2.2⟩
theorem appP_eq (a0 a1 a2 a3 a4 a5 a6 a7 a8 a9 a10 a11 a12 a13 a14 a15 v0 v1 v2 v3 : Int) : (bif !mayL [a0, a1, a2, a3, a4, a5, a6, a7, a8, a9, a10, a11, a12, a13, a14, a15] then some badV else vT [v0, v1, v2, v3] (some (.tup [aL ((vcS [a0, a1, a2, a3, a4, a5, a6, a7, a8, a9, a10, a11, a12, a13, a14, a15] [v0, v1, v2, v3]).map fun s => rndV s 65536), i64 0]))) = some (appA [a0, a1, a2, a3, a4, a5, a6, a7, a8, a9, a10, a11, a12, a13, a14, a15] [v0, v1, v2, v3]) := by
  rw [vT_eq]
  unfold appA appB
  cases hm : mayL [a0, a1, a2, a3, a4, a5, a6, a7, a8, a9, a10, a11, a12, a13, a14, a15]
  · rfl
  cases hn : vinL [v0, v1, v2, v3]
  · rfl
  obtain ⟨e, h⟩ := vc_eq a0 a1 a2 a3 a4 a5 a6 a7 a8 a9 a10 a11 a12 a13 a14 a15 v0 v1 v2 v3 hm hn
  rw [e, List.map_congr_left fun s hs => (h s hs).1]
  rfl
theorem appR_eq (a0 a1 a2 a3 a4 a5 a6 a7 a8 a9 a10 a11 a12 a13 a14 a15 v0 v1 v2 v3 : Int) : (vT [v0, v1, v2, v3] (bif !mayL [a0, a1, a2, a3, a4, a5, a6, a7, a8, a9, a10, a11, a12, a13, a14, a15] then some badV else ndT (vcS [a0, a1, a2, a3, a4, a5, a6, a7, a8, a9, a10, a11, a12, a13, a14, a15] [v0, v1, v2, v3]) (some (.tup [aL ((vcS [a0, a1, a2, a3, a4, a5, a6, a7, a8, a9, a10, a11, a12, a13, a14, a15] [v0, v1, v2, v3]).map fun s => nr s 65536), i64 0])))) = some (appA [a0, a1, a2, a3, a4, a5, a6, a7, a8, a9, a10, a11, a12, a13, a14, a15] [v0, v1, v2, v3]) := by
  rw [vT_eq]
  unfold appA appB
  cases hm : mayL [a0, a1, a2, a3, a4, a5, a6, a7, a8, a9, a10, a11, a12, a13, a14, a15]
  · cases hn : vinL [v0, v1, v2, v3] <;> rfl
  cases hn : vinL [v0, v1, v2, v3]
  · rfl
  obtain ⟨e, h⟩ := vc_eq a0 a1 a2 a3 a4 a5 a6 a7 a8 a9 a10 a11 a12 a13 a14 a15 v0 v1 v2 v3 hm hn
  rw [e, ndT_all _ _ fun s hs => (h s hs).2]
  rfl
def oneL : List Int := [65536, 0, 0, 0, 0, 65536, 0, 0, 0, 0, 65536, 0, 0, 0, 0, 65536]
def moveL (x y z : Int) : List Int := [65536, 0, 0, x, 0, 65536, 0, y, 0, 0, 65536, z, 0, 0, 0, 65536]
def stretchL (x y z : Int) : List Int := [x, 0, 0, 0, 0, y, 0, 0, 0, 0, z, 0, 0, 0, 0, 65536]
def oneS : FSpec := ⟨fun args k => match args with
  | [] => k (aL oneL)
  | _ => none⟩
theorem oneS_ok {P : Program} {f : FuncId} (h : PureOk P f [] (aL oneL)) : oneS.Ok P f := by
  intro R args k r e
  simp only [oneS] at e
  split at e
  · exact ⟨_, e, h⟩
  · cases e
abbrev mulS' : FSpec := mmS mulA
abbrev appS : FSpec := mvS appA
abbrev moveS : FSpec := i3S fun x y z => heldA (moveL x y z)
abbrev stretchS : FSpec := i3S fun x y z => heldA (stretchL x y z)
end Go.Fx
