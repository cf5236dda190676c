/- What fix computes (chapter 1), outright, of no program: the numbers, the specifications, and their laws. -/
import Derived.Test.YtfnpnenndbdcpaaSxThree
set_option linter.unusedVariables false
set_option linter.unusedSimpArgs false
namespace Go.Fx
open Go Go.Sx

def wi (n : Int) : Int := IntKind.i64.wrap n
theorem wi_id {n : Int} (h : -9223372036854775808 ≤ n) (h' : n ≤ 9223372036854775807) : wi n = n := by
  have e : wi n = if n % 18446744073709551616 ≥ 9223372036854775808 then n % 18446744073709551616 - 18446744073709551616 else n % 18446744073709551616 := by
    unfold wi IntKind.wrap
    simp [IntKind.bits, IntKind.signed]
  rw [e]
  split <;> omega
def wu (n : Int) : Int := IntKind.u64.wrap n
theorem wu_eq (n : Int) : wu n = n % 18446744073709551616 := by
  unfold wu IntKind.wrap
  simp [IntKind.bits, IntKind.signed]
abbrev i64 (n : Int) : AV := .lit (.int .i64 n)

def okz (a : Int) : Bool := decide (-2147483648 ≤ a) && decide (a ≤ 2147483648)
theorem okz_iff {a : Int} : okz a = true ↔ -2147483648 ≤ a ∧ a ≤ 2147483648 := by simp [okz]
theorem okz_not {a : Int} : okz a = false ↔ a < -2147483648 ∨ 2147483648 < a := by
  rw [← Bool.not_eq_true, okz_iff]; omega
/-- n over d, rounded, a half upward -/
def nr (n d : Int) : Int := (2 * n + d) / (2 * d)
def ndB (n d : Int) : Bool := decide (0 < d) && decide (d ≤ 1099511627776) && decide (-4611686018427387904 ≤ n) && decide (n ≤ 4611686018427387904)

def fitV (n : Int) : Int := bif okz n then n else 0
def fitE (n : Int) : Int := bif okz n then 0 else 2
def addV (a b : Int) : Int := bif okz a && okz b then fitV (a + b) else 0
def addE (a b : Int) : Int := bif okz a && okz b then fitE (a + b) else 2
def mulV (a b : Int) : Int := bif okz a && okz b then fitV (nr (a * b) 65536) else 0
def mulE (a b : Int) : Int := bif okz a && okz b then fitE (nr (a * b) 65536) else 2
def divQ (a b : Int) : Int := bif decide (b < 0) then nr (-a * 65536) (-b) else nr (a * 65536) b
def divV (a b : Int) : Int := bif b == 0 then 0 else bif okz a && okz b then fitV (divQ a b) else 0
def divE (a b : Int) : Int := bif b == 0 then 1 else bif okz a && okz b then fitE (divQ a b) else 2
def rndD (d : Int) : Bool := decide (d < 1) || decide (d > 1099511627776)
def rndN (n : Int) : Bool := decide (n < -2305843009213693952) || decide (n > 2305843009213693952)
def rndV (n d : Int) : Int := bif rndD d || rndN n then 0 else nr n d
def rndE (n d : Int) : Int := bif rndD d then 1 else bif rndN n then 2 else 0
def lerpT (t : Int) : Bool := decide (t < 0) || decide (t > 65536)
def lerpV (a b t : Int) : Int := bif okz a && okz b && !lerpT t then a + nr (t * (b - a)) 65536 else 0
def lerpE (a b t : Int) : Int := bif okz a && okz b then (bif lerpT t then 1 else 0) else 2

def i1S (f : Int → AV) : FSpec := ⟨fun args k => match args with
  | [.lit (.int .i64 n)] => k (f n)
  | _ => none⟩
def i2S (f : Int → Int → AV) : FSpec := ⟨fun args k => match args with
  | [.lit (.int .i64 n), .lit (.int .i64 d)] => k (f n d)
  | _ => none⟩
def i3S (f : Int → Int → Int → AV) : FSpec := ⟨fun args k => match args with
  | [.lit (.int .i64 n), .lit (.int .i64 d), .lit (.int .i64 t)] => k (f n d t)
  | _ => none⟩
theorem i1S_ok {P : Program} {f : FuncId} {g : Int → AV} (h : ∀ n, PureOk P f [i64 n] (g n)) : (i1S g).Ok P f := by
  intro R args k r e
  simp only [i1S] at e
  split at e
  · exact ⟨_, e, h _⟩
  · cases e
theorem i2S_ok {P : Program} {f : FuncId} {g : Int → Int → AV} (h : ∀ n d, PureOk P f [i64 n, i64 d] (g n d)) : (i2S g).Ok P f := by
  intro R args k r e
  simp only [i2S] at e
  split at e
  · exact ⟨_, e, h _ _⟩
  · cases e
theorem i3S_ok {P : Program} {f : FuncId} {g : Int → Int → Int → AV} (h : ∀ n d t, PureOk P f [i64 n, i64 d, i64 t] (g n d t)) : (i3S g).Ok P f := by
  intro R args k r e
  simp only [i3S] at e
  split at e
  · exact ⟨_, e, h _ _ _⟩
  · cases e
def nearS : FSpec := ⟨fun args k => match args with
  | [.lit (.int .i64 n), .lit (.int .i64 d)] => bif ndB n d then k (i64 (nr n d)) else none
  | _ => none⟩
theorem nearS_ok {P : Program} {f : FuncId} (h : ∀ n d, 0 < d → d ≤ 1099511627776 → -4611686018427387904 ≤ n → n ≤ 4611686018427387904 → PureOk P f [i64 n, i64 d] (i64 (nr n d))) : nearS.Ok P f := by
  intro R args k r e
  simp only [nearS] at e
  split at e
  · simp only [ndB, cond_eq_ite, Bool.and_eq_true, decide_eq_true_eq] at e
    split at e
    · rename_i hb
      exact ⟨_, e, h _ _ hb.1.1.1 hb.1.1.2 hb.1.2 hb.2⟩
    · cases e
  · cases e

abbrev okS : FSpec := i1S fun n => .lit (.bool (okz n))
abbrev fitS : FSpec := i1S fun n => .tup [i64 (fitV n), i64 (fitE n)]
abbrev addS : FSpec := i2S fun a b => .tup [i64 (addV a b), i64 (addE a b)]
abbrev mulS : FSpec := i2S fun a b => .tup [i64 (mulV a b), i64 (mulE a b)]
abbrev divS : FSpec := i2S fun a b => .tup [i64 (divV a b), i64 (divE a b)]
abbrev rndS : FSpec := i2S fun n d => .tup [i64 (rndV n d), i64 (rndE n d)]
abbrev lerpS : FSpec := i3S fun a b t => .tup [i64 (lerpV a b t), i64 (lerpE a b t)]

theorem nr_unique {n d q : Int} (hd : 0 < d) (h1 : 2 * d * q ≤ 2 * n + d) (h2 : 2 * n + d < 2 * d * (q + 1)) : nr n d = q := by
  unfold nr
  have hd2 : 0 < 2 * d := by omega
  rw [Int.mul_comm (2 * d) q] at h1
  rw [Int.mul_comm (2 * d) (q + 1)] at h2
  have l := (Int.le_ediv_iff_mul_le hd2).mpr h1
  have u := (Int.ediv_lt_iff_lt_mul hd2).mpr h2
  omega
theorem nr_spec (n : Int) {d : Int} (hd : 0 < d) : 2 * d * nr n d ≤ 2 * n + d ∧ 2 * n + d < 2 * d * nr n d + 2 * d := by
  unfold nr
  have h1 := Int.mul_ediv_self_le (x := 2 * n + d) (k := 2 * d) (by omega)
  have h2 := Int.lt_mul_ediv_self_add (x := 2 * n + d) (k := 2 * d) (by omega)
  exact ⟨h1, h2⟩
/-- what both of the rounded quotients come to, from the quotient toward 0 -/
theorem nr_of {n d q r : Int} (hd : 0 < d) (e : n = d * q + r) (h0 : 0 ≤ r) (h1 : r < d) : nr n d = if 2 * r ≥ d then q + 1 else q := by
  apply nr_unique hd
  · split
    · rw [show 2 * d * (q + 1) = 2 * (d * q) + 2 * d by rw [Int.mul_add, Int.mul_assoc]; omega]; omega
    · rw [Int.mul_assoc]; omega
  · split
    · rw [show 2 * d * (q + 1 + 1) = 2 * (d * q) + 4 * d by rw [Int.mul_add, Int.mul_add, Int.mul_assoc]; omega]; omega
    · rw [show 2 * d * (q + 1) = 2 * (d * q) + 2 * d by rw [Int.mul_add, Int.mul_assoc]; omega]; omega
theorem nr_bd {n d : Int} (hd : 0 < d) {m : Int} (hm : 0 ≤ m) (h0 : -m ≤ n) (h1 : n ≤ m) : -m - 1 ≤ nr n d ∧ nr n d ≤ m + 1 := by
  obtain ⟨a, b⟩ := nr_spec n hd
  constructor
  · by_cases h : -m - 1 ≤ nr n d
    · exact h
    · exfalso
      have : nr n d + 1 ≤ -m - 1 := by omega
      have k : 2 * d * (nr n d + 1) ≤ 2 * d * (-m - 1) := Int.mul_le_mul_of_nonneg_left this (by omega)
      rw [Int.mul_add, Int.mul_one] at k
      have k2 : 2 * d * (-m - 1) ≤ 2 * 1 * (-m - 1) := Int.mul_le_mul_of_nonpos_right (by omega) (by omega)
      have k3 : 2 * d * (-m - 1) = -(2 * d * m) - 2 * d := by rw [Int.mul_sub, Int.mul_neg, Int.mul_one]
      have k4 : 2 * 1 * m ≤ 2 * d * m := Int.mul_le_mul_of_nonneg_right (by omega) hm
      omega
  · by_cases h : nr n d ≤ m + 1
    · exact h
    · exfalso
      have : m + 2 ≤ nr n d := by omega
      have k : 2 * d * (m + 2) ≤ 2 * d * nr n d := Int.mul_le_mul_of_nonneg_left this (by omega)
      have k2 : 2 * d * (m + 2) = 2 * d * m + 4 * d := by rw [Int.mul_add]; omega
      have k4 : 2 * 1 * m ≤ 2 * d * m := Int.mul_le_mul_of_nonneg_right (by omega) hm
      omega

/-- the program's own way -/
theorem nearest_eq {n d : Int} (hd : 0 < d) (hd' : d ≤ 1099511627776) (h0 : -4611686018427387904 ≤ n) (h1 : n ≤ 4611686018427387904) :
    (if d = 0 then none else if d = 0 then none else bif decide (n.tmod d < 0) then
      (bif decide (wi (2 * wi (n.tmod d + d)) ≥ d) then some (i64 (wi (wi (wi (n.tdiv d) - 1) + 1))) else some (i64 (wi (wi (n.tdiv d) - 1))))
     else bif decide (wi (2 * n.tmod d) ≥ d) then some (i64 (wi (wi (n.tdiv d) + 1))) else some (i64 (wi (n.tdiv d)))) = some (i64 (nr n d)) := by
  rw [if_neg (by omega), if_neg (by omega)]
  have e := (Int.mul_tdiv_add_tmod n d).symm
  have r1 := Int.tmod_lt_of_pos n hd
  have r2 := Int.lt_tmod_of_pos n hd
  have q1 : -4611686018427387904 ≤ n.tdiv d ∧ n.tdiv d ≤ 4611686018427387904 := by
    have a := Int.natAbs_tdiv_le_natAbs n d
    omega
  generalize n.tdiv d = q at *
  generalize n.tmod d = r at *
  rw [wi_id (n := q) (by omega) (by omega), wi_id (n := q - 1) (by omega) (by omega), wi_id (n := q + 1) (by omega) (by omega), wi_id (n := r + d) (by omega) (by omega), wi_id (n := 2 * r) (by omega) (by omega), wi_id (n := 2 * (r + d)) (by omega) (by omega), wi_id (n := q - 1 + 1) (by omega) (by omega)]
  by_cases k : r < 0
  · rw [nr_of hd (q := q - 1) (r := r + d) (by rw [Int.mul_sub, Int.mul_one]; omega) (by omega) (by omega), decide_eq_true k]
    by_cases k' : 2 * (r + d) ≥ d
    · rw [if_pos k', decide_eq_true k']; rfl
    · rw [if_neg k', decide_eq_false k']; rfl
  · rw [nr_of hd e (by omega) (by omega), decide_eq_false k]
    by_cases k' : 2 * r ≥ d
    · rw [if_pos k', decide_eq_true k']; rfl
    · rw [if_neg k', decide_eq_false k']; rfl

/-- the document's way -/
theorem near_eq {n d : Int} (hd : 0 < d) (hd' : d ≤ 1099511627776) (h0 : -4611686018427387904 ≤ n) (h1 : n ≤ 4611686018427387904) :
    (if d = 0 then none else if d = 0 then none else bif decide (n.tmod d < 0) then
      (bif decide (wi (n - wi (wi (wi (n.tdiv d) - 1) * d)) ≥ wi (d - wi (n - wi (wi (wi (n.tdiv d) - 1) * d)))) then some (i64 (wi (wi (wi (n.tdiv d) - 1) + 1))) else some (i64 (wi (wi (n.tdiv d) - 1))))
     else bif decide (wi (n - wi (wi (n.tdiv d) * d)) ≥ wi (d - wi (n - wi (wi (n.tdiv d) * d)))) then some (i64 (wi (wi (n.tdiv d) + 1))) else some (i64 (wi (n.tdiv d)))) = some (i64 (nr n d)) := by
  rw [if_neg (by omega), if_neg (by omega)]
  have e := (Int.mul_tdiv_add_tmod n d).symm
  have r1 := Int.tmod_lt_of_pos n hd
  have r2 := Int.lt_tmod_of_pos n hd
  have q1 : -4611686018427387904 ≤ n.tdiv d ∧ n.tdiv d ≤ 4611686018427387904 := by
    have a := Int.natAbs_tdiv_le_natAbs n d
    omega
  generalize n.tdiv d = q at *
  generalize n.tmod d = r at *
  have e2 : q * d = n - r := by rw [Int.mul_comm]; omega
  have e3 : (q - 1) * d = n - r - d := by rw [Int.sub_mul, Int.one_mul]; omega
  rw [wi_id (n := q) (by omega) (by omega), wi_id (n := q - 1) (by omega) (by omega), wi_id (n := q + 1) (by omega) (by omega), wi_id (n := q - 1 + 1) (by omega) (by omega), e2, e3, wi_id (n := n - r) (by omega) (by omega), wi_id (n := n - r - d) (by omega) (by omega),
    wi_id (n := n - (n - r)) (by omega) (by omega), wi_id (n := n - (n - r - d)) (by omega) (by omega), wi_id (n := d - (n - (n - r))) (by omega) (by omega), wi_id (n := d - (n - (n - r - d))) (by omega) (by omega)]
  by_cases k : r < 0
  · rw [nr_of hd (q := q - 1) (r := r + d) (by rw [Int.mul_sub, Int.mul_one]; omega) (by omega) (by omega), decide_eq_true k]
    by_cases k' : 2 * (r + d) ≥ d
    · rw [if_pos k', decide_eq_true (p := n - (n - r - d) ≥ d - (n - (n - r - d))) (by omega)]; rfl
    · rw [if_neg k', decide_eq_false (p := n - (n - r - d) ≥ d - (n - (n - r - d))) (by omega)]; rfl
  · rw [nr_of hd e (by omega) (by omega), decide_eq_false k]
    by_cases k' : 2 * r ≥ d
    · rw [if_pos k', decide_eq_true (p := n - (n - r) ≥ d - (n - (n - r))) (by omega)]; rfl
    · rw [if_neg k', decide_eq_false (p := n - (n - r) ≥ d - (n - (n - r))) (by omega)]; rfl
end Go.Fx
