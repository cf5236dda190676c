/- From the trees of fix's functions to the numbers. -/
import Derived.Test.YtfnpnenndbdcpaaFxA
import Derived.Lib.BitFns
set_option linter.unusedVariables false
set_option linter.unusedSimpArgs false
namespace Go.Fx
open Go Go.Sx

theorem ok_eq (n : Int) : (bif decide (n ≥ -2147483648) then some (AV.lit (.bool (decide (n ≤ 2147483648)))) else some (.lit (.bool false))) = some (.lit (.bool (okz n))) := by
  unfold okz
  show (bif decide (-2147483648 ≤ n) then _ else _) = _
  cases decide (-2147483648 ≤ n) <;> rfl
theorem fits_eq (n : Int) : (bif !okz n then some (AV.tup [i64 0, i64 2]) else some (.tup [i64 n, i64 0])) = some (.tup [i64 (fitV n), i64 (fitE n)]) := by
  unfold fitV fitE; cases okz n <;> rfl
theorem add_eq (a b : Int) : (bif !okz a then some (AV.tup [i64 0, i64 2]) else bif !okz b then some (AV.tup [i64 0, i64 2]) else some (.tup [i64 (fitV (wi (a + b))), i64 (fitE (wi (a + b)))])) = some (.tup [i64 (addV a b), i64 (addE a b)]) := by
  unfold addV addE
  cases ha : okz a
  · rfl
  cases hb : okz b
  · rfl
  rw [okz_iff] at ha hb
  rw [wi_id (by omega) (by omega)]; rfl
theorem prod_bd {a b : Int} (ha : okz a = true) (hb : okz b = true) : -4611686018427387904 ≤ a * b ∧ a * b ≤ 4611686018427387904 := by
  rw [okz_iff] at ha hb
  have h1 : a.natAbs ≤ 2147483648 := by omega
  have h2 : b.natAbs ≤ 2147483648 := by omega
  have h3 := Nat.mul_le_mul h1 h2
  rw [← Int.natAbs_mul] at h3
  omega
theorem mul_eq (a b : Int) : (bif !okz a then some (AV.tup [i64 0, i64 2]) else bif !okz b then some (AV.tup [i64 0, i64 2]) else bif ndB (wi (a * b)) 65536 then some (.tup [i64 (fitV (nr (wi (a * b)) 65536)), i64 (fitE (nr (wi (a * b)) 65536))]) else none) =
    some (.tup [i64 (mulV a b), i64 (mulE a b)]) := by
  unfold mulV mulE
  cases ha : okz a
  · rfl
  cases hb : okz b
  · rfl
  have hp := prod_bd ha hb
  rw [wi_id (by omega) (by omega), show ndB (a * b) 65536 = true by simp [ndB]; omega]; rfl
theorem div_eq (a b : Int) : (bif b == 0 then some (AV.tup [i64 0, i64 1]) else bif !okz a then some (AV.tup [i64 0, i64 2]) else bif !okz b then some (AV.tup [i64 0, i64 2]) else bif decide (b < 0) then
      (bif ndB (wi (wi (0 - a) * 65536)) (wi (0 - b)) then some (.tup [i64 (fitV (nr (wi (wi (0 - a) * 65536)) (wi (0 - b)))), i64 (fitE (nr (wi (wi (0 - a) * 65536)) (wi (0 - b))))]) else none) else
      bif ndB (wi (a * 65536)) b then some (.tup [i64 (fitV (nr (wi (a * 65536)) b)), i64 (fitE (nr (wi (a * 65536)) b))]) else none) =
    some (.tup [i64 (divV a b), i64 (divE a b)]) := by
  unfold divV divE divQ
  cases h0 : b == 0
  rotate_left
  · rfl
  cases ha : okz a
  · rfl
  cases hb : okz b
  · rfl
  rw [okz_iff] at ha hb
  have h0' : b ≠ 0 := beq_eq_false_iff_ne.mp h0
  rw [wi_id (n := 0 - a) (by omega) (by omega), wi_id (n := 0 - b) (by omega) (by omega), wi_id (n := (0 - a) * 65536) (by omega) (by omega), wi_id (n := a * 65536) (by omega) (by omega)]
  rw [show (0 - a) = -a by omega, show (0 - b) = -b by omega]
  by_cases k : b < 0
  · rw [decide_eq_true k, show ndB (-a * 65536) (-b) = true by simp [ndB]; omega]; rfl
  · rw [decide_eq_false k, show ndB (a * 65536) b = true by simp [ndB]; omega]; rfl
theorem rnd_eq (n d : Int) : (bif decide (d < 1) then some (AV.tup [i64 0, i64 1]) else bif decide (d > 1099511627776) then some (AV.tup [i64 0, i64 1]) else bif decide (n < -2305843009213693952) then some (AV.tup [i64 0, i64 2]) else
      bif decide (n > 2305843009213693952) then some (AV.tup [i64 0, i64 2]) else bif ndB n d then some (.tup [i64 (nr n d), i64 0]) else none) = some (.tup [i64 (rndV n d), i64 (rndE n d)]) := by
  unfold rndV rndE rndD rndN
  by_cases h1 : d < 1
  · rw [decide_eq_true h1]; rfl
  by_cases h2 : d > 1099511627776
  · rw [decide_eq_false h1, decide_eq_true h2]; rfl
  by_cases h3 : n < -2305843009213693952
  · rw [decide_eq_false h1, decide_eq_false h2, decide_eq_true h3]; rfl
  by_cases h4 : n > 2305843009213693952
  · rw [decide_eq_false h1, decide_eq_false h2, decide_eq_false h3, decide_eq_true h4]; rfl
  rw [decide_eq_false h1, decide_eq_false h2, decide_eq_false h3, decide_eq_false h4, show ndB n d = true by simp [ndB]; omega]; rfl
theorem lerp_bd {a b t : Int} (ha : okz a = true) (hb : okz b = true) (h0 : 0 ≤ t) (h1 : t ≤ 65536) : -281474976710656 ≤ t * (b - a) ∧ t * (b - a) ≤ 281474976710656 := by
  rw [okz_iff] at ha hb
  have h2 : (b - a).natAbs ≤ 4294967296 := by omega
  have h3 : t.natAbs ≤ 65536 := by omega
  have h4 := Nat.mul_le_mul h3 h2
  rw [← Int.natAbs_mul] at h4
  omega
theorem lerp_eq (a b t : Int) : (bif !okz a then some (AV.tup [i64 0, i64 2]) else bif !okz b then some (AV.tup [i64 0, i64 2]) else bif decide (t < 0) then some (AV.tup [i64 0, i64 1]) else bif decide (t > 65536) then some (AV.tup [i64 0, i64 1]) else
      bif ndB (wi (t * wi (b - a))) 65536 then some (.tup [i64 (wi (a + nr (wi (t * wi (b - a))) 65536)), i64 0]) else none) = some (.tup [i64 (lerpV a b t), i64 (lerpE a b t)]) := by
  unfold lerpV lerpE lerpT
  cases ha : okz a
  · rfl
  cases hb : okz b
  · rfl
  by_cases h1 : t < 0
  · rw [decide_eq_true h1]; rfl
  by_cases h2 : t > 65536
  · rw [decide_eq_false h1, decide_eq_true h2]; rfl
  have hl := lerp_bd ha hb (t := t) (by omega) (by omega)
  rw [okz_iff] at ha hb
  have hn := nr_spec (t * (b - a)) (d := 65536) (by omega)
  rw [decide_eq_false h1, decide_eq_false h2, wi_id (n := b - a) (by omega) (by omega), wi_id (n := t * (b - a)) (by omega) (by omega), show ndB (t * (b - a)) 65536 = true by simp [ndB]; omega, wi_id (by omega) (by omega)]; rfl

/-! logarithms -/
open Go.Lib (bitLenAux)
def logV (n : Int) : Int := bif decide (n < 1) then -1 else (Lib.bitLen n.toNat : Int) - 1
def logS : FSpec := ⟨fun args k => match args with
  | [.lit (.int .i64 n)] => bif decide (n ≤ 9223372036854775807) then k (i64 (logV n)) else none
  | _ => none⟩
theorem logS_ok {P : Program} {f : FuncId} (h : ∀ n, n ≤ 9223372036854775807 → PureOk P f [i64 n] (i64 (logV n))) : logS.Ok P f := by
  intro R args k r e
  simp only [logS] at e
  split at e
  · simp only [cond_eq_ite, decide_eq_true_eq] at e
    split at e
    · rename_i hb
      exact ⟨_, e, h _ hb⟩
    · cases e
  · cases e
def lenS : FSpec := ⟨fun args k => match args with
  | [.lit (.int .u64 x)] => bif decide (0 ≤ x) && decide (x ≤ 18446744073709551615) then k (i64 (Lib.bitLen x.toNat)) else none
  | _ => none⟩
theorem lenS_ok {P : Program} {f : FuncId} {fn : Func} (hf : Enters P f fn) (h : ∀ (x : Int) (w : World), 0 ≤ x → x ≤ 18446744073709551615 → Calls P f #[.int .u64 x] w fun e w' => e = .returned (.int .i64 (Lib.bitLen x.toNat)) ∧ w' = w) : lenS.Ok P f := by
  intro R args k r e
  simp only [lenS] at e
  split at e
  · rename_i x
    simp only [cond_eq_ite, Bool.and_eq_true, decide_eq_true_eq] at e
    split at e
    · rename_i hx
      refine ⟨_, e, rfl, rfl, fun E w => ⟨hf.run _ w, (h x w hx.1 hx.2).mono ?_⟩⟩
      rintro e w' ⟨rfl, rfl⟩
      exact ⟨rfl, RowKit.Below.refl _ _⟩
    · cases e
  · cases e
theorem aux_le (f n : Nat) : bitLenAux f n ≤ f := by
  induction f generalizing n with
  | zero => simp [bitLenAux]
  | succ f ih => simp only [bitLenAux]; split; omega; have := ih (n / 2); omega
theorem aux_succ (f n : Nat) (h : n < 2 ^ f) : bitLenAux (f + 1) n = bitLenAux f n := by
  induction f generalizing n with
  | zero => have : n = 0 := by simp at h; omega
            subst this; rfl
  | succ f ih =>
    rw [show bitLenAux (f + 1 + 1) n = if n = 0 then 0 else 1 + bitLenAux (f + 1) (n / 2) from rfl, show bitLenAux (f + 1) n = if n = 0 then 0 else 1 + bitLenAux f (n / 2) from rfl, ih (n / 2) (by rw [Nat.pow_succ] at h; omega)]
theorem bitLen_eq (n : Nat) : Lib.bitLen n = bitLenAux 64 n := by unfold Lib.bitLen; rfl
theorem aux_63 (n : Nat) (h : n < 9223372036854775808) : Lib.bitLen n = bitLenAux 63 n := by
  rw [bitLen_eq]; exact aux_succ 63 n h
theorem aux_spec (f n : Nat) (h : n < 2 ^ f) (h0 : 0 < n) : 2 ^ (bitLenAux f n - 1) ≤ n ∧ n < 2 ^ bitLenAux f n ∧ 0 < bitLenAux f n := by
  induction f generalizing n with
  | zero => simp at h; omega
  | succ f ih =>
    rw [show bitLenAux (f + 1) n = if n = 0 then 0 else 1 + bitLenAux f (n / 2) from rfl, if_neg (by omega)]
    rw [Nat.pow_succ] at h
    by_cases k : n / 2 = 0
    · have : n = 1 := by omega
      subst this
      rw [k]
      have : bitLenAux f 0 = 0 := by cases f <;> rfl
      rw [this]; decide
    · obtain ⟨a, b, c⟩ := ih (n / 2) (by omega) (by omega)
      refine ⟨?_, ?_, by omega⟩
      · rw [show 1 + bitLenAux f (n / 2) - 1 = (bitLenAux f (n / 2) - 1) + 1 by omega, Nat.pow_succ]; omega
      · rw [Nat.add_comm, Nat.pow_succ]; omega
theorem log_eq {n : Int} (h : n ≤ 9223372036854775807) : (bif decide (n < 1) then some (i64 (-1)) else bif decide (0 ≤ wu n) && decide (wu n ≤ 18446744073709551615) then some (i64 (wi ((Lib.bitLen (wu n).toNat : Int) - 1))) else none) = some (i64 (logV n)) := by
  unfold logV
  by_cases k : n < 1
  · rw [decide_eq_true k]; rfl
  · rw [decide_eq_false k, wu_eq, show n % 18446744073709551616 = n by omega]
    have := aux_le 64 n.toNat
    have e : Lib.bitLen n.toNat = bitLenAux 64 n.toNat := bitLen_eq _
    rw [decide_eq_true (p := 0 ≤ n) (by omega), decide_eq_true (p := n ≤ 18446744073709551615) (by omega), wi_id (by omega) (by omega)]; rfl
def lgT : Nat → Int → Int → Option AV
  | 0, _, _ => none
  | f + 1, n, k => bif decide (n > 0) then lgT f (n.fdiv 2) (k + 1) else some (i64 k)
theorem lgT_eq (f : Nat) (n k : Int) (h : n < 2 ^ f) (h0 : 0 ≤ n) : lgT (f + 1) n k = some (i64 (k + (bitLenAux f n.toNat : Int))) := by
  induction f generalizing n k with
  | zero =>
    have : n = 0 := by simp at h; omega
    subst this
    simp [lgT, bitLenAux]
  | succ f ih =>
    rw [show lgT (f + 1 + 1) n k = bif decide (n > 0) then lgT (f + 1) (n.fdiv 2) (k + 1) else some (i64 k) from rfl]
    by_cases c : n > 0
    · have hp := Int.pow_succ (2 : Int) f
      have hh : n / 2 < 2 ^ f := by rw [hp] at h; exact Int.ediv_lt_of_lt_mul (by omega) h
      rw [decide_eq_true c, cond_true, Int.fdiv_eq_ediv_of_nonneg _ (by omega), ih (n / 2) (k + 1) hh (by omega)]
      rw [show bitLenAux (f + 1) n.toNat = if n.toNat = 0 then 0 else 1 + bitLenAux f (n.toNat / 2) from rfl, if_neg (by omega), show (n / 2).toNat = n.toNat / 2 by omega, show k + 1 + (bitLenAux f (n.toNat / 2) : Int) = k + ((1 + bitLenAux f (n.toNat / 2) : Nat) : Int) by omega]
    · have : n = 0 := by omega
      subst this
      simp [bitLenAux]
theorem lgT_log {n : Int} (h : n ≤ 9223372036854775807) : lgT 64 n (-1) = some (i64 (logV n)) := by
  unfold logV
  by_cases k : n < 1
  · rw [decide_eq_true k]
    rw [show lgT 64 n (-1) = bif decide (n > 0) then lgT 63 (n.fdiv 2) (-1 + 1) else some (i64 (-1)) from rfl, decide_eq_false (by omega)]; rfl
  · rw [decide_eq_false k, lgT_eq 63 n (-1) (by omega) (by omega), ← aux_63 n.toNat (by omega)]
    show some (i64 _) = some (i64 _)
    congr 3
/-- a number lies between two powers -/
theorem logV_spec {n : Int} (h0 : 0 < n) (h : n ≤ 9223372036854775807) : ∃ k : Nat, logV n = k ∧ (2 : Int) ^ k ≤ n ∧ n < 2 ^ (k + 1) ∧ k ≤ 62 := by
  unfold logV
  rw [decide_eq_false (by omega), cond_false]
  obtain ⟨a, b, c⟩ := aux_spec 63 n.toNat (by omega) (by omega)
  have l := aux_le 63 n.toNat
  rw [aux_63 n.toNat (by omega)]
  generalize bitLenAux 63 n.toNat = m at *
  refine ⟨m - 1, by omega, ?_, ?_, by omega⟩
  · have := Int.ofNat_le.mpr a; rw [Int.natCast_pow] at this; simp only [Int.cast_ofNat_Int] at this; omega
  · rw [show m - 1 + 1 = m by omega]; have := Int.ofNat_lt.mpr b; rw [Int.natCast_pow] at this; simp only [Int.cast_ofNat_Int] at this; omega
end Go.Fx
