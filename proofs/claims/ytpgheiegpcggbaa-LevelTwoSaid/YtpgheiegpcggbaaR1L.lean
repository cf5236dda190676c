/- What level's functions compute. -/
import Derived.Test.YtpgheiegpcggbaaR1P
import Derived.Test.YtpgheiegpcggbaaR1BL
set_option linter.unusedVariables false
set_option linter.unusedSimpArgs false
namespace Go.Proofs.Ytpgheiegpcggbaa
open Go Go.Sx

def lenS : FSpec := ⟨fun args k => match args with
  | [.lit (.int .u64 x)] => bif decide (0 ≤ x) && decide (x ≤ 18446744073709551615) then k (.lit (.int .i64 (Lib.bitLen x.toNat))) else none
  | _ => none⟩
theorem e37 : Enters Try.prog 37 Try.f37 := ⟨Try.func37, by kernel_rfl, by kernel_rfl⟩
theorem e36 : Enters Try.prog 36 Try.f36 := ⟨Try.func36, by kernel_rfl, by kernel_rfl⟩
theorem e35 : Enters Try.prog 35 Try.f35 := ⟨Try.func35, by kernel_rfl, by kernel_rfl⟩
theorem e32 : Enters Try.prog 32 Try.f32 := ⟨Try.func32, by kernel_rfl, by kernel_rfl⟩
theorem e33 : Enters Try.prog 33 Try.f33 := ⟨Try.func33, by kernel_rfl, by kernel_rfl⟩
theorem e30 : Enters Try.prog 30 Try.f30 := ⟨Try.func30, by kernel_rfl, by kernel_rfl⟩
theorem e31 : Enters Try.prog 31 Try.f31 := ⟨Try.func31, by kernel_rfl, by kernel_rfl⟩
theorem e34 : Enters Try.prog 34 Try.f34 := ⟨Try.func34, by kernel_rfl, by kernel_rfl⟩
theorem len_ok : lenS.Ok Try.prog 37 := by
  intro R args k r h
  simp only [lenS] at h
  split at h
  · rename_i x
    simp only [cond_eq_ite, Bool.and_eq_true, decide_eq_true_eq] at h
    split at h
    · rename_i hx
      refine ⟨_, h, rfl, rfl, fun E w => ⟨?_, (Try.bits_Len x w hx.1 hx.2).mono ?_⟩⟩
      · exact e37.run _ w
      · rintro e w' ⟨rfl, rfl⟩
        exact ⟨rfl, RowKit.Below.refl _ _⟩
    · cases h
  · cases h

def lgz (n : Int) : Int := bif decide (n < 1) then -1 else W ((Lib.bitLen (IntKind.u64.wrap n).toNat : Int) - 1)
def farz (n : Int) : Int := if W (0 - if 1099511627776 < (if -1099511627776 > n then -1099511627776 else n) then 1099511627776 else (if -1099511627776 > n then -1099511627776 else n)) >
    (if 1099511627776 < (if -1099511627776 > n then -1099511627776 else n) then 1099511627776 else (if -1099511627776 > n then -1099511627776 else n)) then
    W (0 - if 1099511627776 < (if -1099511627776 > n then -1099511627776 else n) then 1099511627776 else (if -1099511627776 > n then -1099511627776 else n)) else
    (if 1099511627776 < (if -1099511627776 > n then -1099511627776 else n) then 1099511627776 else (if -1099511627776 > n then -1099511627776 else n))
def rnd (k n : Int) : Int := (W (k.tmod n + n)).tmod n
def logS : FSpec := ⟨fun args k => match args with
  | [.lit (.int .i64 n)] => k (.lit (.int .i64 (lgz n)))
  | _ => none⟩
def farS : FSpec := ⟨fun args k => match args with
  | [.lit (.int .i64 n)] => k (.lit (.int .i64 (farz n)))
  | _ => none⟩
def rndS : FSpec := ⟨fun args k => match args with
  | [.lit (.int .i64 a), .lit (.int .i64 4)] => k (.lit (.int .i64 (rnd a 4)))
  | _ => none⟩
theorem nilL : (CallSem.nil.withSpec 37 lenS).Sound Try.prog := CallSem.withSpec_sound nilS len_ok
theorem u64_in (n : Int) : (decide (0 ≤ IntKind.u64.wrap n) && decide (IntKind.u64.wrap n ≤ 18446744073709551615)) = true := by
  have e : IntKind.u64.wrap n = n % 18446744073709551616 := by
    unfold IntKind.wrap
    simp [IntKind.bits, IntKind.signed]
  rw [e]
  simp only [Bool.and_eq_true, decide_eq_true_eq]
  omega
theorem log_ok : logS.Ok Try.prog 36 := by
  intro R args k r h
  simp only [logS] at h
  split at h
  · rename_i n
    refine ⟨_, h, pureOk_of (n := 5) nilL mixed e36 ?_⟩
    have e : pureK (CallSem.nil.withSpec 37 lenS) Try.prog 5 Try.f36 [.lit (.int .i64 n)] some = (bif decide (n < 1) then some (.lit (.int .i64 (-1))) else
      bif decide (0 ≤ IntKind.u64.wrap n) && decide (IntKind.u64.wrap n ≤ 18446744073709551615) then some (.lit (.int .i64 (W ((Lib.bitLen (IntKind.u64.wrap n).toNat : Int) - 1)))) else none) := by kernel_rfl
    refine Eq.trans e ?_
    rw [u64_in]
    unfold lgz
    cases decide (n < 1) <;> rfl
  · cases h
theorem far_ok : farS.Ok Try.prog 35 := by
  intro R args k r h
  simp only [farS] at h
  split at h
  · exact ⟨_, h, pureOk_of (n := 5) nilS mixed e35 (by kernel_rfl)⟩
  · cases h
theorem rnd_ok : rndS.Ok Try.prog 30 := by
  intro R args k r h
  simp only [rndS] at h
  split at h
  · exact ⟨_, h, pureOk_of (n := 5) nilS mixed e30 (by kernel_rfl)⟩
  · cases h
noncomputable def cl0 : CallSem := ((CallSem.nil.withSpec 36 logS).withSpec 35 farS).withSpec 30 rndS
theorem cl0_sound : cl0.Sound Try.prog := CallSem.withSpec_sound (CallSem.withSpec_sound (CallSem.withSpec_sound nilS log_ok) far_ok) rnd_ok

theorem W_id' {n : Int} (h : -9223372036854775808 ≤ n) (h' : n ≤ 9223372036854775807) : W n = n := W_id h h'
theorem farz_eq (n : Int) : farz n = if n ≤ -1099511627776 then 1099511627776 else if n ≤ 0 then -n else if n ≤ 1099511627776 then n else 1099511627776 := by
  unfold farz
  rw [W_id (by split <;> split <;> omega) (by split <;> split <;> omega)]
  split <;> split <;> split <;> omega
def mx (a b c e : Int) : Int := if farz e > (if farz c > (if farz b > farz a then farz b else farz a) then farz c else if farz b > farz a then farz b else farz a) then farz e else
  (if farz c > (if farz b > farz a then farz b else farz a) then farz c else if farz b > farz a then farz b else farz a)
theorem farz_bd (n : Int) : 0 ≤ farz n ∧ farz n ≤ 1099511627776 := by
  rw [farz_eq]; split <;> (try split) <;> (try split) <;> omega
theorem mx_bd (a b c e : Int) : 0 ≤ mx a b c e ∧ mx a b c e ≤ 1099511627776 := by
  have := farz_bd a; have := farz_bd b; have := farz_bd c; have := farz_bd e
  unfold mx; split <;> (try split) <;> (try split) <;> omega
def lq (r : Int) : Int := lgz (W (r.tdiv 65536))
def un (l : Int) : Int := W (65536 * 2 ^ (min l.toNat 64))
def chL (d r : Int) : Int := bif decide (d < 0) then 0 else bif decide (d > 3) then 0 else bif decide (r ≤ 65536) then 0 else bif decide (lq r ≥ d) then d else lq r
def chT (d r : Int) : Int := bif decide (d < 0) then 0 else bif decide (d > 3) then 0 else bif decide (r ≤ 65536) then 0 else bif decide (lq r ≥ d) then 0 else
  W ((W (W (r - un (lq r)) * 256)).tdiv (un (lq r)))

theorem bl1 (n : Nat) (h : n = 1) : Lib.bitLen n = 1 := by subst h; rfl
theorem bl2 (n : Nat) (h : 2 ≤ n) (h' : n < 4) : Lib.bitLen n = 2 := by
  obtain rfl | rfl : n = 2 ∨ n = 3 := by omega
  all_goals rfl
theorem bl3 (n : Nat) (h : 4 ≤ n) (h' : n < 8) : Lib.bitLen n = 3 := by
  obtain rfl | rfl | rfl | rfl : n = 4 ∨ n = 5 ∨ n = 6 ∨ n = 7 := by omega
  all_goals rfl
theorem bl4 (n : Nat) (h : 8 ≤ n) : 4 ≤ Lib.bitLen n := by
  unfold Lib.bitLen
  simp only [Lib.bitLenAux]
  rw [if_neg (by omega), if_neg (by omega), if_neg (by omega), if_neg (by omega)]
  omega
theorem bl_le (n f : Nat) : Lib.bitLenAux f n ≤ f := by
  induction f generalizing n with
  | zero => simp [Lib.bitLenAux]
  | succ f ih => simp only [Lib.bitLenAux]; split; omega; have := ih (n / 2); omega
theorem u64_id {n : Int} (h : 0 ≤ n) (h' : n ≤ 18446744073709551615) : IntKind.u64.wrap n = n := by
  have e : IntKind.u64.wrap n = n % 18446744073709551616 := by
    unfold IntKind.wrap
    simp [IntKind.bits, IntKind.signed]
  rw [e]; omega
theorem lq_eq {r : Int} (h : 65536 < r) (h' : r ≤ 1099511627776) : lq r = (Lib.bitLen (r / 65536).toNat : Int) - 1 := by
  unfold lq lgz
  rw [Int.tdiv_eq_ediv_of_nonneg (by omega), W_id (by omega) (by omega), u64_id (by omega) (by omega)]
  have := bl_le (r / 65536).toNat 64
  rw [decide_eq_false (by omega), cond_false, W_id (by unfold Lib.bitLen; omega) (by unfold Lib.bitLen; omega)]
theorem lq0 {r : Int} (h : 65536 < r) (h' : r < 131072) : lq r = 0 := by
  rw [lq_eq h (by omega), bl1 _ (by omega)]; rfl
theorem lq1 {r : Int} (h : 131072 ≤ r) (h' : r < 262144) : lq r = 1 := by
  rw [lq_eq (by omega) (by omega), bl2 _ (by omega) (by omega)]; rfl
theorem lq2 {r : Int} (h : 262144 ≤ r) (h' : r < 524288) : lq r = 2 := by
  rw [lq_eq (by omega) (by omega), bl3 _ (by omega) (by omega)]; rfl
theorem lq3 {r : Int} (h : 524288 ≤ r) (h' : r ≤ 1099511627776) : 3 ≤ lq r := by
  rw [lq_eq (by omega) (by omega)]
  have := bl4 (r / 65536).toNat (by omega)
  omega
theorem lq_cases {r : Int} (h : 65536 < r) (h' : r ≤ 1099511627776) : (r < 131072 ∧ lq r = 0) ∨ (131072 ≤ r ∧ r < 262144 ∧ lq r = 1) ∨ (262144 ≤ r ∧ r < 524288 ∧ lq r = 2) ∨ (524288 ≤ r ∧ 3 ≤ lq r) := by
  by_cases a : r < 131072
  · exact .inl ⟨a, lq0 h a⟩
  · by_cases b : r < 262144
    · exact .inr (.inl ⟨by omega, b, lq1 (by omega) b⟩)
    · by_cases c : r < 524288
      · exact .inr (.inr (.inl ⟨by omega, c, lq2 (by omega) c⟩))
      · exact .inr (.inr (.inr ⟨by omega, lq3 (by omega) h'⟩))
theorem un0 : un 0 = 65536 := by decide +kernel
theorem un1 : un 1 = 131072 := by decide +kernel
theorem un2 : un 2 = 262144 := by decide +kernel

/-- the level, and how far it is, of a slope, outright -/
theorem ch_eq {d r : Int} (h0 : 0 ≤ d) (h3 : d ≤ 3) (hr : 0 ≤ r) (hr' : r ≤ 1099511627776) :
    (r ≤ 65536 ∧ chL d r = 0 ∧ chT d r = 0) ∨ (65536 < r ∧ r < 131072 ∧ (d = 0 ∧ chL d r = 0 ∧ chT d r = 0 ∨ 1 ≤ d ∧ chL d r = 0 ∧ chT d r = (r - 65536) * 256 / 65536)) ∨
    (131072 ≤ r ∧ r < 262144 ∧ (d ≤ 1 ∧ chL d r = d ∧ chT d r = 0 ∨ 2 ≤ d ∧ chL d r = 1 ∧ chT d r = (r - 131072) * 256 / 131072)) ∨
    (262144 ≤ r ∧ r < 524288 ∧ (d ≤ 2 ∧ chL d r = d ∧ chT d r = 0 ∨ d = 3 ∧ chL d r = 2 ∧ chT d r = (r - 262144) * 256 / 262144)) ∨
    (524288 ≤ r ∧ chL d r = d ∧ chT d r = 0) := by
  unfold chL chT
  rw [decide_eq_false (p := d < 0) (by omega), decide_eq_false (p := d > 3) (by omega)]
  simp only [cond_false]
  by_cases a : r ≤ 65536
  · rw [decide_eq_true a]; exact .inl ⟨a, rfl, rfl⟩
  · rw [decide_eq_false a]
    simp only [cond_false]
    obtain ⟨b, e⟩ | ⟨b, c, e⟩ | ⟨b, c, e⟩ | ⟨b, e⟩ := lq_cases (by omega) hr'
    · refine .inr (.inl ⟨by omega, b, ?_⟩)
      rw [e, un0]
      by_cases k : (0 : Int) ≥ d
      · rw [decide_eq_true k]; exact .inl ⟨by omega, by show d = _; omega, rfl⟩
      · rw [decide_eq_false k, W_id (n := r - 65536) (by omega) (by omega), W_id (n := (r - 65536) * 256) (by omega) (by omega), Int.tdiv_eq_ediv_of_nonneg (by omega), W_id (by omega) (by omega)]
        right; exact ⟨by omega, rfl, rfl⟩
    · refine .inr (.inr (.inl ⟨b, c, ?_⟩))
      rw [e, un1]
      by_cases k : (1 : Int) ≥ d
      · rw [decide_eq_true k]; exact .inl ⟨by omega, by show d = _; omega, rfl⟩
      · rw [decide_eq_false k, W_id (n := r - 131072) (by omega) (by omega), W_id (n := (r - 131072) * 256) (by omega) (by omega), Int.tdiv_eq_ediv_of_nonneg (by omega), W_id (by omega) (by omega)]
        right; exact ⟨by omega, rfl, rfl⟩
    · refine .inr (.inr (.inr (.inl ⟨b, c, ?_⟩)))
      rw [e, un2]
      by_cases k : (2 : Int) ≥ d
      · rw [decide_eq_true k]; exact .inl ⟨by omega, by show d = _; omega, rfl⟩
      · rw [decide_eq_false k, W_id (n := r - 262144) (by omega) (by omega), W_id (n := (r - 262144) * 256) (by omega) (by omega), Int.tdiv_eq_ediv_of_nonneg (by omega), W_id (by omega) (by omega)]
        right; exact ⟨by omega, rfl, rfl⟩
    · refine .inr (.inr (.inr (.inr ⟨b, ?_⟩)))
      rw [decide_eq_true (p := lq r ≥ d) (by omega)]; exact ⟨rfl, rfl⟩

def ofS : FSpec := ⟨fun args k => match args with
  | [.lit (.int .i64 d), .lit (.int .i64 a), .lit (.int .i64 b), .lit (.int .i64 c), .lit (.int .i64 e)] => k (.agg [.lit (.int .i64 (chL d (mx a b c e))), .lit (.int .i64 (chT d (mx a b c e)))])
  | _ => none⟩
theorem of_ok : ofS.Ok Try.prog 32 := by
  intro R args k r h
  simp only [ofS] at h
  split at h
  · rename_i d a b c e'
    refine ⟨_, h, pureOk_of (n := 5) cl0_sound mixed e32 ?_⟩
    have E : pureK cl0 Try.prog 5 Try.f32 [.lit (.int .i64 d), .lit (.int .i64 a), .lit (.int .i64 b), .lit (.int .i64 c), .lit (.int .i64 e')] some =
      (bif decide (d < 0) then some (.agg [.lit (.int .i64 0), .lit (.int .i64 0)]) else bif decide (d > 3) then some (.agg [.lit (.int .i64 0), .lit (.int .i64 0)]) else
       bif decide (mx a b c e' ≤ 65536) then some (.agg [.lit (.int .i64 0), .lit (.int .i64 0)]) else bif decide (lq (mx a b c e') ≥ d) then some (.agg [.lit (.int .i64 d), .lit (.int .i64 0)]) else
       if lq (mx a b c e') < 0 then none else if un (lq (mx a b c e')) = 0 then none else
       some (.agg [.lit (.int .i64 (lq (mx a b c e'))), .lit (.int .i64 (W ((W (W (mx a b c e' - un (lq (mx a b c e'))) * 256)).tdiv (un (lq (mx a b c e'))))))])) := by kernel_rfl
    refine Eq.trans E ?_
    have hb := mx_bd a b c e'
    generalize mx a b c e' = r at hb ⊢
    unfold chL chT
    by_cases h1 : d < 0
    · rw [decide_eq_true h1]; rfl
    by_cases h2 : d > 3
    · rw [decide_eq_false h1, decide_eq_true h2]; rfl
    by_cases h3 : r ≤ 65536
    · rw [decide_eq_false h1, decide_eq_false h2, decide_eq_true h3]; rfl
    rw [decide_eq_false h1, decide_eq_false h2, decide_eq_false h3]
    simp only [cond_false]
    obtain ⟨b, e⟩ | ⟨b, c, e⟩ | ⟨b, c, e⟩ | ⟨b, e⟩ := lq_cases (by omega) hb.2
    · rw [e, un0]; cases decide ((0 : Int) ≥ d) <;> rfl
    · rw [e, un1]; cases decide ((1 : Int) ≥ d) <;> rfl
    · rw [e, un2]; cases decide ((2 : Int) ≥ d) <;> rfl
    · rw [decide_eq_true (p := lq r ≥ d) (by omega)]; rfl
  · cases h
noncomputable def cl1 : CallSem := cl0.withSpec 32 ofS
theorem cl1_sound : cl1.Sound Try.prog := CallSem.withSpec_sound cl0_sound of_ok
theorem lawake_ok : trueS.Ok Try.prog 31 := by
  intro R args k r h
  simp only [trueS] at h
  split at h
  · exact ⟨_, h, pureOk_of (n := 5) (CallSem.withBody_sound (CallSem.withBody_sound (CallSem.withBody_sound cl0_sound mixed 5 e32 true) mixed 5 e33 false) mixed 5 e34 false) mixed e31 (by kernel_rfl)⟩
  · cases h
noncomputable def cl : CallSem := cl1.withSpec 31 trueS
theorem cl_sound : cl.Sound Try.prog := CallSem.withSpec_sound cl1_sound lawake_ok
noncomputable def clt : CallSem := cl.withBody Try.prog 5 33 Try.f33 false
theorem clt_sound : clt.Sound Try.prog := CallSem.withBody_sound cl_sound mixed 5 e33 false
theorem rnd4 (k : Int) : 0 ≤ rnd k 4 ∧ rnd k 4 ≤ 3 := by
  unfold rnd
  have h1 := Int.tmod_lt_of_pos k (b := 4) (by omega)
  have h2 := Int.lt_tmod_of_pos k (b := 4) (by omega)
  rw [W_id (by omega) (by omega), Int.tmod_eq_emod_of_nonneg (by omega)]
  omega
theorem farz_pos {n : Int} (h : 0 ≤ n) (h' : n ≤ 1099511627776) : farz n = n := by
  rw [farz_eq]; split <;> (try split) <;> (try split) <;> omega
theorem farz_neg {n : Int} (h : 0 ≤ n) (h' : n ≤ 1099511627776) : farz (-n) = n := by
  rw [farz_eq]; split <;> (try split) <;> (try split) <;> omega
theorem mx_1 {a : Int} (h : 0 ≤ a) (h' : a ≤ 1099511627776) : mx a 0 0 0 = a := by
  unfold mx; rw [farz_pos h h', farz_pos (n := 0) (by omega) (by omega)]; split <;> (try split) <;> (try split) <;> omega
theorem mx_2 {a : Int} (h : 0 ≤ a) (h' : a ≤ 1099511627776) : mx 0 (-a) 0 0 = a := by
  unfold mx; rw [farz_neg h h', farz_pos (n := 0) (by omega) (by omega)]; split <;> (try split) <;> (try split) <;> omega
theorem mx_3 {a : Int} (h : 0 ≤ a) (h' : a ≤ 1099511627776) : mx 0 0 (-a) 0 = a := by
  unfold mx; rw [farz_neg h h', farz_pos (n := 0) (by omega) (by omega)]; split <;> (try split) <;> (try split) <;> omega
theorem mx_4 {a : Int} (h : 0 ≤ a) (h' : a ≤ 1099511627776) : mx 0 0 0 a = a := by
  unfold mx; rw [farz_pos h h', farz_pos (n := 0) (by omega) (by omega)]; split <;> (try split) <;> (try split) <;> omega
theorem mx_5 {a b : Int} (h : 0 ≤ a) (h' : b ≤ 1099511627776) (ab : a ≤ b) : mx a b 0 a = b := by
  unfold mx; rw [farz_pos h (by omega), farz_pos (n := b) (by omega) (by omega), farz_pos (n := 0) (by omega) (by omega)]; split <;> (try split) <;> (try split) <;> omega
end Go.Proofs.Ytpgheiegpcggbaa
