/- extent's functions: what their loops do (chapter 9). -/
import Derived.Test.YticmpcloehnoaaaL9A
import Derived.Test.YticmpcloehnoaaaExtA
set_option linter.unusedVariables false
set_option linter.unusedSimpArgs false
namespace Go.Proofs.Yticmpcloehnoaaa
open Go Go.Sx Go.Fx
set_option maxRecDepth 100000
set_option linter.unusedVariables false
set_option linter.unusedSimpArgs false
theorem wi_s {a : Int} (h : 0 ≤ a) (h' : a ≤ 4294967296) : wi a = a := wi_id (by omega) (by omega)
/-! set -/
theorem loop23 (s n : Nat) (v own hd : Bool) (L : List AV) (f : Nat → Value) (hn : s + n ≤ L.length) (hL : L.length ≤ 65536) (j : Nat) (hj : j ≤ n) :
    CodeOkN 1 1 Try.prog (.loop L23) (S23 s v n own hd (setN L s v j) f (j : Nat)) (.exit 0) (S23 s v n own hd (setN L s v n) f (n : Nat)) := by
  refine loop_ok (fun j : Nat => S23 s v n own hd (setN L s v j) f (j : Nat)) (fun _ => (.exit 0, S23 s v n own hd (setN L s v n) f (n : Nat))) (fun j => if j < n then some (j + 1) else none)
    (fun j => n - j) (fun j => j ≤ n) ?_ ?_ j hj
  · intro j h1 hnx
    refine ⟨fun e => (by cases e), ?_⟩
    have hj : j = n := by
      by_cases h : j < n
      · simp [h] at hnx
      · omega
    subst hj
    exact turn_ok nilS mixed (LoopsOk.no _ _) rfl rfl (by rw [raw23, decide_eq_false (by omega), cond_false]; rfl)
  · intro j s' h1 hnx
    by_cases h2 : j < n
    · simp only [h2, if_true, Option.some.injEq] at hnx
      subst hnx
      refine ⟨by omega, by omega, rfl, turn_ok (n := 1) nilS mixed (LoopsOk.no _ _) rfl rfl ?_⟩
      rw [raw23, decide_eq_true (by omega), cond_true, show ((s : Nat) : Int) + ((j : Nat) : Int) = ((s + j : Nat) : Int) by omega, wi_s (by omega) (by omega), ix_in (by rw [setN_len]; omega), Int.toNat_natCast, wi_s (by omega) (by omega)]
      rfl
    · simp [h2] at hnx
def set_L : LSpec where
  n := 23
  nils := []
  keep := k23
  touch := t23
  run kv M k := match kv, M with
    | [.ptr b q, .lit (.int .i64 s), .lit (.bool v), .lit (.int .i64 n), .lit (.int .i64 i)], ⟨[some ⟨bt, own, [.vec h0]⟩], [some ⟨el, false, sh, tr, true, hd, L⟩]⟩ =>
      bif decide (b = 0) && decide (q = 0) && decide (bt = 51) && decide (h0 = 0) && decide (el = 4) && decide (sh = cB) && decide (tr = 0) && decide (i = 0) && (decide (0 ≤ s) && decide (0 ≤ n) && decide (s + n ≤ (L.length : Int)) && decide (L.length ≤ 65536)) then
        k (.exit 0) [.ptr 0 0, i64 s, bv v, i64 n, i64 n] (mW 51 own hd (setN L s.toNat v n.toNat)) else none
    | _, _ => none
theorem set_Lok : set_L.Ok Try.prog (.loop L23) := by
  intro R kv M k r h
  simp only [set_L] at h
  split at h
  · rename_i b q s v n i bt own h0 el sh tr hd L
    simp only [cond_eq_ite, Bool.and_eq_true, decide_eq_true_eq] at h
    split at h
    · rename_i hc
      obtain ⟨⟨⟨⟨⟨⟨⟨⟨rfl, rfl⟩, rfl⟩, rfl⟩, rfl⟩, rfl⟩, rfl⟩, rfl⟩, ⟨⟨hs, hn⟩, hl⟩, hL⟩ := hc
      refine ⟨_, _, _, h, fun f => ?_⟩
      have := loop23 s.toNat n.toNat v own hd L f (by omega) hL 0 (Nat.zero_le _)
      rw [show ((s.toNat : Nat) : Int) = s by omega, show ((n.toNat : Nat) : Int) = n by omega] at this
      exact CodeOkN.full this rfl
    · cases h
  · cases h
theorem s23 : Sx.Enters Try.prog 23 Try.f23 := ⟨Try.func23, by kernel_rfl, by kernel_rfl⟩
noncomputable def C23 : CallSem := CallSem.nil.withLoops (one 1 set_L)
theorem C23_sound : C23.Sound Try.prog := CallSem.withLoops_sound nilS _
theorem C23_loops : ∀ c, Try.f23.body = some c → LoopsOk Try.prog C23.loops c := one_ok nodes23 set_Lok
def okS (L : List AV) (s n : Int) : Bool := decide (0 ≤ s) && decide (0 ≤ n) && decide (s + n ≤ (L.length : Int)) && decide (L.length ≤ 65536)
theorem set_eq (own hd : Bool) (L : List AV) (s n : Int) (v : Bool) : fnK C23 Try.prog 2 Try.f23 [.ptr 0 0, i64 s, i64 n, bv v] (mW 51 own hd L) [] =
    bif true && okS L s n then some (.tup [], mW 51 own hd (setN L s.toNat v n.toNat)) else none := by kernel_rfl
def set_M : MSpec := ⟨[], fun args M k => match args, M with
  | [.ptr b q, .lit (.int .i64 s), .lit (.int .i64 n), .lit (.bool v)], ⟨[some ⟨bt, own, [.vec h0]⟩], [some ⟨el, false, sh, tr, true, hd, L⟩]⟩ =>
    bif decide (b = 0) && decide (q = 0) && decide (bt = 51) && decide (h0 = 0) && decide (el = 4) && decide (sh = cB) && decide (tr = 0) && okS L s n then k (.tup []) (mW 51 own hd (setN L s.toNat v n.toNat)) else none
  | _, _ => none⟩
theorem set_Mok : set_M.Ok Try.prog 23 := by
  intro R args M k r h
  simp only [set_M] at h
  split at h
  · rename_i b q s n v bt own h0 el sh tr hd L
    simp only [cond_eq_ite, Bool.and_eq_true, decide_eq_true_eq] at h
    split at h
    · rename_i hc
      obtain ⟨⟨⟨⟨⟨⟨⟨rfl, rfl⟩, rfl⟩, rfl⟩, rfl⟩, rfl⟩, rfl⟩, hg⟩ := hc
      refine ⟨_, _, h, fn_ok (C := C23) (n := 2) (ts := []) C23_sound mixed s23 C23_loops ((set_eq own hd L s n v).trans ?_) rfl⟩
      rw [hg]; rfl
    · cases h
  · cases h
/-! mark -/
theorem loop26 (s n : Nat) (v own hd : Bool) (L : List AV) (f : Nat → Value) (hn : s + n ≤ L.length) (hL : L.length ≤ 65536) (j : Nat) (hj : j ≤ n) :
    CodeOkN 1 1 Try.prog (.loop L26) (S26 s n v own hd (setN L s v j) f ((s + j : Nat) : Int)) (.exit 0) (S26 s n v own hd (setN L s v n) f ((s + n : Nat) : Int)) := by
  refine loop_ok (fun j : Nat => S26 s n v own hd (setN L s v j) f ((s + j : Nat) : Int)) (fun _ => (.exit 0, S26 s n v own hd (setN L s v n) f ((s + n : Nat) : Int))) (fun j => if j < n then some (j + 1) else none)
    (fun j => n - j) (fun j => j ≤ n) ?_ ?_ j hj
  · intro j h1 hnx
    refine ⟨fun e => (by cases e), ?_⟩
    have hj : j = n := by
      by_cases h : j < n
      · simp [h] at hnx
      · omega
    subst hj
    exact turn_ok nilS mixed (LoopsOk.no _ _) rfl rfl (by rw [raw26, wi_s (by omega) (by omega), decide_eq_false (by omega), cond_false]; rfl)
  · intro j s' h1 hnx
    by_cases h2 : j < n
    · simp only [h2, if_true, Option.some.injEq] at hnx
      subst hnx
      refine ⟨by omega, by omega, rfl, turn_ok (n := 1) nilS mixed (LoopsOk.no _ _) rfl rfl ?_⟩
      rw [raw26, wi_s (a := (s : Int) + (n : Int)) (by omega) (by omega), decide_eq_true (by omega), cond_true, ix_in (by rw [setN_len]; omega), Int.toNat_natCast, wi_s (by omega) (by omega)]
      rw [show ((s + j : Nat) : Int) + 1 = ((s + (j + 1) : Nat) : Int) by omega]
      rfl
    · simp [h2] at hnx
def mark_L : LSpec where
  n := 24
  nils := []
  keep := k26
  touch := t26
  run kv M k := match kv, M with
    | [.ptr b q, .lit (.int .i64 s), .lit (.int .i64 n), .lit (.bool v), .lit (.int .i64 i)], ⟨[some ⟨bt, own, [.vec h0]⟩], [some ⟨el, false, sh, tr, true, hd, L⟩]⟩ =>
      bif decide (b = 0) && decide (q = 0) && decide (bt = 53) && decide (h0 = 0) && decide (el = 4) && decide (sh = cB) && decide (tr = 0) && decide (i = s) && okS L s n then
        k (.exit 0) [.ptr 0 0, i64 s, i64 n, bv v, i64 (s + n)] (mW 53 own hd (setN L s.toNat v n.toNat)) else none
    | _, _ => none
theorem mark_Lok : mark_L.Ok Try.prog (.loop L26) := by
  intro R kv M k r h
  simp only [mark_L, okS] at h
  split at h
  · rename_i b q s n v i bt own h0 el sh tr hd L
    simp only [cond_eq_ite, Bool.and_eq_true, decide_eq_true_eq] at h
    split at h
    · rename_i hc
      obtain ⟨⟨⟨⟨⟨⟨⟨⟨rfl, rfl⟩, rfl⟩, rfl⟩, rfl⟩, rfl⟩, rfl⟩, rfl⟩, ⟨⟨hs, hn⟩, hl⟩, hL⟩ := hc
      refine ⟨_, _, _, h, fun f => ?_⟩
      have := loop26 i.toNat n.toNat v own hd L f (by omega) hL 0 (Nat.zero_le _)
      rw [show ((i.toNat : Nat) : Int) = i by omega, show ((n.toNat : Nat) : Int) = n by omega, show ((i.toNat + 0 : Nat) : Int) = i by omega, show ((i.toNat + n.toNat : Nat) : Int) = i + n by omega] at this
      exact CodeOkN.full this rfl
    · cases h
  · cases h
theorem s26 : Sx.Enters Try.prog 26 Try.f26 := ⟨Try.func26, by kernel_rfl, by kernel_rfl⟩
noncomputable def C26 : CallSem := CallSem.nil.withLoops (one 1 mark_L)
theorem C26_sound : C26.Sound Try.prog := CallSem.withLoops_sound nilS _
theorem C26_loops : ∀ c, Try.f26.body = some c → LoopsOk Try.prog C26.loops c := one_ok nodes26 mark_Lok
theorem mark_eq (own hd : Bool) (L : List AV) (s n : Int) (v : Bool) : fnK C26 Try.prog 2 Try.f26 [.ptr 0 0, i64 s, i64 n, bv v] (mW 53 own hd L) [] =
    bif true && decide (s = s) && okS L s n then some (.tup [], mW 53 own hd (setN L s.toNat v n.toNat)) else none := by kernel_rfl
def mark_M : MSpec := ⟨[], fun args M k => match args, M with
  | [.ptr b q, .lit (.int .i64 s), .lit (.int .i64 n), .lit (.bool v)], ⟨[some ⟨bt, own, [.vec h0]⟩], [some ⟨el, false, sh, tr, true, hd, L⟩]⟩ =>
    bif decide (b = 0) && decide (q = 0) && decide (bt = 53) && decide (h0 = 0) && decide (el = 4) && decide (sh = cB) && decide (tr = 0) && okS L s n then k (.tup []) (mW 53 own hd (setN L s.toNat v n.toNat)) else none
  | _, _ => none⟩
theorem mark_Mok : mark_M.Ok Try.prog 26 := by
  intro R args M k r h
  simp only [mark_M] at h
  split at h
  · rename_i b q s n v bt own h0 el sh tr hd L
    simp only [cond_eq_ite, Bool.and_eq_true, decide_eq_true_eq] at h
    split at h
    · rename_i hc
      obtain ⟨⟨⟨⟨⟨⟨⟨rfl, rfl⟩, rfl⟩, rfl⟩, rfl⟩, rfl⟩, rfl⟩, hg⟩ := hc
      refine ⟨_, _, h, fn_ok (C := C26) (n := 2) (ts := []) C26_sound mixed s26 C26_loops ((mark_eq own hd L s n v).trans ?_) rfl⟩
      rw [hg, decide_eq_true rfl]; rfl
    · cases h
  · cases h
end Go.Proofs.Yticmpcloehnoaaa
