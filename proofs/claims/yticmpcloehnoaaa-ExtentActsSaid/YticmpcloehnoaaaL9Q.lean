/- ExtentFree: its loops (chapter 9). -/
import Derived.Test.YticmpcloehnoaaaL9P
set_option linter.unusedVariables false
set_option linter.unusedSimpArgs false
namespace Go.Proofs.Yticmpcloehnoaaa
open Go Go.Sx Go.Fx
set_option maxRecDepth 100000
set_option linter.unusedVariables false
set_option linter.unusedSimpArgs false
def foldJ (g : List AV → AV → List AV) (l : List AV) (L : List AV) : Nat → List AV
  | 0 => L
  | j + 1 => g (foldJ g l L j) (l.getD j .bad)
theorem turnL_len (L : List AV) (s n : Int) (v : Bool) : (turnL L s n v).length = L.length := by
  unfold turnL
  cases mayB L s n && allN L s.toNat v n.toNat
  · rfl
  · exact setN_len _ _ _ _
theorem foldJ_len {g : List AV → AV → List AV} (hg : ∀ L x, (g L x).length = L.length) (l L : List AV) : ∀ j, (foldJ g l L j).length = L.length
  | 0 => rfl
  | j + 1 => (hg _ _).trans (foldJ_len hg l L j)
theorem stepA_len (n : Int) (L : List AV) (x : AV) : (stepA n L x).length = L.length := turnL_len _ _ _ _
def stepC (L : List AV) (x : AV) : List AV := turnL L (cI x 0) (cI x 1) false
theorem stepC_len (L : List AV) (x : AV) : (stepC L x).length = L.length := turnL_len _ _ _ _
theorem loopA (n : Int) (hn : 0 < n) (hn' : n ≤ 65536) (el1 : TypeId) (o1 h1 : Bool) (l : List AV) (hl : l.length ≤ 65536) (own hd : Bool) (f : Nat → Value) (L : List AV) (hL : L.length ≤ 65536) (j : Nat) (hj : j ≤ l.length) :
    CodeOkN 1 2 Try.prog (.loop LA) (SA n el1 o1 h1 l own hd f (foldJ (stepA n) l L j) (j : Nat)) (.exit 0) (SA n el1 o1 h1 l own hd f (foldJ (stepA n) l L l.length) (l.length : Nat)) := by
  refine loop_ok (fun j : Nat => SA n el1 o1 h1 l own hd f (foldJ (stepA n) l L j) (j : Nat)) (fun _ => (.exit 0, SA n el1 o1 h1 l own hd f (foldJ (stepA n) l L l.length) (l.length : Nat))) (fun j => if j < l.length then some (j + 1) else none)
    (fun j => l.length - j) (fun j => j ≤ l.length) ?_ ?_ j hj
  · intro j h1' hnx
    refine ⟨fun e => (by cases e), ?_⟩
    have hj : j = l.length := by
      by_cases h : j < l.length
      · simp [h] at hnx
      · omega
    subst hj
    exact turn_ok (n := 1) cX_sound mixed (LoopsOk.no _ _) rfl rfl (by rw [rawA, decide_eq_false (by omega), cond_false]; rfl)
  · intro j s' h1' hnx
    by_cases h2 : j < l.length
    · simp only [h2, if_true, Option.some.injEq] at hnx
      subst hnx
      refine ⟨by omega, by omega, rfl, turn_ok (n := 1) cX_sound mixed (LoopsOk.no _ _) rfl rfl ?_⟩
      rw [rawA, decide_eq_true (by omega), cond_true, ix_in h2, decide_eq_true hn, decide_eq_true (by omega), ix_in h2, decide_eq_true (by rw [foldJ_len (stepA_len n)]; exact hL), Int.toNat_natCast, wi_s (by omega) (by omega)]
      rw [show ((j : Nat) : Int) + 1 = ((j + 1 : Nat) : Int) by omega]
      rfl
    · simp [h2] at hnx
def specA : LSpec where
  n := 152
  nils := [⟨1, 48, true, cR⟩]
  keep := kA
  touch := tA
  run kv M k := match kv, M with
    | [.lit (.int .i64 n), .vec h1, .ptr b q, .lit (.int .i64 i)], ⟨[some ⟨bt, own, [.vec h0]⟩], [some ⟨el1, true, sh1, t1, o1, hd1, l⟩, some ⟨el, false, sh, tr, true, hd, L⟩]⟩ =>
      bif decide (b = 0) && decide (q = 0) && decide (h1 = 0) && decide (bt = 51) && decide (h0 = 1) && decide (sh1 = cR) && decide (t1 = 0) && decide (el = 4) && decide (sh = cB) && decide (tr = 1) && decide (i = 0) && (decide (0 < n) && decide (n ≤ 65536) && decide (l.length ≤ 65536) && decide (L.length ≤ 65536)) then
        k (.exit 0) [i64 n, .vec 0, .ptr 0 0, i64 (l.length : Nat)] ⟨[some ⟨51, own, [.vec 1]⟩], [some ⟨el1, true, cR, 0, o1, hd1, l⟩, some ⟨4, false, cB, 1, true, hd, foldJ (stepA n) l L l.length⟩]⟩ else none
    | _, _ => none
theorem specA_ok : specA.Ok Try.prog (.loop LA) := by
  intro R kv M k r h
  simp only [specA] at h
  split at h
  · rename_i n h1 b q i bt own h0 el1 sh1 t1 o1 hd1 l el sh tr hd L
    simp only [cond_eq_ite, Bool.and_eq_true, decide_eq_true_eq] at h
    split at h
    · rename_i hc
      obtain ⟨⟨⟨⟨⟨⟨⟨⟨⟨⟨⟨rfl, rfl⟩, rfl⟩, rfl⟩, rfl⟩, rfl⟩, rfl⟩, rfl⟩, rfl⟩, rfl⟩, rfl⟩, ⟨⟨hn, hn'⟩, hl⟩, hL⟩ := hc
      refine ⟨_, _, _, h, fun f => ?_⟩
      exact CodeOkN.full (loopA n hn hn' el1 o1 hd1 l hl own hd f L hL 0 (Nat.zero_le _)) rfl
    · cases h
  · cases h
/-! the runs, one by one -/
def sumB (r : List AV) : Nat → Int
  | 0 => 0
  | j + 1 => wi (sumB r j + cI (r.getD j .bad) 1)
def okBj (r : List AV) (j : Nat) : Bool := decide (1 ≤ cI (r.getD j .bad) 1) && (decide (j = 0) || decide (wi (cI (r.getD (j - 1) .bad) 0 + cI (r.getD (j - 1) .bad) 1) < cI (r.getD j .bad) 0))
def okB (r : List AV) : Bool := (List.range r.length).all (okBj r)
theorem okB_at {r : List AV} (h : okB r = true) {j : Nat} (hj : j < r.length) : 1 ≤ cI (r.getD j .bad) 1 ∧ (0 < j → wi (cI (r.getD (j - 1) .bad) 0 + cI (r.getD (j - 1) .bad) 1) < cI (r.getD j .bad) 0) := by
  unfold okB at h
  rw [List.all_eq_true] at h
  have := h j (List.mem_range.2 hj)
  simp only [okBj, Bool.and_eq_true, Bool.or_eq_true, decide_eq_true_eq] at this
  exact ⟨this.1, fun h0 => this.2.resolve_left (by omega)⟩
theorem loopB (z : Bool) (el1 : TypeId) (o1 h1 : Bool) (r : List AV) (hr : r.length ≤ 65536) (hok : okB r = true) (f : Nat → Value) (j : Nat) (hj : j ≤ r.length) :
    CodeOkN 0 1 Try.prog (.loop LB) (SB z el1 o1 h1 r f (sumB r j) (j : Nat)) (.exit 2) (SB z el1 o1 h1 r f (sumB r r.length) (r.length : Nat)) := by
  refine loop_ok (fun j : Nat => SB z el1 o1 h1 r f (sumB r j) (j : Nat)) (fun _ => (.exit 2, SB z el1 o1 h1 r f (sumB r r.length) (r.length : Nat))) (fun j => if j < r.length then some (j + 1) else none)
    (fun j => r.length - j) (fun j => j ≤ r.length) ?_ ?_ j hj
  · intro j h1' hnx
    refine ⟨fun e => (by cases e), ?_⟩
    have hj : j = r.length := by
      by_cases h : j < r.length
      · simp [h] at hnx
      · omega
    subst hj
    exact turn_ok (n := 1) cX_sound mixed (LoopsOk.no _ _) rfl rfl (by rw [rawB, decide_eq_false (by omega), cond_false]; rfl)
  · intro j s' h1' hnx
    by_cases h2 : j < r.length
    · simp only [h2, if_true, Option.some.injEq] at hnx
      subst hnx
      obtain ⟨g1, g2⟩ := okB_at hok h2
      refine ⟨by omega, by omega, rfl, turn_ok (n := 1) cX_sound mixed (LoopsOk.no _ _) rfl rfl ?_⟩
      rw [rawB, decide_eq_true (by omega), cond_true, ix_in h2, Int.toNat_natCast, decide_eq_false (by omega), cond_false, wi_s (a := (j : Int) + 1) (by omega) (by omega)]
      rw [show ((j : Nat) : Int) + 1 = ((j + 1 : Nat) : Int) by omega, ix_in h2, ix_in h2]
      cases j with
      | zero => rfl
      | succ p =>
        have g2 := g2 (by omega)
        rw [Nat.add_sub_cancel] at g2
        rw [decide_eq_true (by omega), cond_true, show wi (((p + 1 : Nat) : Int) - 1) = (p : Int) by rw [wi_s (by omega) (by omega)]; omega, ix_in (by omega), ix_in (by omega), Int.toNat_natCast, decide_eq_false (by omega)]
        rfl
    · simp [h2] at hnx
def specB : LSpec where
  n := 152
  nils := [⟨8, 48, true, cR⟩]
  keep := kB
  touch := tB
  run kv M k := match kv, M with
    | [.lit (.bool z), .vec h1, .lit (.int .i64 s), .lit (.int .i64 i)], ⟨[], [some ⟨el1, true, sh1, t1, o1, hd1, r⟩]⟩ =>
      bif decide (h1 = 0) && decide (sh1 = cR) && decide (t1 = 0) && decide (s = 0) && decide (i = 0) && (decide (r.length ≤ 65536) && okB r) then
        k (.exit 2) [bv z, .vec 0, i64 (sumB r r.length), i64 (r.length : Nat)] ⟨[], [some ⟨el1, true, cR, 0, o1, hd1, r⟩]⟩ else none
    | _, _ => none
theorem specB_ok : specB.Ok Try.prog (.loop LB) := by
  intro R kv M k r h
  simp only [specB] at h
  split at h
  · rename_i z h1 s i el1 sh1 t1 o1 hd1 r
    simp only [cond_eq_ite, Bool.and_eq_true, decide_eq_true_eq] at h
    split at h
    · rename_i hc
      obtain ⟨⟨⟨⟨⟨rfl, rfl⟩, rfl⟩, rfl⟩, rfl⟩, hr, hok⟩ := hc
      refine ⟨_, _, _, h, fun f => ?_⟩
      exact CodeOkN.full (loopB z el1 o1 hd1 r hr hok f 0 (Nat.zero_le _)) rfl
    · cases h
  · cases h
/-! the runs are claimed -/
def okC (r L : List AV) : Bool := (List.range r.length).all fun j => decide (turnE (foldJ stepC r L j) (cI (r.getD j .bad) 0) (cI (r.getD j .bad) 1) false 5 = 0)
theorem loopC (z : Bool) (el1 : TypeId) (o1 h1 : Bool) (r : List AV) (hr : r.length ≤ 65536) (own hd : Bool) (f : Nat → Value) (L : List AV) (hL : L.length ≤ 65536) (hok : okC r L = true) (j : Nat) (hj : j ≤ r.length) :
    CodeOkN 1 2 Try.prog (.loop LC) (SC z el1 o1 h1 r own hd f (foldJ stepC r L j) (j : Nat)) (.exit 4) (SC z el1 o1 h1 r own hd f (foldJ stepC r L r.length) (r.length : Nat)) := by
  refine loop_ok (fun j : Nat => SC z el1 o1 h1 r own hd f (foldJ stepC r L j) (j : Nat)) (fun _ => (.exit 4, SC z el1 o1 h1 r own hd f (foldJ stepC r L r.length) (r.length : Nat))) (fun j => if j < r.length then some (j + 1) else none)
    (fun j => r.length - j) (fun j => j ≤ r.length) ?_ ?_ j hj
  · intro j h1' hnx
    refine ⟨fun e => (by cases e), ?_⟩
    have hj : j = r.length := by
      by_cases h : j < r.length
      · simp [h] at hnx
      · omega
    subst hj
    exact turn_ok (n := 1) cX_sound mixed (LoopsOk.no _ _) rfl rfl (by rw [rawC, decide_eq_false (by omega), cond_false]; rfl)
  · intro j s' h1' hnx
    by_cases h2 : j < r.length
    · simp only [h2, if_true, Option.some.injEq] at hnx
      subst hnx
      unfold okC at hok
      rw [List.all_eq_true] at hok
      have ht := of_decide_eq_true (hok j (List.mem_range.2 h2))
      refine ⟨by omega, by omega, rfl, turn_ok (n := 1) cX_sound mixed (LoopsOk.no _ _) rfl rfl ?_⟩
      rw [rawC, decide_eq_true (by omega), cond_true, ix_in h2, ix_in h2, decide_eq_true (by rw [foldJ_len stepC_len]; exact hL), Int.toNat_natCast, wi_s (a := (j : Int) + 1) (by omega) (by omega), ht]
      rw [show ((j : Nat) : Int) + 1 = ((j + 1 : Nat) : Int) by omega]
      rfl
    · simp [h2] at hnx
def specC : LSpec where
  n := 152
  nils := [⟨8, 48, true, cR⟩]
  keep := kC
  touch := tC
  run kv M k := match kv, M with
    | [.lit (.bool z), .vec h1, .ptr b q, .lit (.int .i64 i)], ⟨[some ⟨bt, own, [.vec h0]⟩], [some ⟨el1, true, sh1, t1, o1, hd1, r⟩, some ⟨el, false, sh, tr, true, hd, L⟩]⟩ =>
      bif decide (b = 0) && decide (q = 0) && decide (h1 = 0) && decide (bt = 51) && decide (h0 = 1) && decide (sh1 = cR) && decide (t1 = 0) && decide (el = 4) && decide (sh = cB) && decide (tr = 1) && decide (i = 0) && (decide (r.length ≤ 65536) && decide (L.length ≤ 65536) && okC r L) then
        k (.exit 4) [bv z, .vec 0, .ptr 0 0, i64 (r.length : Nat)] ⟨[some ⟨51, own, [.vec 1]⟩], [some ⟨el1, true, cR, 0, o1, hd1, r⟩, some ⟨4, false, cB, 1, true, hd, foldJ stepC r L r.length⟩]⟩ else none
    | _, _ => none
theorem specC_ok : specC.Ok Try.prog (.loop LC) := by
  intro R kv M k r h
  simp only [specC] at h
  split at h
  · rename_i z h1 b q i bt own h0 el1 sh1 t1 o1 hd1 r el sh tr hd L
    simp only [cond_eq_ite, Bool.and_eq_true, decide_eq_true_eq] at h
    split at h
    · rename_i hc
      obtain ⟨⟨⟨⟨⟨⟨⟨⟨⟨⟨⟨rfl, rfl⟩, rfl⟩, rfl⟩, rfl⟩, rfl⟩, rfl⟩, rfl⟩, rfl⟩, rfl⟩, rfl⟩, ⟨hr, hL⟩, hok⟩ := hc
      refine ⟨_, _, _, h, fun f => ?_⟩
      exact CodeOkN.full (loopC z el1 o1 hd1 r hr own hd f L hL hok 0 (Nat.zero_le _)) rfl
    · cases h
  · cases h
def tabF : List (Nat × LSpec) := [(7, specA), (13, specB), (24, specC)]
theorem tabF_ok : ∀ c, Try.f5.body = some c → LoopsOk Try.prog (tabL tabF) c :=
  tab_ok (cs := [.loop LA, .loop LB, .loop LC]) (by kernel_rfl) (by kernel_rfl) ⟨⟨by kernel_rfl, specA_ok⟩, ⟨by kernel_rfl, specB_ok⟩, ⟨by kernel_rfl, specC_ok⟩, trivial⟩
noncomputable def cFr : CallSem := (cX.withLoops (tabL tabF)).withJoin
theorem cFr_sound : cFr.Sound Try.prog := CallSem.withJoin_sound (CallSem.withLoops_sound cX_sound _)
theorem cFr_loops : ∀ c, Try.f5.body = some c → LoopsOk Try.prog cFr.loops c := tabF_ok
end Go.Proofs.Yticmpcloehnoaaa
