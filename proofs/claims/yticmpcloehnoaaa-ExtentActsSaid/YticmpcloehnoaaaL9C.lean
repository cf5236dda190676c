/- extent's functions: all, Contains, Used, may, in, New, Copy, same (chapter 9). -/
import Derived.Test.YticmpcloehnoaaaL9B
set_option linter.unusedVariables false
set_option linter.unusedSimpArgs false
namespace Go.Proofs.Yticmpcloehnoaaa
open Go Go.Sx Go.Fx
set_option maxRecDepth 100000
set_option linter.unusedVariables false
set_option linter.unusedSimpArgs false
/-! all -/
theorem loop25 (s n : Nat) (v z own o2 hd : Bool) (L : List AV) (f : Nat → Value) (hn : s + n ≤ L.length) (hL : L.length ≤ 65536) (e0 : Nat) (j : Nat) (hj : s ≤ j ∧ j ≤ s + n ∧ scan L v (s + n - j) j = e0) :
    CodeOkN 1 1 Try.prog (.loop L25) (S25 s n v z own o2 hd L f (j : Nat)) (if e0 = s + n then .exit 0 else .ret) (if e0 = s + n then S25 s n v z own o2 hd L f ((s + n : Nat) : Int) else S25 s n v false own o2 hd L f (e0 : Nat)) := by
  refine loop_ok (fun j : Nat => S25 s n v z own o2 hd L f (j : Nat)) (fun _ => ((if e0 = s + n then .exit 0 else .ret), (if e0 = s + n then S25 s n v z own o2 hd L f ((s + n : Nat) : Int) else S25 s n v false own o2 hd L f (e0 : Nat)))) (fun j => if j < s + n ∧ bA L j = v then some (j + 1) else none)
    (fun j => s + n - j) (fun j => s ≤ j ∧ j ≤ s + n ∧ scan L v (s + n - j) j = e0) ?_ ?_ j hj
  · rintro j ⟨h0, h1, h2⟩ hnx
    refine ⟨fun e => by by_cases q : e0 = s + n <;> simp [q] at e, ?_⟩
    by_cases hb : j < s + n
    · have hne : ¬ bA L j = v := fun hh => by simp [hb, hh] at hnx
      have : e0 = j := by
        rw [← h2, show s + n - j = (s + n - j - 1) + 1 by omega, scan, show (bA L j == v) = false by simpa using hne]; rfl
      subst this
      simp only [show ¬ e0 = s + n by omega, if_false]
      refine turn_ok (n := 1) nilS mixed (LoopsOk.no _ _) rfl rfl ?_
      rw [raw25, wi_s (a := (s : Int) + (n : Int)) (by omega) (by omega), decide_eq_true (by omega), cond_true, ix_in (by omega), show (atB L ((e0 : Nat) : Int) != v) = true by
        show (bA L e0 != v) = true
        simpa using hne, cond_true]
      rfl
    · have : j = s + n := by omega
      subst this
      have : e0 = s + n := by rw [← h2, Nat.sub_self]; rfl
      subst this
      simp only [if_true]
      refine turn_ok (n := 1) nilS mixed (LoopsOk.no _ _) rfl rfl ?_
      rw [raw25, wi_s (a := (s : Int) + (n : Int)) (by omega) (by omega), decide_eq_false (by omega), cond_false]
      rfl
  · rintro j s' ⟨h0, h1, h2⟩ hnx
    by_cases hh : j < s + n ∧ bA L j = v
    · simp only [hh, and_self, if_true, Option.some.injEq] at hnx
      subst hnx
      refine ⟨⟨by omega, by omega, ?_⟩, by omega, rfl, turn_ok (n := 1) nilS mixed (LoopsOk.no _ _) rfl rfl ?_⟩
      · rw [← h2, show s + n - j = (s + n - (j + 1)) + 1 by omega, scan, hh.2, beq_self_eq_true, cond_true]
      · rw [raw25, wi_s (a := (s : Int) + (n : Int)) (by omega) (by omega), decide_eq_true (by omega), cond_true, ix_in (by omega), show (atB L ((j : Nat) : Int) != v) = false by
          show (bA L j != v) = false
          simp [hh.2], cond_false, wi_s (by omega) (by omega)]
        rw [show ((j : Nat) : Int) + 1 = ((j + 1 : Nat) : Int) by omega]
        rfl
    · simp [hh] at hnx
def all_L : LSpec where
  n := 27
  nils := []
  keep := k25
  touch := t25
  run kv M k := match kv, M with
    | [.ptr b q, .lit (.int .i64 s), .lit (.int .i64 n), .lit (.bool v), .lit (.bool z), .lit (.int .i64 i)], ⟨[some ⟨bt, own, [.vec h0]⟩], [some ⟨el, false, sh, tr, o2, hd, L⟩]⟩ =>
      bif decide (b = 0) && decide (q = 0) && decide (bt = 53) && decide (h0 = 0) && decide (el = 4) && decide (sh = cB) && decide (tr = 0) && decide (i = s) && okS L s n then
        (bif allN L s.toNat v n.toNat then k (.exit 0) [.ptr 0 0, i64 s, i64 n, bv v, bv z, i64 (s + n)] (mR 53 own o2 hd L) else
          k .ret [.ptr 0 0, i64 s, i64 n, bv v, bv false, i64 (scan L v n.toNat s.toNat : Nat)] (mR 53 own o2 hd L)) else none
    | _, _ => none
theorem all_Lok : all_L.Ok Try.prog (.loop L25) := by
  intro R kv M k r h
  simp only [all_L, okS] at h
  split at h
  · rename_i b q s n v z i bt own h0 el sh tr o2 hd L
    simp only [cond_eq_ite, Bool.and_eq_true, decide_eq_true_eq] at h
    split at h
    · rename_i hc
      obtain ⟨⟨⟨⟨⟨⟨⟨⟨rfl, rfl⟩, rfl⟩, rfl⟩, rfl⟩, rfl⟩, rfl⟩, rfl⟩, ⟨⟨hs, hn⟩, hl⟩, hL⟩ := hc
      have hl := fun f => loop25 i.toNat n.toNat v z own o2 hd L f (by omega) hL (scan L v n.toNat i.toNat) i.toNat ⟨by omega, by omega, by rw [Nat.add_sub_cancel_left]⟩
      rw [show ((i.toNat : Nat) : Int) = i by omega, show ((n.toNat : Nat) : Int) = n by omega] at hl
      unfold allN at h
      simp only [decide_eq_true_eq] at h
      split at h
      · rename_i he
        refine ⟨_, _, _, h, fun f => ?_⟩
        have := hl f
        simp only [he, if_true] at this
        rw [show ((i.toNat + n.toNat : Nat) : Int) = i + n by omega] at this
        exact CodeOkN.full this rfl
      · rename_i he
        refine ⟨_, _, _, h, fun f => ?_⟩
        have := hl f
        simp only [he, if_false] at this
        exact CodeOkN.full this rfl
    · cases h
  · cases h
theorem s25 : Sx.Enters Try.prog 25 Try.f25 := ⟨Try.func25, by kernel_rfl, by kernel_rfl⟩
noncomputable def C25 : CallSem := CallSem.nil.withLoops (one 2 all_L)
theorem C25_sound : C25.Sound Try.prog := CallSem.withLoops_sound nilS _
theorem C25_loops : ∀ c, Try.f25.body = some c → LoopsOk Try.prog C25.loops c := one_ok nodes25 all_Lok
theorem all_eq (own o2 hd : Bool) (L : List AV) (s n : Int) (v : Bool) : fnK C25 Try.prog 2 Try.f25 [.ptr 0 0, i64 s, i64 n, bv v] (mR 53 own o2 hd L) [] =
    bif true && decide (s = s) && okS L s n then (bif allN L s.toNat v n.toNat then some (bv true, mR 53 own o2 hd L) else some (bv false, mR 53 own o2 hd L)) else none := by kernel_rfl
def all_M : MSpec := ⟨[], fun args M k => match args, M with
  | [.ptr b q, .lit (.int .i64 s), .lit (.int .i64 n), .lit (.bool v)], ⟨[some ⟨bt, own, [.vec h0]⟩], [some ⟨el, false, sh, tr, o2, hd, L⟩]⟩ =>
    bif decide (b = 0) && decide (q = 0) && decide (bt = 53) && decide (h0 = 0) && decide (el = 4) && decide (sh = cB) && decide (tr = 0) && okS L s n then k (bv (allN L s.toNat v n.toNat)) (mR 53 own o2 hd L) else none
  | _, _ => none⟩
theorem all_Mok : all_M.Ok Try.prog 25 := by
  intro R args M k r h
  simp only [all_M] at h
  split at h
  · rename_i b q s n v bt own h0 el sh tr o2 hd L
    simp only [cond_eq_ite, Bool.and_eq_true, decide_eq_true_eq] at h
    split at h
    · rename_i hc
      obtain ⟨⟨⟨⟨⟨⟨⟨rfl, rfl⟩, rfl⟩, rfl⟩, rfl⟩, rfl⟩, rfl⟩, hg⟩ := hc
      refine ⟨_, _, h, fn_ok (C := C25) (n := 2) (ts := []) C25_sound mixed s25 C25_loops ((all_eq own o2 hd L s n v).trans ?_) rfl⟩
      rw [hg, decide_eq_true rfl]
      cases allN L s.toNat v n.toNat <;> rfl
    · cases h
  · cases h
/-! Index, Contains -/
theorem loop31 (v : Bool) (z : Int) (o2 hd : Bool) (L : List AV) (f : Nat → Value) (hL : L.length ≤ 65536) (e0 : Nat) (j : Nat) (hj : j ≤ L.length ∧ scan L (!v) (L.length - j) j = e0) :
    CodeOkN 0 1 Try.prog (.loop L31) (S31 v z (L.length : Nat) o2 hd L f (j : Nat)) (if e0 = L.length then .exit 0 else .ret) (if e0 = L.length then S31 v z (L.length : Nat) o2 hd L f ((L.length : Nat) : Int) else S31 v (e0 : Nat) (L.length : Nat) o2 hd L f (e0 : Nat)) := by
  refine loop_ok (fun j : Nat => S31 v z (L.length : Nat) o2 hd L f (j : Nat)) (fun _ => ((if e0 = L.length then .exit 0 else .ret), (if e0 = L.length then S31 v z (L.length : Nat) o2 hd L f ((L.length : Nat) : Int) else S31 v (e0 : Nat) (L.length : Nat) o2 hd L f (e0 : Nat)))) (fun j => if j < L.length ∧ bA L j = !v then some (j + 1) else none)
    (fun j => L.length - j) (fun j => j ≤ L.length ∧ scan L (!v) (L.length - j) j = e0) ?_ ?_ j hj
  · rintro j ⟨h1, h2⟩ hnx
    refine ⟨fun e => by by_cases q : e0 = L.length <;> simp [q] at e, ?_⟩
    by_cases hb : j < L.length
    · have hne : ¬ bA L j = !v := fun hh => by simp [hb, hh] at hnx
      have : e0 = j := by
        rw [← h2, show L.length - j = (L.length - j - 1) + 1 by omega, scan, show (bA L j == !v) = false by simpa using hne]; rfl
      subst this
      simp only [show ¬ e0 = L.length by omega, if_false]
      refine turn_ok (n := 1) nilS mixed (LoopsOk.no _ _) rfl rfl ?_
      rw [raw31, decide_eq_true (by omega), cond_true, ix_in (by omega), show (v == atB L ((e0 : Nat) : Int)) = true by
        show (v == bA L e0) = true
        cases v <;> cases hh : bA L e0 <;> simp_all, cond_true]
      rfl
    · have : j = L.length := by omega
      subst this
      have : e0 = L.length := by rw [← h2, Nat.sub_self]; rfl
      simp only [this, if_true]
      refine turn_ok (n := 1) nilS mixed (LoopsOk.no _ _) rfl rfl ?_
      rw [raw31, decide_eq_false (by omega), cond_false]
      rfl
  · rintro j s' ⟨h1, h2⟩ hnx
    by_cases hh : j < L.length ∧ bA L j = !v
    · simp only [hh, and_self, if_true, Option.some.injEq] at hnx
      subst hnx
      refine ⟨⟨by omega, ?_⟩, by omega, rfl, turn_ok (n := 1) nilS mixed (LoopsOk.no _ _) rfl rfl ?_⟩
      · rw [← h2, show L.length - j = (L.length - (j + 1)) + 1 by omega, scan, hh.2, beq_self_eq_true, cond_true]
      · rw [raw31, decide_eq_true (by omega), cond_true, ix_in (by omega), show (v == atB L ((j : Nat) : Int)) = false by
          show (v == bA L j) = false
          rw [hh.2]; cases v <;> rfl, cond_false, wi_s (by omega) (by omega)]
        rw [show ((j : Nat) : Int) + 1 = ((j + 1 : Nat) : Int) by omega]
        rfl
    · simp [hh] at hnx
def idx_L : LSpec where
  n := 19
  nils := [⟨0, 4, false, cB⟩]
  keep := k31
  touch := t31
  run kv M k := match kv, M with
    | [.vec h0, .lit (.bool v), .lit (.int .i64 z), .lit (.int .i64 n), .lit (.int .i64 i)], ⟨[], [some ⟨el, false, sh, tr, o2, hd, L⟩]⟩ =>
      bif decide (h0 = 0) && decide (el = 4) && decide (sh = cB) && decide (tr = 0) && decide (i = 0) && decide (n = (L.length : Int)) && decide (L.length ≤ 65536) then
        (bif allN L 0 (!v) L.length then k (.exit 0) [.vec 0, bv v, i64 z, i64 n, i64 n] (rB o2 hd L) else
          k .ret [.vec 0, bv v, i64 (scan L (!v) L.length 0 : Nat), i64 n, i64 (scan L (!v) L.length 0 : Nat)] (rB o2 hd L)) else none
    | _, _ => none
theorem idx_Lok : idx_L.Ok Try.prog (.loop L31) := by
  intro R kv M k r h
  simp only [idx_L] at h
  split at h
  · rename_i h0 v z n i el sh tr o2 hd L
    simp only [cond_eq_ite, Bool.and_eq_true, decide_eq_true_eq] at h
    split at h
    · rename_i hc
      obtain ⟨⟨⟨⟨⟨⟨rfl, rfl⟩, rfl⟩, rfl⟩, rfl⟩, rfl⟩, hL⟩ := hc
      have hl := fun f => loop31 v z o2 hd L f hL (scan L (!v) L.length 0) 0 ⟨by omega, rfl⟩
      unfold allN at h
      simp only [decide_eq_true_eq, Nat.zero_add] at h
      split at h
      · rename_i he
        refine ⟨_, _, _, h, fun f => ?_⟩
        have := hl f
        simp only [he, if_true] at this
        exact CodeOkN.full this rfl
      · rename_i he
        refine ⟨_, _, _, h, fun f => ?_⟩
        have := hl f
        simp only [he, if_false] at this
        exact CodeOkN.full this rfl
    · cases h
  · cases h
theorem s31 : Sx.Enters Try.prog 31 Try.f31 := ⟨Try.func31, by kernel_rfl, by kernel_rfl⟩
theorem s28 : Sx.Enters Try.prog 28 Try.f28 := ⟨Try.func28, by kernel_rfl, by kernel_rfl⟩
noncomputable def C31 : CallSem := CallSem.nil.withLoops (one 2 idx_L)
theorem C31_sound : C31.Sound Try.prog := CallSem.withLoops_sound nilS _
theorem C31_loops : ∀ c, Try.f31.body = some c → LoopsOk Try.prog C31.loops c := one_ok nodes31 idx_Lok
theorem idx_eq (o2 hd : Bool) (L : List AV) (v : Bool) : fnK C31 Try.prog 2 Try.f31 [.vec 0, bv v] (rB o2 hd L) [] =
    bif true && decide ((L.length : Int) = (L.length : Int)) && decide (L.length ≤ 65536) then (bif allN L 0 (!v) L.length then some (i64 (-1), rB o2 hd L) else some (i64 (scan L (!v) L.length 0 : Nat), rB o2 hd L)) else none := by kernel_rfl
def idxV (L : List AV) (v : Bool) : Int := bif allN L 0 (!v) L.length then -1 else (scan L (!v) L.length 0 : Nat)
def idx_M : MSpec := ⟨[⟨0, 4, false, cB⟩], fun args M k => match args, M with
  | [.vec h0, .lit (.bool v)], ⟨[], [some ⟨el, false, sh, tr, o2, hd, L⟩]⟩ =>
    bif decide (h0 = 0) && decide (el = 4) && decide (sh = cB) && decide (tr = 0) && decide (L.length ≤ 65536) then k (i64 (idxV L v)) (rB o2 hd L) else none
  | _, _ => none⟩
theorem idx_Mok : idx_M.Ok Try.prog 31 := by
  intro R args M k r h
  simp only [idx_M] at h
  split at h
  · rename_i h0 v el sh tr o2 hd L
    simp only [cond_eq_ite, Bool.and_eq_true, decide_eq_true_eq] at h
    split at h
    · rename_i hc
      obtain ⟨⟨⟨⟨rfl, rfl⟩, rfl⟩, rfl⟩, hg⟩ := hc
      refine ⟨_, _, h, fn_ok (C := C31) (n := 2) (ts := []) C31_sound mixed s31 C31_loops ((idx_eq o2 hd L v).trans ?_) rfl⟩
      rw [decide_eq_true hg, decide_eq_true rfl]
      unfold idxV
      cases allN L 0 (!v) L.length <;> rfl
    · cases h
  · cases h
noncomputable def C28 : CallSem := CallSem.nil.withRead 31 idx_M
theorem C28_sound : C28.Sound Try.prog := CallSem.withRead_sound nilS idx_Mok
theorem has_eq (o2 hd : Bool) (L : List AV) (v : Bool) : fnK C28 Try.prog 2 Try.f28 [.vec 0, bv v] (rB o2 hd L) [] =
    bif true && decide (L.length ≤ 65536) then some (bv (decide (idxV L v ≥ 0)), rB o2 hd L) else none := by kernel_rfl
def has_M : MSpec := ⟨[⟨0, 4, false, cB⟩], fun args M k => match args, M with
  | [.vec h0, .lit (.bool v)], ⟨[], [some ⟨el, false, sh, tr, o2, hd, L⟩]⟩ =>
    bif decide (h0 = 0) && decide (el = 4) && decide (sh = cB) && decide (tr = 0) && decide (L.length ≤ 65536) then k (bv (!allN L 0 (!v) L.length)) (rB o2 hd L) else none
  | _, _ => none⟩
theorem has_Mok : has_M.Ok Try.prog 28 := by
  intro R args M k r h
  simp only [has_M] at h
  split at h
  · rename_i h0 v el sh tr o2 hd L
    simp only [cond_eq_ite, Bool.and_eq_true, decide_eq_true_eq] at h
    split at h
    · rename_i hc
      obtain ⟨⟨⟨⟨rfl, rfl⟩, rfl⟩, rfl⟩, hg⟩ := hc
      refine ⟨_, _, h, fn_ok (C := C28) (n := 2) (ts := []) C28_sound mixed s28 (fun _ _ => LoopsOk.no _ _) ((has_eq o2 hd L v).trans ?_) rfl⟩
      rw [decide_eq_true hg]
      have : decide (idxV L v ≥ 0) = !allN L 0 (!v) L.length := by
        unfold idxV
        cases allN L 0 (!v) L.length
        · rw [cond_false, decide_eq_true (by omega)]; rfl
        · rfl
      rw [this]; rfl
    · cases h
  · cases h
end Go.Proofs.Yticmpcloehnoaaa
