/- extent's functions: may, in, New, Copy, Claim, Give (chapter 9). -/
import Derived.Test.YticmpcloehnoaaaL9D
set_option linter.unusedVariables false
set_option linter.unusedSimpArgs false
namespace Go.Proofs.Yticmpcloehnoaaa
open Go Go.Sx Go.Fx
set_option maxRecDepth 100000
set_option linter.unusedVariables false
set_option linter.unusedSimpArgs false
def mayB (L : List AV) (s n : Int) : Bool := decide (1 ≤ n) && decide (0 ≤ s) && decide (s + n ≤ (L.length : Int))
theorem mayR_eq {L : List AV} (hL : L.length ≤ 65536) (s n : Int) : mayR L s n = mayB L s n := by
  unfold mayR mayB
  simp only [ge_iff_le]
  by_cases h1 : 1 ≤ n
  · by_cases h2 : 0 ≤ s
    · rw [decide_eq_true h1, decide_eq_true h2]
      by_cases h3 : s < (L.length : Int)
      · rw [decide_eq_true h3, wi_s (by omega) (by omega)]
        simp only [cond_true, Bool.and_self, Bool.true_and]
        by_cases h4 : s + n ≤ (L.length : Int)
        · rw [decide_eq_true h4, decide_eq_true (by omega)]
        · rw [decide_eq_false h4, decide_eq_false (by omega)]
      · rw [decide_eq_false h3, decide_eq_false (show ¬ s + n ≤ (L.length : Int) by omega)]; rfl
    · rw [decide_eq_false h2]; cases decide (1 ≤ n) <;> simp
  · rw [decide_eq_false h1]; simp
theorem inR_eq {L : List AV} (hL : L.length ≤ 65536) (s n : Int) : inR L s n = mayB L s n := by
  unfold inR mayB
  simp only [ge_iff_le]
  by_cases h1 : 1 ≤ n
  · by_cases h2 : 0 ≤ s
    · rw [decide_eq_true h1, decide_eq_true h2]
      by_cases h3 : s ≤ (L.length : Int)
      · rw [decide_eq_true h3, wi_s (by omega) (by omega)]
        simp only [cond_true, Bool.and_self, Bool.true_and]
        by_cases h4 : s + n ≤ (L.length : Int)
        · rw [decide_eq_true h4, decide_eq_true (by omega)]
        · rw [decide_eq_false h4, decide_eq_false (by omega)]
      · rw [decide_eq_false h3, decide_eq_false (show ¬ s + n ≤ (L.length : Int) by omega)]; rfl
    · rw [decide_eq_false h2]; cases decide (1 ≤ n) <;> simp
  · rw [decide_eq_false h1]; simp
def may_M : MSpec := ⟨[], fun args M k => match args, M with
  | [.lit (.pointer none), .lit (.int .i64 s), .lit (.int .i64 n)], ⟨[], []⟩ => k (bv false) ⟨[], []⟩
  | [.ptr b q, .lit (.int .i64 s), .lit (.int .i64 n)], ⟨[some ⟨bt, own, [.vec h0]⟩], [some ⟨el, false, sh, tr, o2, hd, L⟩]⟩ =>
    bif decide (b = 0) && decide (q = 0) && decide (bt = 51) && decide (h0 = 0) && decide (el = 4) && decide (sh = cB) && decide (tr = 0) && decide (L.length ≤ 65536) then k (bv (mayB L s n)) (mR 51 own o2 hd L) else none
  | _, _ => none⟩
theorem may_Mok : may_M.Ok Try.prog 27 := by
  intro R args M k r h
  simp only [may_M] at h
  split at h
  · exact ⟨_, _, h, fn_ok (n := 5) (ts := []) nilS mixed s27 (fun _ _ => LoopsOk.no _ _) (may_nil _ _) rfl⟩
  · rename_i b q s n bt own h0 el sh tr o2 hd L
    simp only [cond_eq_ite, Bool.and_eq_true, decide_eq_true_eq] at h
    split at h
    · rename_i hc
      obtain ⟨⟨⟨⟨⟨⟨⟨rfl, rfl⟩, rfl⟩, rfl⟩, rfl⟩, rfl⟩, rfl⟩, hg⟩ := hc
      exact ⟨_, _, h, fn_ok (n := 5) (ts := []) jS mixed s27 (fun _ _ => LoopsOk.no _ _) ((may_raw own o2 hd L s n).trans (by rw [mayR_eq hg])) rfl⟩
    · cases h
  · cases h
def in_M : MSpec := ⟨[], fun args M k => match args, M with
  | [.ptr b q, .lit (.int .i64 s), .lit (.int .i64 n)], ⟨[some ⟨bt, own, [.vec h0]⟩], [some ⟨el, false, sh, tr, o2, hd, L⟩]⟩ =>
    bif decide (b = 0) && decide (q = 0) && decide (bt = 53) && decide (h0 = 0) && decide (el = 4) && decide (sh = cB) && decide (tr = 0) && decide (L.length ≤ 65536) then k (bv (mayB L s n)) (mR 53 own o2 hd L) else none
  | _, _ => none⟩
theorem in_Mok : in_M.Ok Try.prog 24 := by
  intro R args M k r h
  simp only [in_M] at h
  split at h
  · rename_i b q s n bt own h0 el sh tr o2 hd L
    simp only [cond_eq_ite, Bool.and_eq_true, decide_eq_true_eq] at h
    split at h
    · rename_i hc
      obtain ⟨⟨⟨⟨⟨⟨⟨rfl, rfl⟩, rfl⟩, rfl⟩, rfl⟩, rfl⟩, rfl⟩, hg⟩ := hc
      exact ⟨_, _, h, fn_ok (n := 5) (ts := []) jS mixed s24 (fun _ _ => LoopsOk.no _ _) ((in_raw own o2 hd L s n).trans (by rw [inR_eq hg])) rfl⟩
    · cases h
  · cases h
/-! New -/
def nB (n : Int) : Bool := decide (1 ≤ n) && decide (n ≤ 2048)
theorem new_eq (n : Int) : fnK CallSem.nil.withJoin Try.prog 5 Try.f7 [i64 n] ⟨[], []⟩ [] = bif nB n then some (.tup [.ptr 0 0, i64 0], mW 51 true true (emp n)) else some (.tup [nilp, i64 1], ⟨[], []⟩) := by
  rw [new_raw]
  unfold nB
  by_cases h1 : 1 ≤ n
  · by_cases h2 : n ≤ 2048
    · rw [decide_eq_true h1, decide_eq_true h2, decide_eq_false (show ¬ n < 1 by omega), decide_eq_false (show ¬ n > 2048 by omega), decide_eq_true (show 0 ≤ n by omega), decide_eq_true (show n ≤ 65536 by omega)]; rfl
    · rw [decide_eq_false h2, decide_eq_true (show n > 2048 by omega)]; cases decide (n < 1) <;> simp
  · rw [decide_eq_false h1, decide_eq_true (show n < 1 by omega)]; rfl
theorem rnew_eq (n : Int) : fnK CallSem.nil.withJoin Try.prog 5 Try.f8 [i64 n] ⟨[], []⟩ [] = bif nB n then some (.ptr 0 0, mW 53 true true (emp n)) else some (nilp, ⟨[], []⟩) := by
  rw [rnew_raw]
  unfold nB
  by_cases h1 : 1 ≤ n
  · by_cases h2 : n ≤ 2048
    · rw [decide_eq_true h1, decide_eq_true h2, decide_eq_false (show ¬ n < 1 by omega), decide_eq_false (show ¬ n > 2048 by omega), decide_eq_true (show 0 ≤ n by omega), decide_eq_true (show n ≤ 65536 by omega)]; rfl
    · rw [decide_eq_false h2, decide_eq_true (show n > 2048 by omega)]; cases decide (n < 1) <;> simp
  · rw [decide_eq_false h1, decide_eq_true (show n < 1 by omega)]; rfl
def new_M : MSpec := ⟨[], fun args M k => match args, M with
  | [.lit (.int .i64 n)], ⟨[], []⟩ => bif nB n then k (.tup [.ptr 0 0, i64 0]) (mW 51 true true (emp n)) else k (.tup [nilp, i64 1]) ⟨[], []⟩
  | _, _ => none⟩
theorem new_Mok : new_M.Ok Try.prog 7 := by
  intro R args M k r h
  simp only [new_M] at h
  split at h
  · rename_i n
    have e := new_eq n
    cases hn : nB n
    · rw [hn] at h e
      exact ⟨_, _, h, fn_ok (n := 5) (ts := []) jS mixed s7 (fun _ _ => LoopsOk.no _ _) e (by kernel_rfl)⟩
    · rw [hn] at h e
      exact ⟨_, _, h, fn_ok (n := 5) (ts := []) jS mixed s7 (fun _ _ => LoopsOk.no _ _) e (by kernel_rfl)⟩
  · cases h
def rnew_M : MSpec := ⟨[], fun args M k => match args, M with
  | [.lit (.int .i64 n)], ⟨[], []⟩ => bif nB n then k (.ptr 0 0) (mW 53 true true (emp n)) else k nilp ⟨[], []⟩
  | _, _ => none⟩
theorem rnew_Mok : rnew_M.Ok Try.prog 8 := by
  intro R args M k r h
  simp only [rnew_M] at h
  split at h
  · rename_i n
    have e := rnew_eq n
    cases hn : nB n
    · rw [hn] at h e
      exact ⟨_, _, h, fn_ok (n := 5) (ts := []) jS mixed s8 (fun _ _ => LoopsOk.no _ _) e (by kernel_rfl)⟩
    · rw [hn] at h e
      exact ⟨_, _, h, fn_ok (n := 5) (ts := []) jS mixed s8 (fun _ _ => LoopsOk.no _ _) e (by kernel_rfl)⟩
  · cases h
/-! Copy -/
theorem s29 : Sx.Enters Try.prog 29 Try.f29 := ⟨Try.func29, by kernel_rfl, by kernel_rfl⟩
theorem s20 : Sx.Enters Try.prog 20 Try.f20 := ⟨Try.func20, by kernel_rfl, by kernel_rfl⟩
noncomputable def C20 : CallSem := CallSem.nil.withBody Try.prog 5 29 Try.f29 false
theorem C20_sound : C20.Sound Try.prog := CallSem.withBody_sound nilS mixed 5 s29 false
abbrev mC (own o2 hd : Bool) (L : List AV) : Mem := ⟨[some ⟨51, own, [.vec 0]⟩, some ⟨51, true, [.vec 1]⟩], [some ⟨4, false, cB, 0, o2, hd, L⟩, some ⟨4, false, cB, 1, true, true, L⟩]⟩
theorem copy_raw (own o2 hd : Bool) (L : List AV) : fnK C20 Try.prog 5 Try.f20 [.ptr 0 0] (mR 51 own o2 hd L) [] =
    bif decide (0 < L.length) then (bif true && decide (0 + L.length ≤ 65536) && true then some (.ptr 1 0, mC own o2 hd L) else none) else none := by kernel_rfl
theorem copy_nil : fnK C20 Try.prog 5 Try.f20 [nilp] ⟨[], []⟩ [] = some (nilp, ⟨[], []⟩) := by kernel_rfl
def copy_M : MSpec := ⟨[], fun args M k => match args, M with
  | [.lit (.pointer none)], ⟨[], []⟩ => k nilp ⟨[], []⟩
  | [.ptr b q], ⟨[some ⟨bt, own, [.vec h0]⟩], [some ⟨el, false, sh, tr, o2, hd, L⟩]⟩ =>
    bif decide (b = 0) && decide (q = 0) && decide (bt = 51) && decide (h0 = 0) && decide (el = 4) && decide (sh = cB) && decide (tr = 0) && (decide (0 < L.length) && decide (L.length ≤ 65536)) then k (.ptr 1 0) (mC own o2 hd L) else none
  | _, _ => none⟩
theorem copy_Mok : copy_M.Ok Try.prog 20 := by
  intro R args M k r h
  simp only [copy_M] at h
  split at h
  · exact ⟨_, _, h, fn_ok (n := 5) (ts := []) C20_sound mixed s20 (fun _ _ => LoopsOk.no _ _) copy_nil rfl⟩
  · rename_i b q bt own h0 el sh tr o2 hd L
    simp only [cond_eq_ite, Bool.and_eq_true, decide_eq_true_eq] at h
    split at h
    · rename_i hc
      obtain ⟨⟨⟨⟨⟨⟨⟨rfl, rfl⟩, rfl⟩, rfl⟩, rfl⟩, rfl⟩, rfl⟩, hg, hg'⟩ := hc
      exact ⟨_, _, h, fn_ok (n := 5) (ts := []) C20_sound mixed s20 (fun _ _ => LoopsOk.no _ _) ((copy_raw own o2 hd L).trans (by rw [decide_eq_true hg, decide_eq_true (by omega)]; rfl)) rfl⟩
    · cases h
  · cases h
/-! Claim, Give -/
theorem s11 : Sx.Enters Try.prog 11 Try.f11 := ⟨Try.func11, by kernel_rfl, by kernel_rfl⟩
theorem s12 : Sx.Enters Try.prog 12 Try.f12 := ⟨Try.func12, by kernel_rfl, by kernel_rfl⟩
theorem s13 : Sx.Enters Try.prog 13 Try.f13 := ⟨Try.func13, by kernel_rfl, by kernel_rfl⟩
theorem s14 : Sx.Enters Try.prog 14 Try.f14 := ⟨Try.func14, by kernel_rfl, by kernel_rfl⟩
noncomputable def CP : CallSem := ((CallSem.nil.withRead 27 may_M).withRead 28 has_M).withMem 23 set_M
theorem CP_sound : CP.Sound Try.prog := CallSem.withMem_sound (CallSem.withRead_sound (CallSem.withRead_sound nilS may_Mok) has_Mok) set_Mok
noncomputable def CF : CallSem := ((CallSem.nil.withRead 24 in_M).withRead 25 all_M).withMem 26 mark_M
theorem CF_sound : CF.Sound Try.prog := CallSem.withMem_sound (CallSem.withRead_sound (CallSem.withRead_sound nilS in_Mok) all_Mok) mark_Mok
/-- both: errno, and the row -/
def turnE (L : List AV) (s n : Int) (v : Bool) (c : Int) : Int := bif mayB L s n then (bif allN L s.toNat v n.toNat then 0 else c) else 1
def turnL (L : List AV) (s n : Int) (v : Bool) : List AV := bif mayB L s n && allN L s.toNat v n.toNat then setN L s.toNat (!v) n.toNat else L
theorem rclaim_raw (own hd : Bool) (L : List AV) (s n : Int) : fnK CF Try.prog 5 Try.f12 [.ptr 0 0, i64 s, i64 n] (mW 53 own hd L) [] =
    (bif true && decide (L.length ≤ 65536) then (bif !mayB L s n then some (i64 1, mW 53 own hd L) else bif true && okS L s n then (bif !allN L s.toNat false n.toNat then some (i64 5, mW 53 own hd L) else bif true && okS L s n then some (i64 0, mW 53 own hd (setN L s.toNat true n.toNat)) else none) else none) else none) := by kernel_rfl
theorem rgive_raw (own hd : Bool) (L : List AV) (s n : Int) : fnK CF Try.prog 5 Try.f14 [.ptr 0 0, i64 s, i64 n] (mW 53 own hd L) [] =
    (bif true && decide (L.length ≤ 65536) then (bif !mayB L s n then some (i64 1, mW 53 own hd L) else bif true && okS L s n then (bif !allN L s.toNat true n.toNat then some (i64 4, mW 53 own hd L) else bif true && okS L s n then some (i64 0, mW 53 own hd (setN L s.toNat false n.toNat)) else none) else none) else none) := by kernel_rfl
def cutL (L : List AV) (s n : Int) : List AV := cutC (some (i64 (wi (s + n)))) (wi (s + n)).toNat s.toNat L
theorem claim_raw (own hd : Bool) (L : List AV) (s n : Int) : fnK CP Try.prog 5 Try.f11 [.ptr 0 0, i64 s, i64 n] (mW 51 own hd L) [] =
    (bif true && decide (L.length ≤ 65536) then (bif !mayB L s n then some (i64 1, mW 51 own hd L) else
      if 0 ≤ wi (s + n) ∧ wi (s + n) ≤ (L.length : Int) then (if 0 ≤ s ∧ s ≤ ((wi (s + n)).toNat : Int) then (bif true && decide ((cutL L s n).length ≤ 65536) then (bif !allN (cutL L s n) 0 false (cutL L s n).length then some (i64 5, mW 51 own hd L) else
        bif true && okS L s n then some (i64 0, mW 51 own hd (setN L s.toNat true n.toNat)) else none) else none) else none) else none) else none) := by kernel_rfl
theorem give_raw (own hd : Bool) (L : List AV) (s n : Int) : fnK CP Try.prog 5 Try.f13 [.ptr 0 0, i64 s, i64 n] (mW 51 own hd L) [] =
    (bif true && decide (L.length ≤ 65536) then (bif !mayB L s n then some (i64 1, mW 51 own hd L) else
      if 0 ≤ wi (s + n) ∧ wi (s + n) ≤ (L.length : Int) then (if 0 ≤ s ∧ s ≤ ((wi (s + n)).toNat : Int) then (bif true && decide ((cutL L s n).length ≤ 65536) then (bif !allN (cutL L s n) 0 true (cutL L s n).length then some (i64 4, mW 51 own hd L) else
        bif true && okS L s n then some (i64 0, mW 51 own hd (setN L s.toNat false n.toNat)) else none) else none) else none) else none) else none) := by kernel_rfl
theorem claim_nil (s n : Int) : fnK CP Try.prog 5 Try.f11 [nilp, i64 s, i64 n] ⟨[], []⟩ [] = some (i64 1, ⟨[], []⟩) := by kernel_rfl
theorem bA_cut (L : List AV) (s n j : Nat) (h : j < n) : bA ((L.take (s + n)).drop s) j = bA L (s + j) := by
  unfold bA atB
  simp only [Int.toNat_natCast, List.getD, List.getElem?_drop, List.getElem?_take]
  rw [if_pos (by omega)]
theorem all_cut {L : List AV} {s n : Int} (v : Bool) (hm : mayB L s n = true) (hL : L.length ≤ 65536) : allN (cutL L s n) 0 v (cutL L s n).length = allN L s.toNat v n.toNat ∧ (cutL L s n).length ≤ 65536 := by
  simp only [mayB, Bool.and_eq_true, decide_eq_true_eq] at hm
  obtain ⟨⟨h1, h2⟩, h3⟩ := hm
  have e : cutL L s n = (L.take (s.toNat + n.toNat)).drop s.toNat := by
    unfold cutL
    rw [wi_s (by omega) (by omega), show (s + n).toNat = s.toNat + n.toNat by omega]; rfl
  have hl : (cutL L s n).length = n.toNat := by rw [e, List.length_drop, List.length_take]; omega
  refine ⟨?_, by rw [hl]; omega⟩
  rw [hl, e]
  rw [Bool.eq_iff_iff, allN_iff, allN_iff]
  constructor
  · intro h j g1 g2
    have := h (j - s.toNat) (Nat.zero_le _) (by omega)
    rwa [bA_cut _ _ _ _ (by omega), show s.toNat + (j - s.toNat) = j by omega] at this
  · intro h j g1 g2
    rw [bA_cut _ _ _ _ (by omega)]
    exact h _ (by omega) (by omega)
theorem okS_may {L : List AV} {s n : Int} (hm : mayB L s n = true) (hL : L.length ≤ 65536) : okS L s n = true := by
  simp only [mayB, Bool.and_eq_true, decide_eq_true_eq] at hm
  unfold okS
  rw [decide_eq_true (by omega), decide_eq_true (by omega), decide_eq_true (by omega), decide_eq_true hL]; rfl
theorem claim_eq (own hd : Bool) {L : List AV} (hL : L.length ≤ 65536) (s n : Int) : fnK CP Try.prog 5 Try.f11 [.ptr 0 0, i64 s, i64 n] (mW 51 own hd L) [] = some (i64 (turnE L s n false 5), mW 51 own hd (turnL L s n false)) := by
  rw [claim_raw, decide_eq_true hL]
  unfold turnE turnL
  cases hm : mayB L s n
  · rfl
  · have ha := all_cut false hm hL
    have ho := okS_may hm hL
    rw [ha.1, decide_eq_true ha.2, ho]
    simp only [mayB, Bool.and_eq_true, decide_eq_true_eq] at hm
    rw [wi_s (by omega) (by omega), if_pos (by omega), if_pos (by omega)]
    cases allN L s.toNat false n.toNat <;> rfl
theorem give_eq (own hd : Bool) {L : List AV} (hL : L.length ≤ 65536) (s n : Int) : fnK CP Try.prog 5 Try.f13 [.ptr 0 0, i64 s, i64 n] (mW 51 own hd L) [] = some (i64 (turnE L s n true 4), mW 51 own hd (turnL L s n true)) := by
  rw [give_raw, decide_eq_true hL]
  unfold turnE turnL
  cases hm : mayB L s n
  · rfl
  · have ha := all_cut true hm hL
    have ho := okS_may hm hL
    rw [ha.1, decide_eq_true ha.2, ho]
    simp only [mayB, Bool.and_eq_true, decide_eq_true_eq] at hm
    rw [wi_s (by omega) (by omega), if_pos (by omega), if_pos (by omega)]
    cases allN L s.toNat true n.toNat <;> rfl
theorem rclaim_eq (own hd : Bool) {L : List AV} (hL : L.length ≤ 65536) (s n : Int) : fnK CF Try.prog 5 Try.f12 [.ptr 0 0, i64 s, i64 n] (mW 53 own hd L) [] = some (i64 (turnE L s n false 5), mW 53 own hd (turnL L s n false)) := by
  rw [rclaim_raw, decide_eq_true hL]
  unfold turnE turnL
  cases hm : mayB L s n
  · rfl
  · rw [okS_may hm hL]
    cases allN L s.toNat false n.toNat <;> rfl
theorem rgive_eq (own hd : Bool) {L : List AV} (hL : L.length ≤ 65536) (s n : Int) : fnK CF Try.prog 5 Try.f14 [.ptr 0 0, i64 s, i64 n] (mW 53 own hd L) [] = some (i64 (turnE L s n true 4), mW 53 own hd (turnL L s n true)) := by
  rw [rgive_raw, decide_eq_true hL]
  unfold turnE turnL
  cases hm : mayB L s n
  · rfl
  · rw [okS_may hm hL]
    cases allN L s.toNat true n.toNat <;> rfl
def turn_M (bt : TypeId) (v : Bool) (c : Int) : MSpec := ⟨[], fun args M k => match args, M with
  | [.lit (.pointer none), .lit (.int .i64 s), .lit (.int .i64 n)], ⟨[], []⟩ => bif decide (bt = 51) && !v then k (i64 1) ⟨[], []⟩ else none
  | [.ptr b q, .lit (.int .i64 s), .lit (.int .i64 n)], ⟨[some ⟨bt', own, [.vec h0]⟩], [some ⟨el, false, sh, tr, true, hd, L⟩]⟩ =>
    bif decide (b = 0) && decide (q = 0) && decide (bt' = bt) && decide (h0 = 0) && decide (el = 4) && decide (sh = cB) && decide (tr = 0) && decide (L.length ≤ 65536) then k (i64 (turnE L s n v c)) (mW bt own hd (turnL L s n v)) else none
  | _, _ => none⟩
theorem turn_Mok {bt : TypeId} {v : Bool} {c : Int} {C : CallSem} (hC : C.Sound Try.prog) {f : FuncId} {fn : Func} (hf : Sx.Enters Try.prog f fn) (hls : ∀ c, fn.body = some c → LoopsOk Try.prog C.loops c)
    (hN : (decide (bt = 51) && !v) = true → ∀ s n, fnK C Try.prog 5 fn [nilp, i64 s, i64 n] ⟨[], []⟩ [] = some (i64 1, ⟨[], []⟩))
    (he : ∀ (own hd : Bool) {L : List AV}, L.length ≤ 65536 → ∀ s n : Int, fnK C Try.prog 5 fn [.ptr 0 0, i64 s, i64 n] (mW bt own hd L) [] = some (i64 (turnE L s n v c), mW bt own hd (turnL L s n v))) : (turn_M bt v c).Ok Try.prog f := by
  intro R args M k r h
  simp only [turn_M] at h
  split at h
  · simp only [cond_eq_ite] at h
    split at h
    · rename_i hc
      exact ⟨_, _, h, fn_ok (n := 5) (ts := []) hC mixed hf hls (hN hc _ _) rfl⟩
    · cases h
  · rename_i b q s n bt' own h0 el sh tr hd L
    simp only [cond_eq_ite, Bool.and_eq_true, decide_eq_true_eq] at h
    split at h
    · rename_i hc
      obtain ⟨⟨⟨⟨⟨⟨⟨rfl, rfl⟩, rfl⟩, rfl⟩, rfl⟩, rfl⟩, rfl⟩, hg⟩ := hc
      exact ⟨_, _, h, fn_ok (n := 5) (ts := []) hC mixed hf hls (he own hd hg s n) rfl⟩
    · cases h
  · cases h
theorem claim_Mok : (turn_M 51 false 5).Ok Try.prog 11 := turn_Mok CP_sound s11 (fun _ _ => LoopsOk.no _ _) (fun _ s n => claim_nil s n) fun own hd _ hL s n => claim_eq own hd hL s n
theorem give_Mok : (turn_M 51 true 4).Ok Try.prog 13 := turn_Mok CP_sound s13 (fun _ _ => LoopsOk.no _ _) (fun h => by cases h) fun own hd _ hL s n => give_eq own hd hL s n
theorem rclaim_Mok : (turn_M 53 false 5).Ok Try.prog 12 := turn_Mok CF_sound s12 (fun _ _ => LoopsOk.no _ _) (fun h => by cases h) fun own hd _ hL s n => rclaim_eq own hd hL s n
theorem rgive_Mok : (turn_M 53 true 4).Ok Try.prog 14 := turn_Mok CF_sound s14 (fun _ _ => LoopsOk.no _ _) (fun h => by cases h) fun own hd _ hL s n => rgive_eq own hd hL s n
end Go.Proofs.Yticmpcloehnoaaa
