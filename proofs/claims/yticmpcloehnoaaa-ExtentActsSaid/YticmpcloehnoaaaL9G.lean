/- the document's Take and Free: what they do (chapter 9). -/
import Derived.Test.YticmpcloehnoaaaL9F
import Derived.Test.YticmpcloehnoaaaExtB
set_option linter.unusedVariables false
set_option linter.unusedSimpArgs false
namespace Go.Proofs.Yticmpcloehnoaaa
open Go Go.Sx Go.Fx
set_option maxRecDepth 100000
set_option linter.unusedVariables false
set_option linter.unusedSimpArgs false
theorem may_nat {L : List AV} {s n : Nat} (hn : 1 ≤ n) : mayB L s n = decide (s + n ≤ L.length) := by
  unfold mayB
  rw [decide_eq_true (by omega), decide_eq_true (by omega)]
  simp only [Bool.true_and]
  by_cases h : s + n ≤ L.length
  · rw [decide_eq_true h, decide_eq_true (by omega)]
  · rw [decide_eq_false h, decide_eq_false (by omega)]
theorem okS_nat {L : List AV} {s n : Nat} (h : s + n ≤ L.length) (hL : L.length ≤ 65536) : okS L s n = true := by
  unfold okS
  rw [decide_eq_true (by omega), decide_eq_true (by omega), decide_eq_true (by omega), decide_eq_true hL]; rfl
theorem loop10 (n : Nat) (hn : 1 ≤ n) (z4 z5 : Int) (own hd : Bool) (L : List AV) (f : Nat → Value) (hL : L.length ≤ 65536) (r : Option Nat) (j : Nat) (hj : j ≤ L.length + 1 - n ∧ fitF L n (L.length + 1 - j) j = r) :
    CodeOkN 1 1 Try.prog (.loop L10) (S10 n z4 z5 own hd L f (j : Nat)) (optK r (fun _ => .ret) (.exit 0)) (optK r (fun s => S10 n s 0 own hd (setN L s true n) f (s : Nat)) (S10 n z4 z5 own hd L f ((L.length + 1 - n : Nat) : Int))) := by
  refine loop_ok (fun j : Nat => S10 n z4 z5 own hd L f (j : Nat)) (fun _ => ((optK r (fun _ => .ret) (.exit 0)), (optK r (fun s => S10 n s 0 own hd (setN L s true n) f (s : Nat)) (S10 n z4 z5 own hd L f ((L.length + 1 - n : Nat) : Int))))) (fun j => if j + n ≤ L.length ∧ allN L j false n = false then some (j + 1) else none)
    (fun j => L.length + 1 - j) (fun j => j ≤ L.length + 1 - n ∧ fitF L n (L.length + 1 - j) j = r) ?_ ?_ j hj
  · rintro j ⟨h1, h2⟩ hnx
    refine ⟨fun e => by cases r <;> simp [optK] at e, ?_⟩
    have hj1 : j ≤ L.length + 1 := by omega
    by_cases hb : j + n ≤ L.length
    · have ha : allN L j false n = true := by
        cases h : allN L j false n
        · simp [hb, h] at hnx
        · rfl
      have : r = some j := by
        rw [← h2, show L.length + 1 - j = (L.length - j) + 1 by omega, fitF, decide_eq_true hb, ha]; rfl
      subst this
      refine turn_ok (n := 1) CF_sound mixed (LoopsOk.no _ _) rfl rfl ?_
      rw [raw10, decide_eq_true hL, may_nat hn, decide_eq_true hb, okS_nat hb hL, Int.toNat_natCast, Int.toNat_natCast, ha]
      rfl
    · have : r = none := by
        rw [← h2]
        cases hq : L.length + 1 - j with
        | zero => rfl
        | succ q => rw [fitF, decide_eq_false hb]; rfl
      subst this
      have hj : j = L.length + 1 - n := by omega
      subst hj
      refine turn_ok (n := 1) CF_sound mixed (LoopsOk.no _ _) rfl rfl ?_
      rw [raw10, decide_eq_true hL, may_nat hn, decide_eq_false hb]
      rfl
  · rintro j s' ⟨h1, h2⟩ hnx
    by_cases hh : j + n ≤ L.length ∧ allN L j false n = false
    · simp only [hh, and_self, if_true, Option.some.injEq] at hnx
      subst hnx
      refine ⟨⟨by omega, ?_⟩, by omega, rfl, turn_ok (n := 1) CF_sound mixed (LoopsOk.no _ _) rfl rfl ?_⟩
      · rw [← h2, show L.length + 1 - j = (L.length + 1 - (j + 1)) + 1 by omega, fitF, decide_eq_true hh.1, hh.2]; rfl
      · rw [raw10, decide_eq_true hL, may_nat hn, decide_eq_true hh.1, okS_nat hh.1 hL, Int.toNat_natCast, Int.toNat_natCast, hh.2, wi_s (by omega) (by omega)]
        rw [show ((j : Nat) : Int) + 1 = ((j + 1 : Nat) : Int) by omega]
        rfl
    · simp [hh] at hnx
def take_L : LSpec where
  n := 24
  nils := []
  keep := k10
  touch := t10
  run kv M k := match kv, M with
    | [.ptr b q, .lit (.int .i64 n), .lit (.int .i64 z4), .lit (.int .i64 z5), .lit (.int .i64 i)], ⟨[some ⟨bt, own, [.vec h0]⟩], [some ⟨el, false, sh, tr, true, hd, L⟩]⟩ =>
      bif decide (b = 0) && decide (q = 0) && decide (bt = 53) && decide (h0 = 0) && decide (el = 4) && decide (sh = cB) && decide (tr = 0) && decide (i = 0) && (decide (1 ≤ n) && decide (L.length ≤ 65536)) then
        optK (fit L n.toNat) (fun s => k .ret [.ptr 0 0, i64 n, i64 (s : Nat), i64 0, i64 (s : Nat)] (mW 53 own hd (setN L s true n.toNat)))
          (k (.exit 0) [.ptr 0 0, i64 n, i64 z4, i64 z5, i64 (L.length + 1 - n.toNat : Nat)] (mW 53 own hd L)) else none
    | _, _ => none
theorem take_Lok : take_L.Ok Try.prog (.loop L10) := by
  intro R kv M k r h
  simp only [take_L] at h
  split at h
  · rename_i b q n z4 z5 i bt own h0 el sh tr hd L
    simp only [cond_eq_ite, Bool.and_eq_true, decide_eq_true_eq] at h
    split at h
    · rename_i hc
      obtain ⟨⟨⟨⟨⟨⟨⟨⟨rfl, rfl⟩, rfl⟩, rfl⟩, rfl⟩, rfl⟩, rfl⟩, rfl⟩, hn, hL⟩ := hc
      have hl := fun f => loop10 n.toNat (by omega) z4 z5 own hd L f hL (fit L n.toNat) 0 ⟨by omega, rfl⟩
      rw [show ((n.toNat : Nat) : Int) = n by omega] at hl
      cases he : fit L n.toNat with
      | none =>
        rw [he] at h
        refine ⟨_, _, _, h, fun f => ?_⟩
        have := hl f
        rw [he] at this
        exact CodeOkN.full this rfl
      | some s =>
        rw [he] at h
        refine ⟨_, _, _, h, fun f => ?_⟩
        have := hl f
        rw [he] at this
        exact CodeOkN.full this rfl
    · cases h
  · cases h
theorem s10 : Sx.Enters Try.prog 10 Try.f10 := ⟨Try.func10, by kernel_rfl, by kernel_rfl⟩
noncomputable def C10 : CallSem := CF.withLoops (one 4 take_L)
theorem C10_sound : C10.Sound Try.prog := CallSem.withLoops_sound CF_sound _
theorem C10_loops : ∀ c, Try.f10.body = some c → LoopsOk Try.prog C10.loops c := one_ok nodes10 take_Lok
theorem rtake_raw (own hd : Bool) (L : List AV) (n : Int) : fnK C10 Try.prog 2 Try.f10 [.ptr 0 0, i64 n] (mW 53 own hd L) [] =
    (bif decide (n < 1) then some (.tup [i64 0, i64 1], mW 53 own hd L) else bif true && (decide (1 ≤ n) && decide (L.length ≤ 65536)) then
      optK (fit L n.toNat) (fun s => some (.tup [i64 (s : Nat), i64 0], mW 53 own hd (setN L s true n.toNat))) (some (.tup [i64 0, i64 6], mW 53 own hd L)) else none) := by kernel_rfl
def take_M (bt : TypeId) : MSpec := ⟨[], fun args M k => match args, M with
  | [.ptr b q, .lit (.int .i64 n)], ⟨[some ⟨bt', own, [.vec h0]⟩], [some ⟨el, false, sh, tr, true, hd, L⟩]⟩ =>
    bif decide (b = 0) && decide (q = 0) && decide (bt' = bt) && decide (h0 = 0) && decide (el = 4) && decide (sh = cB) && decide (tr = 0) && decide (L.length ≤ 65536) then k (.tup [i64 (takeV L n), i64 (takeE L n)]) (mW bt own hd (takeL L n)) else none
  | _, _ => none⟩
theorem rtake_Mok : (take_M 53).Ok Try.prog 10 := by
  intro R args M k r h
  simp only [take_M] at h
  split at h
  · rename_i b q n bt own h0 el sh tr hd L
    simp only [cond_eq_ite, Bool.and_eq_true, decide_eq_true_eq] at h
    split at h
    · rename_i hc
      obtain ⟨⟨⟨⟨⟨⟨⟨rfl, rfl⟩, rfl⟩, rfl⟩, rfl⟩, rfl⟩, rfl⟩, hg⟩ := hc
      refine ⟨_, _, h, fn_ok (n := 2) (ts := []) C10_sound mixed s10 C10_loops ((rtake_raw own hd L n).trans ?_) rfl⟩
      unfold takeV takeE takeL
      by_cases h1 : n < 1
      · rw [decide_eq_true h1]; rfl
      · rw [decide_eq_false h1, decide_eq_true (by omega), decide_eq_true hg]
        cases fit L n.toNat <;> rfl
    · cases h
  · cases h
end Go.Proofs.Yticmpcloehnoaaa
