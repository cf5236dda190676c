/- ExtentApart: its inner loops (chapter 9). -/
import Derived.Test.YticmpcloehnoaaaL9V
set_option linter.unusedVariables false
set_option linter.unusedSimpArgs false
namespace Go.Proofs.Yticmpcloehnoaaa
open Go Go.Sx Go.Fx
set_option maxRecDepth 100000
set_option linter.unusedVariables false
set_option linter.unusedSimpArgs false
def srch (O : List AV) (k : Int) : Nat → Int → Int → Nat → Int × Int × Int
  | 0, want, run, i => (want, run, (i : Int))
  | f + 1, want, run, i => bif decide ((i : Int) < (O.length : Int)) && decide (want < 0) then
      (bif gI O i != 0 then srch O k f (bif (0 : Int) == k then wi (wi (i - k) + 1) else want) 0 (i + 1) else srch O k f (bif wi (run + 1) == k then wi (wi (i - k) + 1) else want) (wi (run + 1)) (i + 1))
    else (want, run, (i : Int))
theorem loopS (k : Int) (el : TypeId) (o h : Bool) (O : List AV) (hO : O.length ≤ 65536) (f : Nat → Value) (r : Int × Int × Int) (s : Int × Int × Nat) (hs : s.2.2 ≤ O.length ∧ srch O k (O.length + 1 - s.2.2) s.1 s.2.1 s.2.2 = r) :
    CodeOkN 0 1 Try.prog (.loop LS) (SS (O.length : Nat) k el o h O f s.1 s.2.1 (s.2.2 : Nat)) (.exit 2) (SS (O.length : Nat) k el o h O f r.1 r.2.1 r.2.2) := by
  refine loop_ok (fun s : Int × Int × Nat => SS (O.length : Nat) k el o h O f s.1 s.2.1 (s.2.2 : Nat)) (fun _ => (.exit 2, SS (O.length : Nat) k el o h O f r.1 r.2.1 r.2.2))
    (fun s => if s.2.2 < O.length ∧ s.1 < 0 then some (bif gI O (s.2.2 : Nat) != 0 then (bif (0 : Int) == k then wi (wi ((s.2.2 : Nat) - k) + 1) else s.1, 0, s.2.2 + 1) else (bif wi (s.2.1 + 1) == k then wi (wi ((s.2.2 : Nat) - k) + 1) else s.1, wi (s.2.1 + 1), s.2.2 + 1)) else none)
    (fun s => O.length - s.2.2) (fun s => s.2.2 ≤ O.length ∧ srch O k (O.length + 1 - s.2.2) s.1 s.2.1 s.2.2 = r) ?_ ?_ s hs
  · rintro ⟨want, run, j⟩ ⟨h1, h2⟩ hnx
    refine ⟨fun e => (by cases e), ?_⟩
    simp only at h1 h2 hnx ⊢
    have hr : r = (want, run, (j : Int)) := by
      rw [← h2, show O.length + 1 - j = (O.length - j) + 1 by omega, srch]
      by_cases hc : j < O.length ∧ want < 0
      · simp [hc] at hnx
      · rw [show (decide ((j : Int) < (O.length : Int)) && decide (want < 0)) = false by simp; omega]; rfl
    subst hr
    refine turn_ok (n := 1) nilS mixed (LoopsOk.no _ _) rfl rfl ?_
    rw [rawS]
    by_cases hj : j < O.length
    · have hw : ¬ want < 0 := fun hw => by simp [hj, hw] at hnx
      rw [decide_eq_true (by omega), decide_eq_false hw]; rfl
    · rw [decide_eq_false (by omega)]; rfl
  · rintro ⟨want, run, j⟩ s' ⟨h1, h2⟩ hnx
    simp only at h1 h2 hnx
    by_cases hc : j < O.length ∧ want < 0
    · rw [if_pos hc] at hnx
      simp only [Option.some.injEq] at hnx
      have hu : srch O k (O.length + 1 - j) want run j = (bif gI O (j : Nat) != 0 then srch O k (O.length - j) (bif (0 : Int) == k then wi (wi ((j : Nat) - k) + 1) else want) 0 (j + 1) else srch O k (O.length - j) (bif wi (run + 1) == k then wi (wi ((j : Nat) - k) + 1) else want) (wi (run + 1)) (j + 1)) := by
        rw [show O.length + 1 - j = (O.length - j) + 1 by omega, srch, decide_eq_true (show (j : Int) < (O.length : Int) by omega), decide_eq_true hc.2]; rfl
      have e1 : wi (((j : Nat) : Int) + 1) = ((j + 1 : Nat) : Int) := by rw [wi_s (by omega) (by omega)]; omega
      have hT : turnK CallSem.nil Try.prog 1 LS kS tS 0 1 (SS (O.length : Nat) k el o h O f want run (j : Nat)) = some (.normal, SS (O.length : Nat) k el o h O f s'.1 s'.2.1 (s'.2.2 : Nat)) := by
        rw [rawS, decide_eq_true (show (j : Int) < (O.length : Int) by omega), decide_eq_true hc.2, cond_true, cond_true, ix_in hc.1, e1, ← hnx]
        cases gI O (j : Nat) != 0
        · cases wi (run + 1) == k <;> rfl
        · cases (0 : Int) == k <;> rfl
      refine ⟨?_, ?_, rfl, turn_ok (n := 1) nilS mixed (LoopsOk.no _ _) rfl rfl hT⟩
      · rw [hu] at h2
        rw [← hnx]
        cases hg : gI O (j : Nat) != 0
        · rw [hg] at h2
          exact ⟨by simp only [cond_false]; omega, by simp only [cond_false]; rw [show O.length + 1 - (j + 1) = O.length - j by omega]; exact h2⟩
        · rw [hg] at h2
          exact ⟨by simp only [cond_true]; omega, by simp only [cond_true]; rw [show O.length + 1 - (j + 1) = O.length - j by omega]; exact h2⟩
      · rw [← hnx]
        cases gI O (j : Nat) != 0
        · simp only [cond_false]; omega
        · simp only [cond_true]; omega
    · rw [if_neg hc] at hnx; cases hnx
def srchR (O : List AV) (k : Int) : Int × Int × Int := srch O k (O.length + 1) (-1) 0 0
def specS : LSpec where
  n := 163
  nils := []
  keep := kS
  touch := tS
  run kv M q := match kv, M with
    | [.lit (.int .i64 n), .vec h0, .lit (.int .i64 k), .lit (.int .i64 want), .lit (.int .i64 run), .lit (.int .i64 i)], ⟨[], [some ⟨el, false, sh, t0, o, h, O⟩]⟩ =>
      bif decide (h0 = 0) && decide (sh = cI1) && decide (t0 = 0) && decide (want = -1) && decide (run = 0) && decide (i = 0) && (decide (n = (O.length : Int)) && decide (O.length ≤ 65536)) then
        q (.exit 2) [i64 n, .vec 0, i64 k, i64 (srchR O k).1, i64 (srchR O k).2.1, i64 (srchR O k).2.2] ⟨[], [some ⟨el, false, cI1, 0, o, h, O⟩]⟩ else none
    | _, _ => none
theorem specS_ok : specS.Ok Try.prog (.loop LS) := by
  intro R kv M q r h
  simp only [specS] at h
  split at h
  · rename_i n h0 k want run i el sh t0 o hh O
    simp only [cond_eq_ite, Bool.and_eq_true, decide_eq_true_eq] at h
    split at h
    · rename_i hc
      obtain ⟨⟨⟨⟨⟨⟨rfl, rfl⟩, rfl⟩, rfl⟩, rfl⟩, rfl⟩, rfl, hO⟩ := hc
      refine ⟨_, _, _, h, fun f => ?_⟩
      exact CodeOkN.full (loopS k el o hh O hO f (srchR O k) (-1, 0, 0) ⟨Nat.zero_le _, rfl⟩) rfl
    · cases h
  · cases h
/-! a stretch of the owners' row -/
def setI (O : List AV) (s : Nat) (v : Int) : Nat → List AV
  | 0 => O
  | n + 1 => (setI O s v n).set (s + n) (i64 v)
theorem setI_len (O : List AV) (s : Nat) (v : Int) : ∀ n, (setI O s v n).length = O.length
  | 0 => rfl
  | n + 1 => by simp [setI, setI_len O s v n]
theorem loopO (j : Int) (s k : Nat) (el : TypeId) (hd : Bool) (f : Nat → Value) (O : List AV) (hs : s + k ≤ O.length) (hO : O.length ≤ 65536) (p : Nat) (hp : p ≤ k) :
    CodeOkN 0 1 Try.prog (.loop LO) (SO j k s el hd f (setI O s (wi (j + 1)) p) ((s + p : Nat) : Int)) (.exit 4) (SO j k s el hd f (setI O s (wi (j + 1)) k) ((s + k : Nat) : Int)) := by
  refine loop_ok (fun p : Nat => SO j k s el hd f (setI O s (wi (j + 1)) p) ((s + p : Nat) : Int)) (fun _ => (.exit 4, SO j k s el hd f (setI O s (wi (j + 1)) k) ((s + k : Nat) : Int))) (fun p => if p < k then some (p + 1) else none)
    (fun p => k - p) (fun p => p ≤ k) ?_ ?_ p hp
  · intro p h1 hnx
    refine ⟨fun e => (by cases e), ?_⟩
    have hj : p = k := by
      by_cases h : p < k
      · simp [h] at hnx
      · omega
    subst hj
    exact turn_ok (n := 1) nilS mixed (LoopsOk.no _ _) rfl rfl (by rw [rawO, wi_s (a := (s : Int) + (p : Int)) (by omega) (by omega), decide_eq_false (by omega), cond_false]; rfl)
  · intro p s' h1 hnx
    by_cases h2 : p < k
    · simp only [h2, if_true, Option.some.injEq] at hnx
      subst hnx
      refine ⟨by omega, by omega, rfl, turn_ok (n := 1) nilS mixed (LoopsOk.no _ _) rfl rfl ?_⟩
      rw [rawO, wi_s (a := (s : Int) + (k : Int)) (by omega) (by omega), decide_eq_true (by omega), cond_true, ix_in (by rw [setI_len]; omega), Int.toNat_natCast, wi_s (a := ((s + p : Nat) : Int) + 1) (by omega) (by omega)]
      rw [show ((s + p : Nat) : Int) + 1 = ((s + (p + 1) : Nat) : Int) by omega]
      rfl
    · simp [h2] at hnx
def specO : LSpec where
  n := 163
  nils := []
  keep := kO
  touch := tO
  run kv M q := match kv, M with
    | [.vec h0, .lit (.int .i64 j), .lit (.int .i64 k), .lit (.int .i64 s), .lit (.int .i64 i)], ⟨[], [some ⟨el, false, sh, t0, true, h, O⟩]⟩ =>
      bif decide (h0 = 0) && decide (sh = cI1) && decide (t0 = 0) && decide (i = s) && okS O s k then
        q (.exit 4) [.vec 0, i64 j, i64 k, i64 s, i64 (s + k)] ⟨[], [some ⟨el, false, cI1, 0, true, h, setI O s.toNat (wi (j + 1)) k.toNat⟩]⟩ else none
    | _, _ => none
theorem specO_ok : specO.Ok Try.prog (.loop LO) := by
  intro R kv M q r h
  simp only [specO, okS] at h
  split at h
  · rename_i h0 j k s i el sh t0 hh O
    simp only [cond_eq_ite, Bool.and_eq_true, decide_eq_true_eq] at h
    split at h
    · rename_i hc
      obtain ⟨⟨⟨⟨rfl, rfl⟩, rfl⟩, rfl⟩, ⟨⟨hs, hk⟩, hl⟩, hO⟩ := hc
      refine ⟨_, _, _, h, fun f => ?_⟩
      have := loopO j i.toNat k.toNat el hh f O (by omega) hO 0 (Nat.zero_le _)
      rw [show ((i.toNat : Nat) : Int) = i by omega, show ((k.toNat : Nat) : Int) = k by omega, show ((i.toNat + 0 : Nat) : Int) = i by omega, show ((i.toNat + k.toNat : Nat) : Int) = i + k by omega] at this
      exact CodeOkN.full this rfl
    · cases h
  · cases h
theorem loopZ (s k : Nat) (el : TypeId) (hd : Bool) (f : Nat → Value) (O : List AV) (hs : s + k ≤ O.length) (hO : O.length ≤ 65536) (p : Nat) (hp : p ≤ k) :
    CodeOkN 0 1 Try.prog (.loop LZ) (SZ k s el hd f (setI O s 0 p) ((s + p : Nat) : Int)) (.exit 6) (SZ k s el hd f (setI O s 0 k) ((s + k : Nat) : Int)) := by
  refine loop_ok (fun p : Nat => SZ k s el hd f (setI O s 0 p) ((s + p : Nat) : Int)) (fun _ => (.exit 6, SZ k s el hd f (setI O s 0 k) ((s + k : Nat) : Int))) (fun p => if p < k then some (p + 1) else none)
    (fun p => k - p) (fun p => p ≤ k) ?_ ?_ p hp
  · intro p h1 hnx
    refine ⟨fun e => (by cases e), ?_⟩
    have hj : p = k := by
      by_cases h : p < k
      · simp [h] at hnx
      · omega
    subst hj
    exact turn_ok (n := 1) nilS mixed (LoopsOk.no _ _) rfl rfl (by rw [rawZ, wi_s (a := (s : Int) + (p : Int)) (by omega) (by omega), decide_eq_false (by omega), cond_false]; rfl)
  · intro p s' h1 hnx
    by_cases h2 : p < k
    · simp only [h2, if_true, Option.some.injEq] at hnx
      subst hnx
      refine ⟨by omega, by omega, rfl, turn_ok (n := 1) nilS mixed (LoopsOk.no _ _) rfl rfl ?_⟩
      rw [rawZ, wi_s (a := (s : Int) + (k : Int)) (by omega) (by omega), decide_eq_true (by omega), cond_true, ix_in (by rw [setI_len]; omega), Int.toNat_natCast, wi_s (a := ((s + p : Nat) : Int) + 1) (by omega) (by omega)]
      rw [show ((s + p : Nat) : Int) + 1 = ((s + (p + 1) : Nat) : Int) by omega]
      rfl
    · simp [h2] at hnx
def specZ : LSpec where
  n := 163
  nils := []
  keep := kZ
  touch := tZ
  run kv M q := match kv, M with
    | [.vec h0, .lit (.int .i64 k), .lit (.int .i64 s), .lit (.int .i64 i)], ⟨[], [some ⟨el, false, sh, t0, true, h, O⟩]⟩ =>
      bif decide (h0 = 0) && decide (sh = cI1) && decide (t0 = 0) && decide (i = s) && okS O s k then
        q (.exit 6) [.vec 0, i64 k, i64 s, i64 (s + k)] ⟨[], [some ⟨el, false, cI1, 0, true, h, setI O s.toNat 0 k.toNat⟩]⟩ else none
    | _, _ => none
theorem specZ_ok : specZ.Ok Try.prog (.loop LZ) := by
  intro R kv M q r h
  simp only [specZ, okS] at h
  split at h
  · rename_i h0 k s i el sh t0 hh O
    simp only [cond_eq_ite, Bool.and_eq_true, decide_eq_true_eq] at h
    split at h
    · rename_i hc
      obtain ⟨⟨⟨⟨rfl, rfl⟩, rfl⟩, rfl⟩, ⟨⟨hs, hk⟩, hl⟩, hO⟩ := hc
      refine ⟨_, _, _, h, fun f => ?_⟩
      have := loopZ i.toNat k.toNat el hh f O (by omega) hO 0 (Nat.zero_le _)
      rw [show ((i.toNat : Nat) : Int) = i by omega, show ((k.toNat : Nat) : Int) = k by omega, show ((i.toNat + 0 : Nat) : Int) = i by omega, show ((i.toNat + k.toNat : Nat) : Int) = i + k by omega] at this
      exact CodeOkN.full this rfl
    · cases h
  · cases h
def tabI : List (Nat × LSpec) := [(14, specS), (28, specO), (36, specZ)]
theorem tabI_LM : LoopsOk Try.prog (tabL tabI) LM :=
  tab_ok (P := Try.prog) (ts := tabI) (fn := { Try.f4 with body := some LM }) (cs := [.loop LS, .loop LO, .loop LZ]) (by kernel_rfl) (by kernel_rfl) ⟨⟨by kernel_rfl, specS_ok⟩, ⟨by kernel_rfl, specO_ok⟩, ⟨by kernel_rfl, specZ_ok⟩, trivial⟩ LM rfl
noncomputable def cAi : CallSem := cX.withLoops (tabL tabI)
theorem cAi_sound : cAi.Sound Try.prog := CallSem.withLoops_sound cX_sound _
end Go.Proofs.Yticmpcloehnoaaa
