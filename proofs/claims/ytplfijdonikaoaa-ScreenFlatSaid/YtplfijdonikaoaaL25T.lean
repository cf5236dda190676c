/- The triangles that are seen, code and document: the loops (chapter 25). -/
import Derived.Test.YtplfijdonikaoaaL25zW
import Derived.Test.YtplfijdonikaoaaScrC
set_option linter.unusedVariables false
set_option linter.unusedSimpArgs false
namespace Go.Proofs.Ytplfijdonikaoaa
open Go Go.Sx Go.Fx
set_option maxRecDepth 100000
set_option linter.unusedVariables false
set_option linter.unusedSimpArgs false
noncomputable def cJ : CallSem := ((CallSem.nil.withSpec 8 spotS).withSpec 9 spotS).withJoin
theorem cJ_sound : cJ.Sound Try.prog := CallSem.withJoin_sound (CallSem.withSpec_sound (CallSem.withSpec_sound nilS ok8) ok9s)

noncomputable def L10 : Code := unl (lpOf Try.f10 1)
theorem nodes10 : nodes (Try.f10.body.getD .skip) = [.loop (unl (lpOf Try.f10 0)), .loop L10] := by kernel_rfl
abbrev k10 : List Nat := [2, 3, 8, 10, 12]
abbrev t10 : List Nat := [8, 12, 13, 14, 15, 16, 17, 18] ++ (List.range 51).map (· + 59)
def S10 (el : TypeId) (own hd : Bool) (L : List AV) (w h : Int) (f : Nat → Value) (i : Int) (acc : List AV) : St :=
  ⟨tmF k10 t10 [i64 w, i64 h, .vec 2, .vec 1, i64 i] f 111 0, ⟨[], [none, some ⟨el, true, c6, 1, own, hd, L⟩, some ⟨45, true, c18, 2, true, true, acc⟩]⟩⟩
theorem raw10 (el : TypeId) (own hd : Bool) (L : List AV) (w h : Int) (f : Nat → Value) (i : Int) (acc : List AV) : turnK cJ Try.prog 1 L10 k10 t10 0 2 (S10 el own hd L w h f i acc) =
    (bif decide (wi (i + 1) < (L.length : Int)) then
      (if (0 : Int) ≤ 0 ∧ (0 : Int) < (L.length : Int) then (if 0 < L.length then (if 0 ≤ i ∧ i < (L.length : Int) then (if i.toNat < L.length then
      (if 0 ≤ wi (i + 1) ∧ wi (i + 1) < (L.length : Int) then (if (wi (i + 1)).toNat < L.length then
      (bif (spP (L.getD (Int.toNat 0) .bad) w h && spP (L.getD i.toNat .bad) w h) && spP (L.getD (wi (i + 1)).toNat .bad) w h then
        (bif decide (acc.length + 1 ≤ 65536) && true && true && true && true then some (.normal, S10 el own hd L w h f (wi (i + 1)) (acc ++ [trX (L.getD (Int.toNat 0) .bad) (L.getD i.toNat .bad) (L.getD (wi (i + 1)).toNat .bad) w h])) else none)
       else some (.normal, S10 el own hd L w h f (wi (i + 1)) acc)) else none) else none) else none) else none) else none) else none)
     else some (.exit 2, S10 el own hd L w h f i acc)) := by kernel_rfl
theorem turn10 (el : TypeId) (own hd : Bool) (L : List AV) (w h : Int) (f : Nat → Value) (j : Nat) (acc : List AV) (hj : j + 1 < L.length) (hL : L.length ≤ 16384) (ha : acc.length + 1 ≤ 65536) :
    turnK cJ Try.prog 1 L10 k10 t10 0 2 (S10 el own hd L w h f (j : Nat) acc) = some (.normal, S10 el own hd L w h f ((j + 1 : Nat) : Int) (acc ++ trS (L.getD 0 .bad) (L.getD j .bad) (L.getD (j + 1) .bad) w h)) := by
  have e1 : wi (((j : Nat) : Int) + 1) = ((j + 1 : Nat) : Int) := by rw [wi_id (by omega) (by omega)]; omega
  rw [raw10, e1, Int.toNat_natCast, Int.toNat_natCast, decide_eq_true (by omega), cond_true, if_pos (by omega), if_pos (by omega), if_pos (by omega), if_pos (by omega), if_pos (by omega), if_pos hj]
  show (bif (spP (L.getD 0 .bad) w h && spP (L.getD j .bad) w h) && spP (L.getD (j + 1) .bad) w h then _ else _) = _
  unfold trS
  cases (spP (L.getD 0 .bad) w h && spP (L.getD j .bad) w h) && spP (L.getD (j + 1) .bad) w h
  · simp
  · simp [ha]
theorem end10 (el : TypeId) (own hd : Bool) (L : List AV) (w h : Int) (f : Nat → Value) (j : Nat) (acc : List AV) (hj : L.length ≤ j + 1) (hj' : j ≤ 16384) :
    turnK cJ Try.prog 1 L10 k10 t10 0 2 (S10 el own hd L w h f (j : Nat) acc) = some (.exit 2, S10 el own hd L w h f (j : Nat) acc) := by
  have e1 : wi (((j : Nat) : Int) + 1) = ((j + 1 : Nat) : Int) := by rw [wi_id (by omega) (by omega)]; omega
  rw [raw10, e1, decide_eq_false (by omega), cond_false]
theorem loop10 (el : TypeId) (own hd : Bool) (L : List AV) (w h : Int) (f : Nat → Value) (hL : L.length ≤ 16384) (s : Nat × List AV) (hi : 1 ≤ s.1 ∧ s.1 ≤ max (L.length - 1) 1 ∧ s.2.length + (L.length - s.1) ≤ 65536) :
    CodeOkN 0 2 Try.prog (.loop L10) (S10 el own hd L w h f ((s.1 : Nat) : Int) s.2) (.exit 2) (S10 el own hd L w h f ((max (L.length - 1) 1 : Nat) : Int) (s.2 ++ trG L w h (L.length - 1 - s.1) s.1)) := by
  refine loop_ok (fun s : Nat × List AV => S10 el own hd L w h f ((s.1 : Nat) : Int) s.2) (fun s => (.exit 2, S10 el own hd L w h f ((max (L.length - 1) 1 : Nat) : Int) (s.2 ++ trG L w h (L.length - 1 - s.1) s.1)))
    (fun s => if s.1 + 1 < L.length then some (s.1 + 1, s.2 ++ trS (L.getD 0 .bad) (L.getD s.1 .bad) (L.getD (s.1 + 1) .bad) w h) else none)
    (fun s => L.length - s.1) (fun s => 1 ≤ s.1 ∧ s.1 ≤ max (L.length - 1) 1 ∧ s.2.length + (L.length - s.1) ≤ 65536) ?_ ?_ s hi
  · rintro ⟨j, acc⟩ ⟨h0, h1, h2⟩ hn
    refine ⟨fun e => (by cases e), ?_⟩
    simp only at h0 h1 h2
    have hj : L.length ≤ j + 1 := by
      by_cases h : j + 1 < L.length
      · simp [h] at hn
      · omega
    simp only
    rw [show L.length - 1 - j = 0 by omega, show (max (L.length - 1) 1) = j by omega]
    simp only [trG, List.append_nil]
    exact turn_ok cJ_sound mixed (LoopsOk.no _ _) rfl rfl (end10 el own hd L w h f j acc hj (by omega))
  · rintro ⟨j, acc⟩ s' ⟨h0, h1, h2⟩ hn
    by_cases hj : j + 1 < L.length
    · simp only [hj, if_true, Option.some.injEq] at hn
      subst hn
      simp only at h0 h1 h2
      have hs := trS_len (L.getD 0 .bad) (L.getD j .bad) (L.getD (j + 1) .bad) w h
      refine ⟨⟨by simp only; omega, by simp only; omega, by simp only [List.length_append]; omega⟩, by simp only; omega, ?_, turn_ok cJ_sound mixed (LoopsOk.no _ _) rfl rfl (turn10 el own hd L w h f j acc hj hL (by omega))⟩
      simp only
      rw [show L.length - 1 - j = (L.length - 1 - (j + 1)) + 1 by omega, trG]
      simp
    · simp [hj] at hn
def pl_L10 : LSpec where
  n := 111
  nils := [⟨8, 45, true, c18⟩]
  keep := k10
  touch := t10
  run kv M k := match kv, M with
    | [.lit (.int .i64 w), .lit (.int .i64 y), .vec h0, .vec h1, .lit (.int .i64 i)], ⟨[], [some ⟨el', true, sh, t0, true, true, []⟩, some ⟨el, true, sh0, t1, own, hd, L⟩]⟩ =>
      bif decide (h0 = 0) && decide (h1 = 1) && decide (t0 = 0) && decide (t1 = 1) && decide (el' = 45) && decide (sh = c18) && decide (sh0 = c6) && decide (i = 1) && decide (L.length ≤ 16384) then
        k (.exit 2) [i64 w, i64 y, .vec 2, .vec 1, i64 (max (L.length - 1) 1 : Nat)] ⟨[], [none, some ⟨el, true, c6, 1, own, hd, L⟩, some ⟨45, true, c18, 2, true, true, trA L w y⟩]⟩
      else none
    | _, _ => none
theorem pl_Lok10 : pl_L10.Ok Try.prog (.loop L10) := by
  intro R kv M k r h
  simp only [pl_L10] at h
  split at h
  · rename_i w y h0 h1 i el' sh t0 el sh0 t1 own hd L
    simp only [cond_eq_ite, Bool.and_eq_true, decide_eq_true_eq] at h
    split at h
    · rename_i hc
      obtain ⟨⟨⟨⟨⟨⟨⟨⟨rfl, rfl⟩, rfl⟩, rfl⟩, rfl⟩, rfl⟩, rfl⟩, rfl⟩, hn⟩ := hc
      refine ⟨_, _, _, h, fun f => ?_⟩
      have hN := loop10 el own hd L w y f hn (1, []) (by simp; omega)
      rw [show L.length - 1 - 1 = L.length - 2 by omega] at hN
      exact CodeOkN.full (CodeOkN.enter [(8, true)] (st1 := S10 el own hd L w y f 1 []) (by kernel_rfl) rfl rfl hN) rfl
    · cases h
  · cases h

noncomputable def L11 : Code := unl (lpOf Try.f11 1)
theorem nodes11 : nodes (Try.f11.body.getD .skip) = [.loop (unl (lpOf Try.f11 0)), .loop L11] := by kernel_rfl
abbrev k11 : List Nat := [2, 3, 12, 13, 14]
abbrev t11 : List Nat := [13, 14, 15, 16, 17, 18, 19, 20] ++ (List.range 51).map (· + 64)
def S11 (el : TypeId) (own hd : Bool) (L : List AV) (w h : Int) (f : Nat → Value) (i : Int) (acc : List AV) : St :=
  ⟨tmF k11 t11 [i64 w, i64 h, .vec 0, .vec 2, i64 i] f 116 0, ⟨[], [some ⟨el, true, c6, 0, own, hd, L⟩, none, some ⟨45, true, c18, 2, true, true, acc⟩]⟩⟩
theorem raw11 (el : TypeId) (own hd : Bool) (L : List AV) (w h : Int) (f : Nat → Value) (i : Int) (acc : List AV) : turnK cJ Try.prog 1 L11 k11 t11 0 2 (S11 el own hd L w h f i acc) =
    (bif decide (wi (i + 1) < (L.length : Int)) then
      (if (0 : Int) ≤ 0 ∧ (0 : Int) < (L.length : Int) then (if 0 < L.length then (if 0 ≤ i ∧ i < (L.length : Int) then (if i.toNat < L.length then
      (if 0 ≤ wi (i + 1) ∧ wi (i + 1) < (L.length : Int) then (if (wi (i + 1)).toNat < L.length then
      (bif (spP (L.getD (Int.toNat 0) .bad) w h && spP (L.getD i.toNat .bad) w h) && spP (L.getD (wi (i + 1)).toNat .bad) w h then
        (bif decide (acc.length + 1 ≤ 65536) && true && true && true && true then some (.normal, S11 el own hd L w h f (wi (i + 1)) (acc ++ [trX (L.getD (Int.toNat 0) .bad) (L.getD i.toNat .bad) (L.getD (wi (i + 1)).toNat .bad) w h])) else none)
       else some (.normal, S11 el own hd L w h f (wi (i + 1)) acc)) else none) else none) else none) else none) else none) else none)
     else some (.exit 2, S11 el own hd L w h f i acc)) := by kernel_rfl
theorem turn11 (el : TypeId) (own hd : Bool) (L : List AV) (w h : Int) (f : Nat → Value) (j : Nat) (acc : List AV) (hj : j + 1 < L.length) (hL : L.length ≤ 16384) (ha : acc.length + 1 ≤ 65536) :
    turnK cJ Try.prog 1 L11 k11 t11 0 2 (S11 el own hd L w h f (j : Nat) acc) = some (.normal, S11 el own hd L w h f ((j + 1 : Nat) : Int) (acc ++ trS (L.getD 0 .bad) (L.getD j .bad) (L.getD (j + 1) .bad) w h)) := by
  have e1 : wi (((j : Nat) : Int) + 1) = ((j + 1 : Nat) : Int) := by rw [wi_id (by omega) (by omega)]; omega
  rw [raw11, e1, Int.toNat_natCast, Int.toNat_natCast, decide_eq_true (by omega), cond_true, if_pos (by omega), if_pos (by omega), if_pos (by omega), if_pos (by omega), if_pos (by omega), if_pos hj]
  show (bif (spP (L.getD 0 .bad) w h && spP (L.getD j .bad) w h) && spP (L.getD (j + 1) .bad) w h then _ else _) = _
  unfold trS
  cases (spP (L.getD 0 .bad) w h && spP (L.getD j .bad) w h) && spP (L.getD (j + 1) .bad) w h
  · simp
  · simp [ha]
theorem end11 (el : TypeId) (own hd : Bool) (L : List AV) (w h : Int) (f : Nat → Value) (j : Nat) (acc : List AV) (hj : L.length ≤ j + 1) (hj' : j ≤ 16384) :
    turnK cJ Try.prog 1 L11 k11 t11 0 2 (S11 el own hd L w h f (j : Nat) acc) = some (.exit 2, S11 el own hd L w h f (j : Nat) acc) := by
  have e1 : wi (((j : Nat) : Int) + 1) = ((j + 1 : Nat) : Int) := by rw [wi_id (by omega) (by omega)]; omega
  rw [raw11, e1, decide_eq_false (by omega), cond_false]
theorem loop11 (el : TypeId) (own hd : Bool) (L : List AV) (w h : Int) (f : Nat → Value) (hL : L.length ≤ 16384) (s : Nat × List AV) (hi : 1 ≤ s.1 ∧ s.1 ≤ max (L.length - 1) 1 ∧ s.2.length + (L.length - s.1) ≤ 65536) :
    CodeOkN 0 2 Try.prog (.loop L11) (S11 el own hd L w h f ((s.1 : Nat) : Int) s.2) (.exit 2) (S11 el own hd L w h f ((max (L.length - 1) 1 : Nat) : Int) (s.2 ++ trG L w h (L.length - 1 - s.1) s.1)) := by
  refine loop_ok (fun s : Nat × List AV => S11 el own hd L w h f ((s.1 : Nat) : Int) s.2) (fun s => (.exit 2, S11 el own hd L w h f ((max (L.length - 1) 1 : Nat) : Int) (s.2 ++ trG L w h (L.length - 1 - s.1) s.1)))
    (fun s => if s.1 + 1 < L.length then some (s.1 + 1, s.2 ++ trS (L.getD 0 .bad) (L.getD s.1 .bad) (L.getD (s.1 + 1) .bad) w h) else none)
    (fun s => L.length - s.1) (fun s => 1 ≤ s.1 ∧ s.1 ≤ max (L.length - 1) 1 ∧ s.2.length + (L.length - s.1) ≤ 65536) ?_ ?_ s hi
  · rintro ⟨j, acc⟩ ⟨h0, h1, h2⟩ hn
    refine ⟨fun e => (by cases e), ?_⟩
    simp only at h0 h1 h2
    have hj : L.length ≤ j + 1 := by
      by_cases h : j + 1 < L.length
      · simp [h] at hn
      · omega
    simp only
    rw [show L.length - 1 - j = 0 by omega, show (max (L.length - 1) 1) = j by omega]
    simp only [trG, List.append_nil]
    exact turn_ok cJ_sound mixed (LoopsOk.no _ _) rfl rfl (end11 el own hd L w h f j acc hj (by omega))
  · rintro ⟨j, acc⟩ s' ⟨h0, h1, h2⟩ hn
    by_cases hj : j + 1 < L.length
    · simp only [hj, if_true, Option.some.injEq] at hn
      subst hn
      simp only at h0 h1 h2
      have hs := trS_len (L.getD 0 .bad) (L.getD j .bad) (L.getD (j + 1) .bad) w h
      refine ⟨⟨by simp only; omega, by simp only; omega, by simp only [List.length_append]; omega⟩, by simp only; omega, ?_, turn_ok cJ_sound mixed (LoopsOk.no _ _) rfl rfl (turn11 el own hd L w h f j acc hj hL (by omega))⟩
      simp only
      rw [show L.length - 1 - j = (L.length - 1 - (j + 1)) + 1 by omega, trG]
      simp
    · simp [hj] at hn
def pl_L11 : LSpec where
  n := 116
  nils := [⟨13, 45, true, c18⟩]
  keep := k11
  touch := t11
  run kv M k := match kv, M with
    | [.lit (.int .i64 w), .lit (.int .i64 y), .vec h0, .vec h1, .lit (.int .i64 i)], ⟨[], [some ⟨el, true, sh0, t0, own, hd, L⟩, some ⟨el', true, sh, t1, true, true, []⟩]⟩ =>
      bif decide (h0 = 0) && decide (h1 = 1) && decide (t0 = 0) && decide (t1 = 1) && decide (el' = 45) && decide (sh = c18) && decide (sh0 = c6) && decide (i = 1) && decide (L.length ≤ 16384) then
        k (.exit 2) [i64 w, i64 y, .vec 0, .vec 2, i64 (max (L.length - 1) 1 : Nat)] ⟨[], [some ⟨el, true, c6, 0, own, hd, L⟩, none, some ⟨45, true, c18, 2, true, true, trA L w y⟩]⟩
      else none
    | _, _ => none
theorem pl_Lok11 : pl_L11.Ok Try.prog (.loop L11) := by
  intro R kv M k r h
  simp only [pl_L11] at h
  split at h
  · rename_i w y h0 h1 i el sh0 t0 own hd L el' sh t1
    simp only [cond_eq_ite, Bool.and_eq_true, decide_eq_true_eq] at h
    split at h
    · rename_i hc
      obtain ⟨⟨⟨⟨⟨⟨⟨⟨rfl, rfl⟩, rfl⟩, rfl⟩, rfl⟩, rfl⟩, rfl⟩, rfl⟩, hn⟩ := hc
      refine ⟨_, _, _, h, fun f => ?_⟩
      have hN := loop11 el own hd L w y f hn (1, []) (by simp; omega)
      rw [show L.length - 1 - 1 = L.length - 2 by omega] at hN
      exact CodeOkN.full (CodeOkN.enter [(13, true)] (st1 := S11 el own hd L w y f 1 []) (by kernel_rfl) rfl rfl hN) rfl
    · cases h
  · cases h

end Go.Proofs.Ytplfijdonikaoaa
