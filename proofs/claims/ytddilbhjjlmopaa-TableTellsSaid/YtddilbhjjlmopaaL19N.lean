/- TableTells' inner loops (chapter 19). -/
import Derived.Test.YtddilbhjjlmopaaL19M
set_option linter.unusedVariables false
set_option linter.unusedSimpArgs false
namespace Go.Proofs.Ytddilbhjjlmopaa
open Go Go.Sx Go.Fx
set_option maxRecDepth 100000
set_option linter.unusedVariables false
set_option linter.unusedSimpArgs false
noncomputable def cK0 : CallSem := (cE1.withRead 15 hasM).withRead 13 rlookM
theorem cK0_sound : cK0.Sound Try.prog := CallSem.withRead_sound (CallSem.withRead_sound cE1_sound hasM_ok) rlookM_ok
noncomputable def L3c : Code := unl (lpOf Try.f3 2)
abbrev k3c : List Nat := [0, 7, 9, 10, 17]
abbrev t3c : List Nat := [6, 17, 18, 19, 20, 21] ++ (List.range 47).map (· + 135)
def S3c (el1 : TypeId) (o1 h1 : Bool) (A : List AV) (el3 : TypeId) (o3 h3 : Bool) (P : List AV) (el : TypeId) (o2 hd : Bool) (T : List AV) (d : Int) (f : Nat → Value) (i : Int) : St :=
  ⟨tmF k3c t3c [i64 d, .ptr 0 0, .vec 0, .vec 1, i64 i] f 196 0, ⟨[some ⟨48, true, [i64 d, .vec 2]⟩], [some ⟨el1, true, c3, 0, o1, h1, A⟩, some ⟨el3, true, c3, 1, o3, h3, P⟩, some ⟨el, false, [.bool], 2, o2, hd, T⟩]⟩⟩
theorem raw3c (el1 : TypeId) (o1 h1 : Bool) (A : List AV) (el3 : TypeId) (o3 h3 : Bool) (P : List AV) (el : TypeId) (o2 hd : Bool) (T : List AV) (d : Int) (f : Nat → Value) (i : Int) : turnK cK0 Try.prog 1 L3c k3c t3c 1 3 (S3c el1 o1 h1 A el3 o3 h3 P el o2 hd T d f i) =
    (bif decide (i < (A.length : Int)) then (if 0 ≤ i ∧ i < (A.length : Int) then (if i.toNat < A.length then (bif dB d && decide ((T.length : Int) = cn d) then
      (if 0 ≤ i ∧ i < (A.length : Int) then (if i.toNat < A.length then (bif dB d && decide (P.length ≤ 16384) then
      (bif !lkB T d (cI (A.getD i.toNat .bad) 0) (cI (A.getD i.toNat .bad) 1) (cI (A.getD i.toNat .bad) 2) then some (.ret, S3c el1 o1 h1 A el3 o3 h3 P el o2 hd T d f i) else
      (bif !sameQ T P d (A.getD i.toNat .bad) then some (.ret, S3c el1 o1 h1 A el3 o3 h3 P el o2 hd T d f i) else
      (if 0 ≤ i ∧ i < (A.length : Int) then (if i.toNat < A.length then (if 0 ≤ i ∧ i < (A.length : Int) then (if i.toNat < A.length then
      (bif decide ((T.length : Int) = cn d) then (bif decide (P.length ≤ 16384) then
        (bif (thereB T d (cI (A.getD i.toNat .bad) 0) (cI (A.getD i.toNat .bad) 1) (cI (A.getD i.toNat .bad) 2) != hasB P (cI (A.getD i.toNat .bad) 0) (cI (A.getD i.toNat .bad) 1) (cI (A.getD i.toNat .bad) 2)) then some (.ret, S3c el1 o1 h1 A el3 o3 h3 P el o2 hd T d f i) else some (.normal, S3c el1 o1 h1 A el3 o3 h3 P el o2 hd T d f (wi (i + 1))))
       else none) else none) else none) else none) else none) else none))) else none) else none) else none) else none) else none) else none)
     else some (.exit 4, S3c el1 o1 h1 A el3 o3 h3 P el o2 hd T d f i)) := by kernel_rfl
theorem turn3c (el1 : TypeId) (o1 h1 : Bool) (A : List AV) (el3 : TypeId) (o3 h3 : Bool) (P : List AV) (el : TypeId) (o2 hd : Bool) (T : List AV) (d : Int) (f : Nat → Value) (j : Nat) (hj : j < A.length) (hA : A.length ≤ 16384) (hd3 : dB d = true) (hT : (T.length : Int) = cn d) (hP : P.length ≤ 16384) (hok : okE T P d (A.getD j .bad) = true) :
    turnK cK0 Try.prog 1 L3c k3c t3c 1 3 (S3c el1 o1 h1 A el3 o3 h3 P el o2 hd T d f (j : Nat)) = some (.normal, S3c el1 o1 h1 A el3 o3 h3 P el o2 hd T d f ((j + 1 : Nat) : Int)) := by
  have e1 : wi (((j : Nat) : Int) + 1) = ((j + 1 : Nat) : Int) := by rw [wi_id (by omega) (by omega)]; omega
  have r1 : (0 ≤ ((j : Nat) : Int) ∧ ((j : Nat) : Int) < (A.length : Int)) := ⟨by omega, by omega⟩
  simp only [okE, Bool.and_eq_true, Bool.not_eq_true'] at hok
  rw [raw3c, e1, hd3, decide_eq_true hT, decide_eq_true hP, decide_eq_true r1.2]
  simp only [Int.toNat_natCast, if_pos r1, if_pos hj, cond_true, Bool.and_self, hok.1, hok.2.1, hok.2.2, Bool.not_true, cond_false]
theorem loop3c (el1 : TypeId) (o1 h1 : Bool) (A : List AV) (el3 : TypeId) (o3 h3 : Bool) (P : List AV) (el : TypeId) (o2 hd : Bool) (T : List AV) (d : Int) (f : Nat → Value) (hA : A.length ≤ 16384) (hd3 : dB d = true) (hT : (T.length : Int) = cn d) (hP : P.length ≤ 16384) (hok : okEs T P d A = true) (s : Nat) (hs : s ≤ A.length) :
    CodeOkN 1 3 Try.prog (.loop L3c) (S3c el1 o1 h1 A el3 o3 h3 P el o2 hd T d f (s : Nat)) (.exit 4) (S3c el1 o1 h1 A el3 o3 h3 P el o2 hd T d f (A.length : Nat)) := by
  refine loop_ok (fun s : Nat => S3c el1 o1 h1 A el3 o3 h3 P el o2 hd T d f (s : Nat)) (fun _ => (.exit 4, S3c el1 o1 h1 A el3 o3 h3 P el o2 hd T d f (A.length : Nat))) (fun s => if s < A.length then some (s + 1) else none)
    (fun s => A.length - s) (fun s => s ≤ A.length) ?_ ?_ s hs
  · intro s g1 hn
    refine ⟨fun e => (by cases e), ?_⟩
    have hj : s = A.length := by
      by_cases h : s < A.length
      · simp [h] at hn
      · omega
    subst hj
    exact turn_ok cK0_sound mixed (LoopsOk.no _ _) rfl rfl (by rw [raw3c, decide_eq_false (by omega), cond_false]; rfl)
  · intro s s' g1 hn
    by_cases h2 : s < A.length
    · simp only [h2, if_true, Option.some.injEq] at hn
      subst hn
      have hh : okE T P d (A.getD s .bad) = true := by
        have := hok
        simp only [okEs, List.all_eq_true] at this
        exact this s (List.mem_range.2 h2)
      exact ⟨by omega, by omega, rfl, turn_ok cK0_sound mixed (LoopsOk.no _ _) rfl rfl (turn3c el1 o1 h1 A el3 o3 h3 P el o2 hd T d f s h2 hA hd3 hT hP hh)⟩
    · simp [h2] at hn
def chk_L3c : LSpec where
  n := 196
  nils := []
  keep := k3c
  touch := t3c
  run kv M k := match kv, M with
    | [.lit (.int .i64 d'), .ptr b0 0, .vec q0, .vec q1, .lit (.int .i64 i)], ⟨[some ⟨48, true, [.lit (.int .i64 d), .vec q2]⟩], [some ⟨el1, true, sh1, t1, o1, h1, A⟩, some ⟨el3, true, sh3, t3, o3, h3, P⟩, some ⟨el, false, sh2, t2, o2, hd, T⟩]⟩ =>
      bif decide (b0 = 0) && decide (q0 = 0) && decide (q1 = 1) && decide (q2 = 2) && decide (t1 = 0) && decide (t3 = 1) && decide (t2 = 2) && decide (sh1 = c3) && decide (sh3 = c3) && decide (sh2 = [.bool]) && decide (i = 0) && (decide (d' = d) && decide (A.length ≤ 16384) && dB d && decide ((T.length : Int) = cn d) && decide (P.length ≤ 16384) && okEs T P d A) then
        k (.exit 4) [i64 d, .ptr 0 0, .vec 0, .vec 1, i64 (A.length : Nat)] ⟨[some ⟨48, true, [i64 d, .vec 2]⟩], [some ⟨el1, true, c3, 0, o1, h1, A⟩, some ⟨el3, true, c3, 1, o3, h3, P⟩, some ⟨el, false, [.bool], 2, o2, hd, T⟩]⟩
      else none
    | _, _ => none
theorem chk_Lok3c : chk_L3c.Ok Try.prog (.loop L3c) := by
  intro R kv M k r h
  simp only [chk_L3c] at h
  split at h
  · rename_i d' b0 q0 q1 i d q2 el1 sh1 t1 o1 h1 A el3 sh3 t3 o3 h3 P el sh2 t2 o2 hd T
    simp only [cond_eq_ite, Bool.and_eq_true, decide_eq_true_eq] at h
    split at h
    · rename_i hc
      obtain ⟨⟨⟨⟨⟨⟨⟨⟨⟨⟨⟨rfl, rfl⟩, rfl⟩, rfl⟩, rfl⟩, rfl⟩, rfl⟩, rfl⟩, rfl⟩, rfl⟩, rfl⟩, ⟨⟨⟨⟨rfl, hA⟩, hd3⟩, hT⟩, hP⟩, hok⟩ := hc
      refine ⟨_, _, _, h, fun f => ?_⟩
      exact CodeOkN.full (loop3c el1 o1 h1 A el3 o3 h3 P el o2 hd T d' f hA hd3 hT hP hok 0 (Nat.zero_le _)) rfl
    · cases h
  · cases h
/-! the loop that leaves a page out -/
noncomputable def L3b : Code := unl (lpOf Try.f3 1)
abbrev k3b : List Nat := [10, 12, 15, 16]
abbrev t3b : List Nat := [15, 16] ++ (List.range 19).map (· + 110)
def S3b (el3 : TypeId) (o3 h3 : Bool) (P : List AV) (l x y : Int) (f : Nat → Value) (i : Int) (acc : List AV) : St :=
  ⟨tmF k3b t3b [.vec 0, .ptr 0 0, .vec 2, i64 i] f 196 0, ⟨[some ⟨24, true, [i64 l, i64 x, i64 y]⟩], [some ⟨el3, true, c3, 0, o3, h3, P⟩, none, some ⟨24, true, c3, 2, true, true, acc⟩]⟩⟩
theorem raw3b (el3 : TypeId) (o3 h3 : Bool) (P : List AV) (l x y : Int) (f : Nat → Value) (i : Int) (acc : List AV) : turnK CallSem.nil Try.prog 1 L3b k3b t3b 1 2 (S3b el3 o3 h3 P l x y f i acc) =
    (bif decide (i < (P.length : Int)) then (if 0 ≤ i ∧ i < (P.length : Int) then (if i.toNat < P.length then
      (bif !eqP (P.getD i.toNat .bad) l x y then (if 0 ≤ i ∧ i < (P.length : Int) then (if i.toNat < P.length then
        (bif decide (acc.length + 1 ≤ 65536) && true && true && true && true then some (.normal, S3b el3 o3 h3 P l x y f (wi (i + 1)) (acc ++ [rx (P.getD i.toNat .bad)])) else none) else none) else none)
       else some (.normal, S3b el3 o3 h3 P l x y f (wi (i + 1)) acc)) else none) else none)
     else some (.exit 2, S3b el3 o3 h3 P l x y f i acc)) := by kernel_rfl
theorem turn3b (el3 : TypeId) (o3 h3 : Bool) (P : List AV) (l x y : Int) (f : Nat → Value) (j : Nat) (acc : List AV) (hj : j < P.length) (hP : P.length ≤ 16384) (ha : acc.length + 1 ≤ 65536) :
    turnK CallSem.nil Try.prog 1 L3b k3b t3b 1 2 (S3b el3 o3 h3 P l x y f (j : Nat) acc) = some (.normal, S3b el3 o3 h3 P l x y f ((j + 1 : Nat) : Int) (acc ++ (bif !eqP (P.getD j .bad) l x y then [rx (P.getD j .bad)] else []))) := by
  have e1 : wi (((j : Nat) : Int) + 1) = ((j + 1 : Nat) : Int) := by rw [wi_id (by omega) (by omega)]; omega
  have r1 : (0 ≤ ((j : Nat) : Int) ∧ ((j : Nat) : Int) < (P.length : Int)) := ⟨by omega, by omega⟩
  rw [raw3b, e1, decide_eq_true r1.2]
  simp only [Int.toNat_natCast, if_pos r1, if_pos hj, cond_true]
  cases eqP (P.getD j .bad) l x y <;> simp [ha]
theorem loop3b (el3 : TypeId) (o3 h3 : Bool) (P : List AV) (l x y : Int) (f : Nat → Value) (hP : P.length ≤ 16384) (s : Nat × List AV) (hi : s.1 ≤ P.length ∧ s.2.length + (P.length - s.1) ≤ 65536) :
    CodeOkN 1 2 Try.prog (.loop L3b) (S3b el3 o3 h3 P l x y f ((s.1 : Nat) : Int) s.2) (.exit 2) (S3b el3 o3 h3 P l x y f ((P.length : Nat) : Int) (s.2 ++ resF P l x y (P.length - s.1) s.1)) := by
  refine loop_ok (fun s : Nat × List AV => S3b el3 o3 h3 P l x y f ((s.1 : Nat) : Int) s.2) (fun s => (.exit 2, S3b el3 o3 h3 P l x y f ((P.length : Nat) : Int) (s.2 ++ resF P l x y (P.length - s.1) s.1)))
    (fun s => if s.1 < P.length then some (s.1 + 1, s.2 ++ (bif !eqP (P.getD s.1 .bad) l x y then [rx (P.getD s.1 .bad)] else [])) else none)
    (fun s => P.length - s.1) (fun s => s.1 ≤ P.length ∧ s.2.length + (P.length - s.1) ≤ 65536) ?_ ?_ s hi
  · rintro ⟨j, acc⟩ ⟨g1, g2⟩ hn
    refine ⟨fun e => (by cases e), ?_⟩
    have hj : j = P.length := by
      by_cases h : j < P.length
      · simp [h] at hn
      · simp only at g1; omega
    subst hj
    simp only
    rw [Nat.sub_self]
    simp only [resF, List.append_nil]
    exact turn_ok nilS mixed (LoopsOk.no _ _) rfl rfl (by rw [raw3b, decide_eq_false (by omega), cond_false]; rfl)
  · rintro ⟨j, acc⟩ s' ⟨g1, g2⟩ hn
    by_cases hj : j < P.length
    · simp only [hj, if_true, Option.some.injEq] at hn
      subst hn
      simp only at g1 g2
      refine ⟨⟨by simp only; omega, ?_⟩, by simp only; omega, ?_, turn_ok nilS mixed (LoopsOk.no _ _) rfl rfl (turn3b el3 o3 h3 P l x y f j acc hj hP (by omega))⟩
      · simp only [List.length_append]
        cases eqP (P.getD j .bad) l x y <;> simp <;> omega
      · simp only
        rw [show P.length - j = (P.length - (j + 1)) + 1 by omega, resF]
        simp
    · simp [hj] at hn
def rest_L3b : LSpec where
  n := 196
  nils := [⟨15, 24, true, c3⟩]
  keep := k3b
  touch := t3b
  run kv M k := match kv, M with
    | [.vec q0, .ptr b0 0, .vec q1, .lit (.int .i64 i)], ⟨[some ⟨24, true, [.lit (.int .i64 l), .lit (.int .i64 x), .lit (.int .i64 y)]⟩], [some ⟨el3, true, sh3, t3, o3, h3, P⟩, some ⟨el', true, sh, t1, true, true, []⟩]⟩ =>
      bif decide (q0 = 0) && decide (b0 = 0) && decide (q1 = 1) && decide (t3 = 0) && decide (t1 = 1) && decide (el' = 24) && decide (sh3 = c3) && decide (sh = c3) && decide (i = 0) && decide (P.length ≤ 16384) then
        k (.exit 2) [.vec 0, .ptr 0 0, .vec 2, i64 (P.length : Nat)] ⟨[some ⟨24, true, [i64 l, i64 x, i64 y]⟩], [some ⟨el3, true, c3, 0, o3, h3, P⟩, none, some ⟨24, true, c3, 2, true, true, resL P l x y⟩]⟩
      else none
    | _, _ => none
theorem rest_Lok3b : rest_L3b.Ok Try.prog (.loop L3b) := by
  intro R kv M k r h
  simp only [rest_L3b] at h
  split at h
  · rename_i q0 b0 q1 i l x y el3 sh3 t3 o3 h3 P el' sh t1
    simp only [cond_eq_ite, Bool.and_eq_true, decide_eq_true_eq] at h
    split at h
    · rename_i hc
      obtain ⟨⟨⟨⟨⟨⟨⟨⟨⟨rfl, rfl⟩, rfl⟩, rfl⟩, rfl⟩, rfl⟩, rfl⟩, rfl⟩, rfl⟩, hn⟩ := hc
      refine ⟨_, _, _, h, fun f => ?_⟩
      have hN := loop3b el3 o3 h3 P l x y f hn (0, []) ⟨Nat.zero_le _, by simp only [List.length_nil]; omega⟩
      exact CodeOkN.full (CodeOkN.enter [(15, true)] (st1 := S3b el3 o3 h3 P l x y f 0 []) (by kernel_rfl) rfl rfl hN) rfl
    · cases h
  · cases h
end Go.Proofs.Ytddilbhjjlmopaa
