/- TableComes' loops: contracts (chapter 19). -/
import Derived.Test.YtddilbhjjlmopaaL19I
set_option linter.unusedVariables false
set_option linter.unusedSimpArgs false
namespace Go.Proofs.Ytddilbhjjlmopaa
open Go Go.Sx Go.Fx
set_option maxRecDepth 100000
set_option linter.unusedVariables false
set_option linter.unusedSimpArgs false

theorem turn5b (el1 : TypeId) (o1 h1 : Bool) (A : List AV) (el : TypeId) (o2 hd : Bool) (T : List AV) (d : Int) (f : Nat → Value) (j : Nat) (acc : List AV) (hj : j < A.length) (hA : A.length ≤ 16384) (hd3 : dB d = true) (hT : (T.length : Int) = cn d) (ha : acc.length + 1 ≤ 65536) :
    turnK cE2 Try.prog 1 L5b k5b t5b 1 3 (S5b el1 o1 h1 A el o2 hd T d f (j : Nat) acc) = some (.normal, S5b el1 o1 h1 A el o2 hd T d f ((j + 1 : Nat) : Int) (acc ++ [wasA T d (A.getD j .bad)])) := by
  have e1 : wi (((j : Nat) : Int) + 1) = ((j + 1 : Nat) : Int) := by rw [wi_id (by omega) (by omega)]; omega
  rw [raw5b, e1, Int.toNat_natCast, decide_eq_true (by omega), cond_true, if_pos (by omega), if_pos hj, hd3, decide_eq_true hT, decide_eq_true ha]
  rfl
theorem end5b (el1 : TypeId) (o1 h1 : Bool) (A : List AV) (el : TypeId) (o2 hd : Bool) (T : List AV) (d : Int) (f : Nat → Value) (j : Nat) (acc : List AV) (hj : A.length ≤ j) : turnK cE2 Try.prog 1 L5b k5b t5b 1 3 (S5b el1 o1 h1 A el o2 hd T d f (j : Nat) acc) = some (.exit 2, S5b el1 o1 h1 A el o2 hd T d f (j : Nat) acc) := by
  rw [raw5b, decide_eq_false (by omega), cond_false]
theorem loop5b (el1 : TypeId) (o1 h1 : Bool) (A : List AV) (el : TypeId) (o2 hd : Bool) (T : List AV) (d : Int) (f : Nat → Value) (hA : A.length ≤ 16384) (hd3 : dB d = true) (hT : (T.length : Int) = cn d) (s : Nat × List AV) (hi : s.1 ≤ A.length ∧ s.2.length + (A.length - s.1) ≤ 65536) :
    CodeOkN 1 3 Try.prog (.loop L5b) (S5b el1 o1 h1 A el o2 hd T d f ((s.1 : Nat) : Int) s.2) (.exit 2) (S5b el1 o1 h1 A el o2 hd T d f ((A.length : Nat) : Int) (s.2 ++ wasF T d A (A.length - s.1) s.1)) := by
  refine loop_ok (fun s : Nat × List AV => S5b el1 o1 h1 A el o2 hd T d f ((s.1 : Nat) : Int) s.2) (fun s => (.exit 2, S5b el1 o1 h1 A el o2 hd T d f ((A.length : Nat) : Int) (s.2 ++ wasF T d A (A.length - s.1) s.1)))
    (fun s => if s.1 < A.length then some (s.1 + 1, s.2 ++ [wasA T d (A.getD s.1 .bad)]) else none)
    (fun s => A.length - s.1) (fun s => s.1 ≤ A.length ∧ s.2.length + (A.length - s.1) ≤ 65536) ?_ ?_ s hi
  · rintro ⟨j, acc⟩ ⟨g1, g2⟩ hn
    refine ⟨fun e => (by cases e), ?_⟩
    have hj : j = A.length := by
      by_cases h : j < A.length
      · simp [h] at hn
      · simp only at g1; omega
    subst hj
    simp only
    rw [Nat.sub_self]
    simp only [wasF, List.append_nil]
    exact turn_ok cE2_sound mixed (LoopsOk.no _ _) rfl rfl (end5b el1 o1 h1 A el o2 hd T d f A.length acc (Nat.le_refl _))
  · rintro ⟨j, acc⟩ s' ⟨g1, g2⟩ hn
    by_cases hj : j < A.length
    · simp only [hj, if_true, Option.some.injEq] at hn
      subst hn
      simp only at g1 g2
      refine ⟨⟨by simp only; omega, by simp only [List.length_append, List.length_cons, List.length_nil]; omega⟩, by simp only; omega, ?_, turn_ok cE2_sound mixed (LoopsOk.no _ _) rfl rfl (turn5b el1 o1 h1 A el o2 hd T d f j acc hj hA hd3 hT (by omega))⟩
      simp only
      rw [show A.length - j = (A.length - (j + 1)) + 1 by omega, wasF]
      simp
    · simp [hj] at hn
def was_L5b : LSpec where
  n := 179
  nils := [⟨14, 24, true, c3⟩]
  keep := k5b
  touch := t5b
  run kv M k := match kv, M with
    | [.ptr b0 0, .vec q0, .vec q1, .lit (.int .i64 i)], ⟨[some ⟨48, true, [.lit (.int .i64 d), .vec q2]⟩], [some ⟨el1, true, sh1, t1, o1, h1, A⟩, some ⟨el3, true, sh3, t3, true, true, []⟩, some ⟨el, false, sh2, t2, o2, hd, T⟩]⟩ =>
      bif decide (b0 = 0) && decide (q0 = 0) && decide (q1 = 1) && decide (q2 = 2) && decide (t1 = 0) && decide (t3 = 1) && decide (t2 = 2) && decide (el3 = 24) && decide (sh1 = c3) && decide (sh3 = c3) && decide (sh2 = [.bool]) && decide (i = 0) && decide (A.length ≤ 16384) && dB d && decide ((T.length : Int) = cn d) then
        k (.exit 2) [.ptr 0 0, .vec 0, .vec 3, i64 (A.length : Nat)] ⟨[some ⟨48, true, [i64 d, .vec 2]⟩], [some ⟨el1, true, c3, 0, o1, h1, A⟩, none, some ⟨el, false, [.bool], 2, o2, hd, T⟩, some ⟨24, true, c3, 3, true, true, wasF T d A A.length 0⟩]⟩
      else none
    | _, _ => none
theorem was_Lok5b : was_L5b.Ok Try.prog (.loop L5b) := by
  intro R kv M k r h
  simp only [was_L5b] at h
  split at h
  · rename_i b0 q0 q1 i d q2 el1 sh1 t1 o1 h1 A el3 sh3 t3 el sh2 t2 o2 hd T
    simp only [cond_eq_ite, Bool.and_eq_true, decide_eq_true_eq] at h
    split at h
    · rename_i hc
      obtain ⟨⟨⟨⟨⟨⟨⟨⟨⟨⟨⟨⟨⟨⟨rfl, rfl⟩, rfl⟩, rfl⟩, rfl⟩, rfl⟩, rfl⟩, rfl⟩, rfl⟩, rfl⟩, rfl⟩, rfl⟩, hn⟩, hd3⟩, hT⟩ := hc
      refine ⟨_, _, _, h, fun f => ?_⟩
      have hN := loop5b el1 o1 h1 A el o2 hd T d f hn hd3 hT (0, []) ⟨Nat.zero_le _, by simp only [List.length_nil]; omega⟩
      exact CodeOkN.full (CodeOkN.enter [(14, true)] (st1 := S5b el1 o1 h1 A el o2 hd T d f 0 []) (by kernel_rfl) rfl rfl hN) rfl
    · cases h
  · cases h

theorem turn5c (el1 : TypeId) (o1 h1 : Bool) (A : List AV) (el2 : TypeId) (o3 h3 : Bool) (W : List AV) (el : TypeId) (o2 hd : Bool) (T : List AV) (d l x y : Int) (f : Nat → Value) (j : Nat) (hj : j < A.length) (hA : A.length ≤ 16384) (hW : W.length = A.length) (hd3 : dB d = true) (hT : (T.length : Int) = cn d) (hok : okC T d (A.getD j .bad) (W.getD j .bad) l x y = true) :
    turnK cE2 Try.prog 1 L5c k5c t5c 2 3 (S5c el1 o1 h1 A el2 o3 h3 W el o2 hd T d l x y f (j : Nat)) = some (.normal, S5c el1 o1 h1 A el2 o3 h3 W el o2 hd T d l x y f ((j + 1 : Nat) : Int)) := by
  have e1 : wi (((j : Nat) : Int) + 1) = ((j + 1 : Nat) : Int) := by rw [wi_id (by omega) (by omega)]; omega
  have r1 : (0 ≤ ((j : Nat) : Int) ∧ ((j : Nat) : Int) < (A.length : Int)) := ⟨by omega, by omega⟩
  have r2 : (0 ≤ ((j : Nat) : Int) ∧ ((j : Nat) : Int) < (W.length : Int)) := ⟨by omega, by omega⟩
  have r3 : j < W.length := by omega
  rw [raw5c, e1, hd3, decide_eq_true hT, decide_eq_true r1.2]
  simp only [Int.toNat_natCast, if_pos r1, if_pos r2, if_pos hj, if_pos r3, cond_true, Bool.and_self]
  unfold okC at hok
  cases hw : wcB d (A.getD j .bad) (W.getD j .bad) l x y
  · rw [hw] at hok
    simp only [cond_false, Bool.not_eq_true'] at hok
    rw [hok]; rfl
  · rw [hw] at hok
    simp only [cond_true, Bool.not_eq_true'] at hok
    rw [hok]; rfl
theorem loop5c (el1 : TypeId) (o1 h1 : Bool) (A : List AV) (el2 : TypeId) (o3 h3 : Bool) (W : List AV) (el : TypeId) (o2 hd : Bool) (T : List AV) (d l x y : Int) (f : Nat → Value) (hA : A.length ≤ 16384) (hW : W.length = A.length) (hd3 : dB d = true) (hT : (T.length : Int) = cn d) (hok : okCs T d A W l x y = true) (s : Nat) (hs : s ≤ A.length) :
    CodeOkN 2 3 Try.prog (.loop L5c) (S5c el1 o1 h1 A el2 o3 h3 W el o2 hd T d l x y f (s : Nat)) (.exit 4) (S5c el1 o1 h1 A el2 o3 h3 W el o2 hd T d l x y f (A.length : Nat)) := by
  refine loop_ok (fun s : Nat => S5c el1 o1 h1 A el2 o3 h3 W el o2 hd T d l x y f (s : Nat)) (fun _ => (.exit 4, S5c el1 o1 h1 A el2 o3 h3 W el o2 hd T d l x y f (A.length : Nat))) (fun s => if s < A.length then some (s + 1) else none)
    (fun s => A.length - s) (fun s => s ≤ A.length) ?_ ?_ s hs
  · intro s g1 hn
    refine ⟨fun e => (by cases e), ?_⟩
    have hj : s = A.length := by
      by_cases h : s < A.length
      · simp [h] at hn
      · omega
    subst hj
    exact turn_ok cE2_sound mixed (LoopsOk.no _ _) rfl rfl (by rw [raw5c, decide_eq_false (by omega), cond_false]; rfl)
  · intro s s' g1 hn
    by_cases h2 : s < A.length
    · simp only [h2, if_true, Option.some.injEq] at hn
      subst hn
      have hh : okC T d (A.getD s .bad) (W.getD s .bad) l x y = true := by
        have := hok
        simp only [okCs, List.all_eq_true] at this
        exact this s (List.mem_range.2 h2)
      exact ⟨by omega, by omega, rfl, turn_ok cE2_sound mixed (LoopsOk.no _ _) rfl rfl (turn5c el1 o1 h1 A el2 o3 h3 W el o2 hd T d l x y f s h2 hA hW hd3 hT hh)⟩
    · simp [h2] at hn
def chk_L5c : LSpec where
  n := 179
  nils := []
  keep := k5c
  touch := t5c
  run kv M k := match kv, M with
    | [.lit (.int .i64 d'), .ptr b0 0, .vec q0, .ptr b1 0, .vec q1, .lit (.int .i64 i)], ⟨[some ⟨48, true, [.lit (.int .i64 d), .vec q2]⟩, some ⟨24, true, [.lit (.int .i64 l), .lit (.int .i64 x), .lit (.int .i64 y)]⟩], [some ⟨el1, true, sh1, t1, o1, h1, A⟩, some ⟨el2, true, sh3, t3, o3, h3, W⟩, some ⟨el, false, sh2, t2, o2, hd, T⟩]⟩ =>
      bif decide (b0 = 0) && decide (q0 = 0) && decide (q1 = 1) && decide (q2 = 2) && decide (t1 = 0) && decide (t3 = 1) && decide (t2 = 2) && decide (sh1 = c3) && decide (sh3 = c3) && decide (sh2 = [.bool]) && decide (i = 0) && decide (d' = d) && decide (b1 = 1) && decide (A.length ≤ 16384) && decide (W.length = A.length) && dB d && decide ((T.length : Int) = cn d) && okCs T d A W l x y then
        k (.exit 4) [i64 d, .ptr 0 0, .vec 0, .ptr 1 0, .vec 1, i64 (A.length : Nat)] ⟨[some ⟨48, true, [i64 d, .vec 2]⟩, some ⟨24, true, [i64 l, i64 x, i64 y]⟩], [some ⟨el1, true, c3, 0, o1, h1, A⟩, some ⟨el2, true, c3, 1, o3, h3, W⟩, some ⟨el, false, [.bool], 2, o2, hd, T⟩]⟩
      else none
    | _, _ => none
theorem chk_Lok5c : chk_L5c.Ok Try.prog (.loop L5c) := by
  intro R kv M k r h
  simp only [chk_L5c] at h
  split at h
  · rename_i d' b0 q0 b1 q1 i d q2 l x y el1 sh1 t1 o1 h1 A el2 sh3 t3 o3 h3 W el sh2 t2 o2 hd T
    simp only [cond_eq_ite, Bool.and_eq_true, decide_eq_true_eq] at h
    split at h
    · rename_i hc
      obtain ⟨⟨⟨⟨⟨⟨⟨⟨⟨⟨⟨⟨⟨⟨⟨⟨⟨rfl, rfl⟩, rfl⟩, rfl⟩, rfl⟩, rfl⟩, rfl⟩, rfl⟩, rfl⟩, rfl⟩, rfl⟩, rfl⟩, rfl⟩, hn⟩, hW⟩, hd3⟩, hT⟩, hok⟩ := hc
      refine ⟨_, _, _, h, fun f => ?_⟩
      exact CodeOkN.full (loop5c el1 o1 h1 A el2 o3 h3 W el o2 hd T d' l x y f hn hW hd3 hT hok 0 (Nat.zero_le _)) rfl
    · cases h
  · cases h

theorem turn5d (el1 : TypeId) (o1 h1 : Bool) (A : List AV) (el2 : TypeId) (o3 h3 : Bool) (W : List AV) (el : TypeId) (o2 hd : Bool) (T : List AV) (d : Int) (f : Nat → Value) (j : Nat) (hj : j < A.length) (hA : A.length ≤ 16384) (hW : W.length = A.length) (hd3 : dB d = true) (hT : (T.length : Int) = cn d) (hok : okD T d (A.getD j .bad) (W.getD j .bad) = true) :
    turnK cE2 Try.prog 1 L5d k5d t5d 1 3 (S5d el1 o1 h1 A el2 o3 h3 W el o2 hd T d f (j : Nat)) = some (.normal, S5d el1 o1 h1 A el2 o3 h3 W el o2 hd T d f ((j + 1 : Nat) : Int)) := by
  have e1 : wi (((j : Nat) : Int) + 1) = ((j + 1 : Nat) : Int) := by rw [wi_id (by omega) (by omega)]; omega
  have r1 : (0 ≤ ((j : Nat) : Int) ∧ ((j : Nat) : Int) < (A.length : Int)) := ⟨by omega, by omega⟩
  have r2 : (0 ≤ ((j : Nat) : Int) ∧ ((j : Nat) : Int) < (W.length : Int)) := ⟨by omega, by omega⟩
  have r3 : j < W.length := by omega
  rw [raw5d, e1, hd3, decide_eq_true hT, decide_eq_true r1.2]
  simp only [Int.toNat_natCast, if_pos r1, if_pos r2, if_pos hj, if_pos r3, cond_true, Bool.and_self]
  rw [hok]; rfl
theorem loop5d (el1 : TypeId) (o1 h1 : Bool) (A : List AV) (el2 : TypeId) (o3 h3 : Bool) (W : List AV) (el : TypeId) (o2 hd : Bool) (T : List AV) (d : Int) (f : Nat → Value) (hA : A.length ≤ 16384) (hW : W.length = A.length) (hd3 : dB d = true) (hT : (T.length : Int) = cn d) (hok : okDs T d A W = true) (s : Nat) (hs : s ≤ A.length) :
    CodeOkN 1 3 Try.prog (.loop L5d) (S5d el1 o1 h1 A el2 o3 h3 W el o2 hd T d f (s : Nat)) (.exit 6) (S5d el1 o1 h1 A el2 o3 h3 W el o2 hd T d f (A.length : Nat)) := by
  refine loop_ok (fun s : Nat => S5d el1 o1 h1 A el2 o3 h3 W el o2 hd T d f (s : Nat)) (fun _ => (.exit 6, S5d el1 o1 h1 A el2 o3 h3 W el o2 hd T d f (A.length : Nat))) (fun s => if s < A.length then some (s + 1) else none)
    (fun s => A.length - s) (fun s => s ≤ A.length) ?_ ?_ s hs
  · intro s g1 hn
    refine ⟨fun e => (by cases e), ?_⟩
    have hj : s = A.length := by
      by_cases h : s < A.length
      · simp [h] at hn
      · omega
    subst hj
    exact turn_ok cE2_sound mixed (LoopsOk.no _ _) rfl rfl (by rw [raw5d, decide_eq_false (by omega), cond_false]; rfl)
  · intro s s' g1 hn
    by_cases h2 : s < A.length
    · simp only [h2, if_true, Option.some.injEq] at hn
      subst hn
      have hh : okD T d (A.getD s .bad) (W.getD s .bad) = true := by
        have := hok
        simp only [okDs, List.all_eq_true] at this
        exact this s (List.mem_range.2 h2)
      exact ⟨by omega, by omega, rfl, turn_ok cE2_sound mixed (LoopsOk.no _ _) rfl rfl (turn5d el1 o1 h1 A el2 o3 h3 W el o2 hd T d f s h2 hA hW hd3 hT hh)⟩
    · simp [h2] at hn
def chk_L5d : LSpec where
  n := 179
  nils := []
  keep := k5d
  touch := t5d
  run kv M k := match kv, M with
    | [.ptr b0 0, .vec q0, .vec q1, .lit (.int .i64 i)], ⟨[some ⟨48, true, [.lit (.int .i64 d), .vec q2]⟩], [some ⟨el1, true, sh1, t1, o1, h1, A⟩, some ⟨el2, true, sh3, t3, o3, h3, W⟩, some ⟨el, false, sh2, t2, o2, hd, T⟩]⟩ =>
      bif decide (b0 = 0) && decide (q0 = 0) && decide (q1 = 1) && decide (q2 = 2) && decide (t1 = 0) && decide (t3 = 1) && decide (t2 = 2) && decide (sh1 = c3) && decide (sh3 = c3) && decide (sh2 = [.bool]) && decide (i = 0) && decide (A.length ≤ 16384) && decide (W.length = A.length) && dB d && decide ((T.length : Int) = cn d) && okDs T d A W then
        k (.exit 6) [.ptr 0 0, .vec 0, .vec 1, i64 (A.length : Nat)] ⟨[some ⟨48, true, [i64 d, .vec 2]⟩], [some ⟨el1, true, c3, 0, o1, h1, A⟩, some ⟨el2, true, c3, 1, o3, h3, W⟩, some ⟨el, false, [.bool], 2, o2, hd, T⟩]⟩
      else none
    | _, _ => none
theorem chk_Lok5d : chk_L5d.Ok Try.prog (.loop L5d) := by
  intro R kv M k r h
  simp only [chk_L5d] at h
  split at h
  · rename_i b0 q0 q1 i d q2 el1 sh1 t1 o1 h1 A el2 sh3 t3 o3 h3 W el sh2 t2 o2 hd T
    simp only [cond_eq_ite, Bool.and_eq_true, decide_eq_true_eq] at h
    split at h
    · rename_i hc
      obtain ⟨⟨⟨⟨⟨⟨⟨⟨⟨⟨⟨⟨⟨⟨⟨rfl, rfl⟩, rfl⟩, rfl⟩, rfl⟩, rfl⟩, rfl⟩, rfl⟩, rfl⟩, rfl⟩, rfl⟩, hn⟩, hW⟩, hd3⟩, hT⟩, hok⟩ := hc
      refine ⟨_, _, _, h, fun f => ?_⟩
      exact CodeOkN.full (loop5d el1 o1 h1 A el2 o3 h3 W el o2 hd T d f hn hW hd3 hT hok 0 (Nat.zero_le _)) rfl
    · cases h
  · cases h

end Go.Proofs.Ytddilbhjjlmopaa
