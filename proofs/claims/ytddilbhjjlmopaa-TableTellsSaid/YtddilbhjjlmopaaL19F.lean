/- The loop that sets pages (chapter 19). -/
import Derived.Test.YtddilbhjjlmopaaL19E
import Derived.Test.YtddilbhjjlmopaaSxThree
set_option linter.unusedVariables false
set_option linter.unusedSimpArgs false
namespace Go.Proofs.Ytddilbhjjlmopaa
open Go Go.Sx Go.Fx
set_option maxRecDepth 100000
set_option linter.unusedVariables false
set_option linter.unusedSimpArgs false

noncomputable def L4 : Code := unl (lpOf Try.f4 0)
abbrev k4 : List Nat := [1, 8, 10, 11]
abbrev t4 : List Nat := [6, 11] ++ (List.range 19).map (· + 37)
def S4 (el0 : TypeId) (o0 h0 : Bool) (L : List AV) (el1 : TypeId) (o1 h1 : Bool) (A : List AV) (el : TypeId) (d : Int) (f : Nat → Value) (i : Int) (T : List AV) : St :=
  ⟨tmF k4 t4 [.vec 0, .ptr 0 0, .vec 1, i64 i] f 119 0, ⟨[some ⟨48, true, [i64 d, .vec 2]⟩], [some ⟨el0, false, [.int .i64], 0, o0, h0, L⟩, some ⟨el1, true, c3, 1, o1, h1, A⟩, some ⟨el, false, [.bool], 2, true, true, T⟩]⟩⟩
theorem raw4 (el0 : TypeId) (o0 h0 : Bool) (L : List AV) (el1 : TypeId) (o1 h1 : Bool) (A : List AV) (el : TypeId) (d : Int) (f : Nat → Value) (i : Int) (T : List AV) : turnK cE0 Try.prog 1 L4 k4 t4 1 3 (S4 el0 o0 h0 L el1 o1 h1 A el d f i T) =
    (bif decide (i < (L.length : Int)) then (if 0 ≤ i ∧ i < (L.length : Int) then (if i.toNat < L.length then (bif rG (A.length : Int) then
      (if 0 ≤ (L.getD i.toNat .bad).getInt % (A.length : Int) ∧ (L.getD i.toNat .bad).getInt % (A.length : Int) < (A.length : Int) then (if ((L.getD i.toNat .bad).getInt % (A.length : Int)).toNat < A.length then
      (bif decide ((T.length : Int) = cn d) then (bif (bif setB d (cI (A.getD ((L.getD i.toNat .bad).getInt % (A.length : Int)).toNat .bad) 0) (cI (A.getD ((L.getD i.toNat .bad).getInt % (A.length : Int)).toNat .bad) 1) (cI (A.getD ((L.getD i.toNat .bad).getInt % (A.length : Int)).toNat .bad) 2) true then (0 : Int) else 1) != 0 then some (.ret, S4 el0 o0 h0 L el1 o1 h1 A el d f i (setL T d (cI (A.getD ((L.getD i.toNat .bad).getInt % (A.length : Int)).toNat .bad) 0) (cI (A.getD ((L.getD i.toNat .bad).getInt % (A.length : Int)).toNat .bad) 1) (cI (A.getD ((L.getD i.toNat .bad).getInt % (A.length : Int)).toNat .bad) 2) true)) else some (.normal, S4 el0 o0 h0 L el1 o1 h1 A el d f (wi (i + 1)) (setL T d (cI (A.getD ((L.getD i.toNat .bad).getInt % (A.length : Int)).toNat .bad) 0) (cI (A.getD ((L.getD i.toNat .bad).getInt % (A.length : Int)).toNat .bad) 1) (cI (A.getD ((L.getD i.toNat .bad).getInt % (A.length : Int)).toNat .bad) 2) true))) else none) else none) else none) else none) else none) else none)
     else some (.exit 0, S4 el0 o0 h0 L el1 o1 h1 A el d f i T)) := by kernel_rfl
theorem turn4 (el0 : TypeId) (o0 h0 : Bool) (L : List AV) (el1 : TypeId) (o1 h1 : Bool) (A : List AV) (el : TypeId) (d : Int) (f : Nat → Value) (j : Nat) (T : List AV) (hj : j < L.length) (hL : L.length ≤ 16384) (hA : goodL d A = true) (hT : (T.length : Int) = cn d) :
    turnK cE0 Try.prog 1 L4 k4 t4 1 3 (S4 el0 o0 h0 L el1 o1 h1 A el d f (j : Nat) T) = some (.normal, S4 el0 o0 h0 L el1 o1 h1 A el d f ((j + 1 : Nat) : Int) (T.set (ixA A (L.getD j .bad)) (bv true))) := by
  have e1 : wi (((j : Nat) : Int) + 1) = ((j + 1 : Nat) : Int) := by rw [wi_id (by omega) (by omega)]; omega
  obtain ⟨b0, b1, b2, b3⟩ := ixA_bd hA (L.getD j .bad)
  obtain ⟨hv, hk⟩ := goodL_at hA b2
  have hs : setB d (cI (A.getD (ixA A (L.getD j .bad)) .bad) 0) (cI (A.getD (ixA A (L.getD j .bad)) .bad) 1) (cI (A.getD (ixA A (L.getD j .bad)) .bad) 2) true = true := by
    unfold setB; rw [hv]; simp
  have hsl : setL T d (cI (A.getD (ixA A (L.getD j .bad)) .bad) 0) (cI (A.getD (ixA A (L.getD j .bad)) .bad) 1) (cI (A.getD (ixA A (L.getD j .bad)) .bad) 2) true = T.set (ixA A (L.getD j .bad)) (bv true) := by
    unfold setL; rw [hs, hk, Int.toNat_natCast]; rfl
  rw [raw4, e1, Int.toNat_natCast, decide_eq_true (by omega), cond_true, if_pos (by omega), if_pos hj, goodL_rG hA, cond_true, if_pos ⟨b0, b1⟩, if_pos (show ((L.getD j .bad).getInt % (A.length : Int)).toNat < A.length from b2), decide_eq_true hT, cond_true]
  have e2 : ((L.getD j .bad).getInt % (A.length : Int)).toNat = ixA A (L.getD j .bad) := rfl
  rw [e2, hs, hsl]
  rfl
theorem end4 (el0 : TypeId) (o0 h0 : Bool) (L : List AV) (el1 : TypeId) (o1 h1 : Bool) (A : List AV) (el : TypeId) (d : Int) (f : Nat → Value) (j : Nat) (T : List AV) (hj : L.length ≤ j) :
    turnK cE0 Try.prog 1 L4 k4 t4 1 3 (S4 el0 o0 h0 L el1 o1 h1 A el d f (j : Nat) T) = some (.exit 0, S4 el0 o0 h0 L el1 o1 h1 A el d f (j : Nat) T) := by
  rw [raw4, decide_eq_false (by omega), cond_false]
theorem loop4 (el0 : TypeId) (o0 h0 : Bool) (L : List AV) (el1 : TypeId) (o1 h1 : Bool) (A : List AV) (el : TypeId) (d : Int) (f : Nat → Value) (hL : L.length ≤ 16384) (hA : goodL d A = true) (s : Nat × List AV) (hi : s.1 ≤ L.length ∧ (s.2.length : Int) = cn d) :
    CodeOkN 1 3 Try.prog (.loop L4) (S4 el0 o0 h0 L el1 o1 h1 A el d f ((s.1 : Nat) : Int) s.2) (.exit 0) (S4 el0 o0 h0 L el1 o1 h1 A el d f ((L.length : Nat) : Int) (setF L A (L.length - s.1) s.1 s.2)) := by
  refine loop_ok (fun s : Nat × List AV => S4 el0 o0 h0 L el1 o1 h1 A el d f ((s.1 : Nat) : Int) s.2) (fun s => (.exit 0, S4 el0 o0 h0 L el1 o1 h1 A el d f ((L.length : Nat) : Int) (setF L A (L.length - s.1) s.1 s.2)))
    (fun s => if s.1 < L.length then some (s.1 + 1, s.2.set (ixA A (L.getD s.1 .bad)) (bv true)) else none)
    (fun s => L.length - s.1) (fun s => s.1 ≤ L.length ∧ (s.2.length : Int) = cn d) ?_ ?_ s hi
  · rintro ⟨j, T⟩ ⟨g1, g2⟩ hn
    refine ⟨fun e => (by cases e), ?_⟩
    have hj : j = L.length := by
      by_cases h : j < L.length
      · simp [h] at hn
      · simp only at g1; omega
    subst hj
    simp only
    rw [Nat.sub_self]
    exact turn_ok cE0_sound mixed (LoopsOk.no _ _) rfl rfl (end4 el0 o0 h0 L el1 o1 h1 A el d f L.length T (Nat.le_refl _))
  · rintro ⟨j, T⟩ s' ⟨g1, g2⟩ hn
    by_cases hj : j < L.length
    · simp only [hj, if_true, Option.some.injEq] at hn
      subst hn
      simp only at g1 g2
      refine ⟨⟨by simp only; omega, by simpa using g2⟩, by simp only; omega, ?_, turn_ok cE0_sound mixed (LoopsOk.no _ _) rfl rfl (turn4 el0 o0 h0 L el1 o1 h1 A el d f j T hj hL hA g2)⟩
      simp only
      rw [show L.length - j = (L.length - (j + 1)) + 1 by omega, setF]
    · simp [hj] at hn
def set_L4 : LSpec where
  n := 119
  nils := []
  keep := k4
  touch := t4
  run kv M k := match kv, M with
    | [.vec q0, .ptr b 0, .vec q1, .lit (.int .i64 i)], ⟨[some ⟨48, true, [.lit (.int .i64 d), .vec q2]⟩], [some ⟨el0, false, sh0, t0, o0, h0, L⟩, some ⟨el1, true, sh1, t1, o1, h1, A⟩, some ⟨el, false, sh2, t2, true, true, T⟩]⟩ =>
      bif decide (q0 = 0) && decide (b = 0) && decide (q1 = 1) && decide (q2 = 2) && decide (t0 = 0) && decide (t1 = 1) && decide (t2 = 2) && decide (sh0 = [.int .i64]) && decide (sh1 = c3) && decide (sh2 = [.bool]) && decide (i = 0) && decide (L.length ≤ 16384) && goodL d A && decide ((T.length : Int) = cn d) then
        k (.exit 0) [.vec 0, .ptr 0 0, .vec 1, i64 (L.length : Nat)] ⟨[some ⟨48, true, [i64 d, .vec 2]⟩], [some ⟨el0, false, [.int .i64], 0, o0, h0, L⟩, some ⟨el1, true, c3, 1, o1, h1, A⟩, some ⟨el, false, [.bool], 2, true, true, setF L A L.length 0 T⟩]⟩
      else none
    | _, _ => none
theorem set_Lok4 : set_L4.Ok Try.prog (.loop L4) := by
  intro R kv M k r h
  simp only [set_L4] at h
  split at h
  · rename_i q0 b q1 i d q2 el0 sh0 t0 o0 h0 L el1 sh1 t1 o1 h1 A el sh2 t2 T
    simp only [cond_eq_ite, Bool.and_eq_true, decide_eq_true_eq] at h
    split at h
    · rename_i hc
      obtain ⟨⟨⟨⟨⟨⟨⟨⟨⟨⟨⟨⟨⟨rfl, rfl⟩, rfl⟩, rfl⟩, rfl⟩, rfl⟩, rfl⟩, rfl⟩, rfl⟩, rfl⟩, rfl⟩, hn⟩, hA⟩, hT⟩ := hc
      refine ⟨_, _, _, h, fun f => ?_⟩
      have hN := loop4 el0 o0 h0 L el1 o1 h1 A el d f hn hA (0, T) ⟨Nat.zero_le _, hT⟩
      exact CodeOkN.full hN rfl
    · cases h
  · cases h

end Go.Proofs.Ytddilbhjjlmopaa
