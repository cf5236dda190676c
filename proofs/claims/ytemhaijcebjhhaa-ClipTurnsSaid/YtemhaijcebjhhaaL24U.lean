/- ClipTurns' own loops (chapter 24). -/
import Derived.Test.YtemhaijcebjhhaaL24T
set_option linter.unusedVariables false
set_option linter.unusedSimpArgs false
namespace Go.Proofs.Ytemhaijcebjhhaa
open Go Go.Sx Go.Fx
set_option maxRecDepth 100000
set_option linter.unusedVariables false
set_option linter.unusedSimpArgs false
noncomputable def L6P : Code := unl (lpOf Try.f6 0)
noncomputable def L6A : Code := unl (lpOf Try.f6 1)
noncomputable def L6B : Code := unl (lpOf Try.f6 2)
noncomputable def L6C : Code := unl (lpOf Try.f6 3)
theorem nodes6 : nodes (Try.f6.body.getD .skip) = [.loop L6P, .loop L6A, .loop L6B, .loop L6C] := by kernel_rfl
theorem nodes6B : nodes L6B = [.loop L6C] := by kernel_rfl
abbrev k6A : List Nat := [0, 9, 10, 11]
abbrev t6A : List Nat := [9, 11] ++ (List.range 17).map (· + 56)
def S6A (el : TypeId) (own hd : Bool) (L : List AV) (p : Int) (b : Bool) (f : Nat → Value) (i : Int) : St :=
  ⟨tmF k6A t6A [.vec 0, bo b, i64 p, i64 i] f 128 0, ⟨[], [some ⟨el, true, c6, 0, own, hd, L⟩]⟩⟩
theorem raw6A (el : TypeId) (own hd : Bool) (L : List AV) (p : Int) (b : Bool) (f : Nat → Value) (i : Int) : turnK cC Try.prog 1 L6A k6A t6A 0 1 (S6A el own hd L p b f i) =
    (bif decide (i < (L.length : Int)) then (bif b then (if 0 ≤ i ∧ i < (L.length : Int) then (if (i).toNat < L.length then some (.normal, S6A el own hd L p (inB (L.getD i.toNat .bad) p) f (wi (i + 1))) else none) else none) else some (.normal, S6A el own hd L p (false) f (wi (i + 1)))) else some (.exit 2, S6A el own hd L p b f i)) := by kernel_rfl
theorem turn6A (el : TypeId) (own hd : Bool) (L : List AV) (p : Int) (b : Bool) (f : Nat → Value) (j : Nat) (h : j < L.length) (hL : L.length ≤ 16384) :
    turnK cC Try.prog 1 L6A k6A t6A 0 1 (S6A el own hd L p b f (j : Nat)) = some (.normal, S6A el own hd L p (b && inB (L.getD j .bad) p) f ((j + 1 : Nat) : Int)) := by
  have e1 : wi (((j : Nat) : Int) + 1) = ((j + 1 : Nat) : Int) := by rw [wi_id (by omega) (by omega)]; omega
  rw [raw6A, e1, decide_eq_true (by omega), cond_true]
  simp only [Int.toNat_natCast, if_pos h, show (0 ≤ ((j : Nat) : Int) ∧ ((j : Nat) : Int) < (L.length : Int)) from ⟨by omega, by omega⟩, and_self, if_true]
  cases b <;> rfl
theorem drop_cons {L : List AV} {k : Nat} (h : k < L.length) : L.drop k = L.getD k .bad :: L.drop (k + 1) := by
  rw [List.drop_eq_getElem_cons h]
  simp [List.getD, List.getElem?_eq_getElem h]
theorem loop6A (el : TypeId) (own hd : Bool) (L : List AV) (p : Int) (f : Nat → Value) (hL : L.length ≤ 16384) (s : Nat × Bool) (hi : s.1 ≤ L.length) :
    CodeOkN 0 1 Try.prog (.loop L6A) (S6A el own hd L p s.2 f ((s.1 : Nat) : Int)) (.exit 2) (S6A el own hd L p (s.2 && (L.drop s.1).all fun x => inB x p) f (L.length : Nat)) := by
  refine loop_ok (fun s : Nat × Bool => S6A el own hd L p s.2 f ((s.1 : Nat) : Int)) (fun s => (.exit 2, S6A el own hd L p (s.2 && (L.drop s.1).all fun x => inB x p) f (L.length : Nat)))
    (fun s => if s.1 < L.length then some (s.1 + 1, s.2 && inB (L.getD s.1 .bad) p) else none) (fun s => L.length - s.1) (fun s => s.1 ≤ L.length) ?_ ?_ s hi
  · rintro ⟨j, b⟩ h1 hn
    refine ⟨fun e => (by cases e), ?_⟩
    have hj : j = L.length := by
      by_cases h : j < L.length
      · simp [h] at hn
      · simp only at h1; omega
    subst hj
    simp only
    rw [List.drop_eq_nil_of_le (Nat.le_refl _), List.all_nil, Bool.and_true]
    exact turn_ok cC_sound mixed (LoopsOk.no _ _) rfl rfl (by rw [raw6A, decide_eq_false (by omega), cond_false]; rfl)
  · rintro ⟨j, b⟩ s' h1 hn
    by_cases h : j < L.length
    · simp only [h, if_true, Option.some.injEq] at hn
      subst hn
      simp only at h1
      refine ⟨by simp only; omega, by simp only; omega, ?_, turn_ok cC_sound mixed (LoopsOk.no _ _) rfl rfl (turn6A el own hd L p b f j h hL)⟩
      simp only
      rw [drop_cons h, List.all_cons, Bool.and_assoc]
    · simp [h] at hn
def in_L : LSpec where
  n := 128
  nils := []
  keep := k6A
  touch := t6A
  run kv M k := match kv, M with
    | [.vec h0, .lit (.bool b), .lit (.int .i64 p), .lit (.int .i64 i)], ⟨[], [some ⟨el, true, sh, t0, o, h, L⟩]⟩ =>
      bif decide (h0 = 0) && decide (t0 = 0) && decide (sh = c6) && decide (i = 0) && decide (L.length ≤ 16384) then
        k (.exit 2) [.vec 0, bo (b && L.all fun x => inB x p), i64 p, i64 (L.length : Nat)] ⟨[], [some ⟨el, true, c6, 0, o, h, L⟩]⟩
      else none
    | _, _ => none
theorem in_Lok : in_L.Ok Try.prog (.loop L6A) := by
  intro R kv M k r h
  simp only [in_L] at h
  split at h
  · rename_i h0 b p i el sh t0 o hh L
    simp only [cond_eq_ite, Bool.and_eq_true, decide_eq_true_eq] at h
    split at h
    · rename_i hc
      obtain ⟨⟨⟨⟨rfl, rfl⟩, rfl⟩, rfl⟩, hn⟩ := hc
      refine ⟨_, _, _, h, fun f => ?_⟩
      exact CodeOkN.full (loop6A el o hh L p f hn (0, b) (Nat.zero_le _)) rfl
    · cases h
  · cases h

def eqB (x y : AV) : Bool := (vI x 0 == vI y 0 && (vI x 1 == vI y 1 && (vI x 2 == vI y 2 && (vI x 3 == vI y 3 && true)))) && (vI x 4 == vI y 4 && (vI x 5 == vI y 5 && true))
abbrev k6C : List Nat := [7, 8, 12, 13, 14, 15]
abbrev t6C : List Nat := [13, 14, 15] ++ (List.range 28).map (· + 96)
def S6C (el el' : TypeId) (o h o' h' : Bool) (L X : List AV) (f : Nat → Value) (i n m j : Int) : St :=
  ⟨tmF k6C t6C [.vec 0, .vec 1, i64 i, i64 n, i64 m, i64 j] f 128 0, ⟨[], [some ⟨el, true, c6, 0, o, h, L⟩, some ⟨el', true, c6, 1, o', h', X⟩]⟩⟩
theorem raw6C (el el' : TypeId) (o h o' h' : Bool) (L X : List AV) (f : Nat → Value) (i n m j : Int) : turnK CallSem.nil Try.prog 1 L6C k6C t6C 0 2 (S6C el el' o h o' h' L X f i n m j) =
    (bif decide (j < (L.length : Int)) then (if 0 ≤ j ∧ j < (L.length : Int) then (if (j).toNat < L.length then (if 0 ≤ i ∧ i < (L.length : Int) then (if (i).toNat < L.length then (bif eqB (L.getD j.toNat .bad) (L.getD i.toNat .bad) then (if 0 ≤ j ∧ j < (X.length : Int) then (if (j).toNat < X.length then (if 0 ≤ i ∧ i < (L.length : Int) then (if (i).toNat < L.length then (bif eqB (X.getD j.toNat .bad) (L.getD i.toNat .bad) then some (.normal, S6C el el' o h o' h' L X f i (wi (n + 1)) (wi (m + 1)) (wi (j + 1))) else some (.normal, S6C el el' o h o' h' L X f i (wi (n + 1)) (m) (wi (j + 1)))) else none) else none) else none) else none) else (if 0 ≤ j ∧ j < (X.length : Int) then (if (j).toNat < X.length then (if 0 ≤ i ∧ i < (L.length : Int) then (if (i).toNat < L.length then (bif eqB (X.getD j.toNat .bad) (L.getD i.toNat .bad) then some (.normal, S6C el el' o h o' h' L X f i (n) (wi (m + 1)) (wi (j + 1))) else some (.normal, S6C el el' o h o' h' L X f i (n) (m) (wi (j + 1)))) else none) else none) else none) else none)) else none) else none) else none) else none) else some (.exit 6, S6C el el' o h o' h' L X f i n m j)) := by kernel_rfl
end Go.Proofs.Ytemhaijcebjhhaa
