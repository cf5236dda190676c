/- far, same and ClipTells' own loop (chapter 24). -/
import Derived.Test.YtemhaijcebjhhaaL24R
import Derived.Test.YtemhaijcebjhhaaClipE
set_option linter.unusedVariables false
set_option linter.unusedSimpArgs false
namespace Go.Proofs.Ytemhaijcebjhhaa
open Go Go.Sx Go.Fx
set_option maxRecDepth 100000
set_option linter.unusedVariables false
set_option linter.unusedSimpArgs false
theorem gF {α : Type} (n : Int) (T R : α) : (bif decide (n < -536870912) then T else bif decide (n > 536870912) then T else R) = bif okP n then R else T := by
  unfold okP
  by_cases h1 : n < -536870912
  · rw [decide_eq_true h1, decide_eq_false (show ¬ -536870912 ≤ n by omega)]; rfl
  · by_cases h2 : n > 536870912
    · rw [decide_eq_false h1, decide_eq_true h2, decide_eq_false (show ¬ n ≤ 536870912 by omega), Bool.and_false]; rfl
    · rw [decide_eq_false h1, decide_eq_false h2, decide_eq_true (show -536870912 ≤ n by omega), decide_eq_true (show n ≤ 536870912 by omega)]; rfl
theorem gU {α : Type} (n : Int) (T R : α) : (bif decide (n < -134217728) then T else bif decide (n > 134217728) then T else R) = bif okU n then R else T := by
  unfold okU
  by_cases h1 : n < -134217728
  · rw [decide_eq_true h1, decide_eq_false (show ¬ -134217728 ≤ n by omega)]; rfl
  · by_cases h2 : n > 134217728
    · rw [decide_eq_false h1, decide_eq_true h2, decide_eq_false (show ¬ n ≤ 134217728 by omega), Bool.and_false]; rfl
    · rw [decide_eq_false h1, decide_eq_false h2, decide_eq_true (show -134217728 ≤ n by omega), decide_eq_true (show n ≤ 134217728 by omega)]; rfl
theorem gA {α : Type} (a b : Bool) (T R : α) : (bif a then (bif b then R else T) else T) = bif a && b then R else T := by cases a <;> rfl
noncomputable def L7 : Code := unl (lpOf Try.f7 0)
theorem nodes7 : nodes (Try.f7.body.getD .skip) = [.loop L7, .loop (unl (lpOf Try.f7 1))] := by kernel_rfl
abbrev k7 : List Nat := [0, 2, 3]
abbrev t7 : List Nat := [2, 3, 4] ++ (List.range 58).map (· + 5)
def S7 (el : TypeId) (own hd : Bool) (L : List AV) (b : Bool) (f : Nat → Value) (i : Int) : St :=
  ⟨tmF k7 t7 [.vec 0, bo b, i64 i] f 63 0, ⟨[], [some ⟨el, true, c6, 0, own, hd, L⟩]⟩⟩
theorem raw7 (el : TypeId) (own hd : Bool) (L : List AV) (b : Bool) (f : Nat → Value) (i : Int) : turnK CallSem.nil Try.prog 5 L7 k7 t7 0 1 (S7 el own hd L b f i) =
    (bif decide (i < (L.length : Int)) then (if 0 ≤ i ∧ i < (L.length : Int) then (if (i).toNat < L.length then (bif decide (vI (L.getD i.toNat .bad) 0 < -536870912) then some (.ret, S7 el own hd L true f i) else (if 0 ≤ i ∧ i < (L.length : Int) then (if (i).toNat < L.length then (bif decide (vI (L.getD i.toNat .bad) 0 > 536870912) then some (.ret, S7 el own hd L true f i) else (if 0 ≤ i ∧ i < (L.length : Int) then (if (i).toNat < L.length then (bif decide (vI (L.getD i.toNat .bad) 1 < -536870912) then some (.ret, S7 el own hd L true f i) else (if 0 ≤ i ∧ i < (L.length : Int) then (if (i).toNat < L.length then (bif decide (vI (L.getD i.toNat .bad) 1 > 536870912) then some (.ret, S7 el own hd L true f i) else (if 0 ≤ i ∧ i < (L.length : Int) then (if (i).toNat < L.length then (bif decide (vI (L.getD i.toNat .bad) 2 < -536870912) then some (.ret, S7 el own hd L true f i) else (if 0 ≤ i ∧ i < (L.length : Int) then (if (i).toNat < L.length then (bif decide (vI (L.getD i.toNat .bad) 2 > 536870912) then some (.ret, S7 el own hd L true f i) else (if 0 ≤ i ∧ i < (L.length : Int) then (if (i).toNat < L.length then (bif decide (vI (L.getD i.toNat .bad) 3 < -536870912) then some (.ret, S7 el own hd L true f i) else (if 0 ≤ i ∧ i < (L.length : Int) then (if (i).toNat < L.length then (bif decide (vI (L.getD i.toNat .bad) 3 > 536870912) then some (.ret, S7 el own hd L true f i) else (if 0 ≤ i ∧ i < (L.length : Int) then (if (i).toNat < L.length then (bif decide (vI (L.getD i.toNat .bad) 4 < -134217728) then some (.ret, S7 el own hd L true f i) else (if 0 ≤ i ∧ i < (L.length : Int) then (if (i).toNat < L.length then (bif decide (vI (L.getD i.toNat .bad) 4 > 134217728) then some (.ret, S7 el own hd L true f i) else (if 0 ≤ i ∧ i < (L.length : Int) then (if (i).toNat < L.length then (bif decide (vI (L.getD i.toNat .bad) 5 < -134217728) then some (.ret, S7 el own hd L true f i) else (if 0 ≤ i ∧ i < (L.length : Int) then (if (i).toNat < L.length then (bif decide (vI (L.getD i.toNat .bad) 5 > 134217728) then some (.ret, S7 el own hd L true f i) else some (.normal, S7 el own hd L b f (wi (i + 1)))) else none) else none)) else none) else none)) else none) else none)) else none) else none)) else none) else none)) else none) else none)) else none) else none)) else none) else none)) else none) else none)) else none) else none)) else none) else none)) else none) else none) else some (.exit 0, S7 el own hd L b f i)) := by kernel_rfl
theorem turn7 (el : TypeId) (own hd : Bool) (L : List AV) (b : Bool) (f : Nat → Value) (j : Nat) (h : j < L.length) (hL : L.length ≤ 16384) :
    turnK CallSem.nil Try.prog 5 L7 k7 t7 0 1 (S7 el own hd L b f (j : Nat)) = bif okx (L.getD j .bad) then some (.normal, S7 el own hd L b f ((j + 1 : Nat) : Int)) else some (.ret, S7 el own hd L true f (j : Nat)) := by
  have e1 : wi (((j : Nat) : Int) + 1) = ((j + 1 : Nat) : Int) := by rw [wi_id (by omega) (by omega)]; omega
  rw [raw7, e1, decide_eq_true (by omega), cond_true]
  simp only [Int.toNat_natCast, if_pos h, show (0 ≤ ((j : Nat) : Int) ∧ ((j : Nat) : Int) < (L.length : Int)) from ⟨by omega, by omega⟩, and_self, if_true]
  simp only [gF, gU, gA]
  simp only [okx, okv, Bool.and_assoc]
/-- the first that is not as promised -/
def badX (L : List AV) : Nat → Nat → Nat
  | 0, j => j
  | m + 1, j => bif okx (L.getD j .bad) then badX L m (j + 1) else j
def okXs (L : List AV) : Nat → Nat → Bool
  | 0, _ => true
  | m + 1, j => okx (L.getD j .bad) && okXs L m (j + 1)
theorem okXs_all (L : List AV) : ∀ m j, j + m = L.length → okXs L m j = (L.drop j).all okx
  | 0, j, h => by rw [List.drop_eq_nil_of_le (by omega)]; rfl
  | m + 1, j, h => by
    have hj : j < L.length := by omega
    rw [okXs, okXs_all L m (j + 1) (by omega), show L.drop j = L.getD j .bad :: L.drop (j + 1) by rw [List.drop_eq_getElem_cons hj]; simp [List.getD, List.getElem?_eq_getElem hj], List.all_cons]
theorem badX_ok (L : List AV) : ∀ m j, okXs L m j = true → badX L m j = j + m
  | 0, j, _ => rfl
  | m + 1, j, h => by
    simp only [okXs, Bool.and_eq_true] at h
    rw [badX, h.1, cond_true, badX_ok L m (j + 1) h.2]; omega
theorem loop7 (el : TypeId) (own hd : Bool) (L : List AV) (b : Bool) (f : Nat → Value) (hL : L.length ≤ 16384) (j : Nat) (hi : j ≤ L.length) :
    CodeOkN 0 1 Try.prog (.loop L7) (S7 el own hd L b f (j : Nat)) (bif okXs L (L.length - j) j then .exit 0 else .ret) (S7 el own hd L (bif okXs L (L.length - j) j then b else true) f ((badX L (L.length - j) j : Nat) : Int)) := by
  refine loop_ok (fun j : Nat => S7 el own hd L b f (j : Nat)) (fun j => (bif okXs L (L.length - j) j then .exit 0 else .ret, S7 el own hd L (bif okXs L (L.length - j) j then b else true) f ((badX L (L.length - j) j : Nat) : Int)))
    (fun j => if j < L.length ∧ okx (L.getD j .bad) = true then some (j + 1) else none) (fun j => L.length - j) (fun j => j ≤ L.length) ?_ ?_ j hi
  · intro j h1 hn
    refine ⟨fun e => ?_, ?_⟩
    · revert e
      simp only
      cases okXs L (L.length - j) j <;> exact fun e => by cases e
    by_cases h2 : j < L.length
    · have h3 : okx (L.getD j .bad) = false := by
        cases h4 : okx (L.getD j .bad) with
        | false => rfl
        | true => rw [if_pos ⟨h2, h4⟩] at hn; cases hn
      have e : L.length - j = (L.length - (j + 1)) + 1 := by omega
      simp only
      rw [e, okXs, badX, h3]
      exact turn_ok nilS mixed (LoopsOk.no _ _) rfl rfl (by rw [turn7 el own hd L b f j h2 hL, h3]; rfl)
    · have e : L.length - j = 0 := by omega
      simp only
      rw [e]
      exact turn_ok nilS mixed (LoopsOk.no _ _) rfl rfl (by rw [raw7, decide_eq_false (by omega), cond_false]; rfl)
  · intro j s' h1 hn
    by_cases h2 : j < L.length ∧ okx (L.getD j .bad) = true
    · rw [if_pos h2] at hn
      simp only [Option.some.injEq] at hn
      subst hn
      have e : L.length - j = (L.length - (j + 1)) + 1 := by omega
      refine ⟨by omega, by omega, ?_, turn_ok nilS mixed (LoopsOk.no _ _) rfl rfl (by rw [turn7 el own hd L b f j h2.1 hL, h2.2]; rfl)⟩
      rw [e, okXs, badX, h2.2]; rfl
    · rw [if_neg h2] at hn; cases hn
def far_L : LSpec where
  n := 63
  nils := []
  keep := k7
  touch := t7
  run kv M k := match kv, M with
    | [.vec h0, .lit (.bool b), .lit (.int .i64 i)], ⟨[], [some ⟨el, true, sh0, t0, own, hd, L⟩]⟩ =>
      bif decide (h0 = 0) && decide (t0 = 0) && decide (sh0 = c6) && decide (i = 0) && decide (L.length ≤ 16384) then
        (bif L.all okx then k (.exit 0) [.vec 0, bo b, i64 ((badX L L.length 0 : Nat) : Int)] ⟨[], [some ⟨el, true, c6, 0, own, hd, L⟩]⟩
         else k .ret [.vec 0, bo true, i64 ((badX L L.length 0 : Nat) : Int)] ⟨[], [some ⟨el, true, c6, 0, own, hd, L⟩]⟩)
      else none
    | _, _ => none
theorem far_Lok : far_L.Ok Try.prog (.loop L7) := by
  intro R kv M k r h
  simp only [far_L] at h
  split at h
  · rename_i h0 b i el sh0 t0 own hd L
    simp only [cond_eq_ite, Bool.and_eq_true, decide_eq_true_eq] at h
    split at h
    · rename_i hc
      obtain ⟨⟨⟨⟨rfl, rfl⟩, rfl⟩, rfl⟩, hn⟩ := hc
      have ho : okXs L L.length 0 = L.all okx := by rw [okXs_all L L.length 0 (Nat.zero_add _)]; rfl
      split at h
      · rename_i hk
        refine ⟨_, _, _, h, fun f => ?_⟩
        have := CodeOkN.full (loop7 el own hd L b f hn 0 (Nat.zero_le _)) (by rw [Nat.sub_zero, ho, hk]; rfl)
        rw [Nat.sub_zero, ho, hk] at this
        exact this
      · rename_i hk
        refine ⟨_, _, _, h, fun f => ?_⟩
        have hk : L.all okx = false := by simpa using hk
        have := CodeOkN.full (loop7 el own hd L b f hn 0 (Nat.zero_le _)) (by rw [Nat.sub_zero, ho, hk]; rfl)
        rw [Nat.sub_zero, ho, hk] at this
        exact this
    · cases h
  · cases h
end Go.Proofs.Ytemhaijcebjhhaa
