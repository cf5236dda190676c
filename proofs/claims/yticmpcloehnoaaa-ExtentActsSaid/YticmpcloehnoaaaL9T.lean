/- ExtentActs: one of its stretches (chapter 9). -/
import Derived.Test.YticmpcloehnoaaaL9S
set_option linter.unusedVariables false
set_option linter.unusedSimpArgs false
namespace Go.Proofs.Yticmpcloehnoaaa
open Go Go.Sx Go.Fx
set_option maxRecDepth 100000
set_option linter.unusedVariables false
set_option linter.unusedSimpArgs false
noncomputable def G28 : Code := regOf Try.f3 28
abbrev k28 : List Nat := [7, 9, 18, 137]
abbrev t28 : List Nat := (List.range 22).map (· + 115)
def S28 (ow ow' hd hd' h2 : Bool) (L L' r : List AV) (z : AV) (f : Nat → Value) : St :=
  ⟨tmF k28 t28 [.ptr 0 0, .ptr 1 0, .vec 0, z] f 155 0, ⟨[some ⟨51, ow, [.vec 1]⟩, some ⟨53, ow', [.vec 2]⟩], [some ⟨48, true, cR, 0, true, h2, r⟩, some ⟨4, false, cB, 1, true, hd, L⟩, some ⟨4, false, cB, 2, true, hd', L'⟩]⟩⟩
def e28 {α : Type} (L L' r : List AV) (c : Nat) (W : Option α → Option α) (A : α) (B : Option α) : Option α :=
  bif decide (L.length ≤ 65536) then (bif decide (L'.length ≤ 65536) then (bif ((usedN L L.length : Nat) : Int) != ((usedN L' L'.length : Nat) : Int) then B else
    (bif gF L then (bif decide ((rowF L).map c2I = r.map c2I) && decide ((rowF L).length ≤ 65536) then W (bif gF L then
      (bif decide (((freeL L 1).map rV).map c2I = (cutC (some (i64 c)) c 0 r).map c2I) && decide (((freeL L 1).map rV).length ≤ 65536) then some A else none) else none) else none) else none)) else none) else none
theorem raw28n (ow ow' hd hd' h2 : Bool) (L L' : List AV) (z : AV) (f : Nat → Value) : turnK cX Try.prog 1 G28 k28 t28 2 3 (S28 ow ow' hd hd' h2 L L' [] z f) =
    e28 L L' [] 0 (fun q => q) (.normal, S28 ow ow' hd hd' h2 L L' [] (bv false) f) (some (.normal, S28 ow ow' hd hd' h2 L L' [] (bv true) f)) := by kernel_rfl
theorem raw28c (ow ow' hd hd' h2 : Bool) (L L' : List AV) (x : AV) (r : List AV) (z : AV) (f : Nat → Value) : turnK cX Try.prog 1 G28 k28 t28 2 3 (S28 ow ow' hd hd' h2 L L' (x :: r) z f) =
    e28 L L' (x :: r) 1 (fun q => if (0 : Int) ≤ 1 ∧ (1 : Int) ≤ ((x :: r).length : Int) then q else none) (.normal, S28 ow ow' hd hd' h2 L L' (x :: r) (bv false) f) (some (.normal, S28 ow ow' hd hd' h2 L L' (x :: r) (bv true) f)) := by kernel_rfl
noncomputable def eqB (A B : List AV) : Bool := @decide (A = B) (Classical.propDecidable _)
theorem eqB_spec {A B : List AV} (h : eqB A B = true) : A = B := by
  unfold eqB at h
  exact @of_decide_eq_true _ (Classical.propDecidable _) h
theorem eqB_self (A : List AV) : eqB A A = true := @decide_eq_true _ (Classical.propDecidable _) rfl
theorem freeL_len (L : List AV) (m : Int) : ((freeL L m).map rV).length ≤ L.length := by
  have := runs_len L
  rw [List.length_map]
  unfold freeL
  cases decide (0 ≤ m) && decide (m < ((runs L).length : Int))
  · exact this
  · simp only [cond_true, List.length_take]; omega
theorem turn28 (ow ow' hd hd' h2 : Bool) {L : List AV} (hg : gF L = true) (z : AV) (f : Nat → Value) : turnK cX Try.prog 1 G28 k28 t28 2 3 (S28 ow ow' hd hd' h2 L L (rowF L) z f) = some (.normal, S28 ow ow' hd hd' h2 L L (rowF L) (bv false) f) := by
  have hg' := hg
  simp only [gF, Bool.and_eq_true, decide_eq_true_eq] at hg'
  obtain ⟨h0, hL⟩ := hg'
  have h1 := freeL_len L 1
  have h3 := freeL_len L (-1)
  have h4 : ((rowF L)).length ≤ L.length := h3
  cases hr : rowF L with
  | nil =>
    have hf1 : (freeL L 1).map rV = [] := by
      have hz : runs L = [] := by
        have : ((runs L).map rV) = [] := hr
        simpa using this
      unfold freeL
      rw [hz]; rfl
    rw [raw28n]
    unfold e28
    rw [hr, hf1, hg, decide_eq_true (show L.length ≤ 65536 by omega)]
    simp [cutC]
  | cons x r =>
    rw [raw28c]
    unfold e28
    have hf1 : (freeL L 1).map rV = (x :: r).take 1 := by
      rw [← hr, rowF_eq]
      unfold freeL
      have hn : 1 ≤ (runs L).length := by
        have : ((runs L).map rV) = x :: r := hr
        have := congrArg List.length this
        simp at this; omega
      by_cases h1' : (1 : Int) < ((runs L).length : Int)
      · rw [decide_eq_true (show (0 : Int) ≤ 1 by omega), decide_eq_true h1']
        simp [List.map_take]
      · rw [decide_eq_false h1']
        have : (runs L).length = 1 := by omega
        simp only [Bool.and_false, cond_false]
        rw [List.take_of_length_le (by rw [List.length_map]; omega)]
    have hc : cutC (some (i64 ((1 : Nat) : Int))) 1 0 (x :: r) = (x :: r).take 1 := by
      show ((x :: r).take 1).drop 0 = _
      rfl
    rw [hr] at h4
    rw [hf1] at h1
    rw [hr, hf1, hc, hg, decide_eq_true (show L.length ≤ 65536 by omega), decide_eq_true (show (x :: r).length ≤ 65536 by omega), decide_eq_true (show ((x :: r).take 1).length ≤ 65536 by omega)]
    have hif : (0 : Int) ≤ 1 ∧ (1 : Int) ≤ ((x :: r).length : Int) := by simp only [List.length_cons]; omega
    simp only [if_pos hif]
    simp
noncomputable def spec28 : LSpec where
  n := 155
  nils := []
  keep := k28
  touch := t28
  run kv M k := match kv, M with
    | [.ptr b q, .ptr b' q', .vec h0, z], ⟨[some ⟨bt, ow, [.vec h1]⟩, some ⟨bt', ow', [.vec h2]⟩], [some ⟨el0, true, sh0, t0, true, hr, r⟩, some ⟨el1, false, sh1, t1, true, hd, L⟩, some ⟨el2, false, sh2, t2, true, hd', L'⟩]⟩ =>
      bif decide (b = 0) && decide (q = 0) && decide (b' = 1) && decide (q' = 0) && decide (h0 = 0) && decide (bt = 51) && decide (h1 = 1) && decide (bt' = 53) && decide (h2 = 2) && decide (el0 = 48) && decide (sh0 = cR) && decide (t0 = 0) && decide (el1 = 4) && decide (sh1 = cB) && decide (t1 = 1) && decide (el2 = 4) && decide (sh2 = cB) && decide (t2 = 2) && (eqB L L' && eqB r (rowF L) && gF L) then
        k .normal [.ptr 0 0, .ptr 1 0, .vec 0, bv false] ⟨[some ⟨51, ow, [.vec 1]⟩, some ⟨53, ow', [.vec 2]⟩], [some ⟨48, true, cR, 0, true, hr, r⟩, some ⟨4, false, cB, 1, true, hd, L⟩, some ⟨4, false, cB, 2, true, hd', L'⟩]⟩ else none
    | _, _ => none
theorem spec28_ok : spec28.Ok Try.prog G28 := by
  intro R kv M k r h
  simp only [spec28] at h
  split at h
  · rename_i b q b' q' h0 z bt ow h1 bt' ow' h2 el0 sh0 t0 hr r el1 sh1 t1 hd L el2 sh2 t2 hd' L'
    simp only [cond_eq_ite, Bool.and_eq_true, decide_eq_true_eq] at h
    split at h
    · rename_i hc
      obtain ⟨⟨⟨⟨⟨⟨⟨⟨⟨⟨⟨⟨⟨⟨⟨⟨⟨⟨rfl, rfl⟩, rfl⟩, rfl⟩, rfl⟩, rfl⟩, rfl⟩, rfl⟩, rfl⟩, rfl⟩, rfl⟩, rfl⟩, rfl⟩, rfl⟩, rfl⟩, rfl⟩, rfl⟩, rfl⟩, ⟨e1, e2⟩, hg⟩ := hc
      obtain rfl := eqB_spec e1
      obtain rfl := eqB_spec e2
      refine ⟨_, _, _, h, fun f => ?_⟩
      exact CodeOkN.full (turn_ok (nb := 2) (mv := 3) cX_sound mixed (LoopsOk.no _ _) rfl rfl (turn28 ow ow' hd hd' hr hg z f)) rfl
    · cases h
  · cases h
end Go.Proofs.Yticmpcloehnoaaa
