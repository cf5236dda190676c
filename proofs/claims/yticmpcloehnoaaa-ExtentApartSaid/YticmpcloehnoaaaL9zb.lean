/- ExtentApart's tests, and what they tell (chapter 9). -/
import Derived.Test.YticmpcloehnoaaaL9za
set_option linter.unusedVariables false
set_option linter.unusedSimpArgs false
namespace Go.Proofs.Yticmpcloehnoaaa
open Go Go.Sx Go.Fx
set_option maxRecDepth 100000
set_option linter.unusedVariables false
set_option linter.unusedSimpArgs false
noncomputable def apTree (n : Int) (sz bk : List AV) : Option Bool :=
  bif (bif (bif (bif decide (n < 1) then true else decide (n > 200)) then true else decide ((sz.length : Int) > 50)) then true else decide ((bk.length : Int) > 50)) then some true else
    bif nB n then (bif (true || decide (n = n)) && decide (0 ≤ n) && decide (n ≤ 65536) && true && true && true && true && true then
      (bif decide (n = ((emp n).length : Int)) && decide (0 < (emp n).length) && decide ((emp n).length ≤ 65535) && decide (sz.length ≤ 65536) && invB (List.replicate n.toNat (i64 0)) (emp n) 0 then some true else none) else none) else some false
theorem ap_T (a0 : Int) (el1 : TypeId) (L1 : List AV) (el2 : TypeId) (L2 : List AV) : bodyK cAp Try.prog 9 Try.f4 [.lit (.int .i64 a0), .vec 0, .vec 1] ⟨[], [some ⟨el1, false, [.int .i64], 0, false, false, L1⟩, some ⟨el2, false, [.bool], 1, false, false, L2⟩]⟩ boolOf = apTree a0 L1 L2 := by kernel_rfl
theorem inv_start (n : Nat) : invB (List.replicate n (i64 0)) (emp n) 0 = true := by
  refine @decide_eq_true _ (Classical.propDecidable _) ⟨⟨by simp [emp], fun x hx => ?_⟩, ?_⟩
  · have hx' : x < n := by simpa [emp] using hx
    have e1 : gI (List.replicate n (i64 0)) (x : Nat) = 0 := by simp [gI, List.getD, List.getElem?_replicate, hx', AV.getInt]
    have e2 : bA (emp (n : Int)) x = false := by simp [bA, atB, emp, List.getD, List.getElem?_replicate, hx', bv, AV.getBool]
    rw [e1, e2]; rfl
  · have : ∀ m, m ≤ n → usedN (emp (n : Int)) m = 0 := by
      intro m
      induction m with
      | zero => intro _; rfl
      | succ m ih =>
        intro hm
        have hm' : m < n := by omega
        have e2 : bA (emp (n : Int)) m = false := by simp [bA, atB, emp, List.getD, List.getElem?_replicate, hm', bv, AV.getBool]
        rw [usedN, ih (by omega), e2]; rfl
    rw [this _ (by simp [emp])]; rfl
theorem apTree_true (n : Int) (sz bk : List AV) : apTree n sz bk = some true := by
  unfold apTree
  by_cases h1 : n < 1
  · rw [decide_eq_true h1]; rfl
  · by_cases h2 : n > 200
    · rw [decide_eq_false h1, decide_eq_true h2]; rfl
    · by_cases h3 : (sz.length : Int) > 50
      · rw [decide_eq_false h1, decide_eq_false h2, decide_eq_true h3]; rfl
      · by_cases h4 : (bk.length : Int) > 50
        · rw [decide_eq_false h1, decide_eq_false h2, decide_eq_false h3, decide_eq_true h4]; rfl
        · rw [decide_eq_false h1, decide_eq_false h2, decide_eq_false h3, decide_eq_false h4]
          obtain ⟨N, rfl⟩ : ∃ N : Nat, n = N := ⟨n.toNat, by omega⟩
          have hb : nB (N : Int) = true := by unfold nB; rw [decide_eq_true (by omega), decide_eq_true (by omega)]; rfl
          rw [hb, Int.toNat_natCast, inv_start]
          have hl : (emp (N : Int)).length = N := by simp [emp]
          rw [hl, decide_eq_true (show (N : Int) = N from rfl), decide_eq_true (show 0 ≤ (N : Int) by omega), decide_eq_true (show (N : Int) ≤ 65536 by omega), decide_eq_true (show 0 < N by omega), decide_eq_true (show N ≤ 65535 by omega), decide_eq_true (show sz.length ≤ 65536 by omega)]
          rfl
end Go.Proofs.Yticmpcloehnoaaa
