/- ExtentActs' tests, and what they tell (chapter 9). -/
import Derived.Test.YticmpcloehnoaaaL9zc
set_option linter.unusedVariables false
set_option linter.unusedSimpArgs false
namespace Go.Proofs.Yticmpcloehnoaaa
open Go Go.Sx Go.Fx
set_option maxRecDepth 100000
set_option linter.unusedVariables false
set_option linter.unusedSimpArgs false
noncomputable def acTree (n : Int) (l : List AV) (cop : Int) : Option Bool :=
  bif decide ((l.length : Int) > 60) then some true else
    bif nB n then (bif nB n then (bif eqB (emp n) (emp n) && gF (emp n) && decide (l.length ≤ 65536) then (bif cpB cop l.length then
      (bif gF (foldJ actL l (emp n) (cop.toNat + 1)) then (bif decide ((rowF (foldJ actL l (emp n) (cop.toNat + 1))).map c2I = ((runs (foldJ actL l (emp n) (cop.toNat + 1))).map rV).map c2I) && decide ((rowF (foldJ actL l (emp n) (cop.toNat + 1))).length ≤ 65536) then some true else none) else none) else some true) else none) else some false)
    else (bif nB n then some false else some true)
theorem ac_T (a0 : Int) (el1 : TypeId) (L1 : List AV) (a2 : Int) : bodyK cAc' Try.prog 9 Try.f3 [.lit (.int .i64 a0), .vec 0, .lit (.int .i64 a2)] ⟨[], [some ⟨el1, true, [.int .i64, .int .i64, .int .i64], 0, false, false, L1⟩]⟩ boolOf = acTree a0 L1 a2 := by kernel_rfl
theorem acTree_true (n : Int) (l : List AV) (cop : Int) : acTree n l cop = some true := by
  unfold acTree
  by_cases h1 : (l.length : Int) > 60
  · rw [decide_eq_true h1]; rfl
  · rw [decide_eq_false h1]
    cases hn : nB n
    · rfl
    · simp only [nB, Bool.and_eq_true, decide_eq_true_eq] at hn
      have he : gF (emp n) = true := gF_true (by simp [emp]; omega) (by simp [emp]; omega)
      have hV : gF (foldJ actL l (emp n) (cop.toNat + 1)) = true := by rw [gF_len (foldJ_len actL_len l (emp n) _)]; exact he
      have hr := freeL_len (foldJ actL l (emp n) (cop.toNat + 1)) (-1)
      have hr' : (rowF (foldJ actL l (emp n) (cop.toNat + 1))).length ≤ 65536 := by
        have hV' := hV
        simp only [gF, Bool.and_eq_true, decide_eq_true_eq] at hV'
        have : (rowF (foldJ actL l (emp n) (cop.toNat + 1))).length ≤ (foldJ actL l (emp n) (cop.toNat + 1)).length := hr
        omega
      rw [eqB_self, he, hV, decide_eq_true (show l.length ≤ 65536 by omega), decide_eq_true hr', show (runs (foldJ actL l (emp n) (cop.toNat + 1))).map rV = rowF (foldJ actL l (emp n) (cop.toNat + 1)) from rfl, decide_eq_true rfl]
      cases cpB cop l.length <;> rfl
end Go.Proofs.Yticmpcloehnoaaa
