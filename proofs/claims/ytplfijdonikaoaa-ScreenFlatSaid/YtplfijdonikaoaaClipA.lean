/- How far a point is inside of a plane; where a way meets it (chapter 24), of no program. -/
import Derived.Test.YtplfijdonikaoaaFxC
set_option linter.unusedVariables false
set_option linter.unusedSimpArgs false
namespace Go.Fx
open Go Go.Sx

def insV (a b c d p : Int) : Int :=
  bif p == 0 then wi (d - 256) else bif p == 1 then wi (d + a) else bif p == 2 then wi (d - a) else bif p == 3 then wi (d + b) else bif p == 4 then wi (d - b) else bif p == 5 then wi (d + c) else bif p == 6 then wi (d - c) else 0
def insS : FSpec := ⟨fun args k => match args with
  | [.agg [.lit (.int .i64 a), .lit (.int .i64 b), .lit (.int .i64 c), .lit (.int .i64 d)], .lit (.int .i64 p)] => k (i64 (insV a b c d p))
  | _ => none⟩
theorem insS_ok {P : Program} {f : FuncId} (H : ∀ a b c d p : Int, PureOk P f [.agg [i64 a, i64 b, i64 c, i64 d], i64 p] (i64 (insV a b c d p))) : insS.Ok P f := by
  intro R args k r e
  simp only [insS] at e
  split at e
  · exact ⟨_, e, H _ _ _ _ _⟩
  · cases e
theorem wi_if (n : Int) : wi n = if n % 18446744073709551616 ≥ 9223372036854775808 then n % 18446744073709551616 - 18446744073709551616 else n % 18446744073709551616 := by
  unfold wi IntKind.wrap
  simp [IntKind.bits, IntKind.signed]
theorem wi_mod (n : Int) : (wi n - n) % 18446744073709551616 = 0 := by
  rw [wi_if]; split <;> omega
theorem wi_congr {a b : Int} (h : (a - b) % 18446744073709551616 = 0) : wi a = wi b := by
  rw [wi_if, wi_if, show a % 18446744073709551616 = b % 18446744073709551616 by omega]
theorem wi_add (d a : Int) : wi (d + wi (0 - a)) = wi (d - a) := by
  apply wi_congr
  have := wi_mod (0 - a)
  omega
/-- the tree of the code's Inside -/
theorem ins_eq (a b c d p : Int) : (bif decide (p < 0) then some (i64 0) else bif decide (p ≥ 7) then some (i64 0) else bif p == 0 then some (i64 (wi (d - 256))) else
    bif decide (p = 1) then (bif p.tmod 2 == 0 then some (i64 (wi (d + wi (0 - a)))) else some (i64 (wi (d + a)))) else
    bif decide (p = 2) then (bif p.tmod 2 == 0 then some (i64 (wi (d + wi (0 - a)))) else some (i64 (wi (d + a)))) else
    bif decide (p = 3) then (bif p.tmod 2 == 0 then some (i64 (wi (d + wi (0 - b)))) else some (i64 (wi (d + b)))) else
    bif decide (p = 4) then (bif p.tmod 2 == 0 then some (i64 (wi (d + wi (0 - b)))) else some (i64 (wi (d + b)))) else
    bif decide (p = 5) then (bif p.tmod 2 == 0 then some (i64 (wi (d + wi (0 - c)))) else some (i64 (wi (d + c)))) else
    bif decide (p = 6) then (bif p.tmod 2 == 0 then some (i64 (wi (d + wi (0 - c)))) else some (i64 (wi (d + c)))) else none) = some (i64 (insV a b c d p)) := by
  have hp : p < 0 ∨ p ≥ 7 ∨ p = 0 ∨ p = 1 ∨ p = 2 ∨ p = 3 ∨ p = 4 ∨ p = 5 ∨ p = 6 := by omega
  rcases hp with h | h | rfl | rfl | rfl | rfl | rfl | rfl | rfl
  · rw [decide_eq_true h]
    unfold insV
    rw [show (p == 0) = false by simp; omega, show (p == 1) = false by simp; omega, show (p == 2) = false by simp; omega, show (p == 3) = false by simp; omega, show (p == 4) = false by simp; omega, show (p == 5) = false by simp; omega, show (p == 6) = false by simp; omega]
    rfl
  · rw [decide_eq_false (show ¬ p < 0 by omega), decide_eq_true h]
    unfold insV
    rw [show (p == 0) = false by simp; omega, show (p == 1) = false by simp; omega, show (p == 2) = false by simp; omega, show (p == 3) = false by simp; omega, show (p == 4) = false by simp; omega, show (p == 5) = false by simp; omega, show (p == 6) = false by simp; omega]
    rfl
  · rfl
  · rfl
  · show some (i64 (wi (d + wi (0 - a)))) = _; rw [wi_add]; rfl
  · rfl
  · show some (i64 (wi (d + wi (0 - b)))) = _; rw [wi_add]; rfl
  · rfl
  · show some (i64 (wi (d + wi (0 - c)))) = _; rw [wi_add]; rfl
theorem rins_eq (a b c d p : Int) : (bif p == 0 then some (i64 (wi (d - 256))) else bif p == 1 then some (i64 (wi (d + a))) else bif p == 2 then some (i64 (wi (d - a))) else bif p == 3 then some (i64 (wi (d + b))) else bif p == 4 then some (i64 (wi (d - b))) else
    bif p == 5 then some (i64 (wi (d + c))) else bif p == 6 then some (i64 (wi (d - c))) else some (i64 0)) = some (i64 (insV a b c d p)) := by
  unfold insV
  cases p == 0 <;> cases p == 1 <;> cases p == 2 <;> cases p == 3 <;> cases p == 4 <;> cases p == 5 <;> cases p == 6 <;> rfl
end Go.Fx
