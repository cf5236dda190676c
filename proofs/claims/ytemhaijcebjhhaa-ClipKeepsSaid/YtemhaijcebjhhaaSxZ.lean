import Derived.Test.YtemhaijcebjhhaaSxX
import Derived.Test.YtemhaijcebjhhaaSxN
set_option linter.unusedVariables false
set_option linter.unusedSimpArgs false
namespace Go.Sx
open Go Go.RowKit
/-! short names -/
noncomputable def lpOf (fn : Func) (i : Nat) : Code := (nodes (fn.body.getD .skip)).getD i .skip
def unl : Code → Code
  | .loop c => c
  | _ => .skip
abbrev b8 (n : Int) : AV := .lit (.int .u8 n)
abbrev i8 (n : Int) : AV := .lit (.int .i64 n)
abbrev bo (b : Bool) : AV := .lit (.bool b)
def c4 : List CK := [.int .u8, .int .u8, .int .u8, .int .u8]
theorem loops_of {P : Program} {ls : Nat → Option LSpec} {fn : Func} {l : List Code} (h : nodes (fn.body.getD .skip) = l) (hl : ∀ x, x ∈ l → ∀ L, nodeL ls x = some L → L.Ok P x) : ∀ c, fn.body = some c → LoopsOk P ls c := by
  intro c hc x hx
  refine hl x ?_
  rw [← h, hc]; exact hx
/-- a table of one loop, of two -/
def one (i : Nat) (L : LSpec) : Nat → Option LSpec := fun j => bif decide (j = i) then some L else none
def two (i : Nat) (L : LSpec) (i' : Nat) (L' : LSpec) : Nat → Option LSpec := fun j => bif decide (j = i) then some L else bif decide (j = i') then some L' else none
theorem one_ok {P : Program} {i : Nat} {L : LSpec} {fn : Func} {c : Code} (h : nodes (fn.body.getD .skip) = [c]) (hL : L.Ok P c) : ∀ b, fn.body = some b → LoopsOk P (one i L) b :=
  loops_of h fun x hx L' h' => by
    simp only [List.mem_singleton] at hx
    subst hx
    unfold nodeL one at h'
    split at h'
    · simp only [cond_eq_ite, decide_eq_true_eq] at h'
      split at h'
      · simp only [Option.some.injEq] at h'; exact h' ▸ hL
      · cases h'
    · cases h'
end Go.Sx
