/- A triangle's corners (chapter 25), outright. -/
import Derived.Test.YtplfijdonikaoaaScrC
import Derived.Test.YtplfijdonikaoaaVecA
set_option linter.unusedVariables false
set_option linter.unusedSimpArgs false
namespace Go.Fx
open Go Go.Sx
set_option linter.unusedVariables false
set_option linter.unusedSimpArgs false
def cornB (a0 a1 a2 a3 a4 a5 : Int) : Bool := nJ a0 4194304 && nJ a1 4194304 && nJ a2 4194304 && (a3 == 65536) && nJ a4 67108864 && nJ a5 67108864
def boA (b : Bool) : AV := .lit (.bool b)
def cornS : FSpec := ⟨fun args k => match args with
  | [.agg [.lit (.int .i64 a0), .lit (.int .i64 a1), .lit (.int .i64 a2), .lit (.int .i64 a3), .lit (.int .i64 a4), .lit (.int .i64 a5)]] => k (boA (cornB a0 a1 a2 a3 a4 a5))
  | _ => none⟩
theorem cornS_ok {P : Program} {f : FuncId} (H : ∀ a0 a1 a2 a3 a4 a5, PureOk P f [.agg [i64 a0, i64 a1, i64 a2, i64 a3, i64 a4, i64 a5]] (boA (cornB a0 a1 a2 a3 a4 a5))) : cornS.Ok P f := by
  intro R args k r e
  simp only [cornS] at e
  split at e
  · exact ⟨_, e, H _ _ _ _ _ _⟩
  · cases e
def cornN (a0 a1 a2 a3 a4 a5 : Int) (t : Option AV) : Option AV :=
  bif !nJ a0 4194304 then some (boA false) else bif !nJ a1 4194304 then some (boA false) else bif !nJ a2 4194304 then some (boA false) else
  bif a3 != 65536 then some (boA false) else bif !nJ a4 67108864 then some (boA false) else bif !nJ a5 67108864 then some (boA false) else t
theorem cornN_eq (a0 a1 a2 a3 a4 a5 : Int) (t : Option AV) : cornN a0 a1 a2 a3 a4 a5 t = bif cornB a0 a1 a2 a3 a4 a5 then t else some (boA false) := by
  unfold cornN cornB
  have e : (a3 != 65536) = !(a3 == 65536) := rfl
  rw [e]
  cases nJ a0 4194304 <;> cases nJ a1 4194304 <;> cases nJ a2 4194304 <;> cases (a3 == 65536) <;> cases nJ a4 67108864 <;> cases nJ a5 67108864 <;> rfl
def triS : FSpec := ⟨fun args k => match args with
  | [.agg [.lit (.int .i64 a0), .lit (.int .i64 a1), .lit (.int .i64 a2), .lit (.int .i64 a3), .lit (.int .i64 a4), .lit (.int .i64 a5), .lit (.int .i64 b0), .lit (.int .i64 b1), .lit (.int .i64 b2), .lit (.int .i64 b3), .lit (.int .i64 b4), .lit (.int .i64 b5), .lit (.int .i64 d0), .lit (.int .i64 d1), .lit (.int .i64 d2), .lit (.int .i64 d3), .lit (.int .i64 d4), .lit (.int .i64 d5), .lit (.int .i64 s), .lit (.int .u8 c0), .lit (.int .u8 c1), .lit (.int .u8 c2), .lit (.int .u8 c3)]] => k (boA (cornB a0 a1 a2 a3 a4 a5 && (cornB b0 b1 b2 b3 b4 b5 && cornB d0 d1 d2 d3 d4 d5)))
  | _ => none⟩
theorem triS_ok {P : Program} {f : FuncId} (H : ∀ a0 a1 a2 a3 a4 a5 b0 b1 b2 b3 b4 b5 d0 d1 d2 d3 d4 d5 s c0 c1 c2 c3, PureOk P f [.agg [i64 a0, i64 a1, i64 a2, i64 a3, i64 a4, i64 a5, i64 b0, i64 b1, i64 b2, i64 b3, i64 b4, i64 b5, i64 d0, i64 d1, i64 d2, i64 d3, i64 d4, i64 d5, i64 s, .lit (.int .u8 c0), .lit (.int .u8 c1), .lit (.int .u8 c2), .lit (.int .u8 c3)]] (boA (cornB a0 a1 a2 a3 a4 a5 && (cornB b0 b1 b2 b3 b4 b5 && cornB d0 d1 d2 d3 d4 d5)))) : triS.Ok P f := by
  intro R args k r e
  simp only [triS] at e
  split at e
  · exact ⟨_, e, H _ _ _ _ _ _ _ _ _ _ _ _ _ _ _ _ _ _ _ _ _ _ _⟩
  · cases e
theorem triN_eq (a0 a1 a2 a3 a4 a5 b0 b1 b2 b3 b4 b5 d0 d1 d2 d3 d4 d5 : Int) : cornN a0 a1 a2 a3 a4 a5 (cornN b0 b1 b2 b3 b4 b5 (cornN d0 d1 d2 d3 d4 d5 (some (boA true)))) = some (boA (cornB a0 a1 a2 a3 a4 a5 && (cornB b0 b1 b2 b3 b4 b5 && cornB d0 d1 d2 d3 d4 d5))) := by
  rw [cornN_eq, cornN_eq, cornN_eq]
  cases cornB a0 a1 a2 a3 a4 a5 <;> cases cornB b0 b1 b2 b3 b4 b5 <;> cases cornB d0 d1 d2 d3 d4 d5 <;> rfl
def cornC (a0 a1 a2 a3 a4 a5 : Int) : Option AV :=
  bif nJ a0 4194304 then (bif nJ a1 4194304 then (bif nJ a2 4194304 then (bif a3 == 65536 then (bif nJ a4 67108864 then some (boA (nJ a5 67108864)) else some (boA false)) else some (boA false)) else some (boA false)) else some (boA false)) else some (boA false)
theorem cornC_eq (a0 a1 a2 a3 a4 a5 : Int) : cornC a0 a1 a2 a3 a4 a5 = some (boA (cornB a0 a1 a2 a3 a4 a5)) := by
  unfold cornC cornB
  cases nJ a0 4194304 <;> cases nJ a1 4194304 <;> cases nJ a2 4194304 <;> cases (a3 == 65536) <;> cases nJ a4 67108864 <;> cases nJ a5 67108864 <;> rfl
end Go.Fx
