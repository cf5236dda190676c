/- What ClipCuts calls: far over two, as a reader (chapter 24). -/
import Derived.Test.YtemhaijcebjhhaaL24A
set_option linter.unusedVariables false
set_option linter.unusedSimpArgs false
namespace Go.Proofs.Ytemhaijcebjhhaa
open Go Go.Sx Go.Fx
set_option linter.unusedVariables false
theorem farP (n : Int) (T R : Option (AV × Mem)) : (bif decide (n < -536870912) then T else bif decide (n > 536870912) then T else R) = bif okP n then R else T := by
  unfold okP
  by_cases h1 : n < -536870912
  · rw [decide_eq_true h1, decide_eq_false (show ¬ -536870912 ≤ n by omega)]; rfl
  · by_cases h2 : n > 536870912
    · rw [decide_eq_false h1, decide_eq_true h2, decide_eq_false (show ¬ n ≤ 536870912 by omega), Bool.and_false]; rfl
    · rw [decide_eq_false h1, decide_eq_false h2, decide_eq_true (show -536870912 ≤ n by omega), decide_eq_true (show n ≤ 536870912 by omega)]; rfl
theorem farU (n : Int) (T R : Option (AV × Mem)) : (bif decide (n < -134217728) then T else bif decide (n > 134217728) then T else R) = bif okU n then R else T := by
  unfold okU
  by_cases h1 : n < -134217728
  · rw [decide_eq_true h1, decide_eq_false (show ¬ -134217728 ≤ n by omega)]; rfl
  · by_cases h2 : n > 134217728
    · rw [decide_eq_false h1, decide_eq_true h2, decide_eq_false (show ¬ n ≤ 134217728 by omega), Bool.and_false]; rfl
    · rw [decide_eq_false h1, decide_eq_false h2, decide_eq_true (show -134217728 ≤ n by omega), decide_eq_true (show n ≤ 134217728 by omega)]; rfl
theorem farN (b : Bool) (r : Bool) (M : Mem) : (bif b then some (AV.lit (.bool (!r)), M) else some (AV.lit (.bool true), M)) = some (AV.lit (.bool (!(b && r))), M) := by cases b <;> rfl
theorem far2_raw (a0 a1 a2 a3 a4 a5 b0 b1 b2 b3 b4 b5 : Int) : fnK cC Try.prog 20 Try.f7 [.sl 0 0 2 2] ⟨[some ⟨28, false, [i64 a0, i64 a1, i64 a2, i64 a3, i64 a4, i64 a5, i64 b0, i64 b1, i64 b2, i64 b3, i64 b4, i64 b5]⟩], []⟩ [] =
    bif decide (a0 < -536870912) then some (.lit (.bool true), ⟨[some ⟨28, false, [i64 a0, i64 a1, i64 a2, i64 a3, i64 a4, i64 a5, i64 b0, i64 b1, i64 b2, i64 b3, i64 b4, i64 b5]⟩], []⟩) else bif decide (a0 > 536870912) then some (.lit (.bool true), ⟨[some ⟨28, false, [i64 a0, i64 a1, i64 a2, i64 a3, i64 a4, i64 a5, i64 b0, i64 b1, i64 b2, i64 b3, i64 b4, i64 b5]⟩], []⟩) else bif decide (a1 < -536870912) then some (.lit (.bool true), ⟨[some ⟨28, false, [i64 a0, i64 a1, i64 a2, i64 a3, i64 a4, i64 a5, i64 b0, i64 b1, i64 b2, i64 b3, i64 b4, i64 b5]⟩], []⟩) else bif decide (a1 > 536870912) then some (.lit (.bool true), ⟨[some ⟨28, false, [i64 a0, i64 a1, i64 a2, i64 a3, i64 a4, i64 a5, i64 b0, i64 b1, i64 b2, i64 b3, i64 b4, i64 b5]⟩], []⟩) else bif decide (a2 < -536870912) then some (.lit (.bool true), ⟨[some ⟨28, false, [i64 a0, i64 a1, i64 a2, i64 a3, i64 a4, i64 a5, i64 b0, i64 b1, i64 b2, i64 b3, i64 b4, i64 b5]⟩], []⟩) else bif decide (a2 > 536870912) then some (.lit (.bool true), ⟨[some ⟨28, false, [i64 a0, i64 a1, i64 a2, i64 a3, i64 a4, i64 a5, i64 b0, i64 b1, i64 b2, i64 b3, i64 b4, i64 b5]⟩], []⟩) else bif decide (a3 < -536870912) then some (.lit (.bool true), ⟨[some ⟨28, false, [i64 a0, i64 a1, i64 a2, i64 a3, i64 a4, i64 a5, i64 b0, i64 b1, i64 b2, i64 b3, i64 b4, i64 b5]⟩], []⟩) else bif decide (a3 > 536870912) then some (.lit (.bool true), ⟨[some ⟨28, false, [i64 a0, i64 a1, i64 a2, i64 a3, i64 a4, i64 a5, i64 b0, i64 b1, i64 b2, i64 b3, i64 b4, i64 b5]⟩], []⟩) else bif decide (a4 < -134217728) then some (.lit (.bool true), ⟨[some ⟨28, false, [i64 a0, i64 a1, i64 a2, i64 a3, i64 a4, i64 a5, i64 b0, i64 b1, i64 b2, i64 b3, i64 b4, i64 b5]⟩], []⟩) else bif decide (a4 > 134217728) then some (.lit (.bool true), ⟨[some ⟨28, false, [i64 a0, i64 a1, i64 a2, i64 a3, i64 a4, i64 a5, i64 b0, i64 b1, i64 b2, i64 b3, i64 b4, i64 b5]⟩], []⟩) else bif decide (a5 < -134217728) then some (.lit (.bool true), ⟨[some ⟨28, false, [i64 a0, i64 a1, i64 a2, i64 a3, i64 a4, i64 a5, i64 b0, i64 b1, i64 b2, i64 b3, i64 b4, i64 b5]⟩], []⟩) else bif decide (a5 > 134217728) then some (.lit (.bool true), ⟨[some ⟨28, false, [i64 a0, i64 a1, i64 a2, i64 a3, i64 a4, i64 a5, i64 b0, i64 b1, i64 b2, i64 b3, i64 b4, i64 b5]⟩], []⟩) else bif decide (b0 < -536870912) then some (.lit (.bool true), ⟨[some ⟨28, false, [i64 a0, i64 a1, i64 a2, i64 a3, i64 a4, i64 a5, i64 b0, i64 b1, i64 b2, i64 b3, i64 b4, i64 b5]⟩], []⟩) else bif decide (b0 > 536870912) then some (.lit (.bool true), ⟨[some ⟨28, false, [i64 a0, i64 a1, i64 a2, i64 a3, i64 a4, i64 a5, i64 b0, i64 b1, i64 b2, i64 b3, i64 b4, i64 b5]⟩], []⟩) else bif decide (b1 < -536870912) then some (.lit (.bool true), ⟨[some ⟨28, false, [i64 a0, i64 a1, i64 a2, i64 a3, i64 a4, i64 a5, i64 b0, i64 b1, i64 b2, i64 b3, i64 b4, i64 b5]⟩], []⟩) else bif decide (b1 > 536870912) then some (.lit (.bool true), ⟨[some ⟨28, false, [i64 a0, i64 a1, i64 a2, i64 a3, i64 a4, i64 a5, i64 b0, i64 b1, i64 b2, i64 b3, i64 b4, i64 b5]⟩], []⟩) else bif decide (b2 < -536870912) then some (.lit (.bool true), ⟨[some ⟨28, false, [i64 a0, i64 a1, i64 a2, i64 a3, i64 a4, i64 a5, i64 b0, i64 b1, i64 b2, i64 b3, i64 b4, i64 b5]⟩], []⟩) else bif decide (b2 > 536870912) then some (.lit (.bool true), ⟨[some ⟨28, false, [i64 a0, i64 a1, i64 a2, i64 a3, i64 a4, i64 a5, i64 b0, i64 b1, i64 b2, i64 b3, i64 b4, i64 b5]⟩], []⟩) else bif decide (b3 < -536870912) then some (.lit (.bool true), ⟨[some ⟨28, false, [i64 a0, i64 a1, i64 a2, i64 a3, i64 a4, i64 a5, i64 b0, i64 b1, i64 b2, i64 b3, i64 b4, i64 b5]⟩], []⟩) else bif decide (b3 > 536870912) then some (.lit (.bool true), ⟨[some ⟨28, false, [i64 a0, i64 a1, i64 a2, i64 a3, i64 a4, i64 a5, i64 b0, i64 b1, i64 b2, i64 b3, i64 b4, i64 b5]⟩], []⟩) else bif decide (b4 < -134217728) then some (.lit (.bool true), ⟨[some ⟨28, false, [i64 a0, i64 a1, i64 a2, i64 a3, i64 a4, i64 a5, i64 b0, i64 b1, i64 b2, i64 b3, i64 b4, i64 b5]⟩], []⟩) else bif decide (b4 > 134217728) then some (.lit (.bool true), ⟨[some ⟨28, false, [i64 a0, i64 a1, i64 a2, i64 a3, i64 a4, i64 a5, i64 b0, i64 b1, i64 b2, i64 b3, i64 b4, i64 b5]⟩], []⟩) else bif decide (b5 < -134217728) then some (.lit (.bool true), ⟨[some ⟨28, false, [i64 a0, i64 a1, i64 a2, i64 a3, i64 a4, i64 a5, i64 b0, i64 b1, i64 b2, i64 b3, i64 b4, i64 b5]⟩], []⟩) else bif decide (b5 > 134217728) then some (.lit (.bool true), ⟨[some ⟨28, false, [i64 a0, i64 a1, i64 a2, i64 a3, i64 a4, i64 a5, i64 b0, i64 b1, i64 b2, i64 b3, i64 b4, i64 b5]⟩], []⟩) else some (.lit (.bool false), ⟨[some ⟨28, false, [i64 a0, i64 a1, i64 a2, i64 a3, i64 a4, i64 a5, i64 b0, i64 b1, i64 b2, i64 b3, i64 b4, i64 b5]⟩], []⟩) := by kernel_rfl
def okvv (a0 a1 a2 a3 a4 a5 b0 b1 b2 b3 b4 b5 : Int) : Bool := okv a0 a1 a2 a3 a4 a5 && okv b0 b1 b2 b3 b4 b5
theorem far2 (a0 a1 a2 a3 a4 a5 b0 b1 b2 b3 b4 b5 : Int) : fnK cC Try.prog 20 Try.f7 [.sl 0 0 2 2] ⟨[some ⟨28, false, [i64 a0, i64 a1, i64 a2, i64 a3, i64 a4, i64 a5, i64 b0, i64 b1, i64 b2, i64 b3, i64 b4, i64 b5]⟩], []⟩ [] = some (.lit (.bool (!(okvv a0 a1 a2 a3 a4 a5 b0 b1 b2 b3 b4 b5))), ⟨[some ⟨28, false, [i64 a0, i64 a1, i64 a2, i64 a3, i64 a4, i64 a5, i64 b0, i64 b1, i64 b2, i64 b3, i64 b4, i64 b5]⟩], []⟩) := by
  rw [far2_raw]
  simp only [farP, farU]
  rw [show (false : Bool) = !true from rfl]
  simp only [farN]
  simp only [okvv, okv, Bool.and_assoc, Bool.and_true]
def far2M : MSpec := ⟨[], fun args M k => match args, M with
  | [.sl 0 0 2 2], ⟨[some ⟨28, false, [.lit (.int .i64 a0), .lit (.int .i64 a1), .lit (.int .i64 a2), .lit (.int .i64 a3), .lit (.int .i64 a4), .lit (.int .i64 a5), .lit (.int .i64 b0), .lit (.int .i64 b1), .lit (.int .i64 b2), .lit (.int .i64 b3), .lit (.int .i64 b4), .lit (.int .i64 b5)]⟩], []⟩ => k (.lit (.bool (!(okvv a0 a1 a2 a3 a4 a5 b0 b1 b2 b3 b4 b5)))) M
  | _, _ => none⟩
theorem far2M_ok : far2M.Ok Try.prog 7 := by
  intro R args M k r h
  simp only [far2M] at h
  split at h
  · exact ⟨_, _, h, fn_ok cC_sound mixed e7 (fun _ _ => LoopsOk.no _ _) (far2 _ _ _ _ _ _ _ _ _ _ _ _) (by kernel_rfl)⟩
  · cases h
noncomputable def cL : CallSem := (cC.withSpec 8 trueS).withRead 7 far2M
theorem cL_sound : cL.Sound Try.prog := CallSem.withRead_sound (CallSem.withSpec_sound cC_sound awake_ok) far2M_ok
end Go.Proofs.Ytemhaijcebjhhaa
