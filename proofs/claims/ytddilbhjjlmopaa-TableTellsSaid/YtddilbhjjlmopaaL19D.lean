/- table's Look as a reader; all pages (chapters 19, 11). -/
import Derived.Test.YtddilbhjjlmopaaL19C
import Derived.Test.YtddilbhjjlmopaaTblC
set_option linter.unusedVariables false
set_option linter.unusedSimpArgs false
namespace Go.Proofs.Ytddilbhjjlmopaa
open Go Go.Sx Go.Fx
set_option maxRecDepth 100000
set_option linter.unusedVariables false
set_option linter.unusedSimpArgs false
theorem look_eq (own o2 hd : Bool) (d : Int) (el : TypeId) (T : List AV) (l x y : Int) (hd' : dB d = true) (hT : (T.length : Int) = cn d) : fnK cL0 Try.prog 9 Try.f12 [.ptr 0 0, .agg [i64 l, i64 x, i64 y]] (mR own o2 hd d el T) [] = some (lookA T d l x y, mR own o2 hd d el T) := by
  rw [← lT_eq, ← lG_eq _ _ _ _ _ _ hT]
  simp only [dB, Bool.and_eq_true, decide_eq_true_eq] at hd'
  have hc : d = 0 ∨ d = 1 ∨ d = 2 ∨ d = 3 := by omega
  rcases hc with rfl | rfl | rfl | rfl
  · exact look_0 own o2 hd el T l x y
  · exact look_1 own o2 hd el T l x y
  · exact look_2 own o2 hd el T l x y
  · exact look_3 own o2 hd el T l x y
def lookM : MSpec := ⟨[], fun args M k => match args, M with
  | [.ptr 0 0, .agg [.lit (.int .i64 l), .lit (.int .i64 x), .lit (.int .i64 y)]], ⟨[some ⟨48, own, [.lit (.int .i64 d), .vec 0]⟩], [some ⟨el, false, [.bool], 0, o2, hd, T⟩]⟩ =>
    bif dB d && decide ((T.length : Int) = cn d) then k (lookA T d l x y) (mR own o2 hd d el T) else none
  | _, _ => none⟩
theorem lookM_ok : lookM.Ok Try.prog 12 := by
  intro R args M k r h
  simp only [lookM] at h
  split at h
  · rename_i l x y own d el o2 hd T
    cases hT : dB d && decide ((T.length : Int) = cn d)
    · rw [hT] at h; cases h
    · rw [hT] at h
      simp only [Bool.and_eq_true, decide_eq_true_eq] at hT
      exact ⟨_, _, h, fn_ok cL0_sound mixed s12 (fun _ _ => LoopsOk.no _ _) (look_eq own o2 hd d el T l x y hT.1 hT.2) (by kernel_rfl)⟩
  · cases h
abbrev c3 : List CK := [.int .i64, .int .i64, .int .i64]
theorem s8 : Enters Try.prog 8 Try.f8 := ⟨Try.func8, by kernel_rfl, by kernel_rfl⟩
noncomputable def cBJ : CallSem := cB2.withJoin
theorem pages_0 : fnK cB2 Try.prog 12 Try.f8 [i64 0] ⟨[], []⟩ [⟨0, 24, true, c3⟩] = some (.vec 0, ⟨[], [some ⟨24, true, c3, 0, true, true, pgs 0⟩]⟩) := by kernel_rfl
theorem pages_1 : fnK cB2 Try.prog 12 Try.f8 [i64 1] ⟨[], []⟩ [⟨0, 24, true, c3⟩] = some (.vec 0, ⟨[], [some ⟨24, true, c3, 0, true, true, pgs 1⟩]⟩) := by kernel_rfl
theorem pages_2 : fnK cB2 Try.prog 12 Try.f8 [i64 2] ⟨[], []⟩ [⟨0, 24, true, c3⟩] = some (.vec 0, ⟨[], [some ⟨24, true, c3, 0, true, true, pgs 2⟩]⟩) := by kernel_rfl
theorem pages_3 : fnK cB2 Try.prog 12 Try.f8 [i64 3] ⟨[], []⟩ [⟨0, 24, true, c3⟩] = some (.vec 0, ⟨[], [some ⟨24, true, c3, 0, true, true, pgs 3⟩]⟩) := by kernel_rfl
end Go.Proofs.Ytddilbhjjlmopaa
