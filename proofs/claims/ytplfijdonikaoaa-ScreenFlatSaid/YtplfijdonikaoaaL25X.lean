/- Polygon over three in this seat; Place's calls (chapter 25). -/
import Derived.Test.YtplfijdonikaoaaL25T
set_option linter.unusedVariables false
set_option linter.unusedSimpArgs false
namespace Go.Proofs.Ytplfijdonikaoaa
open Go Go.Sx Go.Fx
set_option maxRecDepth 100000
set_option linter.unusedVariables false
set_option linter.unusedSimpArgs false
theorem pol3_eq (bt : TypeId) (ow : Bool) (a0 a1 a2 a3 a4 a5 b0 b1 b2 b3 b4 b5 d0 d1 d2 d3 d4 d5 : Int) (hok : (tri a0 a1 a2 a3 a4 a5 b0 b1 b2 b3 b4 b5 d0 d1 d2 d3 d4 d5).all okx = true) : fnK cB0 Try.prog 9 Try.f30 [.sl 0 0 3 3] ⟨[some ⟨bt, ow, [i64 a0, i64 a1, i64 a2, i64 a3, i64 a4, i64 a5, i64 b0, i64 b1, i64 b2, i64 b3, i64 b4, i64 b5, i64 d0, i64 d1, i64 d2, i64 d3, i64 d4, i64 d5]⟩], []⟩ [⟨0, 25, true, c6⟩] = some (.vec 0, ⟨[some ⟨bt, ow, [i64 a0, i64 a1, i64 a2, i64 a3, i64 a4, i64 a5, i64 b0, i64 b1, i64 b2, i64 b3, i64 b4, i64 b5, i64 d0, i64 d1, i64 d2, i64 d3, i64 d4, i64 d5]⟩], [some ⟨25, true, c6, 0, true, true, polX (tri a0 a1 a2 a3 a4 a5 b0 b1 b2 b3 b4 b5 d0 d1 d2 d3 d4 d5)⟩]⟩) := by
  rw [pol3_raw]
  have hl : (tri a0 a1 a2 a3 a4 a5 b0 b1 b2 b3 b4 b5 d0 d1 d2 d3 d4 d5).length = 3 := rfl
  generalize tri a0 a1 a2 a3 a4 a5 b0 b1 b2 b3 b4 b5 d0 d1 d2 d3 d4 d5 = L at *
  unfold polX
  have hb : ∀ k, k ≤ 6 → (itX L k).length ≤ 16384 := fun k hk => by
    refine Nat.le_trans (itX_len L k) ?_
    have : 2 ^ k ≤ 2 ^ 6 := Nat.pow_le_pow_right (by omega) hk
    calc 2 ^ k * L.length ≤ 2 ^ 6 * 64 := Nat.mul_le_mul this (by omega)
      _ ≤ 16384 := by omega
  rw [decide_eq_true (hb 0 (by omega)), decide_eq_true (hb 1 (by omega)), decide_eq_true (hb 2 (by omega)), decide_eq_true (hb 3 (by omega)), decide_eq_true (hb 4 (by omega)), decide_eq_true (hb 5 (by omega)), decide_eq_true (hb 6 (by omega))]
  rw [okx_it hok, okx_it hok, okx_it hok, okx_it hok, okx_it hok, okx_it hok, okx_it hok]
  simp only [Bool.and_self, cond_true, cond_false]
  rw [if_neg (show ¬ L.length < 3 by omega)]
  by_cases h2 : (itX L 7).length < 3
  · rw [if_pos h2, decide_eq_true (by omega)]; rfl
  · rw [if_neg h2, decide_eq_false (by omega)]; rfl
def pol3M : MSpec := ⟨[], fun args M k => match args, M with
  | [.sl 0 0 3 3], ⟨[some ⟨bt, ow, [.lit (.int .i64 a0), .lit (.int .i64 a1), .lit (.int .i64 a2), .lit (.int .i64 a3), .lit (.int .i64 a4), .lit (.int .i64 a5), .lit (.int .i64 b0), .lit (.int .i64 b1), .lit (.int .i64 b2), .lit (.int .i64 b3), .lit (.int .i64 b4), .lit (.int .i64 b5), .lit (.int .i64 d0), .lit (.int .i64 d1), .lit (.int .i64 d2), .lit (.int .i64 d3), .lit (.int .i64 d4), .lit (.int .i64 d5)]⟩], []⟩ => bif (tri a0 a1 a2 a3 a4 a5 b0 b1 b2 b3 b4 b5 d0 d1 d2 d3 d4 d5).all okx then k (.vec 0) ⟨[some ⟨bt, ow, [i64 a0, i64 a1, i64 a2, i64 a3, i64 a4, i64 a5, i64 b0, i64 b1, i64 b2, i64 b3, i64 b4, i64 b5, i64 d0, i64 d1, i64 d2, i64 d3, i64 d4, i64 d5]⟩], [some ⟨25, true, c6, 0, true, true, polX (tri a0 a1 a2 a3 a4 a5 b0 b1 b2 b3 b4 b5 d0 d1 d2 d3 d4 d5)⟩]⟩ else none
  | _, _ => none⟩
theorem pol3M_ok : pol3M.Ok Try.prog 30 := by
  intro R args M k r h
  simp only [pol3M] at h
  split at h
  · simp only [cond_eq_ite] at h
    split at h
    · rename_i hok
      exact ⟨_, _, h, fn_ok cB0_sound mixed e14 (fun _ _ => LoopsOk.no _ _) (pol3_eq _ _ _ _ _ _ _ _ _ _ _ _ _ _ _ _ _ _ _ _ hok) (by kernel_rfl)⟩
    · cases h
  · cases h
end Go.Proofs.Ytplfijdonikaoaa
