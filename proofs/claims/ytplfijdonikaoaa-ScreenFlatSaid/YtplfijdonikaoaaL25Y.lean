/- the document's Polygon over three in this seat (chapter 25). -/
import Derived.Test.YtplfijdonikaoaaL25X
set_option linter.unusedVariables false
set_option linter.unusedSimpArgs false
namespace Go.Proofs.Ytplfijdonikaoaa
open Go Go.Sx Go.Fx
set_option maxRecDepth 100000
set_option linter.unusedVariables false
set_option linter.unusedSimpArgs false
theorem rpol3_raw (bt : TypeId) (ow : Bool) (a0 a1 a2 a3 a4 a5 b0 b1 b2 b3 b4 b5 d0 d1 d2 d3 d4 d5 : Int) : fnK C15 Try.prog 9 Try.f34 [.sl 0 0 3 3] ⟨[some ⟨bt, ow, [i64 a0, i64 a1, i64 a2, i64 a3, i64 a4, i64 a5, i64 b0, i64 b1, i64 b2, i64 b3, i64 b4, i64 b5, i64 d0, i64 d1, i64 d2, i64 d3, i64 d4, i64 d5]⟩], []⟩ [⟨0, 25, true, c6⟩] =
    (bif true && decide (0 + (tri a0 a1 a2 a3 a4 a5 b0 b1 b2 b3 b4 b5 d0 d1 d2 d3 d4 d5).length ≤ 65536) && true then (bif decide (((itX (tri a0 a1 a2 a3 a4 a5 b0 b1 b2 b3 b4 b5 d0 d1 d2 d3 d4 d5) 0).length : Int) < 3) then some (.vec 0, ⟨[some ⟨bt, ow, [i64 a0, i64 a1, i64 a2, i64 a3, i64 a4, i64 a5, i64 b0, i64 b1, i64 b2, i64 b3, i64 b4, i64 b5, i64 d0, i64 d1, i64 d2, i64 d3, i64 d4, i64 d5]⟩], [some ⟨25, true, c6, 0, true, true, []⟩]⟩) else (bif decide ((itX (tri a0 a1 a2 a3 a4 a5 b0 b1 b2 b3 b4 b5 d0 d1 d2 d3 d4 d5) 0).length ≤ 16384) && (itX (tri a0 a1 a2 a3 a4 a5 b0 b1 b2 b3 b4 b5 d0 d1 d2 d3 d4 d5) 0).all okx then (bif decide (((itX (tri a0 a1 a2 a3 a4 a5 b0 b1 b2 b3 b4 b5 d0 d1 d2 d3 d4 d5) 1).length : Int) < 3) then some (.vec 0, ⟨[some ⟨bt, ow, [i64 a0, i64 a1, i64 a2, i64 a3, i64 a4, i64 a5, i64 b0, i64 b1, i64 b2, i64 b3, i64 b4, i64 b5, i64 d0, i64 d1, i64 d2, i64 d3, i64 d4, i64 d5]⟩], [some ⟨25, true, c6, 0, true, true, []⟩]⟩) else (bif decide ((itX (tri a0 a1 a2 a3 a4 a5 b0 b1 b2 b3 b4 b5 d0 d1 d2 d3 d4 d5) 1).length ≤ 16384) && (itX (tri a0 a1 a2 a3 a4 a5 b0 b1 b2 b3 b4 b5 d0 d1 d2 d3 d4 d5) 1).all okx then (bif decide (((itX (tri a0 a1 a2 a3 a4 a5 b0 b1 b2 b3 b4 b5 d0 d1 d2 d3 d4 d5) 2).length : Int) < 3) then some (.vec 0, ⟨[some ⟨bt, ow, [i64 a0, i64 a1, i64 a2, i64 a3, i64 a4, i64 a5, i64 b0, i64 b1, i64 b2, i64 b3, i64 b4, i64 b5, i64 d0, i64 d1, i64 d2, i64 d3, i64 d4, i64 d5]⟩], [some ⟨25, true, c6, 0, true, true, []⟩]⟩) else (bif decide ((itX (tri a0 a1 a2 a3 a4 a5 b0 b1 b2 b3 b4 b5 d0 d1 d2 d3 d4 d5) 2).length ≤ 16384) && (itX (tri a0 a1 a2 a3 a4 a5 b0 b1 b2 b3 b4 b5 d0 d1 d2 d3 d4 d5) 2).all okx then (bif decide (((itX (tri a0 a1 a2 a3 a4 a5 b0 b1 b2 b3 b4 b5 d0 d1 d2 d3 d4 d5) 3).length : Int) < 3) then some (.vec 0, ⟨[some ⟨bt, ow, [i64 a0, i64 a1, i64 a2, i64 a3, i64 a4, i64 a5, i64 b0, i64 b1, i64 b2, i64 b3, i64 b4, i64 b5, i64 d0, i64 d1, i64 d2, i64 d3, i64 d4, i64 d5]⟩], [some ⟨25, true, c6, 0, true, true, []⟩]⟩) else (bif decide ((itX (tri a0 a1 a2 a3 a4 a5 b0 b1 b2 b3 b4 b5 d0 d1 d2 d3 d4 d5) 3).length ≤ 16384) && (itX (tri a0 a1 a2 a3 a4 a5 b0 b1 b2 b3 b4 b5 d0 d1 d2 d3 d4 d5) 3).all okx then (bif decide (((itX (tri a0 a1 a2 a3 a4 a5 b0 b1 b2 b3 b4 b5 d0 d1 d2 d3 d4 d5) 4).length : Int) < 3) then some (.vec 0, ⟨[some ⟨bt, ow, [i64 a0, i64 a1, i64 a2, i64 a3, i64 a4, i64 a5, i64 b0, i64 b1, i64 b2, i64 b3, i64 b4, i64 b5, i64 d0, i64 d1, i64 d2, i64 d3, i64 d4, i64 d5]⟩], [some ⟨25, true, c6, 0, true, true, []⟩]⟩) else (bif decide ((itX (tri a0 a1 a2 a3 a4 a5 b0 b1 b2 b3 b4 b5 d0 d1 d2 d3 d4 d5) 4).length ≤ 16384) && (itX (tri a0 a1 a2 a3 a4 a5 b0 b1 b2 b3 b4 b5 d0 d1 d2 d3 d4 d5) 4).all okx then (bif decide (((itX (tri a0 a1 a2 a3 a4 a5 b0 b1 b2 b3 b4 b5 d0 d1 d2 d3 d4 d5) 5).length : Int) < 3) then some (.vec 0, ⟨[some ⟨bt, ow, [i64 a0, i64 a1, i64 a2, i64 a3, i64 a4, i64 a5, i64 b0, i64 b1, i64 b2, i64 b3, i64 b4, i64 b5, i64 d0, i64 d1, i64 d2, i64 d3, i64 d4, i64 d5]⟩], [some ⟨25, true, c6, 0, true, true, []⟩]⟩) else (bif decide ((itX (tri a0 a1 a2 a3 a4 a5 b0 b1 b2 b3 b4 b5 d0 d1 d2 d3 d4 d5) 5).length ≤ 16384) && (itX (tri a0 a1 a2 a3 a4 a5 b0 b1 b2 b3 b4 b5 d0 d1 d2 d3 d4 d5) 5).all okx then (bif decide (((itX (tri a0 a1 a2 a3 a4 a5 b0 b1 b2 b3 b4 b5 d0 d1 d2 d3 d4 d5) 6).length : Int) < 3) then some (.vec 0, ⟨[some ⟨bt, ow, [i64 a0, i64 a1, i64 a2, i64 a3, i64 a4, i64 a5, i64 b0, i64 b1, i64 b2, i64 b3, i64 b4, i64 b5, i64 d0, i64 d1, i64 d2, i64 d3, i64 d4, i64 d5]⟩], [some ⟨25, true, c6, 0, true, true, []⟩]⟩) else (bif decide ((itX (tri a0 a1 a2 a3 a4 a5 b0 b1 b2 b3 b4 b5 d0 d1 d2 d3 d4 d5) 6).length ≤ 16384) && (itX (tri a0 a1 a2 a3 a4 a5 b0 b1 b2 b3 b4 b5 d0 d1 d2 d3 d4 d5) 6).all okx then (bif decide (((itX (tri a0 a1 a2 a3 a4 a5 b0 b1 b2 b3 b4 b5 d0 d1 d2 d3 d4 d5) 7).length : Int) < 3) then some (.vec 0, ⟨[some ⟨bt, ow, [i64 a0, i64 a1, i64 a2, i64 a3, i64 a4, i64 a5, i64 b0, i64 b1, i64 b2, i64 b3, i64 b4, i64 b5, i64 d0, i64 d1, i64 d2, i64 d3, i64 d4, i64 d5]⟩], [some ⟨25, true, c6, 0, true, true, []⟩]⟩) else some (.vec 0, ⟨[some ⟨bt, ow, [i64 a0, i64 a1, i64 a2, i64 a3, i64 a4, i64 a5, i64 b0, i64 b1, i64 b2, i64 b3, i64 b4, i64 b5, i64 d0, i64 d1, i64 d2, i64 d3, i64 d4, i64 d5]⟩], [some ⟨25, true, c6, 0, true, true, itX (tri a0 a1 a2 a3 a4 a5 b0 b1 b2 b3 b4 b5 d0 d1 d2 d3 d4 d5) 7⟩]⟩)) else none)) else none)) else none)) else none)) else none)) else none)) else none)) else none) := by kernel_rfl
theorem rpol3_eq (bt : TypeId) (ow : Bool) (a0 a1 a2 a3 a4 a5 b0 b1 b2 b3 b4 b5 d0 d1 d2 d3 d4 d5 : Int) (hok : (tri a0 a1 a2 a3 a4 a5 b0 b1 b2 b3 b4 b5 d0 d1 d2 d3 d4 d5).all okx = true) : fnK C15 Try.prog 9 Try.f34 [.sl 0 0 3 3] ⟨[some ⟨bt, ow, [i64 a0, i64 a1, i64 a2, i64 a3, i64 a4, i64 a5, i64 b0, i64 b1, i64 b2, i64 b3, i64 b4, i64 b5, i64 d0, i64 d1, i64 d2, i64 d3, i64 d4, i64 d5]⟩], []⟩ [⟨0, 25, true, c6⟩] = some (.vec 0, ⟨[some ⟨bt, ow, [i64 a0, i64 a1, i64 a2, i64 a3, i64 a4, i64 a5, i64 b0, i64 b1, i64 b2, i64 b3, i64 b4, i64 b5, i64 d0, i64 d1, i64 d2, i64 d3, i64 d4, i64 d5]⟩], [some ⟨25, true, c6, 0, true, true, polR (tri a0 a1 a2 a3 a4 a5 b0 b1 b2 b3 b4 b5 d0 d1 d2 d3 d4 d5)⟩]⟩) := by
  rw [rpol3_raw]
  have hl0 : (tri a0 a1 a2 a3 a4 a5 b0 b1 b2 b3 b4 b5 d0 d1 d2 d3 d4 d5).length = 3 := rfl
  generalize (tri a0 a1 a2 a3 a4 a5 b0 b1 b2 b3 b4 b5 d0 d1 d2 d3 d4 d5) = L at *
  have hl : L.length ≤ 64 := by omega
  rw [decide_eq_true (show 0 + L.length ≤ 65536 by omega)]
  have hb : ∀ k, k ≤ 6 → (itX L k).length ≤ 16384 := fun k hk => by
    refine Nat.le_trans (itX_len L k) ?_
    have : 2 ^ k ≤ 2 ^ 6 := Nat.pow_le_pow_right (by omega) hk
    calc 2 ^ k * L.length ≤ 2 ^ 6 * 64 := Nat.mul_le_mul this hl
      _ ≤ 16384 := by omega
  rw [decide_eq_true (hb 0 (by omega)), decide_eq_true (hb 1 (by omega)), decide_eq_true (hb 2 (by omega)), decide_eq_true (hb 3 (by omega)), decide_eq_true (hb 4 (by omega)), decide_eq_true (hb 5 (by omega)), decide_eq_true (hb 6 (by omega))]
  rw [okx_it hok, okx_it hok, okx_it hok, okx_it hok, okx_it hok, okx_it hok, okx_it hok]
  simp only [Bool.and_self, cond_true, cond_false]
  unfold polR
  have hx : ∀ (n : Nat) (x y : List AV), (bif decide ((n : Int) < 3) then (some (.vec 0, ⟨[some ⟨bt, ow, [i64 a0, i64 a1, i64 a2, i64 a3, i64 a4, i64 a5, i64 b0, i64 b1, i64 b2, i64 b3, i64 b4, i64 b5, i64 d0, i64 d1, i64 d2, i64 d3, i64 d4, i64 d5]⟩], [some ⟨25, true, c6, 0, true, true, x⟩]⟩) : Option (AV × Mem)) else some (.vec 0, ⟨[some ⟨bt, ow, [i64 a0, i64 a1, i64 a2, i64 a3, i64 a4, i64 a5, i64 b0, i64 b1, i64 b2, i64 b3, i64 b4, i64 b5, i64 d0, i64 d1, i64 d2, i64 d3, i64 d4, i64 d5]⟩], [some ⟨25, true, c6, 0, true, true, y⟩]⟩)) = some (.vec 0, ⟨[some ⟨bt, ow, [i64 a0, i64 a1, i64 a2, i64 a3, i64 a4, i64 a5, i64 b0, i64 b1, i64 b2, i64 b3, i64 b4, i64 b5, i64 d0, i64 d1, i64 d2, i64 d3, i64 d4, i64 d5]⟩], [some ⟨25, true, c6, 0, true, true, if n < 3 then x else y⟩]⟩) := by
    intro n x y
    by_cases h : n < 3
    · rw [if_pos h, decide_eq_true (by omega)]; rfl
    · rw [if_neg h, decide_eq_false (by omega)]; rfl
  simp only [hx]
def rpol3M : MSpec := ⟨[], fun args M k => match args, M with
  | [.sl 0 0 3 3], ⟨[some ⟨bt, ow, [.lit (.int .i64 a0), .lit (.int .i64 a1), .lit (.int .i64 a2), .lit (.int .i64 a3), .lit (.int .i64 a4), .lit (.int .i64 a5), .lit (.int .i64 b0), .lit (.int .i64 b1), .lit (.int .i64 b2), .lit (.int .i64 b3), .lit (.int .i64 b4), .lit (.int .i64 b5), .lit (.int .i64 d0), .lit (.int .i64 d1), .lit (.int .i64 d2), .lit (.int .i64 d3), .lit (.int .i64 d4), .lit (.int .i64 d5)]⟩], []⟩ => bif (tri a0 a1 a2 a3 a4 a5 b0 b1 b2 b3 b4 b5 d0 d1 d2 d3 d4 d5).all okx then k (.vec 0) ⟨[some ⟨bt, ow, [i64 a0, i64 a1, i64 a2, i64 a3, i64 a4, i64 a5, i64 b0, i64 b1, i64 b2, i64 b3, i64 b4, i64 b5, i64 d0, i64 d1, i64 d2, i64 d3, i64 d4, i64 d5]⟩], [some ⟨25, true, c6, 0, true, true, polR (tri a0 a1 a2 a3 a4 a5 b0 b1 b2 b3 b4 b5 d0 d1 d2 d3 d4 d5)⟩]⟩ else none
  | _, _ => none⟩
theorem rpol3M_ok : rpol3M.Ok Try.prog 34 := by
  intro R args M k r h
  simp only [rpol3M] at h
  split at h
  · simp only [cond_eq_ite] at h
    split at h
    · rename_i hok
      exact ⟨_, _, h, fn_ok C15_sound mixed e15 C15_loops (rpol3_eq _ _ _ _ _ _ _ _ _ _ _ _ _ _ _ _ _ _ _ _ hok) (by kernel_rfl)⟩
    · cases h
  · cases h
theorem polR_eq (L : List AV) : polR L = polX L := by
  unfold polR polX
  by_cases h0 : L.length < 3
  · rw [if_pos h0]; exact if_pos h0
  rw [if_neg h0, if_neg (show ¬ (itX L 0).length < 3 from h0)]
  have h3 := fun k => itX_three (L := L) (by omega) k
  have hz : ∀ k, k ≤ 7 → (itX L k).length < 3 → (if (itX L 7).length < 3 then ([] : List AV) else itX L 7) = [] := by
    intro k hk hl
    have hn : itX L k = [] := (h3 k).elim (fun h => by omega) id
    have := itX_nil hn (7 - k)
    rw [show k + (7 - k) = 7 by omega] at this
    rw [this]; rfl
  by_cases h1 : (itX L 1).length < 3
  · rw [if_pos h1, hz 1 (by omega) h1]
  by_cases h2 : (itX L 2).length < 3
  · rw [if_neg h1, if_pos h2, hz 2 (by omega) h2]
  by_cases h4 : (itX L 3).length < 3
  · rw [if_neg h1, if_neg h2, if_pos h4, hz 3 (by omega) h4]
  by_cases h5 : (itX L 4).length < 3
  · rw [if_neg h1, if_neg h2, if_neg h4, if_pos h5, hz 4 (by omega) h5]
  by_cases h6 : (itX L 5).length < 3
  · rw [if_neg h1, if_neg h2, if_neg h4, if_neg h5, if_pos h6, hz 5 (by omega) h6]
  by_cases h7 : (itX L 6).length < 3
  · rw [if_neg h1, if_neg h2, if_neg h4, if_neg h5, if_neg h6, if_pos h7, hz 6 (by omega) h7]
  · rw [if_neg h1, if_neg h2, if_neg h4, if_neg h5, if_neg h6, if_neg h7]
end Go.Proofs.Ytplfijdonikaoaa
