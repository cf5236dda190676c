/- At, its guard a letter (chapter 14): trees stay small. -/
import Derived.Test.YtfnpnenndbdcpaaL14J
set_option linter.unusedVariables false
set_option linter.unusedSimpArgs false
namespace Go.Proofs.Ytfnpnenndbdcpaa
open Go Go.Sx Go.Fx
set_option maxRecDepth 100000
set_option linter.unusedVariables false
set_option linter.unusedSimpArgs false
def atV (ok : Int → List (List AV) → Bool) : MSpec := ⟨[], fun args M k => match args, M with
  | [.ptr 0 0, .lit (.int .i64 l), .lit (.int .i64 x), .lit (.int .i64 y)], ⟨[some ⟨65, false, [.lit (.int .i64 0), .lit (.bool wr), .vec 0, .sl 1 0 1 1]⟩, some ⟨22, false, [.vec 0]⟩], [some ⟨39, true, s0, 0, false, h0, L0⟩]⟩ => bif decide (s0 = c4) && ok 0 [L0] then k (txl wr 0 [L0] l x y) (PM0 wr h0 L0) else none
  | [.ptr 0 0, .lit (.int .i64 l), .lit (.int .i64 x), .lit (.int .i64 y)], ⟨[some ⟨65, false, [.lit (.int .i64 1), .lit (.bool wr), .vec 0, .vec 1]⟩], [some ⟨39, true, s0, 0, false, h0, L0⟩, some ⟨22, false, [.any], 1, false, hw, [.vec 0, .vec 2]⟩, some ⟨39, true, s1, 2, false, h1, L1⟩]⟩ => bif decide (s0 = c4) && decide (s1 = c4) && ok 1 [L0, L1] then k (txl wr 1 [L0, L1] l x y) (PM1 wr h0 hw h1 L0 L1) else none
  | [.ptr 0 0, .lit (.int .i64 l), .lit (.int .i64 x), .lit (.int .i64 y)], ⟨[some ⟨65, false, [.lit (.int .i64 2), .lit (.bool wr), .vec 0, .vec 1]⟩], [some ⟨39, true, s0, 0, false, h0, L0⟩, some ⟨22, false, [.any], 1, false, hw, [.vec 0, .vec 2, .vec 3]⟩, some ⟨39, true, s1, 2, false, h1, L1⟩, some ⟨39, true, s2, 3, false, h2, L2⟩]⟩ => bif decide (s0 = c4) && decide (s1 = c4) && decide (s2 = c4) && ok 2 [L0, L1, L2] then k (txl wr 2 [L0, L1, L2] l x y) (PM2 wr h0 hw h1 h2 L0 L1 L2) else none
  | [.ptr 0 0, .lit (.int .i64 l), .lit (.int .i64 x), .lit (.int .i64 y)], ⟨[some ⟨65, false, [.lit (.int .i64 3), .lit (.bool wr), .vec 0, .vec 1]⟩], [some ⟨39, true, s0, 0, false, h0, L0⟩, some ⟨22, false, [.any], 1, false, hw, [.vec 0, .vec 2, .vec 3, .vec 4]⟩, some ⟨39, true, s1, 2, false, h1, L1⟩, some ⟨39, true, s2, 3, false, h2, L2⟩, some ⟨39, true, s3, 4, false, h3, L3⟩]⟩ => bif decide (s0 = c4) && decide (s1 = c4) && decide (s2 = c4) && decide (s3 = c4) && ok 3 [L0, L1, L2, L3] then k (txl wr 3 [L0, L1, L2, L3] l x y) (PM3 wr h0 hw h1 h2 h3 L0 L1 L2 L3) else none
  | _, _ => none⟩
theorem atV_ok {ok : Int → List (List AV) → Bool} (hok : ∀ D Ls, ok D Ls = true → okL D Ls = true) : (atV ok).Ok Try.prog 13 := by
  intro R args M k r h
  simp only [atV] at h
  split at h
  · rename_i l x y wr s0 h0 L0
    simp only [cond_eq_ite, Bool.and_eq_true, decide_eq_true_eq] at h
    split at h
    · rename_i hc
      obtain ⟨rfl, hk⟩ := hc
      refine atP_Mok (k := k) (M := PM0 wr h0 L0) (args := [.ptr 0 0, i64 l, i64 x, i64 y]) ?_
      show (bif decide (c4 = c4) && okL 0 [L0] then k (txl wr 0 [L0] l x y) (PM0 wr h0 L0) else none) = _
      rw [hok _ _ hk]; simpa using h
    · cases h
  · rename_i l x y wr s0 h0 L0 hw s1 h1 L1
    simp only [cond_eq_ite, Bool.and_eq_true, decide_eq_true_eq] at h
    split at h
    · rename_i hc
      obtain ⟨⟨rfl, rfl⟩, hk⟩ := hc
      refine atP_Mok (k := k) (M := PM1 wr h0 hw h1 L0 L1) (args := [.ptr 0 0, i64 l, i64 x, i64 y]) ?_
      show (bif decide (c4 = c4) && decide (c4 = c4) && okL 1 [L0, L1] then k (txl wr 1 [L0, L1] l x y) (PM1 wr h0 hw h1 L0 L1) else none) = _
      rw [hok _ _ hk]; simpa using h
    · cases h
  · rename_i l x y wr s0 h0 L0 hw s1 h1 L1 s2 h2 L2
    simp only [cond_eq_ite, Bool.and_eq_true, decide_eq_true_eq] at h
    split at h
    · rename_i hc
      obtain ⟨⟨⟨rfl, rfl⟩, rfl⟩, hk⟩ := hc
      refine atP_Mok (k := k) (M := PM2 wr h0 hw h1 h2 L0 L1 L2) (args := [.ptr 0 0, i64 l, i64 x, i64 y]) ?_
      show (bif decide (c4 = c4) && decide (c4 = c4) && decide (c4 = c4) && okL 2 [L0, L1, L2] then k (txl wr 2 [L0, L1, L2] l x y) (PM2 wr h0 hw h1 h2 L0 L1 L2) else none) = _
      rw [hok _ _ hk]; simpa using h
    · cases h
  · rename_i l x y wr s0 h0 L0 hw s1 h1 L1 s2 h2 L2 s3 h3 L3
    simp only [cond_eq_ite, Bool.and_eq_true, decide_eq_true_eq] at h
    split at h
    · rename_i hc
      obtain ⟨⟨⟨⟨rfl, rfl⟩, rfl⟩, rfl⟩, hk⟩ := hc
      refine atP_Mok (k := k) (M := PM3 wr h0 hw h1 h2 h3 L0 L1 L2 L3) (args := [.ptr 0 0, i64 l, i64 x, i64 y]) ?_
      show (bif decide (c4 = c4) && decide (c4 = c4) && decide (c4 = c4) && decide (c4 = c4) && okL 3 [L0, L1, L2, L3] then k (txl wr 3 [L0, L1, L2, L3] l x y) (PM3 wr h0 hw h1 h2 h3 L0 L1 L2 L3) else none) = _
      rw [hok _ _ hk]; simpa using h
    · cases h
  · cases h
end Go.Proofs.Ytfnpnenndbdcpaa
