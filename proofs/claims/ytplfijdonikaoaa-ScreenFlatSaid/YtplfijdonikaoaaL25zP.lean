/- clip's Polygon, any row (chapter 24). -/
import Derived.Test.YtplfijdonikaoaaL25zB
set_option linter.unusedVariables false
set_option linter.unusedSimpArgs false
namespace Go.Proofs.Ytplfijdonikaoaa
open Go Go.Sx Go.Fx
set_option maxRecDepth 100000
noncomputable def cB0 : CallSem := (CallSem.nil.withBody Try.prog 5 40 Try.f40 false).withRead 41 by_M
theorem cB0_sound : cB0.Sound Try.prog := CallSem.withRead_sound (CallSem.withBody_sound nilS mixed 5 e20 false) by_Mok
theorem pol_raw (el : TypeId) (own hd : Bool) (L : List AV) : fnK cB0 Try.prog 9 Try.f30 [.vec 0] ⟨[], [some ⟨el, true, c6, 0, own, hd, L⟩]⟩ [⟨0, 25, true, c6⟩] =
    (bif decide ((L.length : Int) < 3) then some (.vec 1, ⟨[], [some ⟨el, true, c6, 0, own, hd, L⟩, some ⟨25, true, c6, 1, true, true, []⟩]⟩) else bif decide (0 < L.length) then (bif true && decide (0 + L.length ≤ 65536) && true then (bif decide ((itX L 0).length ≤ 16384) && (itX L 0).all okx then (bif decide ((itX L 1).length ≤ 16384) && (itX L 1).all okx then (bif decide ((itX L 2).length ≤ 16384) && (itX L 2).all okx then (bif decide ((itX L 3).length ≤ 16384) && (itX L 3).all okx then (bif decide ((itX L 4).length ≤ 16384) && (itX L 4).all okx then (bif decide ((itX L 5).length ≤ 16384) && (itX L 5).all okx then (bif decide ((itX L 6).length ≤ 16384) && (itX L 6).all okx then (bif decide (((itX L 7).length : Int) < 3) then some (.vec 1, ⟨[], [some ⟨el, true, c6, 0, own, hd, L⟩, some ⟨25, true, c6, 1, true, true, []⟩]⟩) else some (.vec 1, ⟨[], [some ⟨el, true, c6, 0, own, hd, L⟩, some ⟨25, true, c6, 1, true, true, itX L 7⟩]⟩)) else none) else none) else none) else none) else none) else none) else none) else none) else none) := by kernel_rfl
theorem pol_eq (el : TypeId) (own hd : Bool) (L : List AV) (hl : L.length ≤ 64) (hok : L.all okx = true) : fnK cB0 Try.prog 9 Try.f30 [.vec 0] ⟨[], [some ⟨el, true, c6, 0, own, hd, L⟩]⟩ [⟨0, 25, true, c6⟩] = some (.vec 1, ⟨[], [some ⟨el, true, c6, 0, own, hd, L⟩, some ⟨25, true, c6, 1, true, true, polX L⟩]⟩) := by
  rw [pol_raw]
  unfold polX
  by_cases h1 : L.length < 3
  · rw [if_pos h1, decide_eq_true (by omega)]; rfl
  rw [if_neg h1, decide_eq_false (by omega), decide_eq_true (show 0 < L.length by omega), decide_eq_true (show 0 + L.length ≤ 65536 by omega)]
  have hb : ∀ k, k ≤ 6 → (itX L k).length ≤ 16384 := fun k hk => by
    refine Nat.le_trans (itX_len L k) ?_
    have : 2 ^ k ≤ 2 ^ 6 := Nat.pow_le_pow_right (by omega) hk
    calc 2 ^ k * L.length ≤ 2 ^ 6 * 64 := Nat.mul_le_mul this hl
      _ ≤ 16384 := by omega
  rw [decide_eq_true (hb 0 (by omega)), decide_eq_true (hb 1 (by omega)), decide_eq_true (hb 2 (by omega)), decide_eq_true (hb 3 (by omega)), decide_eq_true (hb 4 (by omega)), decide_eq_true (hb 5 (by omega)), decide_eq_true (hb 6 (by omega))]
  rw [okx_it hok, okx_it hok, okx_it hok, okx_it hok, okx_it hok, okx_it hok, okx_it hok]
  simp only [Bool.and_self, cond_true, cond_false]
  by_cases h2 : (itX L 7).length < 3
  · rw [if_pos h2, decide_eq_true (by omega)]; rfl
  · rw [if_neg h2, decide_eq_false (by omega)]; rfl
def pol_M : MSpec where
  nils := [⟨0, 25, true, c6⟩]
  run args M k := match args, M with
    | [.vec h0], ⟨[], [some ⟨el, true, sh, t0, own, hd, L⟩]⟩ => bif decide (h0 = 0) && decide (t0 = 0) && decide (sh = c6) && decide (L.length ≤ 64) && L.all okx then
        k (.vec 1) ⟨[], [some ⟨el, true, c6, 0, own, hd, L⟩, some ⟨25, true, c6, 1, true, true, polX L⟩]⟩ else none
    | _, _ => none
theorem pol_Mok14 : pol_M.Ok Try.prog 30 := by
  intro R args M k r h
  simp only [pol_M] at h
  split at h
  · rename_i h0 el sh t0 own hd L
    simp only [cond_eq_ite, Bool.and_eq_true, decide_eq_true_eq] at h
    split at h
    · rename_i hc
      obtain ⟨⟨⟨⟨rfl, rfl⟩, rfl⟩, hn⟩, hok⟩ := hc
      exact ⟨_, _, h, fn_ok (C := cB0) (n := 9) (ts := [⟨0, 25, true, c6⟩]) cB0_sound mixed e14 (fun _ _ => LoopsOk.no _ _) (pol_eq el own hd L hn hok) rfl⟩
    · cases h
  · cases h
end Go.Proofs.Ytplfijdonikaoaa
