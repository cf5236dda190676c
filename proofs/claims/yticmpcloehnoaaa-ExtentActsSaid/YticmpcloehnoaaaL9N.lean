/- extent's Take, as a contract (chapter 9). -/
import Derived.Test.YticmpcloehnoaaaL9M
set_option linter.unusedVariables false
set_option linter.unusedSimpArgs false
namespace Go.Proofs.Yticmpcloehnoaaa
open Go Go.Sx Go.Fx
set_option maxRecDepth 100000
set_option linter.unusedVariables false
set_option linter.unusedSimpArgs false
theorem setC_rep {E : Env} {w0 : Bs} {own hd : Bool} {L : List AV} {w : World} {g off : Nat} (hva : E.va 0 = ⟨g, off, none⟩) (hR : RepM E w0 (mW 51 own hd L) w) (s : Nat) (v : Bool) : ∀ k, s + k ≤ L.length →
    Step E (mW 51 own hd L) E (mW 51 own hd (setN L s v k)) ∧ RepM E w0 (mW 51 own hd (setN L s v k)) (setC w g off s v k)
  | 0, _ => ⟨Step.refl _ _, hR⟩
  | k + 1, h => by
    obtain ⟨h1, h2⟩ := setC_rep hva hR s v k (by omega)
    obtain ⟨g', off', hva', hst, hR', _⟩ := h2.putV (h := 0) (e := ⟨4, false, cB, 0, true, hd, setN L s v k⟩) rfl rfl (ck := .bool) rfl rfl (i := s + k) (by simp only [setN_len]; omega) (x := bv v) (v := .bool v) (RelS.lit _ _ _) rfl
    rw [hva] at hva'
    simp only [Addr.mk.injEq] at hva'
    obtain ⟨rfl, rfl, _⟩ := hva'
    exact ⟨h1.trans hst, hR'⟩
theorem s9 : Sx.Enters Try.prog 9 Try.f9 := ⟨Try.func9, by kernel_rfl, by kernel_rfl⟩
theorem take_ok {own hd : Bool} {L : List AV} (hL0 : 0 < L.length) (hL : L.length ≤ 65535) (m : Int) : CallOk Try.prog 9 [.ptr 0 0, i64 m] (mW 51 own hd L) (.tup [i64 (takeV L m), i64 (takeE L m)]) (mW 51 own hd (takeL L m)) := by
  intro E w0 w hR hs hl
  refine ⟨s9.run _ w, ?_⟩
  obtain ⟨g, off, cap, cs, fz, hM, hva, hh, hr, ho⟩ := mapW_of hR hL0
  obtain ⟨rfl, hne⟩ := ho rfl
  refine (callsIn_wide.1 (take_in 4 (Nat.le_refl _) (E.ρ 0) g off cap L hL m w cs hM (fun e => hne e.symm) hh hr)).mono ?_
  rintro e w' ⟨rfl, hb⟩
  have key : Step E (mW 51 own hd L) E (mW 51 own hd (takeL L m)) ∧ RepM E w0 (mW 51 own hd (takeL L m)) (takeW w g off L m) ∧ (takeW w g off L m).heap.size = w.heap.size := by
    unfold takeL takeW
    by_cases h1 : m < 1
    · rw [decide_eq_true h1]; exact ⟨Step.refl _ _, hR, rfl⟩
    · rw [decide_eq_false h1]
      cases hf : fit L m.toNat with
      | none => exact ⟨Step.refl _ _, hR, rfl⟩
      | some s =>
        obtain ⟨_, h2, _⟩ := fitF_spec L m.toNat _ _ _ hf
        obtain ⟨a, b⟩ := setC_rep hva hR s true m.toNat h2
        exact ⟨a, b, setC_size _ _ _ _ _ _⟩
  obtain ⟨k1, k2, k3⟩ := key
  exact ⟨E, _, rfl, k1, ⟨rfl, fun _ => rfl⟩, k2.later (by rw [k3]; exact hb)⟩
/-- Take of the code and of the document: one contract -/
def takeP_M : MSpec := ⟨[], fun args M k => match args, M with
  | [.ptr b q, .lit (.int .i64 n)], ⟨[some ⟨bt, own, [.vec h0]⟩], [some ⟨el, false, sh, tr, true, hd, L⟩]⟩ =>
    bif decide (b = 0) && decide (q = 0) && decide (bt = 51) && decide (h0 = 0) && decide (el = 4) && decide (sh = cB) && decide (tr = 0) && (decide (0 < L.length) && decide (L.length ≤ 65535)) then k (.tup [i64 (takeV L n), i64 (takeE L n)]) (mW 51 own hd (takeL L n)) else none
  | _, _ => none⟩
theorem takeP_Mok : takeP_M.Ok Try.prog 9 := by
  intro R args M k r h
  simp only [takeP_M] at h
  split at h
  · rename_i b q n bt own h0 el sh tr hd L
    simp only [cond_eq_ite, Bool.and_eq_true, decide_eq_true_eq] at h
    split at h
    · rename_i hc
      obtain ⟨⟨⟨⟨⟨⟨⟨rfl, rfl⟩, rfl⟩, rfl⟩, rfl⟩, rfl⟩, rfl⟩, hg, hg'⟩ := hc
      exact ⟨_, _, h, take_ok hg hg' n⟩
    · cases h
  · cases h
end Go.Proofs.Yticmpcloehnoaaa
