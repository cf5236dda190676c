/- set, in the world; the law's free as a contract (chapter 9). -/
import Derived.Test.YticmpcloehnoaaaL9J
set_option linter.unusedVariables false
set_option linter.unusedSimpArgs false
namespace Go.Proofs.Yticmpcloehnoaaa
open Go Go.Sx Go.Fx Go.RowKit Go.Shelf
attribute [local go_sem] Oper.semAt_some
set_option linter.unusedVariables false
set_option linter.unusedSimpArgs false
/-! free, as a contract -/
def freeL (L : List AV) (most : Int) : List (Nat × Nat) := bif decide (0 ≤ most) && decide (most < ((runs L).length : Int)) then (runs L).take most.toNat else runs L
theorem rV_ok (l : List (Nat × Nat)) : ∀ x, x ∈ l.map rV → x.shape true cR = true ∧ x.cells.length = cR.length ∧ ∀ c, c ∈ x.cells → litC c = true := by
  intro x hx
  obtain ⟨r, _, rfl⟩ := List.mem_map.1 hx
  refine ⟨rfl, rfl, fun c hc => ?_⟩
  simp [rV, AV.cells] at hc
  rcases hc with rfl | rfl <;> rfl
theorem rowV_rV (l : List (Nat × Nat)) : rowV (l.map rV) = l.flatMap rC := by
  simp only [rowV, List.flatMap_map]
  rfl
theorem lit_of_fits {x : AV} (h : x.shape false cB = true) : ∃ b, x = .lit (.bool b) := by
  simp only [AV.shape, fitsAll, Bool.and_true] at h
  unfold CK.fits at h
  split at h
  all_goals first | exact ⟨_, rfl⟩ | (cases h; done) | simp at *
theorem mapW_of {E : Env} {w0 : Bs} {w : World} {own o2 hd : Bool} {L : List AV} (hR : RepM E w0 (mR 51 own o2 hd L) w) (hL : 0 < L.length) :
    ∃ g off cap cs fz, MapW w w.heap.size (E.ρ 0) g off cap L ∧ E.va 0 = ⟨g, off, none⟩ ∧ w.heap[g]? = some (.cells cs 4 fz) ∧ off + L.length ≤ cs.size ∧ (o2 = true → fz = (0, 0) ∧ g ≠ E.ρ 0) := by
  obtain ⟨_, cs, h1, h2⟩ := hR.blk 0 _ rfl
  rcases hR.vec 0 _ rfl with ⟨hz, _⟩ | ⟨a, cap, ds, fz, hv⟩
  · rw [show L = [] from hz] at hL; simp at hL
  obtain ⟨g, off, sp⟩ := a
  have hsp := hv.spot
  simp only at hsp
  subst hsp
  have hval : E.σ 0 = .slice (some ⟨g, off, none⟩) L.length cap := hv.val
  have hsz : cs.toList.length = 1 := by rw [← h2.len]; rfl
  have hc0 : cs.toList[0]? = some (E.σ 0) := by
    have hlt : 0 < cs.toList.length := by omega
    have := h2.at_ 0 (.vec 0) cs.toList[0] rfl (List.getElem?_eq_getElem hlt)
    rw [List.getElem?_eq_getElem hlt, this.2 rfl]; rfl
  have hM : MapW w w.heap.size (E.ρ 0) g off cap L := by
    refine ⟨?_, fun i hi => ?_, (Array.getElem?_eq_some_iff.1 h1).1, (Array.getElem?_eq_some_iff.1 hv.blk).1⟩
    · unfold World.cell?
      simp only
      rw [h1]
      rw [Array.getElem?_toList] at hc0
      rw [← hval]; simpa using hc0
    · have hx := List.getElem?_eq_getElem hi
      obtain ⟨b, hb⟩ := lit_of_fits (hv.shape i _ hx)
      obtain ⟨u, g1, g2⟩ := hv.cell i _ hx 0 (.lit (.bool b)) (by rw [hb]; rfl)
      have hu : u = .bool b := g2.2 rfl
      have hbA : bA L i = b := by
        unfold bA atB
        simp [List.getD, hx, hb, AV.getBool]
      unfold World.cell?
      simp only
      rw [show w.heap[g]? = _ from hv.blk]
      simp only [List.length_singleton, Nat.mul_one, Nat.add_zero] at g1
      simp only
      rw [g1, hu, hbA]; rfl
  have hroom : off + L.length ≤ ds.size := by
    rcases hv.room with hr | hr
    · simp only at hr; omega
    · simpa using hr
  refine ⟨g, off, cap, ds, fz, hM, hv.va, hv.blk, hroom, fun ho => ?_⟩
  obtain ⟨m1, m2, m3⟩ := hv.mine ho
  exact ⟨m2, fun e => m3 0 _ rfl e.symm⟩
theorem s19 : Sx.Enters Try.prog 19 Try.f19 := ⟨Try.func19, by kernel_rfl, by kernel_rfl⟩
def free_M : MSpec := ⟨[], fun args M k => match args, M with
  | [.ptr b q, .lit (.int .i64 most)], ⟨[some ⟨bt, own, [.vec h0]⟩], [some ⟨el, false, sh, tr, o2, hd, L⟩]⟩ =>
    bif decide (b = 0) && decide (q = 0) && decide (bt = 51) && decide (h0 = 0) && decide (el = 4) && decide (sh = cB) && decide (tr = 0) && (decide (0 < L.length) && decide (L.length ≤ 65535)) then k (.vec 1) (mF 51 own o2 hd L ((freeL L most).map rV)) else none
  | _, _ => none⟩
theorem free_Mok : free_M.Ok Try.prog 19 := by
  intro R args M k r h
  simp only [free_M] at h
  split at h
  · rename_i b q most bt own h0 el sh tr o2 hd L
    simp only [cond_eq_ite, Bool.and_eq_true, decide_eq_true_eq] at h
    split at h
    · rename_i hc
      obtain ⟨⟨⟨⟨⟨⟨⟨rfl, rfl⟩, rfl⟩, rfl⟩, rfl⟩, rfl⟩, rfl⟩, hL0, hL⟩ := hc
      refine ⟨_, _, h, (CallOkR.ofRow (M := mR 51 own o2 hd L) s19 (rV_ok (freeL L most)) ?_).call⟩
      intro E w0 w hR
      obtain ⟨g, off, cap, _, _, hM, _⟩ := mapW_of hR hL0
      refine (callsIn_wide.1 (free_in 4 (Nat.le_refl _) (E.ρ 0) g off cap L hL most w hM)).mono ?_
      rintro r w' ⟨v, hr, ⟨pre, hm, ho⟩, hb⟩
      refine ⟨v, hr, ?_, hb⟩
      have e : pre = freeL L most := by
        unfold freeL
        rcases hm with ⟨rfl, h2⟩ | ⟨h1, h2⟩
        · by_cases hh : 0 ≤ most ∧ most < ((runs L).length : Int)
          · exact absurd (show ((most.toNat : Nat) : Int) = most by omega) (h2 most.toNat (by omega))
          · rw [show (decide (0 ≤ most) && decide (most < ((runs L).length : Int))) = false by simp; omega, cond_false]
        · obtain ⟨t, ht⟩ := h1
          have hlen : (runs L).length = pre.length + t.length := by rw [← ht]; simp
          by_cases hh : most < ((runs L).length : Int)
          · rw [show (decide (0 ≤ most) && decide (most < ((runs L).length : Int))) = true by simp; omega, cond_true, ← ht, show most.toNat = pre.length by omega, List.take_left]
          · rw [show (decide (0 ≤ most) && decide (most < ((runs L).length : Int))) = false by simp; omega, cond_false, ← ht]
            have : t = [] := List.eq_nil_of_length_eq_zero (by omega)
            rw [this, List.append_nil]
      subst e
      rw [List.length_map, rowV_rV]
      exact ho
    · cases h
  · cases h
end Go.Proofs.Yticmpcloehnoaaa
