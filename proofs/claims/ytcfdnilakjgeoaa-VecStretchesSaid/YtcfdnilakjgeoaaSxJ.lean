import Derived.Test.YtcfdnilakjgeoaaSxI
set_option linter.unusedVariables false
set_option linter.unusedSimpArgs false
namespace Go.Sx
open Go Go.RowKit

/-! A region that draws its order: quiet operations ahead (in a class of worlds), then a tail in one order. -/
section
variable {P : Program} {ops : Array Oper} {C : World → Prop} {n : Nat} {L : Array Bool → Act → Prop}

/-- f operations, all among the first n, in whatever order; then L -/
def anyHead (P : Program) (ops : Array Oper) (C : World → Prop) (n : Nat) (L : Array Bool → Act → Prop) : Nat → Array Bool → Act → Prop
  | 0 => L
  | f + 1 => fun s a => Region.ready .any ops s ≠ [] ∧ ∀ j, j ∈ Region.ready .any ops s → j < n ∧ qOp P ops C j (anyHead P ops C n L f (s.setIfInBounds j true)) a

theorem anyHead_run {Q : Exit → Act → World → Prop} {g : Nat} (hL : ∀ s a w, C w → L s a → wpAny P .any ops Q g s a w) :
    ∀ (f : Nat) (s : Array Bool) (a : Act) (w : World), C w → anyHead P ops C n L f s a → wpAny P .any ops Q (f + g) s a w := by
  intro f
  induction f with
  | zero => intro s a w hw h; rw [Nat.zero_add]; exact hL s a w hw h
  | succ f ih =>
    intro s a w hw h
    rw [Nat.add_right_comm]
    exact ⟨fun e => absurd e h.1, fun j hj => wpOp_of_qOp hw (fun a' w' hw' h' => ih _ a' w' hw' h') (h.2 j hj).2⟩

/-- what is asked of the text, whatever stands where -/
structure HeadText (ops : Array Oper) (n : Nat) : Prop where
  plain : ∀ (j : Nat) (o : Oper) cs b, ops[j]? = some o → o.op ≠ .select cs b
  sink : Region.sinkB .any ops n = true
  chain : Region.chainB .any ops n = true
  lt : n < ops.size

/-- operation i, which may come up now, is as good as taken first -/
theorem anyHead_swap (T : HeadText ops n) (hL : ∀ s a, L s a → ∀ j, j ∈ Region.ready .any ops s → n ≤ j) {i : Nat} {oi : Oper} {v : Value} (hi : ops[i]? = some oi) (hin : i < n) :
    ∀ (f : Nat) (s : Array Bool) (a : Act), HeadInv .any ops n s → i ∈ Region.ready .any ops s →
      (∀ j oj, ops[j]? = some oj → j ≠ i → s.getD j true = false → (∀ e ∈ oj.after, Region.binds .any e = true → e.on ≠ i) → oi.apart ops oj = true) →
      YieldsIn P ops C oi v a → anyHead P ops C n L f (s.setIfInBounds i true) (a.put oi.dst v) → anyHead P ops C n L (f + 1) s a := by
  intro f
  induction f with
  | zero =>
    intro s a inv hr _ hy h
    refine ⟨fun e => (by rw [e] at hr; cases hr), fun j hj => ?_⟩
    have hjn : j < n := Nat.lt_of_not_le fun hge => tail_waits T.sink T.chain T.lt inv _ i rfl hin (mem_ready.1 hr).1 j hge hj
    by_cases e : j = i
    · exact ⟨hjn, e ▸ hy.qOp hi h⟩
    · exact absurd (hL _ _ h j (ready_mono hj e)) (by omega)
  | succ f ih =>
    intro s a inv hr hap hy h
    have hun := (mem_ready.1 hr).1
    refine ⟨fun e => (by rw [e] at hr; cases hr), fun j hj => ?_⟩
    have hjn : j < n := Nat.lt_of_not_le fun hge => tail_waits T.sink T.chain T.lt inv _ i rfl hin hun j hge hj
    by_cases e : j = i
    · exact ⟨hjn, e ▸ hy.qOp hi h⟩
    · refine ⟨hjn, ?_⟩
      have hq := (h.2 j (ready_mono hj e)).2
      obtain ⟨hjun, oj, hoj, hall⟩ := mem_ready.1 hj
      have hfree : ∀ x ∈ oj.after, Region.binds .any x = true → x.on ≠ i := by
        intro x hx hb hon
        have h1 := hall x hx hb
        rw [hon, getD_both hun] at h1
        cases h1
      have hq2 := qOp_put hoj (hap j oj hoj e hjun hfree) (fun cs b => T.plain i oi cs b hi) (fun cs b => T.plain j oj cs b hoj) hy hq
      refine qOp_mono (fun a' h' => ?_) hq2
      refine ih (s.setIfInBounds j true) a' (inv.set hj hjn) (ready_mono hr (Ne.symm e)) ?_ h'.1 ?_
      · intro m om hm hmi hmun hmf
        refine hap m om hm hmi ?_ hmf
        by_cases ejm : j = m
        · exact ejm ▸ hjun
        · rwa [getD_set_ne true ejm] at hmun
      · rw [Array.setIfInBounds_comm _ _ e]; exact h'.2

theorem anyHead_text (T : HeadText ops n) {Lq : Act → Prop} {g : Nat} : ∀ (l : List Oper) (k : Nat) (s : Array Bool) (a : Act), (∀ j, j < l.length → l[j]? = ops[k + j]?) → k + l.length = n → HeadInv .any ops n s →
    Region.lexHead .any ops g l.length k s = true → wpQuiet P ops C Lq l a →
    anyHead P ops C n (fun s' a' => Region.seqB .any ops g n s' = true ∧ Lq a') l.length s a := by
  intro l
  induction l with
  | nil =>
    intro k s a _ hk _ hB h
    have : k = n := by simpa using hk
    subst this
    exact ⟨hB, h⟩
  | cons o l ih =>
    intro k s a hl hk inv hB h
    have h0 : ops[k]? = some o := (hl 0 (Nat.succ_pos _)).symm.trans rfl
    simp only [List.length_cons] at hk
    simp only [List.length_cons, Region.lexHead, Bool.and_eq_true] at hB
    have hr : k ∈ Region.ready .any ops s := by simpa using hB.1.1
    have hkn : k < n := by omega
    have hq : qOp P ops C k (wpQuiet P ops C Lq l) a := by unfold qOp; simp only [h0]; exact h
    obtain ⟨v, hy, hK⟩ := yieldsIn_of_qOp h0 hq
    refine anyHead_swap T (fun s' a' hL => seqB_ready hL.1) h0 hkn l.length s a inv hr (Region.free_spec h0 hB.1.2) hy ?_
    exact ih (k + 1) _ _ (fun j hj => by have := hl (j + 1) (Nat.succ_lt_succ hj); simpa [Nat.add_assoc, Nat.add_comm 1 j] using this) (by omega) (inv.set hr hkn) hB.2 hK

theorem wp_region_quiet_tail {id : Nat} {Q : Exit → Act → World → Prop} {a : Act} {w : World} {l : List Oper} (n : Nat) (hm : P.follows .mixedOrders = true) (hB : Region.lexTailB .any l.toArray n = true) (hC : C { w with drawn := w.drawn + 1 })
    (h : wpQuiet P l.toArray C (fun a' => ∀ w', C w' → wpList P l.toArray Q (l.drop n) a' w') (l.take n) a) : (Code.region id l.toArray true).wp P Q a w := by
  simp only [Region.lexTailB, Bool.and_eq_true, decide_eq_true_eq] at hB
  obtain ⟨⟨⟨⟨hsel, hn⟩, hs⟩, hc⟩, hlex⟩ := hB
  have hlen : n < l.length := by simpa using hn
  have ht : (l.take n).length = n := by simp; omega
  have hd : (l.drop n).length = l.toArray.size - n := by simp
  have T : HeadText l.toArray n := ⟨Region.noSelect_spec hsel, hs, hc, hn⟩
  have inv : HeadInv .any l.toArray n (Array.replicate l.toArray.size false) :=
    ⟨by simp, fun j oj _ e => (by rw [getD_replicate_false] at e; cases e), fun t _ ht => getD_in (by simpa using ht) (getD_replicate_false _ _)⟩
  have H := anyHead_text (C := C) T (l.take n) 0 _ a (fun j hj => by rw [ht] at hj; simp [hj]) (by omega) inv (by rw [ht]; exact hlex) h
  refine wp_region_any hm ?_
  have := anyHead_run (Q := Q) (g := l.toArray.size - n) (fun s a' w' hw' hL => by
    have := wpAny_of_seq (md := .any) (Q' := Q) (l.drop n) n s a' w' (fun j => by simp [List.getElem?_drop]) (by rw [hd]; exact hL.1) (hL.2 w' hw')
    rwa [hd] at this) _ _ _ _ hC H
  rwa [ht, show n + (l.toArray.size - n) = l.toArray.size from by omega] at this

end

end Go.Sx
