import Derived.Test.YtplfijdonikaoaaSxK
set_option linter.unusedVariables false
set_option linter.unusedSimpArgs false
namespace Go.Sx
open Go Go.RowKit

/-! What the plan of a stretch needs of memory. -/

theorem RepM.adopt {E : Env} {w0 : Bs} {M : Mem} {w : World} (h : RepM E w0 M w) (x : Blk) (hown : x.own = true) {cs : Array Value} (hc : RelL E M x.cells cs.toList) {r : Nat} (hr : w.heap[r]? = some (.cells cs x.elem (0, 0)))
    (hge : w0.Wr r) (hb : ∀ (b : Nat) (y : Blk), M.blks[b]? = some (some y) → E.ρ b ≠ r) (hv : ∀ (i : Nat) (e : Ent), M.vecs[i]? = some (some e) → e.own = true → E.bk i ≠ some r) :
    RepM (E.setB M.blks.length r) w0 (M.addB x) w ∧ Step E M (E.setB M.blks.length r) (M.addB x) := by
  have hst : Step E M (E.setB M.blks.length r) (M.addB x) := ⟨M.addB_le x, E.setB_le _ _ _⟩
  have hρ : ∀ b, b < M.blks.length → (E.setB M.blks.length r).ρ b = E.ρ b := fun b hb => by simp [Env.setB]; omega
  have hρn : (E.setB M.blks.length r).ρ M.blks.length = r := by simp [Env.setB]
  refine ⟨⟨h.below, fun b y hy => ?_, fun b b' y y' hy hy' he => ?_, fun i e he => ?_, h.terr⟩, hst⟩
  · rcases addB_cases hy with ⟨hlt, hy⟩ | ⟨rfl, rfl⟩
    · obtain ⟨h1, ds, h2, h3⟩ := h.blk b y hy
      exact ⟨by rw [hρ b hlt]; exact h1, ds, by rw [hρ b hlt]; exact h2, h3.step hst⟩
    · exact ⟨⟨fun _ => by rw [hρn]; exact hge, fun ho => by rw [hown] at ho; cases ho⟩, cs, by rw [hρn]; exact hr, hc.step hst⟩
  · rcases addB_cases hy with ⟨hlt, hy⟩ | ⟨rfl, _⟩ <;> rcases addB_cases hy' with ⟨hlt', hy'⟩ | ⟨rfl, _⟩
    · rw [hρ b hlt, hρ b' hlt'] at he; exact h.inj b b' y y' hy hy' he
    · rw [hρ b hlt, hρn] at he; exact absurd he (hb b y hy)
    · rw [hρ b' hlt', hρn] at he; exact absurd he.symm (hb b' y' hy')
    · rfl
  · rcases h.vec i e he with hz | ⟨a, cap, ds, fz, hve⟩
    · exact .inl hz
    refine .inr ⟨a, cap, ds, fz, { hve with cell := ?_, mine := ?_ }⟩
    · intro j y hy k c hc'
      obtain ⟨u, h1, h2⟩ := hve.cell j y hy k c hc'
      exact ⟨u, h1, h2.step hst⟩
    · intro ho
      obtain ⟨h1, h2, h3⟩ := hve.mine ho
      refine ⟨h1, h2, fun b y hy => ?_⟩
      rcases addB_cases hy with ⟨hlt, hy⟩ | ⟨rfl, rfl⟩
      · rw [hρ b hlt]; exact h3 b y hy
      · rw [hρn]
        have := hv i e he ho
        rw [hve.bk] at this
        exact fun hh => this (by rw [hh])

theorem RepM.putB {E : Env} {w0 : Bs} {M : Mem} {w : World} (h : RepM E w0 M w) {b : Nat} {x : Blk} (hx : M.blks[b]? = some (some x)) (y : Blk) (he : y.elem = x.elem) (ho : y.own = x.own)
    (hc : ∀ cs : Array Value, w.heap[E.ρ b]? = some (.cells cs x.elem (0, 0)) → RelL E M x.cells cs.toList → RelL E M y.cells cs.toList) : RepM E w0 (M.setB b y) w := by
  have hst : Step E M E (M.setB b y) := ⟨Mem.setB_le hx _, Env.le.refl _ _ _⟩
  have ex : ∀ (c : Nat) (z : Blk), (M.setB b y).blks[c]? = some (some z) → ∃ z', M.blks[c]? = some (some z') := fun c z hz => by
    rcases setB_cases hz with ⟨_, hz⟩ | ⟨rfl, _⟩
    · exact ⟨_, hz⟩
    · exact ⟨_, hx⟩
  refine ⟨h.below, fun c z hz => ?_, fun c1 c2 y1 y2 hy1 hy2 he => ?_, fun i e hi => ?_, h.terr⟩
  · rcases setB_cases hz with ⟨_, hz⟩ | ⟨rfl, rfl⟩
    · obtain ⟨h1, ds, h2, h3⟩ := h.blk c z hz
      exact ⟨h1, ds, h2, h3.step hst⟩
    · obtain ⟨h1, ds, h2, h3⟩ := h.blk c x hx
      exact ⟨by rw [ho]; exact h1, ds, by rw [he]; exact h2, (hc ds h2 h3).step hst⟩
  · obtain ⟨z1, hz1⟩ := ex c1 y1 hy1
    obtain ⟨z2, hz2⟩ := ex c2 y2 hy2
    exact h.inj c1 c2 z1 z2 hz1 hz2 he
  · rcases h.vec i e hi with hz | ⟨a, cap, ds, fz, hv⟩
    · exact .inl hz
    refine .inr ⟨a, cap, ds, fz, { hv with cell := ?_, mine := ?_ }⟩
    · intro j y hy k c hc'
      obtain ⟨u, h1, h2⟩ := hv.cell j y hy k c hc'
      exact ⟨u, h1, h2.step hst⟩
    · intro how
      obtain ⟨h1, h2, h3⟩ := hv.mine how
      refine ⟨h1, h2, fun c z hz => ?_⟩
      obtain ⟨z', hz'⟩ := ex c z hz
      exact h3 c z' hz'

/-! blocks held blind -/
def blind (x : Blk) : Blk := { x with cells := x.cells.map fun _ => .bad }
def blurs (M : Mem) : List Nat → Mem
  | [] => M
  | b :: l => match M.blks[b]? with
    | some (some x) => blurs (M.setB b (blind x)) l
    | _ => blurs M l

theorem relL_bad {E : Env} {M : Mem} {l : List AV} {vs : List Value} (hl : l.length = vs.length) (h : ∀ c, c ∈ l → c = .bad) : RelL E M l vs :=
  ⟨hl, fun i a v ha _ => by rw [h a (List.mem_of_getElem? ha)]; exact RelS.bad _ _ _⟩

theorem blurs_rep {E : Env} {w0 : Bs} {w : World} : ∀ (W : List Nat) {M : Mem}, RepM E w0 M w → RepM E w0 (blurs M W) w
  | [], _, h => h
  | b :: l, M, h => by
    unfold blurs
    split
    · rename_i x hx
      exact blurs_rep l (h.putB hx (blind x) rfl rfl fun cs _ hr => relL_bad (by simpa [blind] using hr.len) (fun c hc => by simp [blind] at hc; exact hc.2.symm))
    · exact blurs_rep l h

theorem blurs_same : ∀ (W : List Nat) (M : Mem), (blurs M W).blks.length = M.blks.length ∧ (blurs M W).vecs = M.vecs ∧ (blurs M W).live = M.live
  | [], M => ⟨rfl, rfl, rfl⟩
  | b :: l, M => by
    unfold blurs
    split
    · rename_i x hx
      obtain ⟨h1, h2, h3⟩ := blurs_same l (M.setB b (blind x))
      exact ⟨h1.trans (by simp [Mem.setB]), h2, h3.trans (setB_live hx _)⟩
    · exact blurs_same l M

/-- N holds what M holds, some of it blind -/
structure Cov (N M : Mem) : Prop where
  blk : ∀ (b : Nat) (x : Blk), N.blks[b]? = some (some x) → ∃ y, M.blks[b]? = some (some y) ∧ y.elem = x.elem ∧ y.own = x.own ∧ y.cells.length = x.cells.length ∧ (y.cells = x.cells ∨ ∀ c, c ∈ x.cells → c = .bad)
  vec : ∀ (h : Nat) (e : Ent), N.vecs[h]? = some (some e) → M.vecs[h]? = some (some e)

theorem Cov.refl (M : Mem) : Cov M M := ⟨fun b x h => ⟨x, h, rfl, rfl, rfl, .inl rfl⟩, fun _ _ h => h⟩
theorem Cov.trans {N M L : Mem} (h : Cov N M) (h' : Cov M L) : Cov N L := by
  refine ⟨fun b x hx => ?_, fun i e he => h'.vec i e (h.vec i e he)⟩
  obtain ⟨y, hy, e1, o1, l1, c1⟩ := h.blk b x hx
  obtain ⟨z, hz, e2, o2, l2, c2⟩ := h'.blk b y hy
  refine ⟨z, hz, e2.trans e1, o2.trans o1, l2.trans l1, ?_⟩
  rcases c1 with c1 | c1
  · rcases c2 with c2 | c2
    · exact .inl (c2.trans c1)
    · exact .inr (by rw [← c1]; exact c2)
  · exact .inr c1
theorem Cov.grow {N M M' : Mem} (h : Cov N M) (g : Grow M M') : Cov N M' :=
  ⟨fun b x hx => by rw [g.blk]; exact h.blk b x hx, fun i e he => g.vec i e (h.vec i e he)⟩
theorem Cov.gains {N M M' : Mem} (h : Cov N M) (g : Gains M M') : Cov N M' :=
  ⟨fun b x hx => let ⟨y, hy, r⟩ := h.blk b x hx; ⟨y, g.blk b y hy, r⟩, fun i e he => g.vec i e (h.vec i e he)⟩
theorem Cov.addB {N M : Mem} (h : Cov N M) (x : Blk) : Cov N (M.addB x) := by
  refine ⟨fun b y hy => ?_, h.vec⟩
  obtain ⟨z, hz, r⟩ := h.blk b y hy
  exact ⟨z, by simp only [Mem.addB]; rw [List.getElem?_append_left (lt_of_get hz)]; exact hz, r⟩
theorem Cov.setB {N M : Mem} (h : Cov N M) {b : Nat} {z X : Blk} (hz : M.blks[b]? = some (some z)) (he : X.elem = z.elem) (ho : X.own = z.own) (hl : X.cells.length = z.cells.length)
    (hb : ∀ x, N.blks[b]? = some (some x) → ∀ c, c ∈ x.cells → c = .bad) : Cov N (M.setB b X) := by
  refine ⟨fun c x hx => ?_, h.vec⟩
  obtain ⟨y, hy, e1, o1, l1, c1⟩ := h.blk c x hx
  by_cases e : b = c
  · subst e
    rw [hz] at hy
    cases hy
    exact ⟨X, by simp [Mem.setB, lt_of_get hz], he.trans e1, ho.trans o1, hl.trans l1, .inr (hb x hx)⟩
  · exact ⟨y, by simp only [Mem.setB]; rw [List.getElem?_set_ne e]; exact hy, e1, o1, l1, c1⟩

theorem blurs_cov : ∀ (W : List Nat) (M : Mem), Cov (blurs M W) M
  | [], M => Cov.refl M
  | b :: l, M => by
    unfold blurs
    split
    · rename_i x hx
      refine (blurs_cov l _).trans ⟨fun c y hy => ?_, fun _ _ h => h⟩
      rcases setB_cases hy with ⟨_, hy⟩ | ⟨rfl, rfl⟩
      · exact ⟨y, hy, rfl, rfl, rfl, .inl rfl⟩
      · exact ⟨x, hx, rfl, rfl, by simp [blind], .inr fun d hd => by simp [blind] at hd; exact hd.2.symm⟩
    · exact blurs_cov l M

theorem blurs_bad : ∀ (W : List Nat) (M : Mem) (b : Nat), (b ∈ W ∨ ∀ x, M.blks[b]? = some (some x) → ∀ c, c ∈ x.cells → c = .bad) → ∀ x, (blurs M W).blks[b]? = some (some x) → ∀ c, c ∈ x.cells → c = .bad
  | [], M, b, h => by
    rcases h with h | h
    · cases h
    · exact h
  | d :: l, M, b, h => by
    unfold blurs
    split
    · rename_i y hy
      refine blurs_bad l _ b ?_
      by_cases e : b = d
      · subst e
        refine .inr fun x hx c hc => ?_
        rcases setB_cases hx with ⟨hne, _⟩ | ⟨_, rfl⟩
        · exact absurd rfl hne
        · simp [blind] at hc; exact hc.2.symm
      · rcases h with h | h
        · rcases List.mem_cons.1 h with h | h
          · exact absurd h e
          · exact .inl h
        · refine .inr fun x hx => ?_
          rcases setB_cases hx with ⟨_, hx⟩ | ⟨e', _⟩
          · exact h x hx
          · exact absurd e' e
    · rename_i hno
      refine blurs_bad l _ b ?_
      rcases h with h | h
      · rcases List.mem_cons.1 h with h | h
        · subst h; exact .inr fun x hx => (hno x hx).elim
        · exact .inl h
      · exact .inr h

theorem RepM.back {E E' : Env} {w0 : Bs} {we w : World} {N M : Mem} (h0 : RepM E w0 N we) (h : RepM E' w0 M w) (hc : Cov N M) (he : Env.le N.blks.length N.vecs.length E E') : RepM E w0 N w := by
  have hlive : (∀ i, i < N.blks.length → N.live (2 * i) = true → M.live (2 * i) = true) ∧ (∀ i, i < N.vecs.length → N.live (2 * i + 1) = true → M.live (2 * i + 1) = true) := by
    refine ⟨fun i _ hi => ?_, fun i _ hi => ?_⟩
    · rw [live_even] at *
      unfold aliveB at *
      split at hi
      · rename_i x hx
        obtain ⟨y, hy, _⟩ := hc.blk i x hx
        rw [hy]
      · cases hi
    · rw [live_odd] at *
      unfold aliveV at *
      split at hi
      · rename_i x hx
        rw [hc.vec i x hx]
      · cases hi
  have hrel : ∀ {a : AV} {v : Value}, a.sc N.blks.length N.vecs.length = true → RelS E' M a v → RelS E N a v := fun {a v} hs hr =>
    ⟨hs, fun hl => (hr.2 (lv_mono hlive.1 hlive.2 a hs hl)).trans (conc_le he a hs)⟩
  refine ⟨h.below, fun b x hx => ?_, fun b b' x x' hx hx' e => ?_, fun i e hi => ?_, fun i i' e e' hi hi' ho ho' g hb hb' => ?_⟩
  · obtain ⟨y, hy, e1, o1, l1, c1⟩ := hc.blk b x hx
    obtain ⟨g1, cs, g2, g3⟩ := h.blk b y hy
    obtain ⟨_, ds, _, f3⟩ := h0.blk b x hx
    have hρ := he.ρ b (lt_of_get hx)
    refine ⟨by rw [← hρ, ← o1]; exact g1, cs, by rw [← hρ, ← e1]; exact g2, ?_⟩
    rcases c1 with c1 | c1
    · rw [c1] at g3
      refine ⟨g3.len, fun i a v ha hv => hrel ?_ (g3.at_ i a v ha hv)⟩
      obtain ⟨u, _, hu⟩ := f3.get ha
      exact hu.1
    · exact relL_bad (l1.symm.trans g3.len) c1
  · obtain ⟨y, hy, _⟩ := hc.blk b x hx
    obtain ⟨y', hy', _⟩ := hc.blk b' x' hx'
    rw [← he.ρ b (lt_of_get hx), ← he.ρ b' (lt_of_get hx')] at e
    exact h.inj b b' y y' hy hy' e
  · have hσ := he.σ i (lt_of_get hi)
    rcases h.vec i e (hc.vec i e hi) with ⟨hz, hz'⟩ | ⟨a, cap, cs, fz, hv⟩
    · exact .inl ⟨hz, hσ ▸ hz'⟩
    rcases h0.vec i e hi with ⟨hz, hz'⟩ | ⟨a0, cap0, cs0, fz0, hv0⟩
    · exact .inl ⟨hz, hz'⟩
    exact .inr ⟨a, cap, cs, fz,
      { val := hσ ▸ hv.val, spot := hv.spot, le := hv.le, blk := hv.blk, room := hv.room, shape := hv.shape
        cell := fun k x hx j c hc' => by
          obtain ⟨u, h1, h2⟩ := hv.cell k x hx j c hc'
          obtain ⟨u0, _, h3⟩ := hv0.cell k x hx j c hc'
          exact ⟨u, h1, hrel h3.1 h2⟩
        old := hv.old, head := hv.head
        mine := fun ho => by
          obtain ⟨h1, h2, h3⟩ := hv.mine ho
          refine ⟨h1, h2, fun b x hx => ?_⟩
          obtain ⟨y, hy, _⟩ := hc.blk b x hx
          rw [← he.ρ b (lt_of_get hx)]
          exact h3 b y hy }⟩
  · have hσ := he.σ i (lt_of_get hi)
    have hσ' := he.σ i' (lt_of_get hi')
    refine h.terr i i' e e' (hc.vec i e hi) (hc.vec i' e' hi') ho ho' g ?_ ?_
    · unfold Env.bk at *; rw [hσ]; exact hb
    · unfold Env.bk at *; rw [hσ']; exact hb'

/-! seen again -/
def fills (M : Mem) : List Nat → Mem → Option Mem
  | [], M1 => some M1
  | b :: l, M1 => match M.blks[b]? with
    | some (some X) => match M1.blks[b]? with
      | some (some y) => bif decide (y.elem = X.elem) && (y.own == X.own) && decide (y.cells.length = X.cells.length) then fills M l (M1.setB b X) else none
      | _ => none
    | _ => fills M l M1

theorem fills_sound {M N : Mem} : ∀ (W : List Nat) {M1 M2 : Mem}, fills M W M1 = some M2 → (∀ b, b ∈ W → ∀ x, N.blks[b]? = some (some x) → ∀ c, c ∈ x.cells → c = .bad) →
    M2.blks.length = M1.blks.length ∧ M2.vecs = M1.vecs ∧ M2.live = M1.live ∧ (Cov N M1 → Cov N M2) ∧
    ∀ (E E1 : Env) (w0 : Bs) (w : World), RepM E w0 M w → Step E M E1 M1 → RepM E1 w0 M1 w → RepM E1 w0 M2 w
  | [], M1, M2, h, _ => by
    simp only [fills, Option.some.injEq] at h
    subst h
    exact ⟨rfl, rfl, rfl, id, fun _ _ _ _ _ _ h => h⟩
  | b :: l, M1, M2, h, hb => by
    unfold fills at h
    split at h
    · rename_i X hX
      split at h
      · rename_i y hy
        simp only [cond_eq_ite, Bool.and_eq_true, decide_eq_true_eq, beq_iff_eq] at h
        split at h
        · rename_i hc
          obtain ⟨⟨he, ho⟩, hl⟩ := hc
          obtain ⟨h1, h2, h3, h4, h5⟩ := fills_sound l h (fun b' hb' => hb b' (List.mem_cons_of_mem _ hb'))
          refine ⟨h1.trans (by simp [Mem.setB]), h2, h3.trans (setB_live hy _), fun hcov => h4 (hcov.setB hy he.symm ho.symm hl.symm (hb b List.mem_cons_self)), fun E E1 w0 w hR hs hR1 => ?_⟩
          have hst : Step E1 M1 E1 (M1.setB b X) := ⟨Mem.setB_le hy _, Env.le.refl _ _ _⟩
          refine h5 E E1 w0 w hR (hs.trans hst) (hR1.putB hy X he.symm ho.symm fun cs hcs _ => ?_)
          obtain ⟨_, ds, g2, g3⟩ := hR.blk b X hX
          rw [hs.env.ρ b (lt_of_get hX), g2] at hcs
          simp only [Option.some.injEq, Obj.cells.injEq] at hcs
          rw [← hcs.1]
          exact g3.step hs
        · cases h
      · cases h
    · exact fills_sound l h (fun b' hb' => hb b' (List.mem_cons_of_mem _ hb'))

theorem relL_live {E : Env} {M M' : Mem} (h1 : M'.blks.length = M.blks.length) (h2 : M'.vecs = M.vecs) (h3 : M'.live = M.live) {l : List AV} {vs : List Value} (h : RelL E M l vs) : RelL E M' l vs :=
  ⟨h.len, fun i a v ha hv => by
    have := h.at_ i a v ha hv
    unfold RelS at *
    rw [h1, h2, h3]; exact this⟩
theorem step_live {E E' : Env} {M M' N N' : Mem} (h1 : N.blks.length = M.blks.length) (h2 : N.vecs = M.vecs) (h3 : N.live = M.live) (h1' : N'.blks.length = M'.blks.length) (h2' : N'.vecs = M'.vecs) (h3' : N'.live = M'.live) (h : Step E M E' M') : Step E N E' N' := by
  have hB : ∀ i, aliveB N i = aliveB M i := fun i => by rw [← live_even, ← live_even, h3]
  have hB' : ∀ i, aliveB N' i = aliveB M' i := fun i => by rw [← live_even, ← live_even, h3']
  have hV : ∀ i, aliveV N i = aliveV M i := fun i => by rw [← live_odd, ← live_odd, h3]
  have hV' : ∀ i, aliveV N' i = aliveV M' i := fun i => by rw [← live_odd, ← live_odd, h3']
  refine ⟨⟨by rw [h1, h1']; exact h.mem.nb, by rw [h2, h2']; exact h.mem.nh, fun i hi hl => ?_, fun i hi hl => ?_⟩, by rw [h1, h2]; exact h.env⟩
  · rw [hB]; rw [hB'] at hl; exact h.mem.liveB i (by rwa [h1] at hi) hl
  · rw [hV]; rw [hV'] at hl; exact h.mem.liveV i (by rwa [h2] at hi) hl

end Go.Sx
