import Derived.Test.YtplfijdonikaoaaSxP
set_option linter.unusedVariables false
set_option linter.unusedSimpArgs false
namespace Go.Sx
open Go Go.RowKit

/-! What a callee made of the little that it was lent, put back among all that the caller knows. -/

def allLt (n : Nat) : List Nat → Bool
  | [] => true
  | x :: l => decide (x < n) && allLt n l
theorem allLt_at {n : Nat} : ∀ {p : List Nat} {i x : Nat}, allLt n p = true → p[i]? = some x → x < n
  | [], _, _, _, h => by simp at h
  | y :: l, i, x, ha, h => by
    simp only [allLt, Bool.and_eq_true, decide_eq_true_eq] at ha
    cases i with
    | zero => simp at h; omega
    | succ i => exact allLt_at ha.2 (by simpa using h)
def nodupB : List Nat → Bool
  | [] => true
  | x :: l => (invF l x 0).isNone && nodupB l
theorem nodupB_spec : ∀ {p : List Nat}, nodupB p = true → p.Nodup
  | [], _ => List.nodup_nil
  | x :: l, h => by
    simp only [nodupB, Bool.and_eq_true, Option.isNone_iff_eq_none] at h
    exact List.nodup_cons.2 ⟨invF_none h.1, nodupB_spec h.2⟩

def bkN (p : List Nat) (n len i : Nat) : Option Nat := match p[i]? with
  | some x => some x
  | none => bif decide (i < len) then some (n + (i - p.length)) else none
def updL {α : Type} (f : Nat → Option α → Option α) : Nat → List (Option α) → List (Option α)
  | _, [] => []
  | i, x :: l => f i x :: updL f (i + 1) l
theorem updL_get {α : Type} {f : Nat → Option α → Option α} : ∀ {i : Nat} {l : List (Option α)} {j : Nat}, (updL f i l)[j]? = (l[j]?).map (f (i + j))
  | i, [], j => by simp [updL]
  | i, x :: l, 0 => by simp [updL]
  | i, x :: l, j + 1 => by
    simp only [updL, List.getElem?_cons_succ]
    rw [updL_get, show i + 1 + j = i + (j + 1) by omega]
theorem updL_len {α : Type} {f : Nat → Option α → Option α} : ∀ {i : Nat} {l : List (Option α)}, (updL f i l).length = l.length
  | i, [] => rfl
  | i, x :: l => by simp [updL, updL_len]

def outL {α : Type} (p : List Nat) (g : α → α) (kp : α → Bool) (L LS : List (Option α)) : List (Option α) :=
  updL (fun b x => match invF p b 0 with
    | some i => ((LS[i]?).getD none).map g
    | none => x) 0 L ++ (LS.drop p.length).map fun o => match o with
    | some y => bif kp y then some (g y) else none
    | none => none
def outF {β : Type} (n : Nat) (p : List Nat) (r r' : Nat → β) (b : Nat) : β := if b < n then r b else r' (p.length + (b - n))

section
variable {α : Type} {p : List Nat} {g : α → α} {kp : α → Bool} {L LS : List (Option α)}
theorem outL_len : (outL p g kp L LS).length = L.length + (LS.length - p.length) := by simp [outL, updL_len]
theorem outL_cases {b : Nat} {x : α} (h : (outL p g kp L LS)[b]? = some (some x)) :
    (b < L.length ∧ invF p b 0 = none ∧ L[b]? = some (some x)) ∨ ∃ i y, bkN p L.length LS.length i = some b ∧ LS[i]? = some (some y) ∧ x = g y ∧ (i < p.length ∨ kp y = true) := by
  unfold outL at h
  rcases Nat.lt_or_ge b L.length with hb | hb
  · rw [List.getElem?_append_left (by rw [updL_len]; exact hb), updL_get, Nat.zero_add] at h
    rw [List.getElem?_eq_getElem hb] at h
    simp only [Option.map_some, Option.some.injEq] at h
    cases hi : invF p b 0 with
    | none =>
      rw [hi] at h
      exact .inl ⟨hb, rfl, by rw [List.getElem?_eq_getElem hb]; exact congrArg some h⟩
    | some i =>
      rw [hi] at h
      simp only at h
      have hp := invF_some hi
      refine .inr ⟨i, ?_⟩
      cases hy : LS[i]? with
      | none => rw [hy] at h; cases h
      | some o =>
        rw [hy] at h
        cases o with
        | none => cases h
        | some y =>
          simp only [Option.getD_some, Option.map_some, Option.some.injEq] at h
          exact ⟨y, by simp [bkN, hp], rfl, h.symm, .inl (lt_of_get hp)⟩
  · rw [List.getElem?_append_right (by rw [updL_len]; exact hb), updL_len, List.getElem?_map, List.getElem?_drop] at h
    cases hy : LS[p.length + (b - L.length)]? with
    | none => rw [hy] at h; cases h
    | some o =>
      rw [hy] at h
      cases o with
      | none => cases h
      | some y =>
        simp only [Option.map_some, Option.some.injEq] at h
        cases hk : kp y with
        | false => rw [hk] at h; cases h
        | true =>
          rw [hk] at h
          simp only [cond_true, Option.some.injEq] at h
          refine .inr ⟨p.length + (b - L.length), y, ?_, hy, h.symm, .inr hk⟩
          have hl := lt_of_get hy
          simp only [bkN]
          rw [List.getElem?_eq_none (by omega)]
          simp only [hl, decide_true, cond_true, Option.some.injEq]
          omega
theorem outL_at (hn : p.Nodup) (hr : allLt L.length p = true) {q i : Nat} (h : bkN p L.length LS.length q = some i) {x : α} (hx : (outL p g kp L LS)[i]? = some (some x)) : ∃ y, LS[q]? = some (some y) := by
  unfold bkN at h
  cases hp : p[q]? with
  | some z =>
    rw [hp] at h
    simp only [Option.some.injEq] at h
    subst h
    have hz := allLt_at hr hp
    unfold outL at hx
    rw [List.getElem?_append_left (by rw [updL_len]; exact hz), updL_get, Nat.zero_add, List.getElem?_eq_getElem hz, invF_at hn hp] at hx
    simp only [Option.map_some, Option.some.injEq, Nat.zero_add] at hx
    cases hy : LS[q]? with
    | none => rw [hy] at hx; cases hx
    | some o => cases o with
      | none => rw [hy] at hx; cases hx
      | some y => exact ⟨y, rfl⟩
  | none =>
    rw [hp] at h
    simp only [cond_eq_ite, decide_eq_true_eq] at h
    split at h
    · rename_i hl
      simp only [Option.some.injEq] at h
      subst h
      have hpq : p.length ≤ q := by
        rcases Nat.lt_or_ge q p.length with h1 | h1
        · rw [List.getElem?_eq_getElem h1] at hp; cases hp
        · exact h1
      unfold outL at hx
      rw [List.getElem?_append_right (by rw [updL_len]; omega), updL_len, List.getElem?_map, List.getElem?_drop, show p.length + (L.length + (q - p.length) - L.length) = q by omega] at hx
      cases hy : LS[q]? with
      | none => rw [hy] at hx; cases hx
      | some o => cases o with
        | none => rw [hy] at hx; cases hx
        | some y => exact ⟨y, rfl⟩
    · cases h
theorem bkN_lt (hr : allLt L.length p = true) (hl : p.length ≤ LS.length) {q i : Nat} (h : bkN p L.length LS.length q = some i) : i < (outL p g kp L LS).length := by
  rw [outL_len]
  unfold bkN at h
  split at h
  · rename_i x hx
    simp only [Option.some.injEq] at h
    subst h
    have := allLt_at hr hx
    omega
  · rename_i hx
    simp only [cond_eq_ite, decide_eq_true_eq] at h
    split at h
    · simp only [Option.some.injEq] at h
      have hpq : p.length ≤ q := by
        rcases Nat.lt_or_ge q p.length with h1 | h1
        · rw [List.getElem?_eq_getElem h1] at hx; cases hx
        · exact h1
      omega
    · cases h
theorem outF_bk {β : Type} {n : Nat} {r r' : Nat → β} (he : ∀ i q, p[i]? = some q → r' i = r q) (hr : allLt n p = true) {len q i : Nat} (h : bkN p n len q = some i) : outF n p r r' i = r' q := by
  unfold bkN at h
  cases hp : p[q]? with
  | some x =>
    rw [hp] at h
    simp only [Option.some.injEq] at h
    subst h
    simp only [outF, if_pos (allLt_at hr hp)]
    exact (he q x hp).symm
  | none =>
    rw [hp] at h
    simp only [cond_eq_ite, decide_eq_true_eq] at h
    split at h
    · simp only [Option.some.injEq] at h
      subst h
      have hpq : p.length ≤ q := by
        rcases Nat.lt_or_ge q p.length with h1 | h1
        · rw [List.getElem?_eq_getElem h1] at hp; cases hp
        · exact h1
      simp only [outF]
      rw [if_neg (by omega), show p.length + (n + (q - p.length) - n) = q by omega]
    · cases h
end

def bkT (M : Mem) (pv : List Nat) (t : Nat) : Nat := match pv[t]? with
  | some h => match M.vecs[h]? with
    | some (some e) => e.terr
    | _ => 0
  | none => M.vecs.length + (t - pv.length)
def outM (M MS : Mem) (pb pv : List Nat) : Mem :=
  ⟨outL pb (Blk.ren (bkN pb M.blks.length MS.blks.length) (bkN pv M.vecs.length MS.vecs.length)) Blk.own M.blks MS.blks,
   outL pv (Ent.ren (bkN pb M.blks.length MS.blks.length) (bkN pv M.vecs.length MS.vecs.length) (bkT M pv)) Ent.own M.vecs MS.vecs⟩
def outE (E ES : Env) (M : Mem) (pb pv : List Nat) : Env := ⟨outF M.blks.length pb E.ρ ES.ρ, outF M.vecs.length pv E.σ ES.σ⟩

def terrOk (M : Mem) (pv : List Nat) : Bool :=
  (List.range M.vecs.length).all fun h => match invF pv h 0 with
    | some _ => true
    | none => match M.vecs[h]? with
      | some (some e) => (pv.all fun h' => match M.vecs[h']? with
        | some (some e') => !(decide (e'.terr = e.terr)) || !e'.own
        | _ => true) || !e.own
      | _ => true
theorem terrOk_spec {M : Mem} {pv : List Nat} (h : terrOk M pv = true) {i j q : Nat} {e e' : Ent} (hi : M.vecs[i]? = some (some e)) (hn : invF pv i 0 = none) (ho : e.own = true) (hj : pv[j]? = some q) (hq : M.vecs[q]? = some (some e')) (ho' : e'.own = true) : e'.terr ≠ e.terr := by
  unfold terrOk at h
  rw [List.all_eq_true] at h
  have h1 := h i (List.mem_range.2 (lt_of_get hi))
  rw [hn, hi] at h1
  simp only [ho, Bool.not_true, Bool.or_false, List.all_eq_true] at h1
  have h2 := h1 q (List.mem_of_getElem? hj)
  rw [hq] at h2
  simpa [ho'] using h2
def okPick (M : Mem) (pb pv : List Nat) : Bool := nodupB pb && nodupB pv && allLt M.blks.length pb && allLt M.vecs.length pv && terrOk M pv

section
variable {E : Env} {w0 : Bs} {w w' : World} {M MS : Mem} {pb pv : List Nat} {ES : Env}

structure Framed (E : Env) (w0 : Bs) (M : Mem) (w : World) (pb pv : List Nat) (ES : Env) (MS : Mem) (w' : World) : Prop where
  rep : RepM E w0 M w
  nb : pb.Nodup
  nv : pv.Nodup
  lb : allLt M.blks.length pb = true
  lv : allLt M.vecs.length pv = true
  ok : terrOk M pv = true
  st : Step (pickE E pb pv) (pickM M pb pv) ES MS
  rep' : RepM ES (lend (pickE E pb pv) (pickM M pb pv) w) MS w'

theorem Framed.ρ (h : Framed E w0 M w pb pv ES MS w') {i q : Nat} (hq : pb[i]? = some q) : ES.ρ i = E.ρ q := by
  rw [h.st.env.ρ i (by simpa [pickM] using lt_of_get hq)]
  simp [pickE, List.getD, hq]
theorem Framed.σ (h : Framed E w0 M w pb pv ES MS w') {i q : Nat} (hq : pv[i]? = some q) : ES.σ i = E.σ q := by
  rw [h.st.env.σ i (by simpa [pickM] using lt_of_get hq)]
  simp [pickE, List.getD, hq]
theorem Framed.bk (h : Framed E w0 M w pb pv ES MS w') {i q : Nat} (hq : pv[i]? = some q) : ES.bk i = E.bk q := by unfold Env.bk; rw [h.σ hq]
theorem Framed.lenB (h : Framed E w0 M w pb pv ES MS w') : pb.length ≤ MS.blks.length := by simpa [pickM] using h.st.mem.nb
theorem Framed.lenV (h : Framed E w0 M w pb pv ES MS w') : pv.length ≤ MS.vecs.length := by simpa [pickM] using h.st.mem.nh
theorem Framed.ren (h : Framed E w0 M w pb pv ES MS w') : Ren ES MS (bkN pb M.blks.length MS.blks.length) (bkN pv M.vecs.length MS.vecs.length) (outE E ES M pb pv) (outM M MS pb pv) := by
  refine ⟨fun i q hq => bkN_lt h.lb h.lenB hq, fun i q hq => bkN_lt h.lv h.lenV hq, fun i q hq => outF_bk (fun i q => h.ρ) h.lb hq, fun i q hq => outF_bk (fun i q => h.σ) h.lv hq, fun i q hq ha => ?_, fun i q hq ha => ?_⟩
  · unfold aliveB at ha
    split at ha
    · rename_i x hx
      obtain ⟨y, hy⟩ := outL_at h.nb h.lb hq hx
      unfold aliveB; rw [hy]
    · cases ha
  · unfold aliveV at ha
    split at ha
    · rename_i x hx
      obtain ⟨y, hy⟩ := outL_at h.nv h.lv hq hx
      unfold aliveV; rw [hy]
    · cases ha
/-- what was alive among the lent is alive with the caller -/
theorem Framed.liveB (h : Framed E w0 M w pb pv ES MS w') {i q : Nat} {y : Blk} (hq : pb[i]? = some q) (hy : MS.blks[i]? = some (some y)) : ∃ z, M.blks[q]? = some (some z) := by
  have ha : aliveB (pickM M pb pv) i = true := h.st.mem.liveB i (by simpa [pickM] using lt_of_get hq) (by unfold aliveB; rw [hy])
  have := pickM_aliveB hq ha
  unfold aliveB at this
  split at this
  · rename_i x hx; exact ⟨x, hx⟩
  · cases this
theorem Framed.liveV (h : Framed E w0 M w pb pv ES MS w') {i q : Nat} {y : Ent} (hq : pv[i]? = some q) (hy : MS.vecs[i]? = some (some y)) : ∃ z, M.vecs[q]? = some (some z) := by
  have ha : aliveV (pickM M pb pv) i = true := h.st.mem.liveV i (by simpa [pickM] using lt_of_get hq) (by unfold aliveV; rw [hy])
  have := pickM_aliveV hq ha
  unfold aliveV at this
  split at this
  · rename_i x hx; exact ⟨x, hx⟩
  · cases this
theorem Framed.step (h : Framed E w0 M w pb pv ES MS w') : Step E M (outE E ES M pb pv) (outM M MS pb pv) := by
  refine ⟨⟨by simp [outM, outL_len], by simp [outM, outL_len], fun i hi ha => ?_, fun i hi ha => ?_⟩, ⟨fun b hb => by simp [outE, outF, hb], fun b hb => by simp [outE, outF, hb]⟩⟩
  · unfold aliveB at ha
    split at ha
    · rename_i x hx
      rcases outL_cases hx with ⟨_, _, hy⟩ | ⟨j, y, hj, hy, _, _⟩
      · unfold aliveB; rw [hy]
      · unfold bkN at hj
        cases hp : pb[j]? with
        | some q =>
          rw [hp] at hj; cases hj
          obtain ⟨z, hz⟩ := h.liveB hp hy
          unfold aliveB; rw [hz]
        | none =>
          rw [hp] at hj
          simp only [cond_eq_ite, decide_eq_true_eq] at hj
          split at hj
          · simp only [Option.some.injEq] at hj; omega
          · cases hj
    · cases ha
  · unfold aliveV at ha
    split at ha
    · rename_i x hx
      rcases outL_cases hx with ⟨_, _, hy⟩ | ⟨j, y, hj, hy, _, _⟩
      · unfold aliveV; rw [hy]
      · unfold bkN at hj
        cases hp : pv[j]? with
        | some q =>
          rw [hp] at hj; cases hj
          obtain ⟨z, hz⟩ := h.liveV hp hy
          unfold aliveV; rw [hz]
        | none =>
          rw [hp] at hj
          simp only [cond_eq_ite, decide_eq_true_eq] at hj
          split at hj
          · simp only [Option.some.injEq] at hj; omega
          · cases hj
    · cases ha

/-- which blocks were lent: new ones, or some of the caller's own -/
theorem Framed.wr (h : Framed E w0 M w pb pv ES MS w') {r : Nat} (hr : (lend (pickE E pb pv) (pickM M pb pv) w).Wr r) :
    w.heap.size ≤ r ∨ (∃ (i q : Nat) (x : Blk), pb[i]? = some q ∧ M.blks[q]? = some (some x) ∧ x.own = true ∧ E.ρ q = r) ∨ (∃ (i q : Nat) (e : Ent), pv[i]? = some q ∧ M.vecs[q]? = some (some e) ∧ e.own = true ∧ E.bk q = some r) := by
  rcases hr with hr | ⟨b, x, h1, h2, rfl⟩ | ⟨q, e, h1, h2, h3⟩
  · exact .inl hr
  · obtain ⟨p, y, g1, g2, rfl⟩ := pickM_blk h1
    exact .inr (.inl ⟨b, p, y, g1, g2, h2, by simp [pickE, List.getD, g1]⟩)
  · obtain ⟨p, y, g1, g2, rfl⟩ := pickM_vec h1
    exact .inr (.inr ⟨q, p, y, g1, g2, h2, by simpa [pickE, List.getD, g1, Env.bk] using h3⟩)
theorem Framed.wr0 (h : Framed E w0 M w pb pv ES MS w') {r : Nat} (hr : (lend (pickE E pb pv) (pickM M pb pv) w).Wr r) : w0.Wr r := by
  rcases h.wr hr with h1 | ⟨i, q, x, h1, h2, h3, rfl⟩ | ⟨i, q, e, h1, h2, h3, h4⟩
  · exact w0.up _ (Nat.le_trans h.rep.below.size h1)
  · exact (h.rep.blk q x h2).1.1 h3
  · rcases h.rep.vec q e h2 with ⟨_, hz⟩ | ⟨a, cap, cs, fz, hv⟩
    · rw [bk_nil hz] at h4; cases h4
    rw [hv.bk] at h4
    simp only [Option.some.injEq] at h4
    rw [← h4]; exact (hv.mine h3).1
/-- what was not lent is not among what may be turned -/
theorem Framed.farB (h : Framed E w0 M w pb pv ES MS w') {b : Nat} {x : Blk} (hx : M.blks[b]? = some (some x)) (hb : invF pb b 0 = none) : ¬ (lend (pickE E pb pv) (pickM M pb pv) w).Wr (E.ρ b) := by
  intro hr
  rcases h.wr hr with h1 | ⟨i, q, y, h1, h2, h3, h4⟩ | ⟨i, q, e, h1, h2, h3, h4⟩
  · have := h.rep.lt hx; omega
  · have := h.rep.inj q b y x h2 hx h4
    subst this
    exact invF_none hb (List.mem_of_getElem? h1)
  · rcases h.rep.vec q e h2 with ⟨_, hz⟩ | ⟨a, cap, cs, fz, hv⟩
    · rw [bk_nil hz] at h4; cases h4
    rw [hv.bk] at h4
    simp only [Option.some.injEq] at h4
    exact (hv.mine h3).2.2 b x hx h4.symm
theorem Framed.farV (h : Framed E w0 M w pb pv ES MS w') {i : Nat} {e : Ent} (he : M.vecs[i]? = some (some e)) (hi : invF pv i 0 = none) {g : Nat} (hg : E.bk i = some g) : ¬ (lend (pickE E pb pv) (pickM M pb pv) w).Wr g := by
  rcases h.rep.vec i e he with ⟨_, hz⟩ | ⟨a, cap, cs, fz, hv⟩
  · rw [bk_nil hz] at hg; cases hg
  have hga := hg
  rw [hv.bk] at hga
  simp only [Option.some.injEq] at hga
  subst hga
  intro hr
  cases ho : e.own with
  | false => exact hv.old ho (h.wr0 hr)
  | true =>
    rcases h.wr hr with h1 | ⟨j, q, y, h1, h2, h3, h4⟩ | ⟨j, q, e', h1, h2, h3, h4⟩
    · have := heap_lt hv.blk; omega
    · exact (hv.mine ho).2.2 q y h2 h4
    · exact terrOk_spec h.ok he hi ho h1 h2 h3 (h.rep.terr q i e' e h2 he h3 ho _ h4 hv.bk)
theorem Framed.same (h : Framed E w0 M w pb pv ES MS w') {r : Nat} (hr : ¬ (lend (pickE E pb pv) (pickM M pb pv) w).Wr r) : w'.heap[r]? = w.heap[r]? := h.rep'.below.block r hr

/-- one that a callee hands back: whether it is the walk's own -/
theorem Framed.ownB (h : Framed E w0 M w pb pv ES MS w') {i : Nat} {y : Blk} (hy : MS.blks[i]? = some (some y)) (hk : i < pb.length ∨ y.own = true) : (y.own = true → w0.Wr (ES.ρ i)) ∧ (y.own = false → ¬ w0.Wr (ES.ρ i)) := by
  obtain ⟨⟨g1, g2⟩, _⟩ := h.rep'.blk i y hy
  refine ⟨fun ho => h.wr0 (g1 ho), fun ho hw => ?_⟩
  rcases hk with hk | hk
  · have hp := List.getElem?_eq_getElem hk
    obtain ⟨z, hz⟩ := h.liveB hp hy
    rw [h.ρ hp] at hw g2
    cases hzo : z.own with
    | false => exact (h.rep.blk _ z hz).1.2 hzo hw
    | true =>
      refine g2 ho (.inr (.inl ⟨i, z.ren (invB pb) (invB pv), ?_, hzo, by simp [pickE, List.getD, hp]⟩))
      simp only [pickM, List.getElem?_map, hp, Option.map_some, hz, Option.getD_some]
  · rw [ho] at hk; cases hk
theorem Framed.ownV (h : Framed E w0 M w pb pv ES MS w') {i : Nat} {y : Ent} (hy : MS.vecs[i]? = some (some y)) (hk : i < pv.length ∨ y.own = true) (ho : y.own = false) {g : Nat} (hg : ES.bk i = some g) : ¬ w0.Wr g := by
  intro hw
  rcases hk with hk | hk
  · have hp := List.getElem?_eq_getElem hk
    obtain ⟨z, hz⟩ := h.liveV hp hy
    rcases h.rep'.vec i y hy with ⟨_, hz'⟩ | ⟨a, cap, cs, fz, hv⟩
    · rw [bk_nil hz'] at hg; cases hg
    have g2 := hv.old ho
    have hga := hg
    rw [hv.bk] at hga
    simp only [Option.some.injEq] at hga
    rw [hga] at g2
    rw [h.bk hp] at hg
    cases hzo : z.own with
    | false =>
      rcases h.rep.vec _ z hz with ⟨_, hz'⟩ | ⟨a', cap', cs', fz', hv'⟩
      · rw [bk_nil hz'] at hg; cases hg
      rw [hv'.bk] at hg
      simp only [Option.some.injEq] at hg
      exact hv'.old hzo (hg ▸ hw)
    | true =>
      refine g2 (.inr (.inr ⟨i, z.ren (invB pb) (invB pv) fun t => terrIx M t pv 0, ?_, hzo, ?_⟩))
      · simp only [pickM, List.getElem?_map, hp, Option.map_some, hz, Option.getD_some]
      · simp only [pickE, List.getD, hp, Env.bk, Option.getD_some]; exact hg
  · rw [ho] at hk; cases hk

theorem Framed.outρ (h : Framed E w0 M w pb pv ES MS w') {b : Nat} (hb : b < M.blks.length) : (outE E ES M pb pv).ρ b = E.ρ b := by simp [outE, outF, hb]
theorem Framed.outva (h : Framed E w0 M w pb pv ES MS w') {b : Nat} (hb : b < M.vecs.length) : (outE E ES M pb pv).bk b = E.bk b := by simp [outE, outF, hb, Env.bk]
theorem Framed.renva (h : Framed E w0 M w pb pv ES MS w') {i b : Nat} (hb : bkN pv M.vecs.length MS.vecs.length i = some b) : (outE E ES M pb pv).bk b = ES.bk i := by unfold Env.bk; rw [h.ren.σ b i hb]

/-- blocks that are known to the caller afterwards, and a place that a lent block, or a new one, may have: they don't meet but where they are one -/
theorem Framed.repM (h : Framed E w0 M w pb pv ES MS w') : RepM (outE E ES M pb pv) w0 (outM M MS pb pv) w' := by
  have hst := h.step
  have r := h.ren
  have unB : ∀ {b : Nat} {x : Blk}, M.blks[b]? = some (some x) → invF pb b 0 = none → ∀ {i : Nat} {y : Blk}, MS.blks[i]? = some (some y) → (i < pb.length ∨ y.own = true) → ES.ρ i ≠ E.ρ b := by
    intro b x hx hb i y hy hk e
    have far := h.farB hx hb
    cases hyo : y.own with
    | true => exact far (e ▸ ((h.rep'.blk i y hy).1.1 hyo))
    | false =>
      rcases hk with hk | hk
      · have hp := List.getElem?_eq_getElem hk
        obtain ⟨z, hz⟩ := h.liveB hp hy
        rw [h.ρ hp] at e
        have := h.rep.inj _ b z x hz hx e
        subst this
        exact invF_none hb (List.mem_of_getElem? hp)
      · rw [hyo] at hk; cases hk
  refine ⟨⟨h.rep'.below.os.trans h.rep.below.os, h.rep'.below.tape.trans h.rep.below.tape, h.rep'.below.output.trans h.rep.below.output, Nat.le_trans h.rep.below.size h.rep'.below.size, fun k hk => (h.same fun hh => hk (h.wr0 hh)).trans (h.rep.below.block k hk)⟩, fun b x hx => ?_, fun b b' x x' hx hx' he => ?_, fun i e he => ?_, fun i i' e e' he he' ho ho' g hb hb' => ?_⟩
  · rcases outL_cases hx with ⟨hb, hi, hy⟩ | ⟨j, y, hj, hy, rfl, hk⟩
    · obtain ⟨g1, cs, g2, g3⟩ := h.rep.blk b x hy
      rw [h.outρ hb]
      exact ⟨g1, cs, (h.same (h.farB hy hi)).trans g2, g3.step hst⟩
    · obtain ⟨g1, cs, g2, g3⟩ := h.rep'.blk j y hy
      rw [r.ρ b j hj]
      have go := h.ownB hy hk
      exact ⟨go, cs, g2, g3.ren r⟩
  · rcases outL_cases hx with ⟨hb, hi, hy⟩ | ⟨j, y, hj, hy, rfl, hk⟩ <;> rcases outL_cases hx' with ⟨hb', hi', hy'⟩ | ⟨j', y', hj', hy', rfl, hk'⟩
    · rw [h.outρ hb, h.outρ hb'] at he
      exact h.rep.inj b b' x x' hy hy' he
    · rw [h.outρ hb, r.ρ b' j' hj'] at he
      exact (unB hy hi hy' hk' he.symm).elim
    · rw [h.outρ hb', r.ρ b j hj] at he
      exact (unB hy' hi' hy hk he).elim
    · rw [r.ρ b j hj, r.ρ b' j' hj'] at he
      have := h.rep'.inj j j' y y' hy hy' he
      subst this
      rw [hj] at hj'
      simpa using hj'
  · rcases outL_cases he with ⟨hb, hi, hy⟩ | ⟨j, y, hj, hy, rfl, hk⟩
    · have hσ : (outE E ES M pb pv).σ i = E.σ i := by simp [outE, outF, hb]
      rcases h.rep.vec i e hy with ⟨hz, hz'⟩ | ⟨a, cap, cs, fz, hv⟩
      · exact .inl ⟨hz, hσ.trans hz'⟩
      have far := h.farV hy hi hv.bk
      refine .inr ⟨a, cap, cs, fz, { hv with val := ?_, blk := (h.same far).trans hv.blk, cell := ?_, mine := ?_ }⟩
      · have : (outE E ES M pb pv).σ i = E.σ i := by simp [outE, outF, hb]
        rw [this]; exact hv.val
      · intro q z hz k c hc
        obtain ⟨u, g1, g2⟩ := hv.cell q z hz k c hc
        exact ⟨u, g1, g2.step hst⟩
      · intro ho
        refine ⟨(hv.mine ho).1, (hv.mine ho).2.1, fun b x hx => ?_⟩
        rcases outL_cases hx with ⟨hb', _, hy'⟩ | ⟨j', y', hj', hy', rfl, hk'⟩
        · rw [h.outρ hb']; exact (hv.mine ho).2.2 b x hy'
        · rw [r.ρ b j' hj']
          intro e'
          cases hyo : y'.own with
          | true => exact far (e' ▸ (h.rep'.blk j' y' hy').1.1 hyo)
          | false => exact (h.ownB hy' hk').2 hyo (e' ▸ (hv.mine ho).1)
    · rcases h.rep'.vec j y hy with ⟨hz, hz'⟩ | ⟨a, cap, cs, fz, hv⟩
      · exact .inl ⟨ren_cont_nil hz, (r.σ i j hj).trans hz'⟩
      have hv' : VecOk ES w0.Wr MS w' j y a cap cs fz := { hv with old := fun ho => h.ownV hy hk ho hv.bk, mine := fun ho => ⟨h.wr0 (hv.mine ho).1, (hv.mine ho).2⟩ }
      refine .inr ⟨a, cap, cs, fz, hv'.ren r (r.σ i j hj) _ fun ho b x hx => ?_⟩
      rcases outL_cases hx with ⟨hb', hi', hy'⟩ | ⟨j', y', hj', hy', rfl, hk'⟩
      · rw [h.outρ hb']
        exact fun e' => h.farB hy' hi' (e' ▸ (hv.mine ho).1)
      · rw [r.ρ b j' hj']
        exact (hv.mine ho).2.2 j' y' hy'
  · rcases outL_cases he with ⟨hq, hi, hy⟩ | ⟨j, y, hj, hy, rfl, hk⟩ <;> rcases outL_cases he' with ⟨hq', hi', hy'⟩ | ⟨j', y', hj', hy', rfl, hk'⟩
    · rw [h.outva hq] at hb
      rw [h.outva hq'] at hb'
      exact h.rep.terr i i' e e' hy hy' ho ho' g hb hb'
    · rw [h.outva hq] at hb
      rw [h.renva hj'] at hb'
      have hyo : y'.own = true := ho'
      refine (h.farV hy hi hb ?_).elim
      rcases h.rep'.vec j' y' hy' with ⟨_, hz⟩ | ⟨a, cap, cs, fz, hv⟩
      · rw [bk_nil hz] at hb'; cases hb'
      rw [hv.bk] at hb'
      simp only [Option.some.injEq] at hb'
      rw [← hb']; exact (hv.mine hyo).1
    · rw [h.outva hq'] at hb'
      rw [h.renva hj] at hb
      have hyo : y.own = true := ho
      refine (h.farV hy' hi' hb' ?_).elim
      rcases h.rep'.vec j y hy with ⟨_, hz⟩ | ⟨a, cap, cs, fz, hv⟩
      · rw [bk_nil hz] at hb; cases hb
      rw [hv.bk] at hb
      simp only [Option.some.injEq] at hb
      rw [← hb]; exact (hv.mine hyo).1
    · rw [h.renva hj] at hb
      rw [h.renva hj'] at hb'
      show bkT M pv y.terr = bkT M pv y'.terr
      rw [h.rep'.terr j j' y y' hy hy' ho ho' g hb hb']
end
end Go.Sx
