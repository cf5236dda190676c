import Derived.Test.YthnkgakjnfghoaaSxI
import Derived.Maps.AppendAt
set_option linter.unusedVariables false
set_option linter.unusedSimpArgs false
namespace Go.Sx
open Go Go.RowKit

/-! append onto a row that is the walk's own -/

def ckT (P : Program) (t : TypeId) : CK := match P.underlying t with
  | some (.int k) => .int k
  | some .bool => .bool
  | some .string => .str
  | _ => .any
def shT (P : Program) (el : TypeId) : Option (Bool × List CK) := match aggT P el with
  | some true => match P.cellTypes P.depth el with
    | some ts => some (true, ts.map (ckT P))
    | none => none
  | some false => some (false, [ckT P el])
  | none => none

def chead (isAgg : Bool) (z : Nat) (l : List AV) : AV := match isAgg with
  | true => .agg (l.take z)
  | false => l.headD .bad
def chunks (isAgg : Bool) (z : Nat) : Nat → List AV → List AV
  | 0, _ => []
  | m + 1, l => chead isAgg z l :: chunks isAgg z m (l.drop z)
def shapes (isAgg : Bool) (sh : List CK) : List AV → Bool
  | [] => true
  | x :: l => x.shape isAgg sh && shapes isAgg sh l
theorem shapes_mem {isAgg : Bool} {sh : List CK} : ∀ {l : List AV}, shapes isAgg sh l = true → ∀ x, x ∈ l → x.shape isAgg sh = true
  | [], _, x, hx => by cases hx
  | y :: l, h, x, hx => by
    simp only [shapes, Bool.and_eq_true] at h
    rcases List.mem_cons.1 hx with rfl | hx
    · exact h.1
    · exact shapes_mem h.2 x hx

theorem flatC_chunks {isAgg : Bool} {sh : List CK} {z : Nat} (hz : sh.length = z) (hp : 0 < z) : ∀ (m : Nat) (l : List AV), l.length = m * z → shapes isAgg sh (chunks isAgg z m l) = true → flatC (chunks isAgg z m l) = l
  | 0, l, hl, _ => by
    have : l = [] := List.eq_nil_of_length_eq_zero (by omega)
    subst this; rfl
  | m + 1, l, hl, hs => by
    rw [Nat.add_mul, Nat.one_mul] at hl
    simp only [chunks, shapes, Bool.and_eq_true] at hs
    simp only [chunks, flatC]
    rw [flatC_chunks hz hp m (l.drop z) (by simp; omega) hs.2]
    have hh : (chead isAgg z l).cells = l.take z := by
      cases isAgg with
      | true => rfl
      | false =>
        have h1 := hs.1
        simp only [chead, AV.shape] at h1 ⊢
        match sh, h1, hz with
        | [k], h1, hz =>
          simp only [fitsAll, Bool.and_true] at h1
          have hz1 : z = 1 := by simpa using hz.symm
          subst hz1
          rw [fits_cells h1]
          cases l with
          | nil => simp at hl
          | cons a l => rfl
        | [], h1, hz => simp at hz; omega
        | _ :: _ :: _, h1, hz => simp [fitsAll] at h1
    rw [hh, List.take_append_drop]

def killT (M : Mem) (t : Option Nat) : Mem := match t with
  | none => M
  | some t => { M with vecs := M.vecs.map fun o => match o with
      | some e => bif e.own && (e.terr == t) then none else some e
      | none => none }
theorem killT_get {M : Mem} {t : Option Nat} {h : Nat} {e : Ent} (hh : (killT M t).vecs[h]? = some (some e)) : M.vecs[h]? = some (some e) ∧ ∀ t', t = some t' → e.own = true → e.terr ≠ t' := by
  cases t with
  | none => exact ⟨hh, fun t' h => by cases h⟩
  | some t =>
    simp only [killT, List.getElem?_map] at hh
    cases hv : M.vecs[h]? with
    | none => rw [hv] at hh; cases hh
    | some o =>
      rw [hv] at hh
      cases o with
      | none => simp at hh
      | some e' =>
        simp only [Option.map_some, Option.some.injEq, cond_eq_ite, Bool.and_eq_true, beq_iff_eq] at hh
        split at hh
        · cases hh
        · rename_i hc
          simp only [Option.some.injEq] at hh
          subst hh
          refine ⟨rfl, fun t' ht ho hte => hc ?_⟩
          cases ht
          exact ⟨ho, hte⟩
theorem killT_blks (M : Mem) (t : Option Nat) : (killT M t).blks = M.blks := by cases t <;> rfl
theorem killT_len (M : Mem) (t : Option Nat) : (killT M t).vecs.length = M.vecs.length := by cases t <;> simp [killT]
theorem killT_le (M : Mem) (t : Option Nat) : Mem.le M (killT M t) := by
  refine ⟨by rw [killT_blks]; exact Nat.le_refl _, by rw [killT_len]; exact Nat.le_refl _, fun i _ h => ?_, fun i _ h => ?_⟩
  · unfold aliveB at *; rw [killT_blks] at h; exact h
  · unfold aliveV at h
    split at h
    · rename_i e he
      unfold aliveV
      rw [(killT_get he).1]
    · cases h

theorem RepM.killT {E : Env} {w0 w : World} {M : Mem} (h : RepM E w0 M w) (t : Option Nat) : RepM E w0 (killT M t) w := by
  have hst : Step E M E (Sx.killT M t) := ⟨killT_le M t, Env.le.refl _ _ _⟩
  refine ⟨h.below, fun b x hx => ?_, fun b b' x x' hx hx' => ?_, fun i e he => ?_, fun i i' e e' he he' => ?_⟩
  · rw [killT_blks] at hx
    obtain ⟨h1, cs, h2, h3⟩ := h.blk b x hx
    exact ⟨h1, cs, h2, h3.step hst⟩
  · rw [killT_blks] at hx hx'
    exact h.inj b b' x x' hx hx'
  · obtain ⟨a, cap, cs, fz, hv⟩ := h.vec i e (killT_get he).1
    refine ⟨a, cap, cs, fz, { hv with cell := ?_, mine := ?_ }⟩
    · intro j y hy k c hc
      obtain ⟨u, h1, h2⟩ := hv.cell j y hy k c hc
      exact ⟨u, h1, h2.step hst⟩
    · intro ho
      obtain ⟨h1, h2, h3⟩ := hv.mine ho
      exact ⟨h1, h2, fun b x hx => h3 b x (by rw [killT_blks] at hx; exact hx)⟩
  · exact h.terr i i' e e' (killT_get he).1 (killT_get he').1

theorem RepM.grown {E : Env} {w0 w w' : World} {M : Mem} (h : RepM E w0 M w) {row : Option Nat} (hg : w.grownBy w' row) (hrow : ∀ g, row = some g → w0.heap.size ≤ g ∧ (∀ (b : Nat) (x : Blk), M.blks[b]? = some (some x) → E.ρ b ≠ g) ∧ ∀ (i : Nat) (e : Ent), M.vecs[i]? = some (some e) → (E.va i).block ≠ g) : RepM E w0 M w' := by
  have hs : w0.heap.size ≤ w.heap.size := h.below.size
  have keep : ∀ k, k < w.heap.size → (∀ g, row = some g → k ≠ g) → w'.heap[k]? = w.heap[k]? := fun k hk hne => hg.block k hk fun e => hne k e.symm rfl
  refine ⟨⟨hg.os.trans h.below.os, hg.tape.trans h.below.tape, hg.output.trans h.below.output, Nat.le_trans h.below.size hg.size, fun k hk => ?_⟩, fun b x hx => ?_, h.inj, fun i e he => ?_, h.terr⟩
  · rw [keep k (by omega) fun g e => by have := (hrow g e).1; omega]
    exact h.below.block k hk
  · obtain ⟨h1, cs, h2, h3⟩ := h.blk b x hx
    exact ⟨h1, cs, (keep _ (heap_lt h2) fun g e => (hrow g e).2.1 b x hx).trans h2, h3⟩
  · obtain ⟨a, cap, cs, fz, hv⟩ := h.vec i e he
    have hva : E.va i = a := by simp [Env.va, hv.val]
    exact ⟨a, cap, cs, fz, { hv with blk := (keep _ (heap_lt hv.blk) fun g e' => hva ▸ (hrow g e').2.2 i e he).trans hv.blk }⟩

/-- what is appended to: the territory, the elements, their shape -/
def dstA (P : Program) (M : Mem) (x : AV) (el : TypeId) : Option (Option Nat × List AV × Bool × List CK) :=
  match x with
  | .lit (.slice none 0 0) => match shT P el with
    | some (ia, sh) => some (none, [], ia, sh)
    | none => none
  | .vec h => match M.vecs[h]? with
    | some (some e) => bif e.own && e.head && decide (e.elem = el) then some (some e.terr, e.cont, e.isAgg, e.sh) else none
    | _ => none
  | _ => none

theorem dstA_sound {P : Program} {E : Env} {w0 w : World} {M : Mem} (hR : RepM E w0 M w) {x : AV} {el : TypeId} {t : Option Nat} {olds : List AV} {ia : Bool} {sh : List CK} (h : dstA P M x el = some (t, olds, ia, sh)) :
    ∃ xs : List Value, w.ownsRow w0.heap.size el sh.length (x.conc E) olds.length xs ∧ RelL E M (flatC olds) xs ∧ (∀ y, y ∈ olds → y.cells.length = sh.length) ∧
      (∀ g, (x.conc E).ownBlock = some g → w0.heap.size ≤ g ∧ (∀ (b : Nat) (y : Blk), (killT M t).blks[b]? = some (some y) → E.ρ b ≠ g) ∧ ∀ (i : Nat) (e : Ent), (killT M t).vecs[i]? = some (some e) → (E.va i).block ≠ g) := by
  unfold dstA at h
  split at h
  · split at h
    · rename_i ia' sh' hsh
      simp only [Option.some.injEq, Prod.mk.injEq] at h
      obtain ⟨rfl, rfl, rfl, rfl⟩ := h
      exact ⟨[], World.ownsRow_nil w _ _ _, ⟨rfl, fun i a v ha => (by simp [flatC] at ha)⟩, fun y hy => (by cases hy), fun g hg => (by simp [AV.conc, Value.ownBlock] at hg)⟩
    · cases h
  · rename_i q
    split at h
    · rename_i e he
      simp only [cond_eq_ite, Bool.and_eq_true, decide_eq_true_eq] at h
      split at h
      · rename_i hc
        obtain ⟨⟨ho, hh⟩, hel⟩ := hc
        simp only [Option.some.injEq, Prod.mk.injEq] at h
        obtain ⟨rfl, rfl, rfl, rfl⟩ := h
        obtain ⟨a, cap, cs, fz, hv⟩ := hR.vec q e he
        obtain ⟨hm1, hm2, hm3⟩ := hv.mine ho
        obtain ⟨hh1, hh2, hh3⟩ := hv.head hh
        have hva : E.va q = a := by simp [Env.va, hv.val]
        have ha : a = ⟨a.block, 0, none⟩ := by
          have hsp := hv.spot
          obtain ⟨ab, ao, asp⟩ := a
          simp only at hsp hh1
          rw [hsp, hh1]
        have hcl : ∀ x, x ∈ e.cont → x.cells.length = e.sh.length := fun x hx => by
          obtain ⟨i, hi⟩ := List.mem_iff_getElem?.1 hx
          exact shape_len (hv.shape i x hi)
        have hfl := flatC_len e.cont hcl
        have hmul := Nat.mul_le_mul_right e.sh.length hv.le
        refine ⟨cs.toList.take (e.cont.length * e.sh.length), ⟨by simp; omega, .inr ⟨a.block, cap, cs, ?_, hm1, ?_, hv.le, hh3, hh2, rfl⟩⟩, ⟨by simp [hfl]; omega, fun i c v hc hvv => ?_⟩, hcl, fun g hg => ?_⟩
        · simp only [AV.conc, hv.val]
          rw [← ha]
        · rw [hv.blk, hm2, hel]
        · obtain ⟨i', j', x, h1, h2, rfl⟩ := flatC_get e.cont hcl i c hc
          obtain ⟨u, hu, hr⟩ := hv.cell i' x h1 j' c h2
          rw [List.getElem?_take] at hvv
          split at hvv
          · have : cs[i' * e.sh.length + j']? = some v := by simpa using hvv
            rw [hh1, Nat.zero_add, this] at hu
            simp only [Option.some.injEq] at hu
            exact hu ▸ hr
          · cases hvv
        · simp only [AV.conc, hv.val, Value.ownBlock, Option.some.injEq] at hg
          subst hg
          refine ⟨hm1, fun b y hy => hm3 b y (by rw [killT_blks] at hy; exact hy), fun i e' he' hb => ?_⟩
          obtain ⟨g1, g2⟩ := killT_get he'
          obtain ⟨a', cap', cs', fz', hv'⟩ := hR.vec i e' g1
          have hva' : E.va i = a' := by simp [Env.va, hv'.val]
          cases ho' : e'.own with
          | false => have := hv'.old ho'; rw [hva'] at hb; omega
          | true =>
            have := hR.terr i q e' e g1 he ho' ho (by rw [hb, hva])
            exact g2 _ rfl ho' this
      · cases h
    · cases h
  · cases h

def appendK {R : Type} (P : Program) (tm : List AV) (M : Mem) (o : Oper) (k : AV → Mem → Option R) : Option R :=
  match o.op with
  | .call ⟨.builtin .append, ⟨[s, x]⟩, ⟨[t, t']⟩⟩ =>
    bif decide (t = t') && (ev tm s).lv M.live && (ev tm x).lv M.live then
      match P.underlying t with
      | some (.slice el) => match P.info? el with
        | some i => match i.zero with
          | some z => match dstA P M (ev tm s) el with
            | some (tr, olds, ia, sh) => match srcA M (ev tm x) i.size with
              | some (m, news) =>
                bif decide (i.size = sh.length) && decide (z.cells.size = i.size) && decide (0 < i.size) && decide (0 < olds.length + m) && decide (olds.length + m ≤ 65536) && decide ((olds.length + m) * i.bytes ≤ 140737488355328) && allOne news && lvL M.live news && shapes ia sh (chunks ia i.size m news) && shapes ia sh olds then
                  k (.vec M.vecs.length) ((killT M tr).addV ⟨el, ia, sh, M.vecs.length, true, true, olds ++ chunks ia i.size m news⟩)
                else none
              | none => none
            | none => none
          | none => none
        | none => none
      | _ => none
    else none
  | _ => none

theorem appendK_sound {R : Type} {P : Program} {tm : List AV} {M : Mem} {o : Oper} {k : AV → Mem → Option R} {r : R} (h : appendK P tm M o k = some r) :
    ∃ z M', k z M' = some r ∧ MemOk P tm M o z M' := by
  obtain ⟨dst, op, ty, pos, after, guard⟩ := o
  unfold appendK at h
  simp only at h
  split at h
  · rename_i s x t t'
    simp only [cond_eq_ite, Bool.and_eq_true, decide_eq_true_eq] at h
    split at h
    · rename_i hc0
      obtain ⟨⟨rfl, hls⟩, hlx⟩ := hc0
      split at h
      · rename_i el hu
        split at h
        · rename_i i hi
          split at h
          · rename_i z hz
            split at h
            · rename_i tr olds ia sh hdst
              split at h
              · rename_i m news hsrc
                split at h
                · rename_i hc
                  obtain ⟨⟨⟨⟨⟨⟨⟨⟨⟨c1, c2⟩, c3⟩, c4⟩, c5⟩, c6⟩, c7⟩, c8⟩, c9⟩, c10⟩ := hc
                  refine ⟨_, _, h, fun E a w0 w hT hR => ?_⟩
                  obtain ⟨xs, hown, hrel, hcl, hrow⟩ := dstA_sound hR hdst
                  obtain ⟨ad, c, nv, hx, hnl, hnrel, hcell⟩ := srcA_sound hR hsrc
                  have hone : ∀ u ∈ nv, u.oneCell' = true := by
                    intro u hu
                    obtain ⟨j, hj⟩ := List.mem_iff_getElem?.1 hu
                    have hjl : j < news.length := by rw [hnrel.len]; exact lt_of_get hj
                    have hn := List.getElem?_eq_getElem hjl
                    have hl := lvL_at c8 hn
                    have := (hnrel.at_ j _ u hn hj).2 hl
                    rw [this]
                    exact one_conc hR (allOne_mem c7 _ (List.mem_of_getElem? hn)) hl
                  rw [← c1] at hown
                  obtain ⟨v', w', hrun, hown', hgrow, hnil, hat⟩ := run_append_own_at (P := P) w w0.heap.size t ty el i z i.size i.bytes hu hi hz rfl rfl c2 c3 ((ev tm s).conc E) olds.length xs hown ad m c nv (by rw [← hnrel.len]; exact hnl) hcell hone (by simp only [maxLen]; omega) c6 hR.below.size
                  have hsz := hgrow.size
                  -- the new row
                  obtain ⟨g, cap, cur, rfl, hg1, hg2, hg3, hg4, hg5, hg6⟩ : ∃ g cap cur, v' = .slice (some ⟨g, 0, none⟩) (olds.length + m) cap ∧ w0.heap.size ≤ g ∧ w'.heap[g]? = some (.cells cur el (0, 0)) ∧ olds.length + m ≤ cap ∧ cap ≤ maxLen ∧ cur.size = cap * i.size ∧ cur.toList.take ((olds.length + m) * i.size) = xs ++ nv := by
                    rcases hown'.2 with ⟨_, h0⟩ | hh
                    · omega
                    · exact hh
                  have hRk := (hR.killT tr).grown hgrow hrow
                  have hst1 : Step E M E (killT M tr) := ⟨killT_le M tr, Env.le.refl _ _ _⟩
                  have hvl := killT_len M tr
                  have hflat : flatC (olds ++ chunks ia i.size m news) = flatC olds ++ news := by rw [flatC_append, flatC_chunks c1.symm c3 m news hnl c9]
                  have hall : ∀ y, y ∈ olds ++ chunks ia i.size m news → y.shape ia sh = true := fun y hy => by
                    rcases List.mem_append.1 hy with hy | hy
                    · exact shapes_mem c10 y hy
                    · exact shapes_mem c9 y hy
                  have hch : ∀ (m : Nat) (l : List AV), (chunks ia i.size m l).length = m := by
                    intro m
                    induction m with
                    | zero => intro l; rfl
                    | succ m ih => intro l; simp [chunks, ih]
                  have hcont : (olds ++ chunks ia i.size m news).length = olds.length + m := by simp [hch]
                  have hrelF : RelL E M (flatC olds ++ news) (xs ++ nv) := by
                    refine ⟨by simp [hrel.len, hnrel.len], fun q y v hy hv => ?_⟩
                    rcases Nat.lt_or_ge q (flatC olds).length with hl | hl
                    · rw [List.getElem?_append_left hl] at hy
                      rw [List.getElem?_append_left (by rw [← hrel.len]; exact hl)] at hv
                      exact hrel.at_ q y v hy hv
                    · rw [List.getElem?_append_right hl] at hy
                      rw [List.getElem?_append_right (by rw [← hrel.len]; exact hl), ← hrel.len] at hv
                      exact hnrel.at_ _ y v hy hv
                  have fresh : ∀ k, (∃ b x, (killT M tr).blks[b]? = some (some x) ∧ E.ρ b = k) ∨ (∃ i e, (killT M tr).vecs[i]? = some (some e) ∧ (E.va i).block = k) → k ≠ g := by
                    intro k hk hkg
                    subst hkg
                    have hkl : k < w.heap.size := by
                      rcases hk with ⟨b, y, hy, rfl⟩ | ⟨j, e, he, rfl⟩
                      · exact (hR.killT tr).lt hy
                      · obtain ⟨a', cap', cs', fz', hv'⟩ := (hR.killT tr).vec j e he
                        have hva' : E.va j = a' := by simp [Env.va, hv'.val]
                        rw [hva']; exact heap_lt hv'.blk
                    rcases hat with hat | hat
                    · simp only [Value.ownBlock] at hat
                      obtain ⟨_, r1, r2⟩ := hrow k hat.symm
                      rcases hk with ⟨b, y, hy, e1⟩ | ⟨j, e, he, e1⟩
                      · exact r1 b y hy e1
                      · exact r2 j e he e1
                    · simp only [Value.ownBlock, Option.some.injEq] at hat
                      omega
                  have hstV := Step.addV E (killT M tr) ⟨el, ia, sh, M.vecs.length, true, true, olds ++ chunks ia i.size m news⟩ (.slice (some ⟨g, 0, none⟩) (olds.length + m) cap)
                  have hadd := hRk.addV ⟨el, ia, sh, M.vecs.length, true, true, olds ++ chunks ia i.size m news⟩ (.slice (some ⟨g, 0, none⟩) (olds.length + m) cap)
                    ⟨⟨g, 0, none⟩, cap, cur, (0, 0),
                      { val := by simp only [Env.addV, if_true, hcont]
                        spot := rfl
                        le := by rw [hcont]; exact hg3
                        blk := hg2
                        room := by simp only [Nat.zero_add]; rw [hg5, c1]; exact Nat.le_refl _
                        shape := fun j y hy => hall y (List.mem_of_getElem? hy)
                        cell := fun j y hy q cc hcc => by
                          have hp := flatC_of (z := i.size) _ (fun y hy => by rw [shape_len (hall y hy), c1]) j q y cc hy hcc
                          rw [hflat] at hp
                          obtain ⟨u, hu', hru⟩ := hrelF.get hp
                          refine ⟨u, ?_, ((hru.step hst1).step hstV)⟩
                          rw [← hg6, List.getElem?_take] at hu'
                          split at hu'
                          · rw [c1] at hu'
                            simp only [Nat.zero_add]
                            simpa using hu'
                          · cases hu'
                        old := fun ho => by cases ho
                        head := fun _ => ⟨rfl, by rw [hg5, c1], hg4⟩
                        mine := fun _ => ⟨hg1, rfl, fun b y hy => fresh _ (.inl ⟨b, y, hy, rfl⟩)⟩ }⟩
                    (fun _ j e he _ hb => by
                      have hva : ((E.addV (killT M tr).vecs.length (.slice (some ⟨g, 0, none⟩) (olds.length + m) cap)).va (killT M tr).vecs.length).block = g := by simp [Env.va, Env.addV]
                      rw [hva] at hb
                      exact (fresh _ (.inr ⟨j, e, he, rfl⟩) hb.symm).elim)
                  refine ⟨_, _, w', hst1.trans hstV, ⟨?_, fun _ => rfl⟩, hadd, hsz, .inl ?_⟩
                  · simp [AV.sc, Mem.addV, hvl]
                  · simp only [execOp, resolve, invoke, builtin, Sem.run_bind, Sem.run_pure, Result.andThen_ok, List.map_toArray, List.map_cons, List.map_nil, (hT.ev s).2 hls, (hT.ev x).2 hlx, hx, hrun, AV.conc, Env.addV, hvl, if_true]
                · cases h
              · cases h
            · cases h
          · cases h
        · cases h
      · cases h
    · cases h
  · cases h

end Go.Sx
