/- Several texts in one. -/
import Derived.Test.YtfnpnenndbdcpaaSxOne
import Derived.Maps.AppendAt
import Derived.Laws.MakeOwn
import Derived.Laws.CopyRow
set_option linter.unusedVariables false
set_option linter.unusedSimpArgs false
namespace Go.Sx
open Go Go.RowKit

/-! append onto a row that is the walk's own -/

def noAny : List CK → Bool
  | [] => true
  | .any :: _ => false
  | _ :: l => noAny l
def ckT (P : Program) (t : TypeId) : CK := match P.underlying t with
  | some (.int k) => .int k
  | some .bool => .bool
  | some .string => .str
  | _ => .any
def shT (P : Program) (el : TypeId) : Option (Bool × List CK) := match aggT P el with
  | some true => match P.cellTypes P.depth el with
    | some ts => some (true, ts.map (ckT P))
    | none => none
  | some false => some (false, [ckT P el])
  | none => none

def chead (isAgg : Bool) (z : Nat) (l : List AV) : AV := match isAgg with
  | true => .agg (l.take z)
  | false => l.headD .bad
def chunks (isAgg : Bool) (z : Nat) : Nat → List AV → List AV
  | 0, _ => []
  | m + 1, l => chead isAgg z l :: chunks isAgg z m (l.drop z)
def shapes (isAgg : Bool) (sh : List CK) : List AV → Bool
  | [] => true
  | x :: l => x.shape isAgg sh && shapes isAgg sh l
theorem shapes_mem {isAgg : Bool} {sh : List CK} : ∀ {l : List AV}, shapes isAgg sh l = true → ∀ x, x ∈ l → x.shape isAgg sh = true
  | [], _, x, hx => by cases hx
  | y :: l, h, x, hx => by
    simp only [shapes, Bool.and_eq_true] at h
    rcases List.mem_cons.1 hx with rfl | hx
    · exact h.1
    · exact shapes_mem h.2 x hx

theorem flatC_chunks {isAgg : Bool} {sh : List CK} {z : Nat} (hz : sh.length = z) (hp : 0 < z) : ∀ (m : Nat) (l : List AV), l.length = m * z → shapes isAgg sh (chunks isAgg z m l) = true → flatC (chunks isAgg z m l) = l
  | 0, l, hl, _ => by
    have : l = [] := List.eq_nil_of_length_eq_zero (by omega)
    subst this; rfl
  | m + 1, l, hl, hs => by
    rw [Nat.add_mul, Nat.one_mul] at hl
    simp only [chunks, shapes, Bool.and_eq_true] at hs
    simp only [chunks, flatC]
    rw [flatC_chunks hz hp m (l.drop z) (by simp; omega) hs.2]
    have hh : (chead isAgg z l).cells = l.take z := by
      cases isAgg with
      | true => rfl
      | false =>
        have h1 := hs.1
        simp only [chead, AV.shape] at h1 ⊢
        match sh, h1, hz with
        | [k], h1, hz =>
          simp only [fitsAll, Bool.and_true] at h1
          have hz1 : z = 1 := by simpa using hz.symm
          subst hz1
          rw [fits_cells h1]
          cases l with
          | nil => simp at hl
          | cons a l => rfl
        | [], h1, hz => simp at hz; omega
        | _ :: _ :: _, h1, hz => simp [fitsAll] at h1
    rw [hh, List.take_append_drop]

def killT (M : Mem) (t : Option Nat) : Mem := match t with
  | none => M
  | some t => { M with vecs := M.vecs.map fun o => match o with
      | some e => bif (e.terr == t) && e.own then none else some e
      | none => none }
theorem killT_get {M : Mem} {t : Option Nat} {h : Nat} {e : Ent} (hh : (killT M t).vecs[h]? = some (some e)) : M.vecs[h]? = some (some e) ∧ ∀ t', t = some t' → e.own = true → e.terr ≠ t' := by
  cases t with
  | none => exact ⟨hh, fun t' h => by cases h⟩
  | some t =>
    simp only [killT, List.getElem?_map] at hh
    cases hv : M.vecs[h]? with
    | none => rw [hv] at hh; cases hh
    | some o =>
      rw [hv] at hh
      cases o with
      | none => simp at hh
      | some e' =>
        simp only [Option.map_some, Option.some.injEq, cond_eq_ite, Bool.and_eq_true, beq_iff_eq] at hh
        split at hh
        · cases hh
        · rename_i hc
          simp only [Option.some.injEq] at hh
          subst hh
          refine ⟨rfl, fun t' ht ho hte => hc ?_⟩
          cases ht
          exact ⟨hte, ho⟩
theorem killT_blks (M : Mem) (t : Option Nat) : (killT M t).blks = M.blks := by cases t <;> rfl
theorem killT_len (M : Mem) (t : Option Nat) : (killT M t).vecs.length = M.vecs.length := by cases t <;> simp [killT]
theorem killT_le (M : Mem) (t : Option Nat) : Mem.le M (killT M t) := by
  refine ⟨by rw [killT_blks]; exact Nat.le_refl _, by rw [killT_len]; exact Nat.le_refl _, fun i _ h => ?_, fun i _ h => ?_⟩
  · unfold aliveB at *; rw [killT_blks] at h; exact h
  · unfold aliveV at h
    split at h
    · rename_i e he
      unfold aliveV
      rw [(killT_get he).1]
    · cases h

theorem RepM.killT {E : Env} {w0 : Bs} {w : World} {M : Mem} (h : RepM E w0 M w) (t : Option Nat) : RepM E w0 (killT M t) w := by
  have hst : Step E M E (Sx.killT M t) := ⟨killT_le M t, Env.le.refl _ _ _⟩
  refine ⟨h.below, fun b x hx => ?_, fun b b' x x' hx hx' => ?_, fun i e he => ?_, fun i i' e e' he he' => ?_⟩
  · rw [killT_blks] at hx
    obtain ⟨h1, cs, h2, h3⟩ := h.blk b x hx
    exact ⟨h1, cs, h2, h3.step hst⟩
  · rw [killT_blks] at hx hx'
    exact h.inj b b' x x' hx hx'
  · rcases h.vec i e (killT_get he).1 with hz | ⟨a, cap, cs, fz, hv⟩
    · exact .inl hz
    refine .inr ⟨a, cap, cs, fz, { hv with cell := ?_, mine := ?_ }⟩
    · intro j y hy k c hc
      obtain ⟨u, h1, h2⟩ := hv.cell j y hy k c hc
      exact ⟨u, h1, h2.step hst⟩
    · intro ho
      obtain ⟨h1, h2, h3⟩ := hv.mine ho
      exact ⟨h1, h2, fun b x hx => h3 b x (by rw [killT_blks] at hx; exact hx)⟩
  · exact h.terr i i' e e' (killT_get he).1 (killT_get he').1

theorem RepM.grown {E : Env} {w0 : Bs} {w w' : World} {M : Mem} (h : RepM E w0 M w) {row : Option Nat} (hg : w.grownBy w' row) (hrow : ∀ g, row = some g → w0.Wr g ∧ (∀ (b : Nat) (x : Blk), M.blks[b]? = some (some x) → E.ρ b ≠ g) ∧ ∀ (i : Nat) (e : Ent), M.vecs[i]? = some (some e) → E.bk i ≠ some g) : RepM E w0 M w' := by
  have hs : w0.w0.heap.size ≤ w.heap.size := h.below.size
  have keep : ∀ k, k < w.heap.size → (∀ g, row = some g → k ≠ g) → w'.heap[k]? = w.heap[k]? := fun k hk hne => hg.block k hk fun e => hne k e.symm rfl
  refine ⟨⟨hg.os.trans h.below.os, hg.tape.trans h.below.tape, hg.output.trans h.below.output, Nat.le_trans h.below.size hg.size, fun k hk => ?_⟩, fun b x hx => ?_, h.inj, fun i e he => ?_, h.terr⟩
  · rw [keep k (Nat.lt_of_lt_of_le (Bs.lt hk) hs) fun g e hh => hk (hh ▸ (hrow g e).1)]
    exact h.below.block k hk
  · obtain ⟨h1, cs, h2, h3⟩ := h.blk b x hx
    exact ⟨h1, cs, (keep _ (heap_lt h2) fun g e => (hrow g e).2.1 b x hx).trans h2, h3⟩
  · rcases h.vec i e he with hz | ⟨a, cap, cs, fz, hv⟩
    · exact .inl hz
    exact .inr ⟨a, cap, cs, fz, { hv with blk := (keep _ (heap_lt hv.blk) fun g e' hh => (hrow g e').2.2 i e he (by rw [hv.bk, hh])).trans hv.blk }⟩

def killB (M : Mem) (b : Option Nat) : Mem := match b with
  | none => M
  | some b => ⟨M.blks.set b none, M.vecs⟩
theorem killB_get {M : Mem} {kb : Option Nat} {b : Nat} {x : Blk} (h : (killB M kb).blks[b]? = some (some x)) : M.blks[b]? = some (some x) ∧ kb ≠ some b := by
  cases kb with
  | none => exact ⟨h, fun e => by cases e⟩
  | some c =>
    simp only [killB, List.getElem?_set] at h
    split at h
    · split at h <;> cases h
    · rename_i hne
      exact ⟨h, fun e => hne (by simpa using e)⟩
theorem killB_vecs (M : Mem) (kb : Option Nat) : (killB M kb).vecs = M.vecs := by cases kb <;> rfl
theorem killB_len (M : Mem) (kb : Option Nat) : (killB M kb).blks.length = M.blks.length := by cases kb <;> simp [killB]
theorem RepM.killB {M : Mem} (kb : Option Nat) {E : Env} : Step E M E (killB M kb) ∧ ∀ {w0 : Bs} {w : World}, RepM E w0 M w → RepM E w0 (killB M kb) w := by
  have hst : Step E M E (Sx.killB M kb) := by
    refine ⟨⟨by rw [killB_len]; exact Nat.le_refl _, by rw [killB_vecs]; exact Nat.le_refl _, fun i hi h => ?_, fun i hi h => ?_⟩, Env.le.refl _ _ _⟩
    · unfold aliveB at h
      split at h
      · rename_i x hx
        unfold aliveB; rw [(killB_get hx).1]
      · cases h
    · unfold aliveV at *; rw [killB_vecs] at h; exact h
  refine ⟨hst, fun {w0 w} h => ⟨h.below, fun b x hx => ?_, fun b b' x x' hx hx' => h.inj b b' x x' (killB_get hx).1 (killB_get hx').1, fun i e he => ?_, fun i i' e e' he he' => ?_⟩⟩
  · obtain ⟨h1, cs, h2, h3⟩ := h.blk b x (killB_get hx).1
    exact ⟨h1, cs, h2, h3.step hst⟩
  · rw [killB_vecs] at he
    rcases h.vec i e he with hz | ⟨a, cap, cs, fz, hV⟩
    · exact .inl hz
    refine .inr ⟨a, cap, cs, fz, { hV with cell := ?_, mine := ?_ }⟩
    · intro j y hy k c hc
      obtain ⟨u, h1, h2⟩ := hV.cell j y hy k c hc
      exact ⟨u, h1, h2.step hst⟩
    · intro ho
      obtain ⟨h1, h2, h3⟩ := hV.mine ho
      exact ⟨h1, h2, fun b x hx => h3 b x (killB_get hx).1⟩
  · rw [killB_vecs] at he he'
    exact h.terr i i' e e' he he'
def killX (M : Mem) (t b : Option Nat) : Mem := Sx.killB (killT M t) b
theorem RepM.killX {M : Mem} (t kb : Option Nat) {E : Env} : Step E M E (killX M t kb) ∧ ∀ {w0 : Bs} {w : World}, RepM E w0 M w → RepM E w0 (Sx.killX M t kb) w := by
  obtain ⟨h1, h2⟩ := RepM.killB (M := Sx.killT M t) kb (E := E)
  have hst1 : Step E M E (Sx.killT M t) := ⟨killT_le M t, Env.le.refl _ _ _⟩
  exact ⟨hst1.trans h1, fun h => h2 (h.killT t)⟩
theorem killX_len (M : Mem) (t kb : Option Nat) : (killX M t kb).vecs.length = M.vecs.length := by unfold killX; rw [killB_vecs, killT_len]
theorem killX_vec {M : Mem} {t kb : Option Nat} {h : Nat} {e : Ent} (hh : (killX M t kb).vecs[h]? = some (some e)) : M.vecs[h]? = some (some e) ∧ ∀ t', t = some t' → e.own = true → e.terr ≠ t' := by
  unfold killX at hh; rw [killB_vecs] at hh; exact killT_get hh
theorem killX_blk {M : Mem} {t kb : Option Nat} {b : Nat} {x : Blk} (h : (killX M t kb).blks[b]? = some (some x)) : M.blks[b]? = some (some x) ∧ kb ≠ some b := by
  have := killB_get h
  rwa [killT_blks] at this

/-- what is appended to: the territory, a block, the elements, their shape -/
def dstA (P : Program) (M : Mem) (x : AV) (el : TypeId) : Option (Option Nat × Option Nat × List AV × Bool × List CK) :=
  match x with
  | .lit (.slice none 0 0) => match shT P el with
    | some (ia, sh) => some (none, none, [], ia, sh)
    | none => none
  | .vec h => match M.vecs[h]? with
    | some (some e) => bif e.own && e.head && decide (e.elem = el) then some (some e.terr, none, e.cont, e.isAgg, e.sh) else none
    | _ => none
  | .sl b 0 len cap => match M.blks[b]?, shT P el with
    | some (some X), some (ia, sh) => bif X.own && decide (X.elem = el) && decide (0 < sh.length) && decide (len ≤ cap) && decide (cap ≤ 65536) && decide (X.cells.length = cap * sh.length) && shapes ia sh (chunks ia sh.length len (X.cells.take (len * sh.length))) then
        some (none, some b, chunks ia sh.length len (X.cells.take (len * sh.length)), ia, sh) else none
    | _, _ => none
  | _ => none
theorem chunks_len (ia : Bool) (z : Nat) : ∀ (m : Nat) (l : List AV), (chunks ia z m l).length = m := by
  intro m
  induction m with
  | zero => intro l; rfl
  | succ m ih => intro l; simp [chunks, ih]

theorem dstA_sound {P : Program} {E : Env} {w0 : Bs} {w : World} {M : Mem} (hR : RepM E w0 M w) {x : AV} {el : TypeId} {t kb : Option Nat} {olds : List AV} {ia : Bool} {sh : List CK} (h : dstA P M x el = some (t, kb, olds, ia, sh)) :
    ∃ xs : List Value, w.ownsRow 0 el sh.length (x.conc E) olds.length xs ∧ RelL E M (flatC olds) xs ∧ (∀ y, y ∈ olds → y.shape ia sh = true) ∧
      (∀ g, (x.conc E).ownBlock = some g → w0.Wr g ∧ (∀ (b : Nat) (y : Blk), (killX M t kb).blks[b]? = some (some y) → E.ρ b ≠ g) ∧ ∀ (i : Nat) (e : Ent), (killX M t kb).vecs[i]? = some (some e) → E.bk i ≠ some g) := by
  unfold dstA at h
  split at h
  · split at h
    · rename_i ia' sh' hsh
      simp only [Option.some.injEq, Prod.mk.injEq] at h
      obtain ⟨rfl, rfl, rfl, rfl, rfl⟩ := h
      exact ⟨[], World.ownsRow_nil w _ _ _, ⟨rfl, fun i a v ha => (by simp [flatC] at ha)⟩, fun y hy => (by cases hy), fun g hg => (by simp [AV.conc, Value.ownBlock] at hg)⟩
    · cases h
  · rename_i q
    split at h
    · rename_i e he
      simp only [cond_eq_ite, Bool.and_eq_true, decide_eq_true_eq] at h
      split at h
      · rename_i hc
        obtain ⟨⟨ho, hh⟩, hel⟩ := hc
        simp only [Option.some.injEq, Prod.mk.injEq] at h
        obtain ⟨rfl, rfl, rfl, rfl, rfl⟩ := h
        rcases hR.vec q e he with ⟨hz, hz'⟩ | ⟨a, cap, cs, fz, hv⟩
        · refine ⟨[], ?_, ?_, ?_, ?_⟩
          · rw [hz]; simp only [AV.conc, hz']; exact World.ownsRow_nil w _ _ _
          · rw [hz]; exact ⟨rfl, fun i a v ha => (by simp [flatC] at ha)⟩
          · rw [hz]; exact fun y hy => (by cases hy)
          · intro g hg; simp [AV.conc, hz', nilV, Value.ownBlock] at hg
        obtain ⟨hm1, hm2, hm3⟩ := hv.mine ho
        obtain ⟨hh1, hh2, hh3⟩ := hv.head hh
        have ha : a = ⟨a.block, 0, none⟩ := by
          have hsp := hv.spot
          obtain ⟨ab, ao, asp⟩ := a
          simp only at hsp hh1
          rw [hsp, hh1]
        have hcl : ∀ x, x ∈ e.cont → x.cells.length = e.sh.length := fun x hx => by
          obtain ⟨i, hi⟩ := List.mem_iff_getElem?.1 hx
          exact shape_len (hv.shape i x hi)
        have hfl := flatC_len e.cont hcl
        have hmul := Nat.mul_le_mul_right e.sh.length hv.le
        refine ⟨cs.toList.take (e.cont.length * e.sh.length), ⟨by simp; omega, .inr ⟨a.block, cap, cs, ?_, Nat.zero_le _, ?_, hv.le, hh3, hh2, rfl⟩⟩, ⟨by simp [hfl]; omega, fun i c v hc hvv => ?_⟩, fun y hy => ?_, fun g hg => ?_⟩
        · simp only [AV.conc, hv.val]
          rw [← ha]
        · rw [hv.blk, hm2, hel]
        · obtain ⟨i', j', x, h1, h2, rfl⟩ := flatC_get e.cont hcl i c hc
          obtain ⟨u, hu, hr⟩ := hv.cell i' x h1 j' c h2
          rw [List.getElem?_take] at hvv
          split at hvv
          · have : cs[i' * e.sh.length + j']? = some v := by simpa using hvv
            rw [hh1, Nat.zero_add, this] at hu
            simp only [Option.some.injEq] at hu
            exact hu ▸ hr
          · cases hvv
        · obtain ⟨i, hi⟩ := List.mem_iff_getElem?.1 hy
          exact hv.shape i y hi
        · simp only [AV.conc, hv.val, Value.ownBlock, Option.some.injEq] at hg
          subst hg
          refine ⟨hm1, fun b y hy => hm3 b y (killX_blk hy).1, fun i e' he' hb => ?_⟩
          obtain ⟨g1, g2⟩ := killX_vec he'
          cases ho' : e'.own with
          | false =>
            rcases hR.vec i e' g1 with ⟨_, hz'⟩ | ⟨a', cap', cs', fz', hv'⟩
            · rw [bk_nil hz'] at hb; cases hb
            · rw [hv'.bk] at hb
              simp only [Option.some.injEq] at hb
              exact hv'.old ho' (by rw [hb]; exact hm1)
          | true => exact g2 _ rfl ho' (hR.terr i q e' e g1 he ho' ho _ hb hv.bk)
      · cases h
    · cases h
  · rename_i b len cap
    split at h
    · rename_i X ia' sh' hX hsh
      simp only [cond_eq_ite, Bool.and_eq_true, decide_eq_true_eq] at h
      split at h
      · rename_i hc
        obtain ⟨⟨⟨⟨⟨⟨ho, hel⟩, hz⟩, hlc⟩, hcap⟩, hln⟩, hsp⟩ := hc
        simp only [Option.some.injEq, Prod.mk.injEq] at h
        obtain ⟨rfl, rfl, rfl, rfl, rfl⟩ := h
        obtain ⟨⟨hw, _⟩, cs, h2, h3⟩ := hR.blk b X hX
        have hmul := Nat.mul_le_mul_right sh'.length hlc
        have htl : (X.cells.take (len * sh'.length)).length = len * sh'.length := by simp; omega
        have hsz : cs.size = cap * sh'.length := by rw [← hln, h3.len]; simp
        have hfc := flatC_chunks (isAgg := ia') (sh := sh') (z := sh'.length) rfl hz len _ htl hsp
        refine ⟨cs.toList.take (len * sh'.length), ⟨by rw [chunks_len]; simp; omega, .inr ⟨E.ρ b, cap, cs, by rw [chunks_len]; rfl, Nat.zero_le _, ?_, by rw [chunks_len]; exact hlc, by simp only [maxLen]; omega, hsz, by rw [chunks_len]⟩⟩, ?_, fun y hy => shapes_mem hsp y hy, fun g hg => ?_⟩
        · rw [h2, hel]
        · rw [hfc]
          refine ⟨by rw [htl]; simp; omega, fun i c v hc hv => ?_⟩
          rw [List.getElem?_take] at hc hv
          split at hc
          · rename_i hi
            rw [if_pos hi] at hv
            exact h3.at_ i c v hc hv
          · cases hc
        · simp only [AV.conc, Value.ownBlock, Option.some.injEq] at hg
          subst hg
          refine ⟨hw ho, fun b' y hy he => ?_, fun i e he hb => ?_⟩
          · obtain ⟨g1, g2⟩ := killX_blk hy
            exact g2 (by rw [hR.inj b' b y X g1 hX he])
          · obtain ⟨g1, _⟩ := killX_vec he
            rcases hR.vec i e g1 with ⟨_, hz'⟩ | ⟨a', cap', cs', fz', hv'⟩
            · rw [bk_nil hz'] at hb; cases hb
            · rw [hv'.bk] at hb
              simp only [Option.some.injEq] at hb
              cases hoe : e.own with
              | true => exact (hv'.mine hoe).2.2 b X hX hb.symm
              | false => exact hv'.old hoe (hb ▸ hw ho)
      · cases h
    · cases h
  · cases h

/-- a row of plain elements of the same shape -/
def sameE (M : Mem) (x : AV) : Option Ent := match x with
  | .vec h => match M.vecs[h]? with
    | some (some e) => some e
    | _ => none
  | _ => none
def appendK {R : Type} (P : Program) (tm : List AV) (M : Mem) (o : Oper) (k : AV → Mem → Option R) : Option R :=
  match o.op with
  | .call ⟨.builtin .append, ⟨[s, x]⟩, ⟨[t, t']⟩⟩ =>
    bif decide (t = t') && (ev tm s).lv M.live && (ev tm x).lv M.live then
      match P.underlying t with
      | some (.slice el) => match P.info? el with
        | some i => match i.zero with
          | some z => match dstA P M (ev tm s) el with
            | some (tr, kb, olds, ia, sh) => match sameE M (ev tm x) with
              | some e =>
                bif decide (e.sh = sh) && decide (e.isAgg = ia) && noAny sh && decide (i.size = sh.length) && decide (z.cells.size = i.size) && decide (0 < i.size) && decide (olds.length + e.cont.length ≤ 65536) && decide (i.bytes ≤ 1048576) then
                  k (.vec M.vecs.length) ((killX M tr kb).addV ⟨el, ia, sh, M.vecs.length, true, true, olds ++ e.cont⟩)
                else none
              | none => match srcA M (ev tm x) i.size with
                | some (m, news) =>
                  bif decide (i.size = sh.length) && decide (z.cells.size = i.size) && decide (0 < i.size) && decide (olds.length + m ≤ 65536) && decide (i.bytes ≤ 1048576) && allOne news && lvL M.live news && shapes ia sh (chunks ia i.size m news) then
                    k (.vec M.vecs.length) ((killX M tr kb).addV ⟨el, ia, sh, M.vecs.length, true, true, olds ++ chunks ia i.size m news⟩)
                  else none
                | none => none
            | none => none
          | none => none
        | none => none
      | _ => none
    else none
  | _ => none

theorem firstCells_nil {P : Program} (w : World) (z : Nat) : (Builtin.firstCells z 0 nilV).run P w = .ok #[] w := by
  simp [Builtin.firstCells, nilV]
theorem run_append_nil {P : Program} (w : World) (t ty e : TypeId) (i : TypeInfo) (ht : P.underlying t = some (.slice e)) (hi : P.info? e = some i) (p : Option Addr) (n c : Nat) (hnc : n ≤ c) :
    (Builtin.append_ #[t, t] ty #[.slice p n c, nilV]).run P w = .ok (.slice p n c) w := by
  unfold Builtin.append_
  have hs : sizeT P e = some i.size := by simp [sizeT, hi]
  have h1 : (Builtin.lenOf (.slice none 0 0)).run P w = .ok 0 w := rfl
  have h2 : (Builtin.firstCells i.size 0 (.slice none 0 0)).run P w = .ok #[] w := firstCells_nil w _
  have h3 : ∀ a : Addr, (storeCells a []).run P w = .ok () w := fun a => by simp [storeCells]
  simp [run_underlying ht, run_sizeOf hs, nilV, h1, h2, hnc]
  cases p with
  | none => simp
  | some a => simp [h3]

theorem append_core {P : Program} {tm : List AV} {M : Mem} {o : Oper} {s x : Operand} {t el : TypeId} {i : TypeInfo} {z : Value} {tr kb : Option Nat} {olds news : List AV} {ia : Bool} {sh : List CK} {m : Nat}
    (hop : o.op = .call ⟨.builtin .append, ⟨[s, x]⟩, ⟨[t, t]⟩⟩) (hls : (ev tm s).lv M.live = true) (hlx : (ev tm x).lv M.live = true) (hu : P.underlying t = some (.slice el)) (hi : P.info? el = some i) (hz : i.zero = some z)
    (hdst : dstA P M (ev tm s) el = some (tr, kb, olds, ia, sh)) (hsrc : srcA M (ev tm x) i.size = some (m, news))
    (c1 : i.size = sh.length) (c2 : z.cells.size = i.size) (c3 : 0 < i.size) (c5 : olds.length + m ≤ 65536) (c6 : i.bytes ≤ 1048576) (c7 : allOne news = true) (c8 : lvL M.live news = true) (c9 : shapes ia sh (chunks ia i.size m news) = true)
    (E : Env) (a : Act) (w0 : Bs) (w : World) (hT : RelL E M tm a.tmps.toList) (hR : RepM E w0 M w) :
    ∃ E' v w', Step E M E' ((killX M tr kb).addV ⟨el, ia, sh, M.vecs.length, true, true, olds ++ chunks ia i.size m news⟩) ∧ RelS E' ((killX M tr kb).addV ⟨el, ia, sh, M.vecs.length, true, true, olds ++ chunks ia i.size m news⟩) (.vec M.vecs.length) v ∧
      RepM E' w0 ((killX M tr kb).addV ⟨el, ia, sh, M.vecs.length, true, true, olds ++ chunks ia i.size m news⟩) w' ∧ w.heap.size ≤ w'.heap.size ∧
      ((execOp a.eval o).run P w = .ok (.value v) w' ∨ ((execOp a.eval o).run P w = .ok .skip w' ∧ v = undef)) := by
  obtain ⟨dst, op, ty, pos, after, guard⟩ := o
  simp only at hop
  subst hop
  obtain ⟨xs, hown, hrel, hcl, hrow⟩ := dstA_sound hR hdst
  rw [← c1] at hown
  have hb47 : (olds.length + m) * i.bytes ≤ 140737488355328 := by
    have := Nat.mul_le_mul c5 c6
    omega
  obtain ⟨nv, v', w', hnl, hnrel, hrun, hown', hgrow, hat⟩ : ∃ (nv : List Value) (v' : Value) (w' : World), news.length = m * i.size ∧ RelL E M news nv ∧
      (Builtin.append_ #[t, t] ty #[(ev tm s).conc E, (ev tm x).conc E]).run P w = .ok v' w' ∧ w'.ownsRow 0 el i.size v' (olds.length + m) (xs ++ nv) ∧ w.grownBy w' ((ev tm s).conc E).ownBlock ∧
      (v'.ownBlock = ((ev tm s).conc E).ownBlock ∨ v'.ownBlock = some w.heap.size) := by
    rcases srcA_sound hR hsrc with ⟨hx, rfl, rfl⟩ | ⟨ad, c, nv, hx, hnl, hnrel, hcell⟩
    · rw [hx]
      have hss : ∃ p cc, (ev tm s).conc E = .slice p olds.length cc ∧ olds.length ≤ cc := by
        rcases hown.2 with ⟨h1, h2⟩ | ⟨g, cap, cur, h1, _, _, h4, _⟩
        · exact ⟨none, 0, by rw [h1, h2], by omega⟩
        · exact ⟨_, cap, h1, h4⟩
      obtain ⟨p, cc, e1, e2⟩ := hss
      refine ⟨[], (ev tm s).conc E, w, by simp, ⟨rfl, fun i a v ha => by cases ha⟩, ?_, by simpa using hown, ⟨rfl, rfl, rfl, Nat.le_refl _, fun _ _ _ => rfl⟩, .inl rfl⟩
      rw [e1]; exact run_append_nil w t ty el i hu hi p _ cc e2
    · have hone : ∀ u ∈ nv, u.oneCell' = true := by
        intro u hu
        obtain ⟨j, hj⟩ := List.mem_iff_getElem?.1 hu
        have hjl : j < news.length := by rw [hnrel.len]; exact lt_of_get hj
        have hn := List.getElem?_eq_getElem hjl
        have hl := lvL_at c8 hn
        have := (hnrel.at_ j _ u hn hj).2 hl
        rw [this]
        exact one_conc hR (allOne_mem c7 _ (List.mem_of_getElem? hn)) hl
      obtain ⟨v', w', hrun, hown', hgrow, hnil, hat⟩ := run_append_own_at (P := P) w 0 t ty el i z i.size i.bytes hu hi hz rfl rfl c2 c3 ((ev tm s).conc E) olds.length xs hown ad m c nv (by rw [← hnrel.len]; exact hnl) hcell hone (by simp only [maxLen]; omega) hb47 (Nat.zero_le _)
      rw [hx]
      exact ⟨nv, v', w', hnl, hnrel, hrun, hown', hgrow, hat⟩
  obtain ⟨hstX, hsubX⟩ := RepM.killX (M := M) tr kb (E := E)
  have hRk := (hsubX hR).grown hgrow hrow
  have hvl := killX_len M tr kb
  rcases hown'.2 with ⟨hv0, hn0⟩ | hrowN
  · have hnil : (olds ++ chunks ia i.size m news : List AV) = [] := by
      apply List.eq_nil_of_length_eq_zero
      rw [List.length_append, chunks_len]; exact hn0
    subst hv0
    have hstV := Step.addV E (killX M tr kb) ⟨el, ia, sh, M.vecs.length, true, true, olds ++ chunks ia i.size m news⟩ nilV
    have hadd := hRk.addV ⟨el, ia, sh, M.vecs.length, true, true, olds ++ chunks ia i.size m news⟩ nilV (.inl ⟨hnil, rfl⟩) (fun _ j e he _ g hg => by rw [bk_nil (by simp [Env.addV])] at hg; cases hg)
    refine ⟨_, _, w', hstX.trans hstV, ⟨?_, fun _ => rfl⟩, hadd, hgrow.size, .inl ?_⟩
    · simp [AV.sc, Mem.addV, hvl]
    · simp only [execOp, resolve, invoke, builtin, Sem.run_bind, Sem.run_pure, Result.andThen_ok, List.map_toArray, List.map_cons, List.map_nil, (hT.ev s).2 hls, (hT.ev x).2 hlx, hrun, AV.conc, Env.addV, hvl, if_true, nilV]
  have hsz := hgrow.size
  -- the new row
  obtain ⟨g, cap, cur, rfl, hg1, hg2, hg3, hg4, hg5, hg6⟩ : ∃ g cap cur, v' = .slice (some ⟨g, 0, none⟩) (olds.length + m) cap ∧ 0 ≤ g ∧ w'.heap[g]? = some (.cells cur el (0, 0)) ∧ olds.length + m ≤ cap ∧ cap ≤ maxLen ∧ cur.size = cap * i.size ∧ cur.toList.take ((olds.length + m) * i.size) = xs ++ nv := by
    exact hrowN
  have hwr : w0.Wr g := by
    rcases hat with hat | hat
    · exact (hrow g hat.symm).1
    · simp only [Value.ownBlock, Option.some.injEq] at hat
      exact hat ▸ w0.up _ hR.below.size
  have hst1 := hstX
  have hflat : flatC (olds ++ chunks ia i.size m news) = flatC olds ++ news := by rw [flatC_append, flatC_chunks c1.symm c3 m news hnl c9]
  have hall : ∀ y, y ∈ olds ++ chunks ia i.size m news → y.shape ia sh = true := fun y hy => by
    rcases List.mem_append.1 hy with hy | hy
    · exact hcl y hy
    · exact shapes_mem c9 y hy
  have hcont : (olds ++ chunks ia i.size m news).length = olds.length + m := by simp [chunks_len]
  have hrelF : RelL E M (flatC olds ++ news) (xs ++ nv) := by
    refine ⟨by simp [hrel.len, hnrel.len], fun q y v hy hv => ?_⟩
    rcases Nat.lt_or_ge q (flatC olds).length with hl | hl
    · rw [List.getElem?_append_left hl] at hy
      rw [List.getElem?_append_left (by rw [← hrel.len]; exact hl)] at hv
      exact hrel.at_ q y v hy hv
    · rw [List.getElem?_append_right hl] at hy
      rw [List.getElem?_append_right (by rw [← hrel.len]; exact hl), ← hrel.len] at hv
      exact hnrel.at_ _ y v hy hv
  have fresh : ∀ k, (∃ b x, (killX M tr kb).blks[b]? = some (some x) ∧ E.ρ b = k) ∨ (∃ i e, (killX M tr kb).vecs[i]? = some (some e) ∧ E.bk i = some k) → k ≠ g := by
    intro k hk hkg
    subst hkg
    have hkl : k < w.heap.size := by
      rcases hk with ⟨b, y, hy, rfl⟩ | ⟨j, e, he, hbk⟩
      · exact (hsubX hR).lt hy
      · rcases (hsubX hR).vec j e he with ⟨_, hz'⟩ | ⟨a', cap', cs', fz', hv'⟩
        · rw [bk_nil hz'] at hbk; cases hbk
        rw [hv'.bk] at hbk
        simp only [Option.some.injEq] at hbk
        rw [← hbk]; exact heap_lt hv'.blk
    rcases hat with hat | hat
    · simp only [Value.ownBlock] at hat
      obtain ⟨_, r1, r2⟩ := hrow k hat.symm
      rcases hk with ⟨b, y, hy, e1⟩ | ⟨j, e, he, e1⟩
      · exact r1 b y hy e1
      · exact r2 j e he e1
    · simp only [Value.ownBlock, Option.some.injEq] at hat
      omega
  have hstV := Step.addV E (killX M tr kb) ⟨el, ia, sh, M.vecs.length, true, true, olds ++ chunks ia i.size m news⟩ (.slice (some ⟨g, 0, none⟩) (olds.length + m) cap)
  have hadd := hRk.addV ⟨el, ia, sh, M.vecs.length, true, true, olds ++ chunks ia i.size m news⟩ (.slice (some ⟨g, 0, none⟩) (olds.length + m) cap)
    (.inr ⟨⟨g, 0, none⟩, cap, cur, (0, 0),
      { val := by simp only [Env.addV, if_true, hcont]
        spot := rfl
        le := by rw [hcont]; exact hg3
        blk := hg2
        room := .inr (by simp only [Nat.zero_add]; rw [hcont, hg5, c1]; exact Nat.mul_le_mul_right _ hg3)
        shape := fun j y hy => hall y (List.mem_of_getElem? hy)
        cell := fun j y hy q cc hcc => by
          have hp := flatC_of (z := i.size) _ (fun y hy => by rw [shape_len (hall y hy), c1]) j q y cc hy hcc
          rw [hflat] at hp
          obtain ⟨u, hu', hru⟩ := hrelF.get hp
          refine ⟨u, ?_, ((hru.step hst1).step hstV)⟩
          rw [← hg6, List.getElem?_take] at hu'
          split at hu'
          · rw [c1] at hu'
            simp only [Nat.zero_add]
            simpa using hu'
          · cases hu'
        old := fun ho => by cases ho
        head := fun _ => ⟨rfl, by rw [hg5, c1], hg4⟩
        mine := fun _ => ⟨hwr, rfl, fun b y hy => fresh _ (.inl ⟨b, y, hy, rfl⟩)⟩ }⟩)
    (fun _ j e he _ g' hg' hb => by
      have hva : (E.addV (killX M tr kb).vecs.length (.slice (some ⟨g, 0, none⟩) (olds.length + m) cap)).bk (killX M tr kb).vecs.length = some g := by simp [Env.bk, Env.addV]
      rw [hva] at hg'
      simp only [Option.some.injEq] at hg'
      exact (fresh _ (.inr ⟨j, e, he, hb⟩) hg'.symm).elim)
  refine ⟨_, _, w', hst1.trans hstV, ⟨?_, fun _ => rfl⟩, hadd, hgrow.size, .inl ?_⟩
  · simp [AV.sc, Mem.addV, hvl]
  · simp only [execOp, resolve, invoke, builtin, Sem.run_bind, Sem.run_pure, Result.andThen_ok, List.map_toArray, List.map_cons, List.map_nil, (hT.ev s).2 hls, (hT.ev x).2 hlx, hrun, AV.conc, Env.addV, hvl, if_true]
theorem fits_one {sh : List CK} {x : AV} (h : fitsAll sh [x] = true) : ∃ k, sh = [k] ∧ k.fits x = true := by
  cases sh with
  | nil => cases h
  | cons k ks => cases ks with
    | nil => exact ⟨k, rfl, by simpa [fitsAll] using h⟩
    | cons _ _ => simp [fitsAll] at h
/-- a row's elements, taken apart and put together again -/
theorem chunks_flatC {ia : Bool} {sh : List CK} : ∀ {l : List AV}, (∀ x, x ∈ l → x.shape ia sh = true) → noAny sh = true → chunks ia sh.length l.length (flatC l) = l
  | [], _, _ => rfl
  | x :: l, h, hn => by
    have hx := h x List.mem_cons_self
    have hl := shape_len hx
    have ih := chunks_flatC (ia := ia) (sh := sh) (l := l) (fun y hy => h y (List.mem_cons_of_mem _ hy)) hn
    simp only [List.length_cons, chunks, flatC]
    rw [← hl, List.drop_left, hl, ih]
    congr 1
    cases ia with
    | true =>
      simp only [chead]
      rw [← hl, List.take_left]
      cases x <;> first | rfl | cases hx
    | false =>
      simp only [chead]
      have h1 : fitsAll sh [x] = true := by cases x <;> exact hx
      obtain ⟨k, rfl, h2⟩ := fits_one h1
      rw [fits_cells h2]
      rfl
theorem noAny_one : ∀ {sh : List CK} {l : List AV}, noAny sh = true → fitsAll sh l = true → ∀ c, c ∈ l → c.one = true ∧ ∀ L, c.lv L = true
  | [], [], _, _, c, hc => by cases hc
  | [], _ :: _, _, h, _, _ => by cases h
  | _ :: _, [], _, h, _, _ => by cases h
  | k :: ks, a :: l, hn, h, c, hc => by
    simp only [fitsAll, Bool.and_eq_true] at h
    have hn' : noAny ks = true := by cases k <;> first | exact hn | cases hn
    rcases List.mem_cons.1 hc with rfl | hc
    · have h1 := h.1
      cases k with
      | any => cases hn
      | int k => cases c with
        | lit v => cases v <;> first | exact ⟨rfl, fun _ => rfl⟩ | cases h1
        | _ => cases h1
      | bool => cases c with
        | lit v => cases v <;> first | exact ⟨rfl, fun _ => rfl⟩ | cases h1
        | _ => cases h1
      | str => cases c with
        | lit v => cases v <;> first | exact ⟨rfl, fun _ => rfl⟩ | cases h1
        | _ => cases h1
    · exact noAny_one hn' h.2 c hc
theorem shape_one {ia : Bool} {sh : List CK} {x : AV} (hn : noAny sh = true) (h : x.shape ia sh = true) : ∀ c, c ∈ x.cells → c.one = true ∧ ∀ L, c.lv L = true := by
  cases ia with
  | true =>
    cases x with
    | agg cs => exact noAny_one hn h
    | _ => cases h
  | false =>
    have h1 : fitsAll sh [x] = true := by cases x <;> exact h
    obtain ⟨k, rfl, h2⟩ := fits_one h1
    rw [fits_cells h2]
    exact noAny_one hn h1
theorem allOne_of : ∀ {l : List AV}, (∀ a, a ∈ l → a.one = true) → allOne l = true
  | [], _ => rfl
  | a :: l, h => by simp only [allOne, Bool.and_eq_true]; exact ⟨h a List.mem_cons_self, allOne_of fun b hb => h b (List.mem_cons_of_mem _ hb)⟩
theorem flatC_mem : ∀ {l : List AV} {c : AV}, c ∈ flatC l → ∃ x, x ∈ l ∧ c ∈ x.cells
  | [], _, h => by cases h
  | x :: l, c, h => by
    simp only [flatC, List.mem_append] at h
    rcases h with h | h
    · exact ⟨x, List.mem_cons_self, h⟩
    · obtain ⟨y, hy, hc⟩ := flatC_mem h
      exact ⟨y, List.mem_cons_of_mem _ hy, hc⟩
theorem shapes_of {ia : Bool} {sh : List CK} : ∀ {l : List AV}, (∀ x, x ∈ l → x.shape ia sh = true) → shapes ia sh l = true
  | [], _ => rfl
  | x :: l, h => by simp only [shapes, Bool.and_eq_true]; exact ⟨h x List.mem_cons_self, shapes_of fun y hy => h y (List.mem_cons_of_mem _ hy)⟩

theorem appendK_sound {R : Type} {P : Program} {tm : List AV} {M : Mem} {o : Oper} {k : AV → Mem → Option R} {r : R} (h : appendK P tm M o k = some r) :
    ∃ z M', k z M' = some r ∧ MemOk P tm M o z M' := by
  unfold appendK at h
  split at h
  · rename_i s x t t' hop
    simp only [cond_eq_ite, Bool.and_eq_true, decide_eq_true_eq] at h
    split at h
    · rename_i hc0
      obtain ⟨⟨rfl, hls⟩, hlx⟩ := hc0
      split at h
      · rename_i el hu
        split at h
        · rename_i i hi
          split at h
          · rename_i z hz
            split at h
            · rename_i tr kb olds ia sh hdst
              split at h
              · rename_i e hex
                split at h
                · rename_i hc
                  obtain ⟨⟨⟨⟨⟨⟨⟨e1, e2⟩, hn⟩, c1⟩, c2⟩, c3⟩, c5⟩, c6⟩ := hc
                  refine ⟨_, _, h, fun E a w0 w hT hR => ?_⟩
                  obtain ⟨q, hq, he⟩ : ∃ q, ev tm x = .vec q ∧ M.vecs[q]? = some (some e) := by
                    unfold sameE at hex
                    split at hex
                    · rename_i q hq
                      split at hex
                      · rename_i e' he
                        simp only [Option.some.injEq] at hex
                        subst hex
                        exact ⟨q, hq, he⟩
                      · cases hex
                    · cases hex
                  have hsh : ∀ y, y ∈ e.cont → y.shape ia sh = true := fun y hy => by
                    obtain ⟨j, hj⟩ := List.mem_iff_getElem?.1 hy
                    have := hR.shape he hj
                    rwa [e1, e2] at this
                  have hsrc : srcA M (ev tm x) i.size = some (e.cont.length, flatC e.cont) := by
                    simp [srcA, hq, he, e1, c1]
                  have hch : chunks ia i.size e.cont.length (flatC e.cont) = e.cont := by rw [c1]; exact chunks_flatC hsh hn
                  have hone : ∀ c, c ∈ flatC e.cont → c.one = true ∧ ∀ L, c.lv L = true := fun c hc => by
                    obtain ⟨y, hy, hcy⟩ := flatC_mem hc
                    exact shape_one hn (hsh y hy) c hcy
                  have := append_core hop hls hlx hu hi hz hdst hsrc c1 c2 c3 c5 c6 (allOne_of fun c hc => (hone c hc).1) (lvL_of fun j c hc => (hone c (List.mem_of_getElem? hc)).2 _) (by rw [hch]; exact shapes_of hsh) E a w0 w hT hR
                  rw [hch] at this
                  exact this
                · cases h
              · split at h
                · rename_i m news hsrc
                  split at h
                  · rename_i hc
                    obtain ⟨⟨⟨⟨⟨⟨⟨c1, c2⟩, c3⟩, c5⟩, c6⟩, c7⟩, c8⟩, c9⟩ := hc
                    exact ⟨_, _, h, fun E a w0 w hT hR => append_core hop hls hlx hu hi hz hdst hsrc c1 c2 c3 c5 c6 c7 c8 c9 E a w0 w hT hR⟩
                  · cases h
                · cases h
            · cases h
          · cases h
        · cases h
      · cases h
    · cases h
  · cases h

/-- what is appended to a literal's own row touches none but its block -/
theorem appendK_sl {R : Type} {P : Program} {tm : List AV} {M : Mem} {o : Oper} {k : AV → Mem → Option R} {r : R} {s0 x0 : Operand} {t0 t1 : TypeId} {b off len cap : Nat} (ho : o.op = .call ⟨.builtin .append, ⟨[s0, x0]⟩, ⟨[t0, t1]⟩⟩) (hs0 : ev tm s0 = .sl b off len cap) (h : appendK P tm M o k = some r) :
    ∃ z M', k z M' = some r ∧ MemOk P tm M o z M' ∧ ∃ e, M' = (killX M none (some b)).addV e := by
  unfold appendK at h
  split at h
  · rename_i s x t t' hop
    simp only [cond_eq_ite, Bool.and_eq_true, decide_eq_true_eq] at h
    split at h
    · rename_i hc0
      obtain ⟨⟨rfl, hls⟩, hlx⟩ := hc0
      rw [hop] at ho
      have ho : s = s0 := by injection ho with ho; injection ho with _ ho _; injection ho with ho; injection ho
      subst ho
      split at h
      · rename_i el hu
        split at h
        · rename_i i hi
          split at h
          · rename_i z hz
            split at h
            · rename_i tr kb olds ia sh hdst
              have htk : tr = none ∧ kb = some b := by
                have hd := hdst
                rw [hs0] at hd
                unfold dstA at hd
                split at hd
                · rename_i e; cases e
                · rename_i e; cases e
                · rename_i b' l' c' e
                  simp only [AV.sl.injEq] at e
                  obtain ⟨rfl, _, _, _⟩ := e
                  split at hd
                  · simp only [cond_eq_ite] at hd
                    split at hd
                    · simp only [Option.some.injEq, Prod.mk.injEq] at hd
                      exact ⟨hd.1.symm, hd.2.1.symm⟩
                    · cases hd
                  · cases hd
                · cases hd
              split at h
              · rename_i e hex
                split at h
                · rename_i hc
                  obtain ⟨⟨⟨⟨⟨⟨⟨e1, e2⟩, hn⟩, c1⟩, c2⟩, c3⟩, c5⟩, c6⟩ := hc
                  refine ⟨_, _, h, fun E a w0 w hT hR => ?_, ⟨_, by rw [htk.1, htk.2]⟩⟩
                  obtain ⟨q, hq, he⟩ : ∃ q, ev tm x = .vec q ∧ M.vecs[q]? = some (some e) := by
                    unfold sameE at hex
                    split at hex
                    · rename_i q hq
                      split at hex
                      · rename_i e' he
                        simp only [Option.some.injEq] at hex
                        subst hex
                        exact ⟨q, hq, he⟩
                      · cases hex
                    · cases hex
                  have hsh : ∀ y, y ∈ e.cont → y.shape ia sh = true := fun y hy => by
                    obtain ⟨j, hj⟩ := List.mem_iff_getElem?.1 hy
                    have := hR.shape he hj
                    rwa [e1, e2] at this
                  have hsrc : srcA M (ev tm x) i.size = some (e.cont.length, flatC e.cont) := by
                    simp [srcA, hq, he, e1, c1]
                  have hch : chunks ia i.size e.cont.length (flatC e.cont) = e.cont := by rw [c1]; exact chunks_flatC hsh hn
                  have hone : ∀ c, c ∈ flatC e.cont → c.one = true ∧ ∀ L, c.lv L = true := fun c hc => by
                    obtain ⟨y, hy, hcy⟩ := flatC_mem hc
                    exact shape_one hn (hsh y hy) c hcy
                  have := append_core hop hls hlx hu hi hz hdst hsrc c1 c2 c3 c5 c6 (allOne_of fun c hc => (hone c hc).1) (lvL_of fun j c hc => (hone c (List.mem_of_getElem? hc)).2 _) (by rw [hch]; exact shapes_of hsh) E a w0 w hT hR
                  rw [hch] at this
                  exact this
                · cases h
              · split at h
                · rename_i m news hsrc
                  split at h
                  · rename_i hc
                    obtain ⟨⟨⟨⟨⟨⟨⟨c1, c2⟩, c3⟩, c5⟩, c6⟩, c7⟩, c8⟩, c9⟩ := hc
                    exact ⟨_, _, h, fun E a w0 w hT hR => append_core hop hls hlx hu hi hz hdst hsrc c1 c2 c3 c5 c6 c7 c8 c9 E a w0 w hT hR, ⟨_, by rw [htk.1, htk.2]⟩⟩
                  · cases h
                · cases h
            · cases h
          · cases h
        · cases h
      · cases h
    · cases h
  · cases h


end Go.Sx

namespace Go.Sx
open Go Go.RowKit

/-! A stretch of a region that draws its order: operations that leave the world as it is, pure calls, operations that lay one new block, and some stores that do not wait for all of these. Whatever order is drawn, they may be taken in the order of a plan. -/

inductive Kd where
  | out
  | q0
  | q1
  | g (val : Nat → Value) (obj : Obj)
  | l

section
variable {P : Program} {ops : Array Oper} {C : Array Bool → World → Prop} {B1 : Nat} {T : Nat → Kd} {sE : Array Bool} {K : Act → World → Prop}

/-- it yields v in every world of C, and leaves it -/
def Qy0 (P : Program) (ops : Array Oper) (C : World → Prop) (o : Oper) (a : Act) (v : Value) : Prop :=
  (Region.wanted o (yielded ops a.tmps) = true ∧ ∀ w, C w → (execOp a.eval o).run P w = .ok (.value v) w) ∨ (Region.wanted o (yielded ops a.tmps) = false ∧ v = undef)
/-- a call that yields v and lays what is new alone -/
def Qy1 (P : Program) (ops : Array Oper) (C : World → Prop) (o : Oper) (a : Act) (v : Value) : Prop :=
  (Region.wanted o (yielded ops a.tmps) = true ∧ ∃ f args, ∀ w, C w → (execOp a.eval o).run P w = .ok (.enter f args) w ∧ Calls P f args w (fun e w' => e = .returned v ∧ Below w.heap.size w w')) ∨ (Region.wanted o (yielded ops a.tmps) = false ∧ v = undef)
/-- it lays one block -/
def Gy (P : Program) (ops : Array Oper) (C : World → Prop) (o : Oper) (a : Act) (val : Nat → Value) (obj : Obj) : Prop :=
  Region.wanted o (yielded ops a.tmps) = true ∧ ∀ w, C w → (execOp a.eval o).run P w = .ok (.value (val w.heap.size)) (w.alloc obj)
/-- it turns the world: what may stand then -/
def Ly (P : Program) (ops : Array Oper) (o : Oper) (a : Act) (w : World) (R : Value → World → Prop) : Prop :=
  (Region.wanted o (yielded ops a.tmps) = true ∧ ((∃ v w', (execOp a.eval o).run P w = .ok (.value v) w' ∧ R v w') ∨ (∃ w', (execOp a.eval o).run P w = .ok .skip w' ∧ R undef w') ∨
    (∃ f args, (execOp a.eval o).run P w = .ok (.enter f args) w ∧ Calls P f args w (fun e w' => ∃ v, e = .returned v ∧ R v w')))) ∨ (Region.wanted o (yielded ops a.tmps) = false ∧ R undef w)

theorem Qy0.of_same {D : World → Prop} {o : Oper} {v : Value} {a a' : Act} (h : Qy0 P ops D o a v) (he : execOp a'.eval o = execOp a.eval o ∧ Region.wanted o (yielded ops a'.tmps) = Region.wanted o (yielded ops a.tmps)) : Qy0 P ops D o a' v := by
  unfold Qy0 at *; rw [he.1, he.2]; exact h
theorem Qy1.of_same {D : World → Prop} {o : Oper} {v : Value} {a a' : Act} (h : Qy1 P ops D o a v) (he : execOp a'.eval o = execOp a.eval o ∧ Region.wanted o (yielded ops a'.tmps) = Region.wanted o (yielded ops a.tmps)) : Qy1 P ops D o a' v := by
  unfold Qy1 at *; rw [he.1, he.2]; exact h
theorem Gy.of_same {D : World → Prop} {o : Oper} {val : Nat → Value} {obj : Obj} {a a' : Act} (h : Gy P ops D o a val obj) (he : execOp a'.eval o = execOp a.eval o ∧ Region.wanted o (yielded ops a'.tmps) = Region.wanted o (yielded ops a.tmps)) : Gy P ops D o a' val obj := by
  unfold Gy at *; rw [he.1, he.2]; exact h
theorem Ly.of_same {o : Oper} {w : World} {R : Value → World → Prop} {a a' : Act} (h : Ly P ops o a w R) (he : execOp a'.eval o = execOp a.eval o ∧ Region.wanted o (yielded ops a'.tmps) = Region.wanted o (yielded ops a.tmps)) : Ly P ops o a' w R := by
  unfold Ly at *; rw [he.1, he.2]; exact h
theorem Qy0.sub {D D' : World → Prop} {o : Oper} {v : Value} {a : Act} (hd : ∀ w, D w → D' w) (h : Qy0 P ops D' o a v) : Qy0 P ops D o a v :=
  h.imp (fun ⟨h1, h2⟩ => ⟨h1, fun w hw => h2 w (hd w hw)⟩) id
theorem Qy1.sub {D D' : World → Prop} {o : Oper} {v : Value} {a : Act} (hd : ∀ w, D w → D' w) (h : Qy1 P ops D' o a v) : Qy1 P ops D o a v :=
  h.imp (fun ⟨h1, f, args, h2⟩ => ⟨h1, f, args, fun w hw => h2 w (hd w hw)⟩) id
theorem Gy.sub {D D' : World → Prop} {o : Oper} {val : Nat → Value} {obj : Obj} {a : Act} (hd : ∀ w, D w → D' w) (h : Gy P ops D' o a val obj) : Gy P ops D o a val obj :=
  ⟨h.1, fun w hw => h.2 w (hd w hw)⟩
theorem Qy0.det {D : World → Prop} {o : Oper} {v v' : Value} {a : Act} {w : World} (hw : D w) (h : Qy0 P ops D o a v) (h' : Qy0 P ops D o a v') : v = v' := by
  rcases h with ⟨h1, h2⟩ | ⟨h1, h2⟩ <;> rcases h' with ⟨g1, g2⟩ | ⟨g1, g2⟩
  · have := (h2 w hw).symm.trans (g2 w hw)
    simpa using this
  · rw [h1] at g1; cases g1
  · rw [h1] at g1; cases g1
  · rw [h2, g2]

/-- f operations of the stretch, in whatever order; then K. U: blocks that are known by name already. -/
def anyR (P : Program) (ops : Array Oper) (C : Array Bool → World → Prop) (B1 : Nat) (T : Nat → Kd) (sE : Array Bool) (K : Act → World → Prop) : Nat → (Nat → Prop) → Array Bool → Act → World → Prop
  | 0 => fun _ s a w => s = sE ∧ K a w
  | f + 1 => fun U s a w => Region.ready .any ops s ≠ [] ∧ ∀ j, j ∈ Region.ready .any ops s → ∃ oj, ops[j]? = some oj ∧
      match T j with
      | .out => False
      | .q0 => ∃ v, Qy0 P ops (C s) oj a v ∧ anyR P ops C B1 T sE K f U (s.setIfInBounds j true) (a.put oj.dst v) w
      | .q1 => ∃ v, Qy1 P ops (C s) oj a v ∧ ∀ w', Below w.heap.size w w' → anyR P ops C B1 T sE K f U (s.setIfInBounds j true) (a.put oj.dst v) w'
      | .g val obj => Gy P ops (C s) oj a val obj ∧ ∀ r w', Below w.heap.size w w' → B1 ≤ r → ¬ U r → w'.heap[r]? = some obj → anyR P ops C B1 T sE K f (fun x => U x ∨ x = r) (s.setIfInBounds j true) (a.put oj.dst (val r)) w'
      | .l => ∃ R : Value → World → Prop, Ly P ops oj a w R ∧ ∀ v w', R v w' → C (s.setIfInBounds j true) w' ∧ w.heap.size ≤ w'.heap.size ∧ anyR P ops C B1 T sE K f U (s.setIfInBounds j true) (a.put oj.dst v) w'

/-- C holds later, too -/
def Lasts (C : World → Prop) : Prop := ∀ w w', C w → Below w.heap.size w w' → C w'

theorem below_alloc (w : World) (o : Obj) : Below w.heap.size w (w.alloc o) := (Below.refl _ _).alloc (Nat.le_refl _) o
theorem below_thru {w w1 w2 : World} (h : Below w.heap.size w w1) (h' : Below w1.heap.size w1 w2) : Below w.heap.size w w2 := h.trans (h'.mono h.size)

theorem getD_setv_ne {l : Array Bool} {i j : Nat} (v d : Bool) (h : i ≠ j) : (l.setIfInBounds i v).getD j d = l.getD j d := by
  simp [Array.getElem?_setIfInBounds_ne h]

theorem ready_up {s s' : Array Bool} {j : Nat} (hj : j ∈ Region.ready .any ops s) (h : ∀ k, s.getD k false = true → s'.getD k false = true) (hu : s'.getD j true = false) : j ∈ Region.ready .any ops s' := by
  obtain ⟨_, o, ho, hall⟩ := mem_ready.1 hj
  exact mem_ready.2 ⟨hu, o, ho, fun e he hb => h _ (hall e he hb)⟩

theorem lt_of_undone {s : Array Bool} {j : Nat} (h : s.getD j true = false) : j < s.size := by
  rcases Nat.lt_or_ge j s.size with h' | h'
  · exact h'
  · simp [Array.getElem?_eq_none h'] at h

/-- whatever is listed, so is all that it waits for -/
def Closed (ops : Array Oper) (s : Array Bool) : Prop :=
  ∀ j oj, ops[j]? = some oj → s.getD j false = true → ∀ e ∈ oj.after, Region.binds .any e = true → s.getD e.on false = true

theorem Closed.set {s : Array Bool} (h : Closed ops s) {j : Nat} (hj : j ∈ Region.ready .any ops s) : Closed ops (s.setIfInBounds j true) := by
  obtain ⟨_, oj, hoj, hall⟩ := mem_ready.1 hj
  intro m om hm hl e he hb
  by_cases hjm : j = m
  · subst hjm
    have : om = oj := Option.some.inj (hm.symm.trans hoj)
    subst this
    exact getD_set_true (hall e he hb)
  · rw [getD_setv_ne _ _ hjm] at hl
    exact getD_set_true (h m om hm hl e he hb)

/-- where the order stands, in the stretch -/
structure Inv (ops : Array Oper) (T : Nat → Kd) (sE s : Array Bool) : Prop where
  size : s.size = sE.size
  sub : ∀ j, s.getD j false = true → sE.getD j false = true
  old : ∀ j, T j = .out → sE.getD j false = true → s.getD j false = true
  closed : Closed ops s

/-- what is asked of the text -/
structure Seg (ops : Array Oper) (T : Nat → Kd) (sE : Array Bool) : Prop where
  sel : ∀ (j : Nat) (o : Oper) cs b, ops[j]? = some o → o.op ≠ .select cs b
  inn : ∀ j, T j ≠ .out → sE.getD j false = true
  isIn : ∀ {s : Array Bool}, Inv ops T sE s → ∀ {i j : Nat}, s.getD i true = false → T i ≠ .out → j ∈ Region.ready .any ops s → T j ≠ .out
  notLoose : ∀ {s : Array Bool}, Inv ops T sE s → ∀ {i j : Nat}, s.getD i true = false → T i ≠ .out → T i ≠ .q0 → T i ≠ .l → j ∈ Region.ready .any ops s → T j ≠ .l

/-- what holds of the world, by how far the order is: it lasts, it may become less, and it is least once something loose stands -/
structure Cs (ops : Array Oper) (T : Nat → Kd) (sE : Array Bool) (C : Array Bool → World → Prop) : Prop where
  lasts : ∀ s, Lasts (C s)
  up : ∀ (s : Array Bool) (j : Nat) (w : World), C s w → C (s.setIfInBounds j true) w
  loose : ∀ {s : Array Bool} {j : Nat}, Inv ops T sE s → T j = .l → j ∈ Region.ready .any ops s → ∀ s' w, C s' w → C (s.setIfInBounds j true) w

theorem Inv.set {s : Array Bool} (S : Seg ops T sE) (h : Inv ops T sE s) {j : Nat} (hj : T j ≠ .out) (hr : j ∈ Region.ready .any ops s) : Inv ops T sE (s.setIfInBounds j true) := by
  refine ⟨by simp [h.size], fun k hk => ?_, fun k hk hE => getD_set_true (h.old k hk hE), h.closed.set hr⟩
  by_cases e : j = k
  · subst e; exact S.inn _ hj
  · rw [getD_setv_ne _ _ e] at hk; exact h.sub k hk

theorem anyR_run {Q : Exit → Act → World → Prop} {g : Nat} (hC : Cs ops T sE C) (hK : ∀ a w, K a w → wpAny P .any ops Q g sE a w) :
    ∀ (f : Nat) (U : Nat → Prop) (s : Array Bool) (a : Act) (w : World), C s w → B1 ≤ w.heap.size → (∀ r, U r → r < w.heap.size) → anyR P ops C B1 T sE K f U s a w → wpAny P .any ops Q (f + g) s a w := by
  intro f
  induction f with
  | zero => intro U s a w hw _ _ h; rw [Nat.zero_add]; obtain ⟨rfl, h⟩ := h; exact hK a w h
  | succ f ih =>
    intro U s a w hw hB hU h
    rw [Nat.add_right_comm]
    refine ⟨fun e => absurd e h.1, fun j hj => ?_⟩
    obtain ⟨oj, hoj, hstep⟩ := h.2 j hj
    unfold wpOp
    simp only [hoj]
    have later : ∀ w', Below w.heap.size w w' → C (s.setIfInBounds j true) w' ∧ B1 ≤ w'.heap.size ∧ ∀ r, U r → r < w'.heap.size := fun w' hb => ⟨hC.up s j w' (hC.lasts s w w' hw hb), Nat.le_trans hB hb.size, fun r hr => Nat.lt_of_lt_of_le (hU r hr) hb.size⟩
    cases hT : T j with
    | out => simp only [hT] at hstep
    | q0 =>
      simp only [hT] at hstep
      obtain ⟨v, hq, hk⟩ := hstep
      rcases hq with ⟨hwt, hrun⟩ | ⟨hwt, rfl⟩
      · rw [if_pos hwt]
        refine .inl ?_
        unfold Oper.wp
        rw [hrun w hw]
        exact ih U _ _ w (hC.up s j w hw) hB hU hk
      · rw [if_neg (by rw [hwt]; exact Bool.false_ne_true)]
        exact ih U _ _ w (hC.up s j w hw) hB hU hk
    | q1 =>
      simp only [hT] at hstep
      obtain ⟨v, hq, hk⟩ := hstep
      rcases hq with ⟨hwt, f', args, hrun⟩ | ⟨hwt, rfl⟩
      · rw [if_pos hwt]
        refine .inl ?_
        unfold Oper.wp
        rw [(hrun w hw).1]
        refine (hrun w hw).2.mono fun e w' ⟨he, hb⟩ => ?_
        subst he
        obtain ⟨h1, h2, h3⟩ := later w' hb
        exact ih U _ _ w' h1 h2 h3 (hk w' hb)
      · rw [if_neg (by rw [hwt]; exact Bool.false_ne_true)]
        exact ih U _ _ w (hC.up s j w hw) hB hU (hk w (Below.refl _ _))
    | g val obj =>
      simp only [hT] at hstep
      obtain ⟨hg, hk⟩ := hstep
      rw [if_pos hg.1]
      refine .inl ?_
      unfold Oper.wp
      rw [hg.2 w hw]
      have hb := below_alloc w obj
      obtain ⟨h1, h2, _⟩ := later _ hb
      refine ih (fun x => U x ∨ x = w.heap.size) _ _ _ h1 h2 (fun r hr => ?_) (hk w.heap.size _ hb hB (fun hu => Nat.lt_irrefl _ (hU _ hu)) (by show (w.heap.push obj)[w.heap.size]? = _; simp))
      rcases hr with hr | rfl
      · exact Nat.lt_of_lt_of_le (hU r hr) hb.size
      · simp
    | l =>
      simp only [hT] at hstep
      obtain ⟨R, hl, hk⟩ := hstep
      have go : ∀ v w', R v w' → wpAny P .any ops Q (f + g) (s.setIfInBounds j true) (a.put oj.dst v) w' := fun v w' hr => by
        obtain ⟨hw', hsz, hk'⟩ := hk v w' hr
        exact ih U _ _ w' hw' (Nat.le_trans hB hsz) (fun r hr => Nat.lt_of_lt_of_le (hU r hr) hsz) hk'
      rcases hl with ⟨hwt, hrun⟩ | ⟨hwt, hr⟩
      · rw [if_pos hwt]
        refine .inl ?_
        unfold Oper.wp
        rcases hrun with ⟨v, w', hrun, hr⟩ | ⟨w', hrun, hr⟩ | ⟨f', args, hrun, hc⟩
        · rw [hrun]; exact go v w' hr
        · rw [hrun]; exact go undef w' hr
        · rw [hrun]
          refine hc.mono fun e w' ⟨v, he, hr⟩ => ?_
          subst he
          exact go v w' hr
      · rw [if_neg (by rw [hwt]; exact Bool.false_ne_true)]
        exact go undef w hr

theorem anyR_mono : ∀ (f : Nat) (U U' : Nat → Prop) (s : Array Bool) (a : Act) (w : World), (∀ x, U' x → U x) → anyR P ops C B1 T sE K f U' s a w → anyR P ops C B1 T sE K f U s a w := by
  intro f
  induction f with
  | zero => intro U U' s a w _ h'; exact h'
  | succ f ih =>
    intro U U' s a w h h'
    refine ⟨h'.1, fun j hj => ?_⟩
    obtain ⟨oj, hoj, hs⟩ := h'.2 j hj
    refine ⟨oj, hoj, ?_⟩
    cases hT : T j with
    | out => simp only [hT] at hs
    | q0 => simp only [hT] at hs ⊢; obtain ⟨v, hq, hk⟩ := hs; exact ⟨v, hq, ih U U' _ _ _ h hk⟩
    | q1 => simp only [hT] at hs ⊢; obtain ⟨v, hq, hk⟩ := hs; exact ⟨v, hq, fun w' hb => ih U U' _ _ _ h (hk w' hb)⟩
    | g val obj => simp only [hT] at hs ⊢; obtain ⟨hg, hk⟩ := hs; exact ⟨hg, fun r w' hb h1 h2 h3 => ih _ _ _ _ _ (fun x hx => hx.imp (h x) id) (hk r w' hb h1 (fun hu => h2 (h r hu)) h3)⟩
    | l => simp only [hT] at hs ⊢; obtain ⟨R, h1, hk⟩ := hs; exact ⟨R, h1, fun v w' hr => let ⟨h2, h3, h4⟩ := hk v w' hr; ⟨h2, h3, ih U U' _ _ _ h h4⟩⟩

/-- what is asked of operation i against those that are still to come -/
def Free (ops : Array Oper) (s : Array Bool) (i : Nat) (oi : Oper) : Prop :=
  ∀ j oj, ops[j]? = some oj → j ≠ i → s.getD j true = false → (∀ e ∈ oj.after, Region.binds .any e = true → e.on ≠ i) → oi.apart ops oj = true

theorem Free.later {s : Array Bool} {i j : Nat} {oi : Oper} (h : Free ops s i oi) (hj : s.getD j true = false) : Free ops (s.setIfInBounds j true) i oi := by
  intro m om hm hmi hmun hmf
  refine h m om hm hmi ?_ hmf
  by_cases e : j = m
  · exact e ▸ hj
  · rwa [getD_set_ne true e] at hmun

theorem ready_free {s : Array Bool} {i j : Nat} (hi : s.getD i true = false) (hj : j ∈ Region.ready .any ops s) : s.getD j true = false ∧ ∃ oj, ops[j]? = some oj ∧ ∀ e ∈ oj.after, Region.binds .any e = true → e.on ≠ i := by
  obtain ⟨hjun, oj, hoj, hall⟩ := mem_ready.1 hj
  refine ⟨hjun, oj, hoj, fun x hx hb hon => ?_⟩
  have h1 := hall x hx hb
  rw [hon, getD_both hi] at h1
  cases h1

/-- the two operations do not meet in a slot -/
structure Apart (ops : Array Oper) (oi oj : Oper) : Prop where
  ij : ∀ (a : Act) (u : Value), execOp (a.put oi.dst u).eval oj = execOp a.eval oj ∧ Region.wanted oj (yielded ops (a.put oi.dst u).tmps) = Region.wanted oj (yielded ops a.tmps)
  ji : ∀ (a : Act) (u : Value), execOp (a.put oj.dst u).eval oi = execOp a.eval oi ∧ Region.wanted oi (yielded ops (a.put oj.dst u).tmps) = Region.wanted oi (yielded ops a.tmps)
  comm : ∀ (a : Act) (u v : Value), (a.put oi.dst u).put oj.dst v = (a.put oj.dst v).put oi.dst u
theorem Apart.ij' {oi oj : Oper} (h : Apart ops oi oj) (a : Act) (u : Value) : execOp a.eval oj = execOp (a.put oi.dst u).eval oj ∧ Region.wanted oj (yielded ops a.tmps) = Region.wanted oj (yielded ops (a.put oi.dst u).tmps) :=
  ⟨(h.ij a u).1.symm, (h.ij a u).2.symm⟩

theorem Apart.of {oi oj : Oper} (h : oi.apart ops oj = true) (hsi : ∀ cs b, oi.op ≠ .select cs b) (hsj : ∀ cs b, oj.op ≠ .select cs b) : Apart ops oi oj := by
  obtain ⟨h1, h2, h3⟩ := Oper.apart_spec h
  exact ⟨fun a u => ⟨execOp_put oj hsj a oi.dst u h1, wanted_put oj a oi.dst u h1⟩, fun a u => ⟨execOp_put oi hsi a oj.dst u h3, wanted_put oi a oj.dst u h3⟩, fun a u v => Act.put_comm a u v h2⟩

theorem Seg.apart {s : Array Bool} (S : Seg ops T sE) {i : Nat} {oi : Oper} (hi : ops[i]? = some oi) (hr : i ∈ Region.ready .any ops s) (hfree : Free ops s i oi) {j : Nat} (hj : j ∈ Region.ready .any ops s) (e : j ≠ i) :
    s.getD j true = false ∧ ∃ oj, ops[j]? = some oj ∧ Apart ops oi oj := by
  obtain ⟨hjun, oj, hoj, hjf⟩ := ready_free (mem_ready.1 hr).1 hj
  exact ⟨hjun, oj, hoj, Apart.of (hfree j oj hoj e hjun hjf) (fun cs b => S.sel i oi cs b hi) (fun cs b => S.sel j oj cs b hoj)⟩

theorem last_no {s : Array Bool} (S : Seg ops T sE) (hinv : Inv ops T sE s) {i j : Nat} (hT : T i ≠ .out) (hr : i ∈ Region.ready .any ops s) (hj : j ∈ Region.ready .any ops s) (e : j ≠ i) (h : s.setIfInBounds i true = sE) : False := by
  have h1 := S.inn j (S.isIn hinv (mem_ready.1 hr).1 hT hj)
  rw [← h, getD_setv_ne _ _ (Ne.symm e), getD_both (mem_ready.1 hj).1] at h1
  cases h1

theorem anyR_q0 (S : Seg ops T sE) (hC : Cs ops T sE C) {i : Nat} {oi : Oper} {v : Value} (hi : ops[i]? = some oi) (hT : T i = .q0) :
    ∀ (f : Nat) (U : Nat → Prop) (s : Array Bool) (a : Act) (w : World), Inv ops T sE s → i ∈ Region.ready .any ops s → Free ops s i oi → (∀ s', (∀ k, s.getD k false = true → s'.getD k false = true) → s'.getD i true = false → Qy0 P ops (C s') oi a v) → C s w →
      anyR P ops C B1 T sE K f U (s.setIfInBounds i true) (a.put oi.dst v) w → anyR P ops C B1 T sE K (f + 1) U s a w := by
  have hTo : T i ≠ .out := by rw [hT]; exact fun h => by cases h
  intro f
  induction f with
  | zero =>
    intro U s a w hinv hr hfree hy hw h
    refine ⟨fun e => (by rw [e] at hr; cases hr), fun j hj => ?_⟩
    by_cases e : j = i
    · subst e; exact ⟨oi, hi, by simp only [hT]; exact ⟨v, hy s (fun _ h => h) (mem_ready.1 hr).1, h⟩⟩
    · exact (last_no S hinv hTo hr hj e h.1).elim
  | succ f ih =>
    intro U s a w hinv hr hfree hy hw h
    refine ⟨fun e => (by rw [e] at hr; cases hr), fun j hj => ?_⟩
    by_cases e : j = i
    · subst e; exact ⟨oi, hi, by simp only [hT]; exact ⟨v, hy s (fun _ h => h) (mem_ready.1 hr).1, h⟩⟩
    · obtain ⟨hjun, oj, hoj, hap⟩ := S.apart hi hr hfree hj e
      obtain ⟨oj', hoj', hform⟩ := h.2 j (ready_mono hj e)
      have : oj' = oj := Option.some.inj (hoj'.symm.trans hoj)
      subst this
      have hin := S.isIn hinv (mem_ready.1 hr).1 hTo hj
      have hr' := ready_mono hr (Ne.symm e)
      refine ⟨oj', hoj, ?_⟩
      cases hTj : T j with
      | out => exact (hin hTj).elim
      | q0 =>
        simp only [hTj] at hform ⊢
        obtain ⟨u, hq, hk⟩ := hform
        refine ⟨u, (hq.sub (fun w hw => hC.up s i w hw)).of_same (hap.ij' a v), ih U _ _ w (hinv.set S hin hj) hr' (hfree.later hjun) (fun s' hs hu' => (hy s' (fun k hk => hs k (getD_set_true hk)) hu').of_same (hap.ji a u)) (hC.up s j w hw) ?_⟩
        rw [← hap.comm a v u, Array.setIfInBounds_comm _ _ e]
        exact hk
      | q1 =>
        simp only [hTj] at hform ⊢
        obtain ⟨u, hq, hk⟩ := hform
        refine ⟨u, (hq.sub (fun w hw => hC.up s i w hw)).of_same (hap.ij' a v), fun w1 hb1 => ih U _ _ w1 (hinv.set S hin hj) hr' (hfree.later hjun) (fun s' hs hu' => (hy s' (fun k hk => hs k (getD_set_true hk)) hu').of_same (hap.ji a u)) (hC.up s j w1 (hC.lasts s w w1 hw hb1)) ?_⟩
        rw [← hap.comm a v u, Array.setIfInBounds_comm _ _ e]
        exact hk w1 hb1
      | g val obj =>
        simp only [hTj] at hform ⊢
        obtain ⟨hg, hk⟩ := hform
        refine ⟨(hg.sub (fun w hw => hC.up s i w hw)).of_same (hap.ij' a v), fun r w1 hb1 h1 h2 h3 => ih _ _ _ w1 (hinv.set S hin hj) hr' (hfree.later hjun) (fun s' hs hu' => (hy s' (fun k hk => hs k (getD_set_true hk)) hu').of_same (hap.ji a _)) (hC.up s j w1 (hC.lasts s w w1 hw hb1)) ?_⟩
        rw [← hap.comm a v (val r), Array.setIfInBounds_comm _ _ e]
        exact hk r w1 hb1 h1 h2 h3
      | l =>
        simp only [hTj] at hform ⊢
        obtain ⟨R, hl, hk⟩ := hform
        refine ⟨R, hl.of_same (hap.ij' a v), fun u w1 hru => ?_⟩
        obtain ⟨hw1, hsz, hk⟩ := hk u w1 hru
        have hw1' := hC.loose hinv hTj hj _ _ hw1
        refine ⟨hw1', hsz, ih U _ _ w1 (hinv.set S hin hj) hr' (hfree.later hjun) (fun s' hs hu' => (hy s' (fun k hk => hs k (getD_set_true hk)) hu').of_same (hap.ji a u)) hw1' ?_⟩
        rw [← hap.comm a v u, Array.setIfInBounds_comm _ _ e]
        exact hk

theorem anyR_q1 (S : Seg ops T sE) (hC : Cs ops T sE C) {i : Nat} {oi : Oper} {v : Value} (hi : ops[i]? = some oi) (hT : T i = .q1) :
    ∀ (f : Nat) (U : Nat → Prop) (s : Array Bool) (a : Act) (w : World), Inv ops T sE s → i ∈ Region.ready .any ops s → Free ops s i oi → (∀ s', (∀ k, s.getD k false = true → s'.getD k false = true) → s'.getD i true = false → Qy1 P ops (C s') oi a v) → C s w →
      (∀ w', Below w.heap.size w w' → anyR P ops C B1 T sE K f U (s.setIfInBounds i true) (a.put oi.dst v) w') → anyR P ops C B1 T sE K (f + 1) U s a w := by
  have hTo : T i ≠ .out := by rw [hT]; exact fun h => by cases h
  intro f
  induction f with
  | zero =>
    intro U s a w hinv hr hfree hy hw h
    refine ⟨fun e => (by rw [e] at hr; cases hr), fun j hj => ?_⟩
    by_cases e : j = i
    · subst e; exact ⟨oi, hi, by simp only [hT]; exact ⟨v, hy s (fun _ h => h) (mem_ready.1 hr).1, h⟩⟩
    · exact (last_no S hinv hTo hr hj e (h w (Below.refl _ _)).1).elim
  | succ f ih =>
    intro U s a w hinv hr hfree hy hw h
    refine ⟨fun e => (by rw [e] at hr; cases hr), fun j hj => ?_⟩
    by_cases e : j = i
    · subst e; exact ⟨oi, hi, by simp only [hT]; exact ⟨v, hy s (fun _ h => h) (mem_ready.1 hr).1, h⟩⟩
    · obtain ⟨hjun, oj, hoj, hap⟩ := S.apart hi hr hfree hj e
      have hfm : ∀ w', Below w.heap.size w w' → _ := fun w' hb => (h w' hb).2 j (ready_mono hj e)
      have hin := S.isIn hinv (mem_ready.1 hr).1 hTo hj
      have hr' := ready_mono hr (Ne.symm e)
      refine ⟨oj, hoj, ?_⟩
      cases hTj : T j with
      | out => exact (hin hTj).elim
      | q0 =>
        simp only [hTj] at hfm ⊢
        obtain ⟨o1, ho1, u, hq, _⟩ := hfm w (Below.refl _ _)
        have : o1 = oj := Option.some.inj (ho1.symm.trans hoj)
        subst this
        refine ⟨u, (hq.sub (fun w hw => hC.up s i w hw)).of_same (hap.ij' a v), ih U _ _ w (hinv.set S hin hj) hr' (hfree.later hjun) (fun s' hs hu' => (hy s' (fun k hk => hs k (getD_set_true hk)) hu').of_same (hap.ji a u)) (hC.up s j w hw) fun w2 hb2 => ?_⟩
        obtain ⟨o2, ho2, u2, hq2, hk2⟩ := hfm w2 hb2
        have : o2 = o1 := Option.some.inj (ho2.symm.trans hoj)
        subst this
        have := hq.det (hC.up s i w hw) hq2
        subst this
        rw [← hap.comm a v u, Array.setIfInBounds_comm _ _ e]
        exact hk2
      | q1 =>
        simp only [hTj] at hfm ⊢
        obtain ⟨o1, ho1, u, hq, hk⟩ := hfm w (Below.refl _ _)
        have : o1 = oj := Option.some.inj (ho1.symm.trans hoj)
        subst this
        refine ⟨u, (hq.sub (fun w hw => hC.up s i w hw)).of_same (hap.ij' a v), fun w1 hb1 => ih U _ _ w1 (hinv.set S hin hj) hr' (hfree.later hjun) (fun s' hs hu' => (hy s' (fun k hk => hs k (getD_set_true hk)) hu').of_same (hap.ji a u)) (hC.up s j w1 (hC.lasts s w w1 hw hb1)) fun w2 hb2 => ?_⟩
        rw [← hap.comm a v u, Array.setIfInBounds_comm _ _ e]
        exact hk w2 (below_thru hb1 hb2)
      | g val obj =>
        simp only [hTj] at hfm ⊢
        obtain ⟨o1, ho1, hg, hk⟩ := hfm w (Below.refl _ _)
        have : o1 = oj := Option.some.inj (ho1.symm.trans hoj)
        subst this
        refine ⟨(hg.sub (fun w hw => hC.up s i w hw)).of_same (hap.ij' a v), fun r w1 hb1 h1 h2 h3 => ih _ _ _ w1 (hinv.set S hin hj) hr' (hfree.later hjun) (fun s' hs hu' => (hy s' (fun k hk => hs k (getD_set_true hk)) hu').of_same (hap.ji a _)) (hC.up s j w1 (hC.lasts s w w1 hw hb1)) fun w2 hb2 => ?_⟩
        rw [← hap.comm a v (val r), Array.setIfInBounds_comm _ _ e]
        exact hk r w2 (below_thru hb1 hb2) h1 h2 ((hb2.block r (heap_lt h3)).trans h3)
      | l => exact (S.notLoose hinv (mem_ready.1 hr).1 hTo (by rw [hT]; exact fun h => by cases h) (by rw [hT]; exact fun h => by cases h) hj hTj).elim

theorem anyR_g (S : Seg ops T sE) (hC : Cs ops T sE C) {i : Nat} {oi : Oper} {val : Nat → Value} {obj : Obj} (hi : ops[i]? = some oi) (hT : T i = .g val obj) :
    ∀ (f : Nat) (U : Nat → Prop) (s : Array Bool) (a : Act) (w : World), Inv ops T sE s → (∀ j, T j = .q0 ∨ T j = .q1 → s.getD j false = true) → i ∈ Region.ready .any ops s → Free ops s i oi → (∀ s', (∀ k, s.getD k false = true → s'.getD k false = true) → s'.getD i true = false → Gy P ops (C s') oi a val obj) → C s w → B1 ≤ w.heap.size → (∀ r, U r → r < w.heap.size) →
      (∀ r w', Below w.heap.size w w' → B1 ≤ r → ¬ U r → w'.heap[r]? = some obj → anyR P ops C B1 T sE K f (fun x => U x ∨ x = r) (s.setIfInBounds i true) (a.put oi.dst (val r)) w') → anyR P ops C B1 T sE K (f + 1) U s a w := by
  have hTo : T i ≠ .out := by rw [hT]; exact fun h => by cases h
  intro f
  induction f with
  | zero =>
    intro U s a w hinv hqd hr hfree hy hw hB hU h
    refine ⟨fun e => (by rw [e] at hr; cases hr), fun j hj => ?_⟩
    by_cases e : j = i
    · subst e; exact ⟨oi, hi, by simp only [hT]; exact ⟨hy s (fun _ h => h) (mem_ready.1 hr).1, h⟩⟩
    · have h0 := h w.heap.size (w.alloc obj) (below_alloc w obj) hB (fun hu => Nat.lt_irrefl _ (hU _ hu)) (by show (w.heap.push obj)[w.heap.size]? = _; simp)
      exact (last_no S hinv hTo hr hj e h0.1).elim
  | succ f ih =>
    intro U s a w hinv hqd hr hfree hy hw hB hU h
    refine ⟨fun e => (by rw [e] at hr; cases hr), fun j hj => ?_⟩
    by_cases e : j = i
    · subst e; exact ⟨oi, hi, by simp only [hT]; exact ⟨hy s (fun _ h => h) (mem_ready.1 hr).1, h⟩⟩
    · obtain ⟨hjun, oj, hoj, hap⟩ := S.apart hi hr hfree hj e
      have h0 := h w.heap.size (w.alloc obj) (below_alloc w obj) hB (fun hu => Nat.lt_irrefl _ (hU _ hu)) (by show (w.heap.push obj)[w.heap.size]? = _; simp)
      obtain ⟨oj', hoj', hform⟩ := h0.2 j (ready_mono hj e)
      have : oj' = oj := Option.some.inj (hoj'.symm.trans hoj)
      subst this
      have hin := S.isIn hinv (mem_ready.1 hr).1 hTo hj
      have hr' := ready_mono hr (Ne.symm e)
      refine ⟨oj', hoj, ?_⟩
      cases hTj : T j with
      | out => exact (hin hTj).elim
      | q0 => have := hqd j (.inl hTj); rw [getD_both hjun] at this; cases this
      | q1 => have := hqd j (.inr hTj); rw [getD_both hjun] at this; cases this
      | l => exact (S.notLoose hinv (mem_ready.1 hr).1 hTo (by rw [hT]; exact fun h => by cases h) (by rw [hT]; exact fun h => by cases h) hj hTj).elim
      | g valj objj =>
        simp only [hTj] at hform ⊢
        obtain ⟨hg, _⟩ := hform
        refine ⟨(hg.sub (fun w hw => hC.up s i w hw)).of_same (hap.ij' a _), fun rj w1 hb1 h1 h2 h3 => ?_⟩
        refine ih _ _ _ w1 (hinv.set S hin hj) (fun k hk => getD_set_true (hqd k hk)) hr' (hfree.later hjun) (fun s' hs hu' => (hy s' (fun k hk => hs k (getD_set_true hk)) hu').of_same (hap.ji a _)) (hC.up s j w1 (hC.lasts s w w1 hw hb1)) (Nat.le_trans hB hb1.size) ?_ fun ri w2 hb2 g1 g2 g3 => ?_
        · intro r hr'
          rcases hr' with hr' | rfl
          · exact Nat.lt_of_lt_of_le (hU r hr') hb1.size
          · exact heap_lt h3
        · have hu : ¬ U ri := fun hu => g2 (.inl hu)
          have hne : ri ≠ rj := fun e => g2 (.inr e)
          obtain ⟨oj2, hoj2, hform2⟩ := (h ri w2 (below_thru hb1 hb2) g1 hu g3).2 j (ready_mono hj e)
          have : oj2 = oj' := Option.some.inj (hoj2.symm.trans hoj)
          subst this
          simp only [hTj] at hform2
          obtain ⟨_, hk2⟩ := hform2
          have hr2 : w2.heap[rj]? = some objj := (hb2.block rj (heap_lt h3)).trans h3
          have := hk2 rj w2 (Below.refl _ _) h1 (fun hh => hh.elim h2 (fun e => hne e.symm)) hr2
          rw [← hap.comm a (val ri) (valj rj), Array.setIfInBounds_comm _ _ e]
          exact anyR_mono f _ _ _ _ _ (fun x hx => hx.elim (fun hx => hx.elim (fun hx => .inl (.inl hx)) .inr) (fun hx => .inl (.inr hx))) this

theorem anyR_l {i : Nat} {oi : Oper} {R : Value → World → Prop} (hi : ops[i]? = some oi) (hT : T i = .l) {f : Nat} {U : Nat → Prop} {s : Array Bool} {a : Act} {w : World} (hr : Region.ready .any ops s = [i]) (hl : Ly P ops oi a w R)
    (h : ∀ v w', R v w' → C (s.setIfInBounds i true) w' ∧ w.heap.size ≤ w'.heap.size ∧ anyR P ops C B1 T sE K f U (s.setIfInBounds i true) (a.put oi.dst v) w') : anyR P ops C B1 T sE K (f + 1) U s a w := by
  refine ⟨fun e => (by rw [e] at hr; cases hr), fun j hj => ?_⟩
  rw [hr] at hj
  have : j = i := by simpa using hj
  subst this
  exact ⟨oi, hi, by simp only [hT]; exact ⟨R, hl, h⟩⟩

end
end Go.Sx

namespace Go.Sx
open Go Go.RowKit

/-! make, and a store into one of the walk's own rows -/

def opSame : Operand → Operand → Bool
  | .tmp a, .tmp b => Nat.beq a b
  | _, _ => false
def zeroEl (ia : Bool) (z : Value) : AV := match ia with
  | true => .agg (AV.lit z).cells
  | false => .lit z
def makeK {R : Type} (P : Program) (tm : List AV) (M : Mem) (o : Oper) (k : AV → Mem → Option R) : Option R :=
  match o.op with
  | .makeSlice t l c => match ev tm l, ev tm c with
    | .lit (.int k1 n), .lit (.int k2 m) => match P.underlying t with
      | some (.slice el) => match P.info? el, shT P el with
        | some i, some (ia, sh) => match i.zero with
          | some z =>
            bif (opSame l c || decide (n = m)) && decide (0 ≤ n) && decide (n ≤ 65536) && decide (i.size = sh.length) && decide (z.cells.size = i.size) && decide (0 < i.size) && decide (i.bytes ≤ 1048576) && (zeroEl ia z).shape ia sh then
              k (.vec M.vecs.length) (M.addV ⟨el, ia, sh, M.vecs.length, true, true, List.replicate n.toNat (zeroEl ia z)⟩)
            else none
          | none => none
        | _, _ => none
      | _ => none
    | _, _ => none
  | _ => none

theorem zeroEl_cells {ia : Bool} {z : Value} {sh : List CK} (h : (zeroEl ia z).shape ia sh = true) : (zeroEl ia z).cells = (AV.lit z).cells := by
  cases ia with
  | true => rfl
  | false => rfl

theorem makeK_sound {R : Type} {P : Program} {tm : List AV} {M : Mem} {o : Oper} {k : AV → Mem → Option R} {r : R} (h : makeK P tm M o k = some r) :
    ∃ z M', k z M' = some r ∧ MemOk P tm M o z M' := by
  obtain ⟨dst, op, ty, pos, after, guard⟩ := o
  unfold makeK at h
  simp only at h
  split at h
  · rename_i t l c
    split at h
    · rename_i k1 n k2 m hl hc
      split at h
      · rename_i el hu
        split at h
        · rename_i i ia sh hi hsh
          split at h
          · rename_i z hz
            simp only [cond_eq_ite, Bool.and_eq_true, Bool.or_eq_true, decide_eq_true_eq] at h
            split at h
            · rename_i hb
              obtain ⟨⟨⟨⟨⟨⟨⟨hnm, h0⟩, hbig⟩, c1⟩, c2⟩, c3⟩, c6⟩, hshape⟩ := hb
              have hnm : n = m := by
                rcases hnm with hnm | hnm
                · unfold opSame at hnm
                  split at hnm
                  · rename_i a b
                    have : a = b := by simpa using hnm
                    subst this
                    rw [hl] at hc
                    injection hc with hc
                    injection hc
                  · cases hnm
                · exact hnm
              subst hnm
              refine ⟨_, _, h, fun E a w0 w hT hR => ?_⟩
              have hle := (hT.ev l).2 (by rw [hl]; rfl)
              have hce := (hT.ev c).2 (by rw [hc]; rfl)
              rw [hl] at hle
              rw [hc] at hce
              have hbytes : (i.bytes : Int) * n ≤ 281474976710656 := by
                have hn : (n.toNat : Int) = n := Int.toNat_of_nonneg h0
                have : i.bytes * n.toNat ≤ 1048576 * 65536 := Nat.mul_le_mul c6 (by omega)
                have e : ((i.bytes * n.toNat : Nat) : Int) = (i.bytes : Int) * n := by rw [Int.natCast_mul, hn]
                omega
              have hrun := run_make (P := P) w t el i z hu hi hz k1 k2 n n h0 (Int.le_refl _) hbytes (by omega)
              have hb := below_alloc w (.cells (madeCells z.cells (n.toNat * i.size)) el)
              have hR' := hR.later hb
              have hstV := Step.addV E M ⟨el, ia, sh, M.vecs.length, true, true, List.replicate n.toNat (zeroEl ia z)⟩ (.slice (some ⟨w.heap.size, 0, none⟩) n.toNat n.toNat)
              have hfresh : ∀ (b : Nat) (x : Blk), M.blks[b]? = some (some x) → E.ρ b ≠ w.heap.size := fun b x hx e => by have := hR.lt hx; omega
              have hzc : z.cells = (concL E (AV.lit z).cells).toArray := by
                have := conc_cells hR (a := .lit z) rfl
                rw [← this]; rfl
              have hzl : (AV.lit z).cells.length = i.size := by
                rw [← c2, hzc]; simp [concL_eq]
              have hadd := hR'.addV ⟨el, ia, sh, M.vecs.length, true, true, List.replicate n.toNat (zeroEl ia z)⟩ (.slice (some ⟨w.heap.size, 0, none⟩) n.toNat n.toNat)
                (.inr ⟨⟨w.heap.size, 0, none⟩, n.toNat, madeCells z.cells (n.toNat * i.size), (0, 0),
                  { val := by simp only [Env.addV, if_true, List.length_replicate]
                    spot := rfl
                    le := by simp
                    blk := by show (w.heap.push _)[w.heap.size]? = _; simp
                    room := .inr (by simp [size_madeCells, c1])
                    shape := fun j y hy => by
                      rw [List.getElem?_replicate] at hy
                      split at hy
                      · cases hy; exact hshape
                      · cases hy
                    cell := fun j y hy q cc hcc => by
                      rw [List.getElem?_replicate] at hy
                      split at hy
                      · rename_i hj
                        cases hy
                        rw [zeroEl_cells hshape] at hcc
                        have hq := lt_of_get hcc
                        rw [hzl] at hq
                        refine ⟨cc.conc E, ?_, ?_⟩
                        · have hlt : j * sh.length + q < n.toNat * i.size := by
                            rw [← c1]
                            have : (j + 1) * i.size ≤ n.toNat * i.size := Nat.mul_le_mul_right _ hj
                            rw [Nat.add_mul] at this
                            omega
                          have hmod : (j * sh.length + q) % z.cells.size = q := by
                            rw [c2, ← c1, Nat.mul_comm, Nat.mul_add_mod]
                            exact Nat.mod_eq_of_lt hq
                          simp only [Nat.zero_add, madeCells, Array.getElem?_map, Array.getElem?_range, hlt, if_true, Option.map_some, hmod]
                          have hq2 : q < z.cells.size := by omega
                          rw [getElem!_pos z.cells q hq2]
                          congr 1
                          have := congrArg (fun (a : Array Value) => a[q]?) hzc
                          rw [Array.getElem?_eq_getElem hq2] at this
                          simp only [concL_eq, List.getElem?_toArray, List.getElem?_map, hcc, Option.map_some, Option.some.injEq] at this
                          exact this
                        · have hsc := scL_at (cells_sc (n := M.blks.length) (m := M.vecs.length) (a := .lit z) rfl) hcc
                          exact RelS.step hstV ⟨hsc, fun _ => rfl⟩
                      · cases hy
                    old := fun ho => by cases ho
                    head := fun _ => ⟨rfl, by simp [size_madeCells, c1], by simp only [maxLen]; omega⟩
                    mine := fun _ => ⟨w0.up _ hR.below.size, rfl, fun b y hy => hfresh b y hy⟩ }⟩)
                (fun _ j e he _ g' hg' hbk => by
                  have hva : (E.addV M.vecs.length (.slice (some ⟨w.heap.size, 0, none⟩) n.toNat n.toNat)).bk M.vecs.length = some w.heap.size := by simp [Env.bk, Env.addV]
                  rw [hva] at hg'
                  simp only [Option.some.injEq] at hg'
                  exfalso
                  rcases hR.vec j e he with ⟨_, hz'⟩ | ⟨a', cap', cs', fz', hv'⟩
                  · rw [bk_nil hz'] at hbk; cases hbk
                  · rw [hv'.bk] at hbk
                    simp only [Option.some.injEq] at hbk
                    have := heap_lt hv'.blk
                    omega)
              refine ⟨_, .slice (some ⟨w.heap.size, 0, none⟩) n.toNat n.toNat, _, hstV, ⟨?_, fun _ => ?_⟩, hadd, by show w.heap.size ≤ (w.heap.push _).size; simp, .inl ?_⟩
              · simp [AV.sc, Mem.addV]
              · simp [AV.conc, Env.addV]
              · simp only [execOp, hle, hce, AV.conc, Sem.run_bind, hrun, Result.andThen_ok, Sem.run_pure]
            · cases h
          · cases h
        · cases h
      · cases h
    · cases h
  · cases h
/-! a store into a cell of an own row: its other names are dead from then on -/
def putV (M : Mem) (h : Nat) (e : Ent) : Mem := ⟨M.blks, (killT M (some e.terr)).vecs.set h (some e)⟩
theorem putV_cases {M : Mem} {h : Nat} {e : Ent} {k : Nat} {e' : Ent} (hh : (putV M h e).vecs[k]? = some (some e')) : (k = h ∧ e' = e) ∨ (k ≠ h ∧ M.vecs[k]? = some (some e') ∧ (e'.own = true → e'.terr ≠ e.terr)) := by
  simp only [putV, List.getElem?_set] at hh
  split at hh
  · rename_i hk
    split at hh
    · simp only [Option.some.injEq] at hh
      exact .inl ⟨hk.symm, hh.symm⟩
    · cases hh
  · rename_i hk
    obtain ⟨h1, h2⟩ := killT_get hh
    exact .inr ⟨fun e => hk e.symm, h1, h2 _ rfl⟩
theorem putV_le {M : Mem} {h : Nat} {e0 e : Ent} (hv : M.vecs[h]? = some (some e0)) : Mem.le M (putV M h e) := by
  refine ⟨Nat.le_refl _, by simp [putV, killT_len], fun i _ h => h, fun i _ hi => ?_⟩
  unfold aliveV at hi
  split at hi
  · rename_i e' he
    unfold aliveV
    rcases putV_cases he with ⟨rfl, rfl⟩ | ⟨_, h1, _⟩
    · rw [hv]
    · rw [h1]
  · cases hi

theorem RepM.putV {E : Env} {w0 : Bs} {M : Mem} {w : World} (hR : RepM E w0 M w) {h : Nat} {e : Ent} (he : M.vecs[h]? = some (some e)) (hown : e.own = true) {ck : CK} (hsh : e.sh = [ck]) (hag : e.isAgg = false) {i : Nat} (hi : i < e.cont.length)
    {x : AV} {v : Value} (hx : RelS E M x v) (hfit : x.shape false [ck] = true) :
    ∃ g off, E.va h = ⟨g, off, none⟩ ∧ Step E M E (Sx.putV M h { e with cont := e.cont.set i x }) ∧ RepM E w0 (Sx.putV M h { e with cont := e.cont.set i x }) (w.setCell ⟨g, off + i, none⟩ v) ∧
      (∃ u, w.cell? ⟨g, off + i, none⟩ = some u) ∧ w.frozen? ⟨g, off + i, none⟩ = false := by
  have hst : Step E M E (Sx.putV M h { e with cont := e.cont.set i x }) := ⟨putV_le he, Env.le.refl _ _ _⟩
  rcases hR.vec h e he with ⟨hz, _⟩ | ⟨a, cap, cs, fz, hv⟩
  · rw [hz] at hi; cases hi
  obtain ⟨hwr, rfl, hbl⟩ := hv.mine hown
  obtain ⟨g, off, sp⟩ := a
  have hsp := hv.spot
  simp only at hsp
  subst hsp
  have hin : off + i < cs.size := by
    rcases hv.room with hr | hr
    · omega
    · rw [hsh] at hr; simp only [List.length_singleton, Nat.mul_one] at hr; omega
  have hne : ∀ (k : Nat) (e' : Ent), M.vecs[k]? = some (some e') → (e'.own = true → e'.terr ≠ e.terr) → E.bk k ≠ some g := by
    intro k e' hk ht hb
    cases ho : e'.own with
    | true => exact ht ho (hR.terr k h e' e hk he ho hown g hb (by rw [hv.bk]))
    | false =>
      rcases hR.vec k e' hk with ⟨_, hz'⟩ | ⟨a', cap', cs', fz', hv'⟩
      · rw [bk_nil hz'] at hb; cases hb
      · rw [hv'.bk] at hb
        simp only [Option.some.injEq] at hb
        exact hv'.old ho (hb ▸ hwr)
  have hxc : x.cells = [x] := fits_cells (k := ck) (by simp only [AV.shape, fitsAll, Bool.and_true] at hfit; exact hfit)
  refine ⟨g, off, hv.va, hst, ⟨hR.below.setCell (show w0.Wr (⟨g, off + i, none⟩ : Addr).block from hwr) v, fun b y hy => ?_, hR.inj, fun k e' hk => ?_, fun k k' e1 e2 hk hk' o1 o2 gg hb hb' => ?_⟩, ⟨cs[off + i], ?_⟩, ?_⟩
  · obtain ⟨h1, ds, h2, h3⟩ := hR.blk b y hy
    exact ⟨h1, ds, (Below.heap_setCell _ _ _ _ (fun hh => hbl b y hy (show E.ρ b = g from hh))).trans h2, h3.step hst⟩
  · rcases putV_cases hk with ⟨rfl, rfl⟩ | ⟨hkh, hk, ht⟩
    · refine .inr ⟨⟨g, off, none⟩, cap, cs.setIfInBounds (off + i) v, (0, 0), ?_⟩
      exact
        { val := by rw [hv.val]; simp
          spot := rfl
          le := by simpa using hv.le
          blk := by have := hv.blk; simp [World.setCell, Array.getElem?_modify, this]
          room := by simpa using hv.room
          shape := fun j y hy => by
            by_cases hij : i = j
            · subst hij
              rw [List.getElem?_set_self hi] at hy
              cases hy; rw [hag, hsh]; exact hfit
            · rw [List.getElem?_set_ne hij] at hy; exact hv.shape j y hy
          cell := fun j y hy q c hc => by
            have hz1 : e.sh.length = 1 := by rw [hsh]; rfl
            show ∃ u, (cs.setIfInBounds (off + i) v)[off + (j * e.sh.length + q)]? = some u ∧ RelS E _ c u
            rw [hz1, Nat.mul_one]
            by_cases hij : i = j
            · subst hij
              rw [List.getElem?_set_self hi] at hy
              cases hy
              rw [hxc] at hc
              have hq : q = 0 := by
                have := lt_of_get hc
                simp at this; exact this
              subst hq
              simp only [List.getElem?_cons_zero, Option.some.injEq] at hc
              subst hc
              refine ⟨v, ?_, hx.step hst⟩
              simp [Array.getElem?_setIfInBounds, hin]
            · rw [List.getElem?_set_ne hij] at hy
              obtain ⟨u, h1, h2⟩ := hv.cell j y hy q c hc
              have hyl : y.cells.length = 1 := by
                have := hv.shape j y hy
                rw [hag, hsh] at this
                have hf : y.cells = [y] := fits_cells (k := ck) (by simp only [AV.shape, fitsAll, Bool.and_true] at this; exact this)
                rw [hf]; rfl
              have hq : q = 0 := by
                have := lt_of_get hc
                omega
              subst hq
              rw [hsh] at h1
              simp only [List.length_singleton, Nat.mul_one] at h1
              refine ⟨u, ?_, h2.step hst⟩
              rw [Array.getElem?_setIfInBounds_ne (by omega)]
              exact h1
          old := fun ho => by rw [hown] at ho; cases ho
          head := fun hh => by
            obtain ⟨h1, h2, h3⟩ := hv.head hh
            exact ⟨h1, by simpa using h2, h3⟩
          mine := fun _ => ⟨hwr, rfl, fun b y hy => hbl b y hy⟩ }
    · rcases hR.vec k e' hk with hz | ⟨a', cap', cs', fz', hv'⟩
      · exact .inl hz
      refine .inr ⟨a', cap', cs', fz', { hv' with blk := (Below.heap_setCell _ _ _ _ (fun hh => hne k e' hk ht (by rw [hv'.bk, hh]))).trans hv'.blk, cell := ?_, mine := hv'.mine }⟩
      intro j y hy q c hc
      obtain ⟨u, h1, h2⟩ := hv'.cell j y hy q c hc
      exact ⟨u, h1, h2.step hst⟩
  · have src : ∀ (k : Nat) (e' : Ent), (Sx.putV M h { e with cont := e.cont.set i x }).vecs[k]? = some (some e') → ∃ e'', M.vecs[k]? = some (some e'') ∧ e''.own = e'.own ∧ e''.terr = e'.terr := fun k e' hk => by
      rcases putV_cases hk with ⟨rfl, rfl⟩ | ⟨_, hk, _⟩
      · exact ⟨e, he, rfl, rfl⟩
      · exact ⟨e', hk, rfl, rfl⟩
    obtain ⟨f1, q1, q2, q3⟩ := src k e1 hk
    obtain ⟨f2, r1, r2, r3⟩ := src k' e2 hk'
    rw [← q3, ← r3]
    exact hR.terr k k' f1 f2 q1 r1 (q2.trans o1) (r2.trans o2) gg hb hb'
  · have := hv.blk
    simp [World.cell?, this, hin]
  · have := hv.blk
    simp [World.frozen?, this]

/-! a store into a cell of an element of an own row of structs or arrays -/
def setCA (a : AV) (j : Nat) (x : AV) : AV := match a with
  | .agg cs => .agg (cs.set j x)
  | _ => .bad
theorem fits_set : ∀ {sh : List CK} {cs : List AV} {j : Nat} {ck : CK} {x : AV}, fitsAll sh cs = true → sh[j]? = some ck → ck.fits x = true → fitsAll sh (cs.set j x) = true
  | [], _, _, _, _, _, h, _ => by simp at h
  | _ :: _, [], _, _, _, h, _, _ => by simp [fitsAll] at h
  | k :: ks, a :: l, 0, ck, x, h, hj, hx => by
    simp only [List.getElem?_cons_zero, Option.some.injEq] at hj
    subst hj
    simp only [fitsAll, Bool.and_eq_true] at h
    simp only [List.set_cons_zero, fitsAll, hx, h.2, Bool.and_self]
  | k :: ks, a :: l, j + 1, ck, x, h, hj, hx => by
    simp only [List.getElem?_cons_succ] at hj
    simp only [fitsAll, Bool.and_eq_true] at h
    simp only [List.set_cons_succ, fitsAll, h.1, fits_set h.2 hj hx, Bool.and_self]
theorem lay_ne {n i j p q : Nat} (hj : j < n) (hq : q < n) (h : p ≠ i) : p * n + q ≠ i * n + j := by
  intro e
  rcases Nat.lt_or_gt_of_ne h with h | h
  · have := Nat.mul_le_mul_right n (show p + 1 ≤ i from h)
    rw [Nat.add_mul] at this; omega
  · have := Nat.mul_le_mul_right n (show i + 1 ≤ p from h)
    rw [Nat.add_mul] at this; omega
theorem RepM.putVA {E : Env} {w0 : Bs} {M : Mem} {w : World} (hR : RepM E w0 M w) {h : Nat} {e : Ent} (he : M.vecs[h]? = some (some e)) (hown : e.own = true) {j : Nat} {ck : CK} (hsh : e.sh[j]? = some ck) (hag : e.isAgg = true) {i : Nat} (hi : i < e.cont.length)
    {x : AV} {v : Value} (hx : RelS E M x v) (hfit : x.shape false [ck] = true) :
    ∃ g off, E.va h = ⟨g, off, none⟩ ∧ Step E M E (Sx.putV M h { e with cont := e.cont.set i (setCA (e.cont.getD i .bad) j x) }) ∧ RepM E w0 (Sx.putV M h { e with cont := e.cont.set i (setCA (e.cont.getD i .bad) j x) }) (w.setCell ⟨g, off + (i * e.sh.length + j), none⟩ v) ∧
      (∃ u, w.cell? ⟨g, off + (i * e.sh.length + j), none⟩ = some u) ∧ w.frozen? ⟨g, off + (i * e.sh.length + j), none⟩ = false := by
  have hst : Step E M E (Sx.putV M h { e with cont := e.cont.set i (setCA (e.cont.getD i .bad) j x) }) := ⟨putV_le he, Env.le.refl _ _ _⟩
  rcases hR.vec h e he with ⟨hz, _⟩ | ⟨a, cap, cs, fz, hv⟩
  · rw [hz] at hi; cases hi
  obtain ⟨hwr, rfl, hbl⟩ := hv.mine hown
  obtain ⟨g, off, sp⟩ := a
  have hsp := hv.spot
  simp only at hsp
  subst hsp
  have hj : j < e.sh.length := lt_of_get hsh
  have hin : off + (i * e.sh.length + j) < cs.size := by
    rcases hv.room with hr | hr
    · omega
    · have := Nat.mul_le_mul_right e.sh.length (show i + 1 ≤ e.cont.length from hi)
      rw [Nat.add_mul] at this
      simp only at hr
      omega
  obtain ⟨ds, hds⟩ : ∃ ds, e.cont[i]? = some (.agg ds) := by
    have h0 := List.getElem?_eq_getElem hi
    have := hv.shape i _ h0
    rw [hag] at this
    unfold AV.shape at this
    cases hx : e.cont[i] with
    | agg ds => exact ⟨ds, by rw [h0, hx]⟩
    | _ => rw [hx] at this; simp at this
  have hgd : e.cont.getD i .bad = .agg ds := by simp [List.getD, hds]
  have hfd : fitsAll e.sh ds = true := by
    have := hv.shape i _ hds
    rw [hag] at this; exact this
  have hfx : ck.fits x = true := by simpa only [AV.shape, fitsAll, Bool.and_true] using hfit
  have hln : ds.length = e.sh.length := (fitsAll_ln hfd).symm
  have hne : ∀ (k : Nat) (e' : Ent), M.vecs[k]? = some (some e') → (e'.own = true → e'.terr ≠ e.terr) → E.bk k ≠ some g := by
    intro k e' hk ht hb
    cases ho : e'.own with
    | true => exact ht ho (hR.terr k h e' e hk he ho hown g hb (by rw [hv.bk]))
    | false =>
      rcases hR.vec k e' hk with ⟨_, hz'⟩ | ⟨a', cap', cs', fz', hv'⟩
      · rw [bk_nil hz'] at hb; cases hb
      · rw [hv'.bk] at hb
        simp only [Option.some.injEq] at hb
        exact hv'.old ho (hb ▸ hwr)
  refine ⟨g, off, hv.va, hst, ⟨hR.below.setCell (show w0.Wr (⟨g, off + (i * e.sh.length + j), none⟩ : Addr).block from hwr) v, fun b y hy => ?_, hR.inj, fun k e' hk => ?_, fun k k' e1 e2 hk hk' o1 o2 gg hb hb' => ?_⟩, ⟨cs[off + (i * e.sh.length + j)], ?_⟩, ?_⟩
  · obtain ⟨h1, ds', h2, h3⟩ := hR.blk b y hy
    exact ⟨h1, ds', (Below.heap_setCell _ _ _ _ (fun hh => hbl b y hy (show E.ρ b = g from hh))).trans h2, h3.step hst⟩
  · rcases putV_cases hk with ⟨rfl, rfl⟩ | ⟨hkh, hk, ht⟩
    · refine .inr ⟨⟨g, off, none⟩, cap, cs.setIfInBounds (off + (i * e.sh.length + j)) v, (0, 0), ?_⟩
      exact
        { val := by rw [hv.val]; simp
          spot := rfl
          le := by simpa using hv.le
          blk := by have := hv.blk; simp [World.setCell, Array.getElem?_modify, this]
          room := by simpa using hv.room
          shape := fun p y hy => by
            by_cases hij : i = p
            · subst hij
              rw [List.getElem?_set_self hi] at hy
              cases hy; rw [hag, hgd]; exact fits_set hfd hsh hfx
            · rw [List.getElem?_set_ne hij] at hy; exact hv.shape p y hy
          cell := fun p y hy q c hc => by
            show ∃ u, (cs.setIfInBounds (off + (i * e.sh.length + j)) v)[off + (p * e.sh.length + q)]? = some u ∧ RelS E _ c u
            by_cases hij : i = p
            · subst hij
              rw [List.getElem?_set_self hi] at hy
              cases hy
              rw [hgd] at hc
              have hc : (ds.set j x)[q]? = some c := hc
              by_cases hq : j = q
              · subst hq
                rw [List.getElem?_set_self (by omega)] at hc
                cases hc
                refine ⟨v, ?_, hx.step hst⟩
                simp [Array.getElem?_setIfInBounds, hin]
              · rw [List.getElem?_set_ne hq] at hc
                obtain ⟨u, h1, h2⟩ := hv.cell i _ hds q c hc
                refine ⟨u, ?_, h2.step hst⟩
                rw [Array.getElem?_setIfInBounds_ne (by omega)]
                exact h1
            · rw [List.getElem?_set_ne hij] at hy
              obtain ⟨u, h1, h2⟩ := hv.cell p y hy q c hc
              have hq : q < e.sh.length := by
                have := lt_of_get hc
                have h3 := shape_len (hv.shape p y hy)
                omega
              refine ⟨u, ?_, h2.step hst⟩
              have := lay_ne (p := p) (i := i) hj hq (fun h => hij h.symm)
              rw [Array.getElem?_setIfInBounds_ne (by omega)]
              exact h1
          old := fun ho => by rw [hown] at ho; cases ho
          head := fun hh => by
            obtain ⟨h1, h2, h3⟩ := hv.head hh
            exact ⟨h1, by simpa using h2, h3⟩
          mine := fun _ => ⟨hwr, rfl, fun b y hy => hbl b y hy⟩ }
    · rcases hR.vec k e' hk with hz | ⟨a', cap', cs', fz', hv'⟩
      · exact .inl hz
      refine .inr ⟨a', cap', cs', fz', { hv' with blk := (Below.heap_setCell _ _ _ _ (fun hh => hne k e' hk ht (by rw [hv'.bk, hh]))).trans hv'.blk, cell := ?_, mine := hv'.mine }⟩
      intro p y hy q c hc
      obtain ⟨u, h1, h2⟩ := hv'.cell p y hy q c hc
      exact ⟨u, h1, h2.step hst⟩
  · have src : ∀ (k : Nat) (e' : Ent), (Sx.putV M h { e with cont := e.cont.set i (setCA (e.cont.getD i .bad) j x) }).vecs[k]? = some (some e') → ∃ e'', M.vecs[k]? = some (some e'') ∧ e''.own = e'.own ∧ e''.terr = e'.terr := fun k e' hk => by
      rcases putV_cases hk with ⟨rfl, rfl⟩ | ⟨_, hk, _⟩
      · exact ⟨e, he, rfl, rfl⟩
      · exact ⟨e', hk, rfl, rfl⟩
    obtain ⟨f1, q1, q2, q3⟩ := src k e1 hk
    obtain ⟨f2, r1, r2, r3⟩ := src k' e2 hk'
    rw [← q3, ← r3]
    exact hR.terr k k' f1 f2 q1 r1 (q2.trans o1) (r2.trans o2) gg hb hb'
  · have := hv.blk
    simp [World.cell?, this, hin]
  · have := hv.blk
    simp [World.frozen?, this]

def storeVK {R : Type} (P : Program) (tm : List AV) (M : Mem) (o : Oper) (k : AV → Mem → Option R) : Option R :=
  match o.op with
  | .store t x v => match ev tm x with
    | .vptr h i z j => match M.vecs[h]?, sizeT P t with
      | some (some e), some n =>
        match e.sh with
        | [ck] => bif e.own && decide (z = 1) && decide (j = 0) && decide (n = 1) && !e.isAgg && (ev tm v).one && (ev tm v).lv M.live && (ev tm v).shape false [ck] then
          (if i < e.cont.length then k (.lit undef) (putV M h { e with cont := e.cont.set i (ev tm v) }) else none)
        else none
        | sh => match sh[j]? with
          | some ck => bif e.own && decide (z = sh.length) && decide (n = 1) && e.isAgg && (ev tm v).one && (ev tm v).lv M.live && (ev tm v).shape false [ck] then
            (if i < e.cont.length then k (.lit undef) (putV M h { e with cont := e.cont.set i (setCA (e.cont.getD i .bad) j (ev tm v)) }) else none) else none
          | none => none
      | _, _ => none
    | _ => none
  | _ => none
theorem storeVK_sound {R : Type} {P : Program} {tm : List AV} {M : Mem} {o : Oper} {k : AV → Mem → Option R} {r : R} (h : storeVK P tm M o k = some r) :
    ∃ z M', k z M' = some r ∧ MemOk P tm M o z M' := by
  obtain ⟨dst, op, ty, pos, after, guard⟩ := o
  unfold storeVK at h
  simp only at h
  split at h
  · rename_i t x v
    split at h
    · rename_i hh i z j hx
      split at h
      · rename_i e n he hn
        split at h
        · rename_i ck hsh
          simp only [cond_eq_ite, Bool.and_eq_true, decide_eq_true_eq, Bool.not_eq_true'] at h
          split at h
          · rename_i hc
            obtain ⟨⟨⟨⟨⟨⟨⟨hown, rfl⟩, rfl⟩, rfl⟩, hag⟩, hone⟩, hl⟩, hshape⟩ := hc
            split at h
            · rename_i hi
              refine ⟨_, _, h, fun E a w0 w hT hR => ?_⟩
              have hlive : (AV.vptr hh i 1 0).lv M.live = true := by
                simp only [AV.lv, live_odd, aliveV, he]
              have hxe := (hT.ev x).2 (by rw [hx]; exact hlive)
              rw [hx] at hxe
              obtain ⟨g, off, hva, hst, hR', ⟨u, hu⟩, hfz⟩ := hR.putV he hown hsh hag hi (hT.ev v) hshape
              refine ⟨E, undef, _, hst, RelS.lit _ _ _, hR', by simp [World.setCell], .inr ⟨?_, rfl⟩⟩
              have hcells := conc_cells hR hl
              have hvc := (hT.ev v).2 hl
              have hxc : (ev tm v).cells = [ev tm v] := fits_cells (k := ck) (by simp only [AV.shape, fitsAll, Bool.and_true] at hshape; exact hshape)
              rw [hxc] at hcells
              have hsz : (a.eval v).cells.size = 1 := by rw [hvc, ← Array.length_toList, hcells]; simp [concL]
              have hcc : (a.eval v).cells.toList = [a.eval v] := by rw [hvc, hcells]; simp [concL]
              have hone' : (a.eval v).oneCell' = true := by rw [hvc]; exact one_conc hR hone hl
              simp only [execOp, Instr.storeAt, hxe, AV.conc, hva, Instr.sureAddr, Sem.run_bind, Sem.run_pure, Result.andThen_ok, storeVar, run_sizeOf hn, hsz, ne_eq, not_true_eq_false, if_false, hcc, storeCells, addr_add, Nat.mul_one, Nat.add_zero]
              rw [run_store P w _ _ _ hone', hu]
              simp only [hfz, Bool.false_eq_true, if_false, Result.andThen_ok, Sem.run_pure]
            · cases h
          · cases h
        · split at h
          · rename_i ck hsh
            simp only [cond_eq_ite, Bool.and_eq_true, decide_eq_true_eq] at h
            split at h
            · rename_i hc
              obtain ⟨⟨⟨⟨⟨⟨hown, rfl⟩, rfl⟩, hag⟩, hone⟩, hl⟩, hshape⟩ := hc
              split at h
              · rename_i hi
                refine ⟨_, _, h, fun E a w0 w hT hR => ?_⟩
                have hlive : (AV.vptr hh i e.sh.length j).lv M.live = true := by
                  simp only [AV.lv, live_odd, aliveV, he]
                have hxe := (hT.ev x).2 (by rw [hx]; exact hlive)
                rw [hx] at hxe
                obtain ⟨g, off, hva, hst, hR', ⟨u, hu⟩, hfz⟩ := hR.putVA he hown hsh hag hi (hT.ev v) hshape
                refine ⟨E, undef, _, hst, RelS.lit _ _ _, hR', by simp [World.setCell], .inr ⟨?_, rfl⟩⟩
                have hcells := conc_cells hR hl
                have hvc := (hT.ev v).2 hl
                have hxc : (ev tm v).cells = [ev tm v] := fits_cells (k := ck) (by simp only [AV.shape, fitsAll, Bool.and_true] at hshape; exact hshape)
                rw [hxc] at hcells
                have hsz : (a.eval v).cells.size = 1 := by rw [hvc, ← Array.length_toList, hcells]; simp [concL]
                have hcc : (a.eval v).cells.toList = [a.eval v] := by rw [hvc, hcells]; simp [concL]
                have hone' : (a.eval v).oneCell' = true := by rw [hvc]; exact one_conc hR hone hl
                simp only [execOp, Instr.storeAt, hxe, AV.conc, hva, Instr.sureAddr, Sem.run_bind, Sem.run_pure, Result.andThen_ok, storeVar, run_sizeOf hn, hsz, ne_eq, not_true_eq_false, if_false, hcc, storeCells, addr_add, Nat.add_zero]
                rw [run_store P w _ _ _ hone', hu]
                simp only [hfz, Bool.false_eq_true, if_false, Result.andThen_ok, Sem.run_pure]
              · cases h
            · cases h
          · cases h
      · cases h
    · cases h
  · cases h
end Go.Sx

namespace Go.Sx
open Go Go.RowKit

/-! copy into one of the walk's own rows of colours, from a place on -/
theorem allU8_at : ∀ {sh : List CK} {cs : List AV} {q : Nat} {c : AV}, allU8 sh = true → fitsAll sh cs = true → cs[q]? = some c → ∃ m, c = .lit (.int .u8 m)
  | [], [], _, _, _, _, h => by simp at h
  | [], _ :: _, _, _, _, h, _ => by simp [fitsAll] at h
  | _ :: _, [], _, _, _, h, _ => by simp [fitsAll] at h
  | k :: sh, a :: cs, q, c, h, hf, hc => by
    unfold allU8 at h
    split at h
    · rename_i h0; cases h0
    · rename_i l h0
      cases h0
      simp only [fitsAll, Bool.and_eq_true] at hf
      cases q with
      | zero =>
        simp only [List.getElem?_cons_zero, Option.some.injEq] at hc
        subst hc
        have h1 := hf.1
        cases a with
        | lit v => cases v with
          | int k n =>
            simp only [CK.fits, decide_eq_true_eq] at h1
            subst h1
            exact ⟨_, rfl⟩
          | _ => simp [CK.fits] at h1
        | _ => simp [CK.fits] at h1
      | succ q => exact allU8_at h hf.2 (by simpa using hc)
    · cases h
theorem cell_split {z j n : Nat} (hz : 0 < z) (hj : j < n * z) : j / z < n ∧ j % z < z ∧ j / z * z + j % z = j := by
  refine ⟨Nat.div_lt_of_lt_mul (by rw [Nat.mul_comm]; exact hj), Nat.mod_lt _ hz, ?_⟩
  rw [Nat.mul_comm]; exact Nat.div_add_mod j z

/-- all cells of a row of colours -/
theorem VecOk.bytes {E : Env} {B : Nat → Prop} {M : Mem} {w : World} {h : Nat} {e : Ent} {a : Addr} {cap : Nat} {cs : Array Value} {fz : Nat × Nat} (hv : VecOk E B M w h e a cap cs fz) (hag : e.isAgg = true) (hu : allU8 e.sh = true) (hz : 0 < e.sh.length) {j : Nat} (hj : j < e.cont.length * e.sh.length) :
    ∃ m, cs[a.off + j]? = some (.int .u8 m) := by
  obtain ⟨h1, h2, h3⟩ := cell_split hz hj
  have hx := List.getElem?_eq_getElem h1
  have hs := hv.shape _ _ hx
  rw [hag] at hs
  cases hc : e.cont[j / e.sh.length] with
  | agg ds =>
    rw [hc] at hs hx
    have hfd : fitsAll e.sh ds = true := hs
    have hlen := (fitsAll_ln hfd).symm
    have hq := List.getElem?_eq_getElem (show j % e.sh.length < ds.length by omega)
    obtain ⟨u, g1, g2⟩ := hv.cell _ _ hx _ _ hq
    obtain ⟨m, hm⟩ := allU8_at hu hfd hq
    rw [hm] at g2
    refine ⟨m, ?_⟩
    rw [h3] at g1
    rw [g1, g2.2 rfl]; rfl
  | _ => rw [hc] at hs; simp [AV.shape] at hs

/-- another content in an own row's place -/
theorem RepM.putRow {E : Env} {w0 : Bs} {M : Mem} {w : World} (hR : RepM E w0 M w) {h : Nat} {e : Ent} (he : M.vecs[h]? = some (some e)) (hown : e.own = true) {C : List AV} (hlen : C.length = e.cont.length)
    {a : Addr} {cap : Nat} {cs : Array Value} {fz : Nat × Nat} (hv : VecOk E w0.Wr M w h e a cap cs fz) {ds : Array Value} (hsz : ds.size = cs.size)
    (hsh : ∀ (i : Nat) (x : AV), C[i]? = some x → x.shape e.isAgg e.sh = true)
    (hcell : ∀ (i : Nat) (x : AV), C[i]? = some x → ∀ (j : Nat) (c : AV), x.cells[j]? = some c → ∃ u, ds[a.off + (i * e.sh.length + j)]? = some u ∧ RelS E M c u) :
    Step E M E (Sx.putV M h { e with cont := C }) ∧ RepM E w0 (Sx.putV M h { e with cont := C }) (w.setRow a.block ds) := by
  have hst : Step E M E (Sx.putV M h { e with cont := C }) := ⟨putV_le he, Env.le.refl _ _ _⟩
  obtain ⟨hwr, rfl, hbl⟩ := hv.mine hown
  obtain ⟨g, off, sp⟩ := a
  have hsp := hv.spot
  simp only at hsp
  subst hsp
  have hne : ∀ (k : Nat) (e' : Ent), M.vecs[k]? = some (some e') → (e'.own = true → e'.terr ≠ e.terr) → E.bk k ≠ some g := by
    intro k e' hk ht hb
    cases ho : e'.own with
    | true => exact ht ho (hR.terr k h e' e hk he ho hown g hb (by rw [hv.bk]))
    | false =>
      rcases hR.vec k e' hk with ⟨_, hz'⟩ | ⟨a', cap', cs', fz', hv'⟩
      · rw [bk_nil hz'] at hb; cases hb
      · rw [hv'.bk] at hb
        simp only [Option.some.injEq] at hb
        exact hv'.old ho (hb ▸ hwr)
  have hoth : ∀ b, b ≠ g → (w.setRow g ds).heap[b]? = w.heap[b]? := fun b hb => setRow_other w g b ds hb
  refine ⟨hst, ⟨hR.below.os, hR.below.tape, hR.below.output, by simpa using hR.below.size, fun k hk => (hoth k (fun e' => hk (e' ▸ hwr))).trans (hR.below.block k hk)⟩, fun b y hy => ?_, hR.inj, fun k e' hk => ?_, fun k k' e1 e2 hk hk' o1 o2 gg hb hb' => ?_⟩
  · obtain ⟨h1, ds', h2, h3⟩ := hR.blk b y hy
    exact ⟨h1, ds', (hoth _ (fun hh => hbl b y hy hh)).trans h2, h3.step hst⟩
  · rcases putV_cases hk with ⟨rfl, rfl⟩ | ⟨hkh, hk, ht⟩
    · refine .inr ⟨⟨g, off, none⟩, cap, ds, (0, 0), ?_⟩
      exact
        { val := by rw [hv.val]; simp [hlen]
          spot := rfl
          le := by simpa [hlen] using hv.le
          blk := setRow_heap w g cs ds _ _ hv.blk
          room := by simpa [hlen, hsz] using hv.room
          shape := hsh
          cell := fun p y hy q c hc => by
            obtain ⟨u, h1, h2⟩ := hcell p y hy q c hc
            exact ⟨u, h1, h2.step hst⟩
          old := fun ho => by rw [hown] at ho; cases ho
          head := fun hh => by
            obtain ⟨h1, h2, h3⟩ := hv.head hh
            exact ⟨h1, by rw [hsz]; exact h2, h3⟩
          mine := fun _ => ⟨hwr, rfl, fun b y hy => hbl b y hy⟩ }
    · rcases hR.vec k e' hk with hz | ⟨a', cap', cs', fz', hv'⟩
      · exact .inl hz
      refine .inr ⟨a', cap', cs', fz', { hv' with blk := (hoth _ (fun hh => hne k e' hk ht (by rw [hv'.bk, hh]))).trans hv'.blk, cell := ?_, mine := hv'.mine }⟩
      intro p y hy q c hc
      obtain ⟨u, h1, h2⟩ := hv'.cell p y hy q c hc
      exact ⟨u, h1, h2.step hst⟩
  · have src : ∀ (k : Nat) (e' : Ent), (Sx.putV M h { e with cont := C }).vecs[k]? = some (some e') → ∃ e'', M.vecs[k]? = some (some e'') ∧ e''.own = e'.own ∧ e''.terr = e'.terr := fun k e' hk => by
      rcases putV_cases hk with ⟨rfl, rfl⟩ | ⟨_, hk, _⟩
      · exact ⟨e, he, rfl, rfl⟩
      · exact ⟨e', hk, rfl, rfl⟩
    obtain ⟨f1, q1, q2, q3⟩ := src k e1 hk
    obtain ⟨f2, r1, r2, r3⟩ := src k' e2 hk'
    rw [← q3, ← r3]
    exact hR.terr k k' f1 f2 q1 r1 (q2.trans o1) (r2.trans o2) gg hb hb'

def lay (L S : List AV) (lo : Nat) : List AV := L.take lo ++ S ++ L.drop (lo + S.length)
theorem lay_len {L S : List AV} {lo : Nat} (h : lo + S.length ≤ L.length) : (lay L S lo).length = L.length := by simp [lay]; omega
theorem lay_at {L S : List AV} {lo : Nat} (h : lo + S.length ≤ L.length) (i : Nat) : (lay L S lo)[i]? = if i < lo then L[i]? else if i < lo + S.length then S[i - lo]? else L[i]? := by
  unfold lay
  rw [List.getElem?_append]
  simp only [List.length_append, List.length_take, Nat.min_eq_left (show lo ≤ L.length by omega)]
  by_cases h1 : i < lo
  · rw [if_pos (by omega), if_pos h1, List.getElem?_append, List.length_take, if_pos (by omega), List.getElem?_take, if_pos h1]
  · rw [if_neg h1]
    by_cases h2 : i < lo + S.length
    · rw [if_pos h2, if_pos h2, List.getElem?_append, List.length_take, if_neg (by omega), Nat.min_eq_left (show lo ≤ L.length by omega)]
    · rw [if_neg h2, if_neg h2, List.getElem?_drop]; congr 1; omega

def copyK {R : Type} (P : Program) (tm : List AV) (M : Mem) (o : Oper) (k : AV → Mem → Option R) : Option R :=
  match o.op with
  | .call c => match c.callee, c.args.toList, c.argTypes.toList with
    | .builtin .copy, [d, s], [dT, _] => match ev tm d, ev tm s with
      | .vsl h lo z, .vec hs => match M.vecs[h]?, M.vecs[hs]?, P.underlying dT with
        | some (some e), some (some es), some (.slice el) =>
          bif e.own && e.isAgg && allU8 e.sh && es.isAgg && decide (es.sh = e.sh) && decide (z = e.sh.length) && decide (sizeT P el = some z) && decide (0 < z) then
            (if 0 < es.cont.length ∧ lo + es.cont.length ≤ e.cont.length then k (.lit (.int .i64 es.cont.length)) (putV M h { e with cont := lay e.cont es.cont lo }) else none)
          else none
        | _, _, _ => none
      | _, _ => none
    | _, _, _ => none
  | _ => none
theorem toList2 {α : Type} {l : Array α} {a b : α} (h : l.toList = [a, b]) : l = #[a, b] := by
  apply Array.ext'; simpa using h
theorem copyK_sound {R : Type} {P : Program} {tm : List AV} {M : Mem} {o : Oper} {k : AV → Mem → Option R} {r : R} (h : copyK P tm M o k = some r) :
    ∃ z M', k z M' = some r ∧ MemOk P tm M o z M' := by
  obtain ⟨dst, op, ty, pos, after, guard⟩ := o
  unfold copyK at h
  simp only at h
  split at h
  · rename_i c
    split at h
    · rename_i d s dT sT hcl hargs htys
      split at h
      · rename_i hh lo z hs hd hsv
        split at h
        · rename_i e es el he hes hu
          simp only [cond_eq_ite, Bool.and_eq_true, decide_eq_true_eq] at h
          split at h
          · rename_i hc
            obtain ⟨⟨⟨⟨⟨⟨⟨hown, hag⟩, hu8⟩, hags⟩, hshe⟩, rfl⟩, hsz⟩, hz⟩ := hc
            split at h
            · rename_i hlen
              obtain ⟨hn0, hfit⟩ := hlen
              refine ⟨_, _, h, fun E a w0 w hT hR => ?_⟩
              have hde := (hT.ev d).2 (by rw [hd]; simp only [AV.lv, live_odd, aliveV, he])
              have hse := (hT.ev s).2 (by rw [hsv]; simp only [AV.lv, live_odd, aliveV, hes])
              rw [hd] at hde
              rw [hsv] at hse
              rcases hR.vec hh e he with ⟨hz0, _⟩ | ⟨a0, cap, cs, fz, hv⟩
              · rw [hz0, List.length_nil] at hfit; omega
              rcases hR.vec hs es hes with ⟨hz0, _⟩ | ⟨a1, cap1, ds, fz1, hv1⟩
              · rw [hz0] at hn0; simp at hn0
              obtain ⟨g, off, sp⟩ := a0
              have hsp := hv.spot
              simp only at hsp
              subst hsp
              obtain ⟨hwr, rfl, hbl⟩ := hv.mine hown
              have hle := hv.le
              have hdv : a.eval d = .slice (some ⟨g, off + lo * e.sh.length, none⟩) (e.cont.length - lo) (cap - lo) := by
                rw [hde]
                simp only [AV.conc, hv.val, fromV]
                rw [if_neg (by omega), addr_add]
              have hsv' : a.eval s = .slice (some a1) es.cont.length cap1 := by rw [hse]; exact hv1.val
              have hroom : off + e.cont.length * e.sh.length ≤ cs.size := by
                rcases hv.room with hr | hr
                · omega
                · exact hr
              have hroom1 : a1.off + es.cont.length * e.sh.length ≤ ds.size := by
                rcases hv1.room with hr | hr
                · omega
                · rw [← hshe]; exact hr
              have hmul : lo * e.sh.length + es.cont.length * e.sh.length ≤ e.cont.length * e.sh.length := by
                rw [← Nat.add_mul]; exact Nat.mul_le_mul_right _ hfit
              have hval : ∀ j, j < es.cont.length * e.sh.length → ∃ m, ds[a1.off + j]? = some (.int .u8 m) := fun j hj =>
                hv1.bytes hags (by rw [hshe]; exact hu8) (by rw [hshe]; exact hz) (by rw [hshe]; exact hj)
              obtain ⟨vals, hvals⟩ : ∃ vals : List Value, vals = (ds.toList.drop a1.off).take (es.cont.length * e.sh.length) := ⟨_, rfl⟩
              have hvl : vals.length = es.cont.length * e.sh.length := by rw [hvals, List.length_take, List.length_drop, Array.length_toList]; omega
              have hvj : ∀ j, j < es.cont.length * e.sh.length → vals[j]? = ds[a1.off + j]? := fun j hj => by
                rw [hvals, List.getElem?_take, if_pos hj, List.getElem?_drop, Array.getElem?_toList]
              have hsrc : ∀ j v, vals[j]? = some v → w.cell? (a1.add j) = some v := fun j v hj => by
                have hlt := lt_of_get hj
                rw [hvl] at hlt
                rw [hvj j hlt] at hj
                obtain ⟨g1, o1, s1⟩ := a1
                have hs1 := hv1.spot
                simp only at hs1
                subst hs1
                rw [addr_add]
                unfold World.cell?
                simp only
                rw [show w.heap[g1]? = _ from hv1.blk]
                exact hj
              have h1c : ∀ v ∈ vals, v.oneCell' = true := fun v hv => by
                obtain ⟨j, hj⟩ := List.getElem?_of_mem hv
                have hlt := lt_of_get hj
                rw [hvl] at hlt
                rw [hvj j hlt] at hj
                obtain ⟨m, hm⟩ := hval j hlt
                rw [hm] at hj
                cases hj; rfl
              have hl := run_loadCells_list (P := P) w a1 vals hsrc
              have hst := run_storeCells_at g (off + lo * e.sh.length) e.elem vals 0 cs w hv.blk (by rw [hvl]; omega) h1c (P := P)
              have hi : (P.info? el).map (·.size) = some e.sh.length := hsz
              have hmin : Nat.min es.cont.length (e.cont.length - lo) = es.cont.length := Nat.min_eq_left (by omega)
              have hrun : (Builtin.copy_ #[dT, sT] ty #[a.eval d, a.eval s]).run P w = .ok (.int .i64 es.cont.length) (w.setRow g (cs.toList.take (off + lo * e.sh.length) ++ vals ++ cs.toList.drop (off + lo * e.sh.length + vals.length)).toArray) := by
                cases hq : P.info? el with
                | none => simp [hq] at hi
                | some i =>
                  have hi : i.size = e.sh.length := by simpa [hq] using hi
                  rw [hdv, hsv']
                  simp [Builtin.copy_, run_underlying hu, Builtin.lenOf, Builtin.firstCells, sizeOf, typeInfo, hq, hi, hmin, ← hvl, hl, hst, goInt]
              have hput := hR.putRow he hown (C := lay e.cont es.cont lo) (lay_len hfit) hv (ds := (cs.toList.take (off + lo * e.sh.length) ++ vals ++ cs.toList.drop (off + lo * e.sh.length + vals.length)).toArray) (by simp [hvl]; omega)
                (fun i x hx => by
                  rw [lay_at hfit] at hx
                  split at hx
                  · exact hv.shape i x hx
                  · split at hx
                    · have := hv1.shape _ x hx
                      rw [hags, hshe] at this
                      rw [hag]; exact this
                    · exact hv.shape i x hx)
                (fun i x hx q c hc => by
                  have hq : q < e.sh.length := by
                    have h1 := lt_of_get hc
                    have h2 : x.shape e.isAgg e.sh = true := by
                      rw [lay_at hfit] at hx
                      split at hx
                      · exact hv.shape i x hx
                      · split at hx
                        · have := hv1.shape _ x hx
                          rw [hags, hshe] at this
                          rw [hag]; exact this
                        · exact hv.shape i x hx
                    have := shape_len h2
                    omega
                  rw [lay_at hfit] at hx
                  show ∃ u, (cs.toList.take (off + lo * e.sh.length) ++ vals ++ cs.toList.drop (off + lo * e.sh.length + vals.length)).toArray[off + (i * e.sh.length + q)]? = some u ∧ _
                  simp only [List.getElem?_toArray]
                  have htl : (cs.toList.take (off + lo * e.sh.length)).length = off + lo * e.sh.length := by simp; omega
                  split at hx
                  · rename_i h1
                    obtain ⟨u, g1, g2⟩ := hv.cell i x hx q c hc
                    refine ⟨u, ?_, g2⟩
                    have : i * e.sh.length + q < lo * e.sh.length := by
                      have := Nat.mul_le_mul_right e.sh.length (show i + 1 ≤ lo from h1)
                      rw [Nat.add_mul] at this; omega
                    rw [List.getElem?_append_left (by simp only [List.length_append, htl]; omega), List.getElem?_append_left (by rw [htl]; omega), List.getElem?_take, if_pos (by omega), Array.getElem?_toList]
                    exact g1
                  · rename_i h1
                    split at hx
                    · rename_i h2
                      obtain ⟨u, g1, g2⟩ := hv1.cell (i - lo) x hx q c hc
                      refine ⟨u, ?_, g2⟩
                      have e1 : i * e.sh.length = lo * e.sh.length + (i - lo) * e.sh.length := by rw [← Nat.add_mul]; congr 1; omega
                      have h3 : (i - lo) * e.sh.length + q < es.cont.length * e.sh.length := by
                        have := Nat.mul_le_mul_right e.sh.length (show (i - lo) + 1 ≤ es.cont.length by omega)
                        rw [Nat.add_mul] at this; omega
                      rw [List.getElem?_append_left (by simp only [List.length_append, htl]; omega), List.getElem?_append_right (by rw [htl]; omega), htl]
                      rw [show off + (i * e.sh.length + q) - (off + lo * e.sh.length) = (i - lo) * e.sh.length + q by omega, hvj _ h3]
                      rw [hshe] at g1
                      exact g1
                    · rename_i h2
                      obtain ⟨u, g1, g2⟩ := hv.cell i x hx q c hc
                      refine ⟨u, ?_, g2⟩
                      have h4 : lo * e.sh.length + es.cont.length * e.sh.length ≤ i * e.sh.length := by
                        rw [← Nat.add_mul]; exact Nat.mul_le_mul_right _ (by omega)
                      rw [List.getElem?_append_right (by simp only [List.length_append, htl]; omega), List.getElem?_drop, Array.getElem?_toList]
                      rw [← g1]
                      congr 1
                      simp only [List.length_append, htl]
                      omega)
              refine ⟨E, .int .i64 es.cont.length, _, hput.1, RelS.lit _ _ _, hput.2, by simp, .inl ?_⟩
              have ha := toList2 hargs
              have ht := toList2 htys
              simp only [execOp, hcl, resolve, ha, ht, invoke, builtin, Sem.run_bind, Sem.run_pure, Result.andThen_ok]
              simp [hrun, Result.andThen]
            · cases h
          · cases h
        · cases h
      · cases h
    · cases h
  · cases h
end Go.Sx

namespace Go.Sx
open Go Go.RowKit

/-! A memory told anew: a few blocks and rows under new names. -/

def invF : List Nat → Nat → Nat → Option Nat
  | [], _, _ => none
  | y :: l, x, i => bif decide (y = x) then some i else invF l x (i + 1)
theorem invF_spec : ∀ {p : List Nat} {x i j : Nat}, invF p x i = some j → i ≤ j ∧ p[j - i]? = some x
  | [], _, _, _, h => by cases h
  | y :: l, x, i, j, h => by
    simp only [invF, cond_eq_ite, decide_eq_true_eq] at h
    split at h
    · rename_i e; simp only [Option.some.injEq] at h; subst h; subst e; exact ⟨Nat.le_refl _, by simp⟩
    · obtain ⟨h1, h2⟩ := invF_spec h
      refine ⟨by omega, ?_⟩
      rw [show j - i = (j - (i + 1)) + 1 by omega]
      simpa using h2
theorem invF_some {p : List Nat} {x j : Nat} (h : invF p x 0 = some j) : p[j]? = some x := by simpa using (invF_spec h).2
theorem invF_at : ∀ {p : List Nat} {x i j : Nat}, p.Nodup → p[j]? = some x → invF p x i = some (i + j)
  | [], _, _, _, _, h => by simp at h
  | y :: l, x, i, j, hn, h => by
    simp only [List.nodup_cons] at hn
    simp only [invF, cond_eq_ite, decide_eq_true_eq]
    cases j with
    | zero => simp at h; simp [h]
    | succ j =>
      simp at h
      rw [if_neg (fun e : y = x => hn.1 (by rw [e]; exact List.mem_of_getElem? h)), invF_at hn.2 h]
      congr 1; omega
theorem invF_none : ∀ {p : List Nat} {x i : Nat}, invF p x i = none → x ∉ p
  | [], _, _, _ => by simp
  | y :: l, x, i, h => by
    simp only [invF, cond_eq_ite, decide_eq_true_eq] at h
    split at h
    · cases h
    · rename_i e; simp only [List.mem_cons, not_or]; exact ⟨fun hh => e hh.symm, invF_none h⟩

mutual
def AV.ren (fb fv : Nat → Option Nat) : AV → AV
  | .lit v => .lit v
  | .agg cs => .agg (renL fb fv cs)
  | .tup vs => .tup (renL fb fv vs)
  | .ptr b off => match fb b with
    | some i => .ptr i off
    | none => .bad
  | .sl b off len cap => match fb b with
    | some i => .sl i off len cap
    | none => .bad
  | .fn f caps => .fn f (renL fb fv caps)
  | .vec h => match fv h with
    | some i => .vec i
    | none => .bad
  | .vptr h i z j => match fv h with
    | some q => .vptr q i z j
    | none => .bad
  | .vsl h lo z => match fv h with
    | some q => .vsl q lo z
    | none => .bad
  | .bad => .bad
def renL (fb fv : Nat → Option Nat) : List AV → List AV
  | [] => []
  | a :: l => a.ren fb fv :: renL fb fv l
end
theorem renL_eq (fb fv : Nat → Option Nat) (l : List AV) : renL fb fv l = l.map (AV.ren fb fv) := by
  induction l with
  | nil => rfl
  | cons a l ih => simp [renL, ih]

def Blk.ren (fb fv : Nat → Option Nat) (x : Blk) : Blk := { x with cells := renL fb fv x.cells }
def Ent.ren (fb fv : Nat → Option Nat) (tf : Nat → Nat) (e : Ent) : Ent := { e with terr := tf e.terr, cont := bif noAny e.sh then e.cont else renL fb fv e.cont }
def invB (p : List Nat) (x : Nat) : Option Nat := invF p x 0
def terrIx (M : Mem) (t : Nat) : List Nat → Nat → Nat
  | [], i => i
  | h :: l, i => match M.vecs[h]? with
    | some (some e) => bif decide (e.terr = t) then i else terrIx M t l (i + 1)
    | _ => terrIx M t l (i + 1)
def pickM (M : Mem) (pb pv : List Nat) : Mem := ⟨pb.map fun b => ((M.blks[b]?).getD none).map (Blk.ren (invB pb) (invB pv)), pv.map fun h => ((M.vecs[h]?).getD none).map (Ent.ren (invB pb) (invB pv) fun t => terrIx M t pv 0)⟩
def pickE (E : Env) (pb pv : List Nat) : Env := ⟨fun i => E.ρ (pb.getD i 0), fun i => E.σ (pv.getD i 0)⟩

theorem pickM_blk {M : Mem} {pb pv : List Nat} {i : Nat} {x : Blk} (h : (pickM M pb pv).blks[i]? = some (some x)) : ∃ q y, pb[i]? = some q ∧ M.blks[q]? = some (some y) ∧ x = y.ren (invB pb) (invB pv) := by
  simp only [pickM, List.getElem?_map] at h
  cases hq : pb[i]? with
  | none => rw [hq] at h; cases h
  | some q =>
    rw [hq] at h
    simp only [Option.map_some, Option.some.injEq] at h
    cases hv : M.blks[q]? with
    | none => rw [hv] at h; cases h
    | some o =>
      rw [hv] at h
      cases o with
      | none => cases h
      | some y => simp only [Option.getD_some, Option.map_some, Option.some.injEq] at h; exact ⟨q, y, rfl, hv, h.symm⟩
theorem pickM_vec {M : Mem} {pb pv : List Nat} {i : Nat} {x : Ent} (h : (pickM M pb pv).vecs[i]? = some (some x)) : ∃ q y, pv[i]? = some q ∧ M.vecs[q]? = some (some y) ∧ x = y.ren (invB pb) (invB pv) fun t => terrIx M t pv 0 := by
  simp only [pickM, List.getElem?_map] at h
  cases hq : pv[i]? with
  | none => rw [hq] at h; cases h
  | some q =>
    rw [hq] at h
    simp only [Option.map_some, Option.some.injEq] at h
    cases hv : M.vecs[q]? with
    | none => rw [hv] at h; cases h
    | some o =>
      rw [hv] at h
      cases o with
      | none => cases h
      | some y => simp only [Option.getD_some, Option.map_some, Option.some.injEq] at h; exact ⟨q, y, rfl, hv, h.symm⟩
theorem pickM_aliveB {M : Mem} {pb pv : List Nat} {i q : Nat} (hq : pb[i]? = some q) (h : aliveB (pickM M pb pv) i = true) : aliveB M q = true := by
  unfold aliveB at h
  split at h
  · rename_i x hx
    obtain ⟨q', y, h1, h2, _⟩ := pickM_blk hx
    rw [hq] at h1; cases h1
    unfold aliveB; rw [h2]
  · cases h
theorem pickM_aliveV {M : Mem} {pb pv : List Nat} {i q : Nat} (hq : pv[i]? = some q) (h : aliveV (pickM M pb pv) i = true) : aliveV M q = true := by
  unfold aliveV at h
  split at h
  · rename_i x hx
    obtain ⟨q', y, h1, h2, _⟩ := pickM_vec hx
    rw [hq] at h1; cases h1
    unfold aliveV; rw [h2]
  · cases h

/-- what a told value is, told anew: names that are read the same -/
structure Ren (E : Env) (M : Mem) (fb fv : Nat → Option Nat) (E' : Env) (M' : Mem) : Prop where
  nb : ∀ i q, fb q = some i → i < M'.blks.length
  nv : ∀ i q, fv q = some i → i < M'.vecs.length
  ρ : ∀ i q, fb q = some i → E'.ρ i = E.ρ q
  σ : ∀ i q, fv q = some i → E'.σ i = E.σ q
  aB : ∀ i q, fb q = some i → aliveB M' i = true → aliveB M q = true
  aV : ∀ i q, fv q = some i → aliveV M' i = true → aliveV M q = true

theorem Ren.pick (E : Env) (M : Mem) (pb pv : List Nat) : Ren E M (invB pb) (invB pv) (pickE E pb pv) (pickM M pb pv) :=
  ⟨fun i q h => by simpa [pickM] using lt_of_get (invF_some h), fun i q h => by simpa [pickM] using lt_of_get (invF_some h), fun i q h => by simp [pickE, List.getD, invF_some h], fun i q h => by simp [pickE, List.getD, invF_some h], fun i q h => pickM_aliveB (invF_some h), fun i q h => pickM_aliveV (invF_some h)⟩

mutual
theorem Ren.sc {E E' : Env} {M M' : Mem} {fb fv : Nat → Option Nat} (r : Ren E M fb fv E' M') : ∀ a : AV, (a.ren fb fv).sc M'.blks.length M'.vecs.length = true
  | .lit v => rfl
  | .agg cs => by simp only [AV.ren, AV.sc]; exact r.scL cs
  | .tup cs => by simp only [AV.ren, AV.sc]; exact r.scL cs
  | .ptr b off => by
    simp only [AV.ren]
    cases h : fb b with
    | none => rfl
    | some i => simp only [AV.sc, decide_eq_true_eq]; exact r.nb i b h
  | .sl b off len cap => by
    simp only [AV.ren]
    cases h : fb b with
    | none => rfl
    | some i => simp only [AV.sc, decide_eq_true_eq]; exact r.nb i b h
  | .fn f caps => by simp only [AV.ren, AV.sc]; exact r.scL caps
  | .vec h => by
    simp only [AV.ren]
    cases h : fv h with
    | none => rfl
    | some i => simp only [AV.sc, decide_eq_true_eq]; exact r.nv i _ (by assumption)
  | .vptr h _ _ _ => by
    simp only [AV.ren]
    cases h : fv h with
    | none => rfl
    | some i => simp only [AV.sc, decide_eq_true_eq]; exact r.nv i _ (by assumption)
  | .vsl h _ _ => by
    simp only [AV.ren]
    cases h : fv h with
    | none => rfl
    | some i => simp only [AV.sc, decide_eq_true_eq]; exact r.nv i _ (by assumption)
  | .bad => rfl
theorem Ren.scL {E E' : Env} {M M' : Mem} {fb fv : Nat → Option Nat} (r : Ren E M fb fv E' M') : ∀ l : List AV, Sx.scL M'.blks.length M'.vecs.length (renL fb fv l) = true
  | [] => rfl
  | a :: l => by simp only [renL, Sx.scL, Bool.and_eq_true]; exact ⟨r.sc a, r.scL l⟩
end
mutual
theorem Ren.conc {E E' : Env} {M M' : Mem} {fb fv : Nat → Option Nat} (r : Ren E M fb fv E' M') : ∀ a : AV, (a.ren fb fv).lv M'.live = true → a.lv M.live = true ∧ (a.ren fb fv).conc E' = a.conc E
  | .lit v, _ => ⟨rfl, rfl⟩
  | .agg cs, h => by
    simp only [AV.ren, AV.lv, AV.conc] at *
    obtain ⟨h1, h2⟩ := r.concL cs h
    exact ⟨h1, by rw [h2]⟩
  | .tup cs, h => by
    simp only [AV.ren, AV.lv, AV.conc] at *
    obtain ⟨h1, h2⟩ := r.concL cs h
    exact ⟨h1, by rw [h2]⟩
  | .ptr b off, h => by
    simp only [AV.ren] at *
    cases hi : fb b with
    | none => rw [hi] at h; cases h
    | some i =>
      rw [hi] at h
      simp only [AV.lv, live_even, AV.conc] at *
      exact ⟨r.aB i b hi h, by rw [r.ρ i b hi]⟩
  | .sl b off len cap, h => by
    simp only [AV.ren] at *
    cases hi : fb b with
    | none => rw [hi] at h; cases h
    | some i =>
      rw [hi] at h
      simp only [AV.lv, live_even, AV.conc] at *
      exact ⟨r.aB i b hi h, by rw [r.ρ i b hi]⟩
  | .fn f caps, h => by
    simp only [AV.ren, AV.lv, AV.conc] at *
    obtain ⟨h1, h2⟩ := r.concL caps h
    exact ⟨h1, by rw [h2]⟩
  | .vec q, h => by
    simp only [AV.ren] at *
    cases hi : fv q with
    | none => rw [hi] at h; cases h
    | some i =>
      rw [hi] at h
      simp only [AV.lv, live_odd, AV.conc] at *
      exact ⟨r.aV i q hi h, r.σ i q hi⟩
  | .vptr q _ _ _, h => by
    simp only [AV.ren] at *
    cases hi : fv q with
    | none => rw [hi] at h; cases h
    | some i =>
      rw [hi] at h
      simp only [AV.lv, live_odd, AV.conc] at *
      refine ⟨r.aV i q hi h, ?_⟩
      unfold Env.va; rw [r.σ i q hi]
  | .vsl q _ _, h => by
    simp only [AV.ren] at *
    cases hi : fv q with
    | none => rw [hi] at h; cases h
    | some i =>
      rw [hi] at h
      simp only [AV.lv, live_odd, AV.conc] at *
      refine ⟨r.aV i q hi h, ?_⟩
      rw [r.σ i q hi]
  | .bad, h => by cases h
theorem Ren.concL {E E' : Env} {M M' : Mem} {fb fv : Nat → Option Nat} (r : Ren E M fb fv E' M') : ∀ l : List AV, lvL M'.live (renL fb fv l) = true → lvL M.live l = true ∧ Sx.concL E' (renL fb fv l) = Sx.concL E l
  | [], _ => ⟨rfl, rfl⟩
  | a :: l, h => by
    simp only [renL, lvL, Bool.and_eq_true, Sx.concL] at *
    obtain ⟨h1, h2⟩ := r.conc a h.1
    obtain ⟨h3, h4⟩ := r.concL l h.2
    exact ⟨⟨h1, h3⟩, by rw [h2, h4]⟩
end
theorem RelS.ren {E E' : Env} {M M' : Mem} {fb fv : Nat → Option Nat} (r : Ren E M fb fv E' M') {a : AV} {v : Value} (h : RelS E M a v) : RelS E' M' (a.ren fb fv) v :=
  ⟨r.sc a, fun hl => let ⟨h1, h2⟩ := r.conc a hl; (h.2 h1).trans h2.symm⟩
theorem RelL.ren {E E' : Env} {M M' : Mem} {fb fv : Nat → Option Nat} (r : Ren E M fb fv E' M') {l : List AV} {vs : List Value} (h : RelL E M l vs) : RelL E' M' (renL fb fv l) vs := by
  rw [renL_eq]
  refine ⟨by rw [List.length_map]; exact h.len, fun i a v ha hv => ?_⟩
  rw [List.getElem?_map] at ha
  cases hx : l[i]? with
  | none => rw [hx] at ha; cases ha
  | some x =>
    rw [hx] at ha
    simp only [Option.map_some, Option.some.injEq] at ha
    subst ha
    exact (h.at_ i x v hx hv).ren r

/-! a value that names nothing -/
theorem RelS.closed {E E' : Env} {M M' : Mem} {n : Value} {v : Value} (h : RelS E M (.lit n) v) : RelS E' M' (.lit n) v := ⟨rfl, fun _ => h.2 rfl⟩

theorem fits_lit {k : CK} {a : AV} (h : k.fits a = true) (hk : k ≠ .any) : ∃ v, a = .lit v := by
  cases k with
  | any => exact absurd rfl hk
  | int k => cases a <;> first | exact ⟨_, rfl⟩ | cases h
  | bool => cases a <;> first | exact ⟨_, rfl⟩ | cases h
  | str => cases a <;> first | exact ⟨_, rfl⟩ | cases h
theorem noAny_lit : ∀ {sh : List CK} {l : List AV}, noAny sh = true → fitsAll sh l = true → ∀ c, c ∈ l → ∃ v, c = .lit v
  | [], [], _, _, c, hc => by cases hc
  | [], _ :: _, _, h, _, _ => by cases h
  | _ :: _, [], _, h, _, _ => by cases h
  | k :: ks, a :: l, hn, h, c, hc => by
    simp only [fitsAll, Bool.and_eq_true] at h
    have hk : k ≠ .any := fun e => by subst e; cases hn
    have hn' : noAny ks = true := by cases k <;> first | exact hn | cases hn
    rcases List.mem_cons.1 hc with rfl | hc
    · exact fits_lit h.1 hk
    · exact noAny_lit hn' h.2 c hc
theorem shape_lit {ia : Bool} {sh : List CK} {x : AV} (hn : noAny sh = true) (h : x.shape ia sh = true) : ∀ c, c ∈ x.cells → ∃ v, c = .lit v := by
  intro c hc
  unfold AV.shape at h
  split at h
  · exact noAny_lit hn h c hc
  · rename_i a
    obtain ⟨v, rfl⟩ := noAny_lit hn h x (by simp)
    have hk : ∃ k, sh = [k] := by
      cases sh with
      | nil => cases h
      | cons k ks => cases ks with
        | nil => exact ⟨k, rfl⟩
        | cons _ _ => simp [fitsAll] at h
    obtain ⟨k, rfl⟩ := hk
    cases v with
    | agg cs => simp [AV.cells] at hc; obtain ⟨v, _, rfl⟩ := hc; exact ⟨v, rfl⟩
    | _ => simp [AV.cells] at hc; exact ⟨_, hc⟩
  · cases h

theorem renL_lits (fb fv : Nat → Option Nat) (l : List Value) : renL fb fv (l.map AV.lit) = l.map AV.lit := by
  induction l with
  | nil => rfl
  | cons a l ih => simp [renL, AV.ren, ih]
theorem ren_cells (fb fv : Nat → Option Nat) (a : AV) : (a.ren fb fv).cells = renL fb fv a.cells := by
  cases a with
  | lit v => cases v with
    | agg cs => simp only [AV.ren, AV.cells]; exact (renL_lits fb fv _).symm
    | _ => rfl
  | agg cs => rfl
  | tup vs => rfl
  | fn f caps => rfl
  | bad => rfl
  | ptr b off => simp only [AV.ren, AV.cells, renL]; cases fb b <;> rfl
  | sl b off len cap => simp only [AV.ren, AV.cells, renL]; cases fb b <;> rfl
  | vec h => simp only [AV.ren, AV.cells, renL]; cases fv h <;> rfl
  | vptr h _ _ _ => simp only [AV.ren, AV.cells, renL]; cases fv h <;> rfl
  | vsl h _ _ => simp only [AV.ren, AV.cells, renL]; cases fv h <;> rfl
theorem fits_ren {k : CK} {a : AV} (fb fv : Nat → Option Nat) (h : k.fits a = true) : k.fits (a.ren fb fv) = true := by
  cases a with
  | lit v => exact h
  | agg cs => cases k <;> cases h
  | tup vs => cases k <;> cases h
  | fn f caps => cases k <;> first | rfl | cases h
  | bad => exact h
  | ptr b off => simp only [AV.ren]; cases fb b <;> (cases k <;> first | rfl | cases h)
  | sl b off len cap => simp only [AV.ren]; cases fb b <;> (cases k <;> first | rfl | cases h)
  | vec h' => simp only [AV.ren]; cases fv h' <;> (cases k <;> first | rfl | cases h)
  | vptr h' _ _ _ => simp only [AV.ren]; cases fv h' <;> (cases k <;> first | rfl | cases h)
  | vsl h' _ _ => simp only [AV.ren]; cases fv h' <;> (cases k <;> first | rfl | cases h)
theorem fitsAll_ren (fb fv : Nat → Option Nat) : ∀ {ks : List CK} {l : List AV}, fitsAll ks l = true → fitsAll ks (renL fb fv l) = true
  | [], [], _ => rfl
  | [], _ :: _, h => by cases h
  | _ :: _, [], h => by cases h
  | k :: ks, a :: l, h => by
    simp only [fitsAll, renL, Bool.and_eq_true] at *
    exact ⟨fits_ren fb fv h.1, fitsAll_ren fb fv h.2⟩
theorem shape_ren {ia : Bool} {sh : List CK} {x : AV} (fb fv : Nat → Option Nat) (h : x.shape ia sh = true) : (x.ren fb fv).shape ia sh = true := by
  cases ia with
  | true => cases x <;> first | exact fitsAll_ren fb fv h | cases h
  | false =>
    have : fitsAll sh [x] = true := by cases x <;> exact h
    have := fitsAll_ren fb fv this
    simp only [renL] at this
    generalize x.ren fb fv = y at *
    cases y <;> exact this

/-- an entry's cells, told anew -/
theorem VecOk.ren {E E' : Env} {B : Nat → Prop} {M M' : Mem} {fb fv : Nat → Option Nat} (r : Ren E M fb fv E' M') {w : World} {h i : Nat} {e : Ent} {a : Addr} {cap : Nat} {cs : Array Value} {fz : Nat × Nat} (hv : VecOk E B M w h e a cap cs fz) (hσ : E'.σ i = E.σ h) (tf : Nat → Nat)
    (hm : e.own = true → ∀ (b : Nat) (x : Blk), M'.blks[b]? = some (some x) → E'.ρ b ≠ a.block) : VecOk E' B M' w i (e.ren fb fv tf) a cap cs fz := by
  have hlen : (e.ren fb fv tf).cont.length = e.cont.length := by
    unfold Ent.ren
    cases noAny e.sh <;> simp [renL_eq]
  have hcont : ∀ (j : Nat) (x : AV), (e.ren fb fv tf).cont[j]? = some x → ∃ y, e.cont[j]? = some y ∧ y.shape e.isAgg e.sh = true ∧ ((noAny e.sh = true ∧ x = y) ∨ x = y.ren fb fv) := by
    intro j x hx
    unfold Ent.ren at hx
    cases hn : noAny e.sh with
    | true => simp only [hn, cond_true] at hx; exact ⟨x, hx, hv.shape j x hx, .inl ⟨rfl, rfl⟩⟩
    | false =>
      simp only [hn, cond_false, renL_eq, List.getElem?_map] at hx
      cases hy : e.cont[j]? with
      | none => rw [hy] at hx; cases hx
      | some y =>
        rw [hy] at hx
        simp only [Option.map_some, Option.some.injEq] at hx
        exact ⟨y, rfl, hv.shape j y hy, .inr hx.symm⟩
  exact
    { val := by rw [hσ, hlen]; exact hv.val
      spot := hv.spot
      le := by rw [hlen]; exact hv.le
      blk := hv.blk, room := by rw [hlen]; exact hv.room
      shape := fun j x hx => by
        obtain ⟨y, _, h2, h3⟩ := hcont j x hx
        rcases h3 with ⟨_, rfl⟩ | rfl
        · exact h2
        · exact shape_ren fb fv h2
      cell := fun j x hx q c hc => by
        obtain ⟨y, h1, h2, h3⟩ := hcont j x hx
        rcases h3 with ⟨hn, rfl⟩ | rfl
        · obtain ⟨u, g1, g2⟩ := hv.cell j x h1 q c hc
          obtain ⟨v, rfl⟩ := shape_lit hn h2 c (List.mem_of_getElem? hc)
          exact ⟨u, g1, g2.closed⟩
        · rw [ren_cells, renL_eq, List.getElem?_map] at hc
          cases hy : y.cells[q]? with
          | none => rw [hy] at hc; cases hc
          | some c' =>
            rw [hy] at hc
            simp only [Option.map_some, Option.some.injEq] at hc
            subst hc
            obtain ⟨u, g1, g2⟩ := hv.cell j y h1 q c' hy
            exact ⟨u, g1, g2.ren r⟩
      old := hv.old, head := hv.head
      mine := fun ho => ⟨(hv.mine ho).1, (hv.mine ho).2.1, hm ho⟩ }

theorem ren_cont_nil {fb fv : Nat → Option Nat} {tf : Nat → Nat} {e : Ent} (h : e.cont = []) : (e.ren fb fv tf).cont = [] := by
  unfold Ent.ren
  cases noAny e.sh <;> simp [h, renL]
theorem RepM.pick {E : Env} {w0 : Bs} {w : World} {M : Mem} (hR : RepM E w0 M w) {pb : List Nat} (pv : List Nat) (hn : pb.Nodup) : RepM (pickE E pb pv) w0 (pickM M pb pv) w := by
  have r := Ren.pick E M pb pv
  have pρ : ∀ i q, pb[i]? = some q → (pickE E pb pv).ρ i = E.ρ q := fun i q h => by simp [pickE, List.getD, h]
  have pσ : ∀ i q, pv[i]? = some q → (pickE E pb pv).σ i = E.σ q := fun i q h => by simp [pickE, List.getD, h]
  have hva : ∀ {i q : Nat}, pv[i]? = some q → (pickE E pb pv).bk i = E.bk q := fun {i q} h => by unfold Env.bk; rw [pσ i q h]
  refine ⟨hR.below, fun b x h => ?_, fun b b' x x' h h' he => ?_, fun i e he => ?_, fun i i' e e' he he' ho ho' g hb hb' => ?_⟩
  · obtain ⟨q, y, h1, h2, rfl⟩ := pickM_blk h
    obtain ⟨g1, cs, g2, g3⟩ := hR.blk q y h2
    rw [pρ b q h1]
    exact ⟨g1, cs, g2, g3.ren r⟩
  · obtain ⟨q, y, h1, h2, rfl⟩ := pickM_blk h
    obtain ⟨q', y', h1', h2', rfl⟩ := pickM_blk h'
    rw [pρ b q h1, pρ b' q' h1'] at he
    have hq := hR.inj q q' y y' h2 h2' he
    subst hq
    have := invF_at (i := 0) hn h1
    rw [invF_at hn h1'] at this
    simpa using this.symm
  · obtain ⟨q, y, h1, h2, rfl⟩ := pickM_vec he
    rcases hR.vec q y h2 with ⟨hz, hz'⟩ | ⟨a, cap, cs, fz, hV⟩
    · exact .inl ⟨ren_cont_nil hz, (pσ i q h1).trans hz'⟩
    refine .inr ⟨a, cap, cs, fz, hV.ren r (pσ i q h1) _ fun ho b x hx => ?_⟩
    obtain ⟨p, z, g1, g2, _⟩ := pickM_blk hx
    rw [pρ b p g1]
    exact (hV.mine ho).2.2 p z g2
  · obtain ⟨q, y, h1, h2, rfl⟩ := pickM_vec he
    obtain ⟨q', y', h1', h2', rfl⟩ := pickM_vec he'
    rw [hva h1] at hb
    rw [hva h1'] at hb'
    simp only [Ent.ren]
    rw [hR.terr q q' y y' h2 h2' ho ho' g hb hb']

/-! a base of its own: what is the walk's own is lent, and nothing else -/
def lend (E : Env) (M : Mem) (w : World) : Bs where
  w0 := w
  Wr i := w.heap.size ≤ i ∨ (∃ b x, M.blks[b]? = some (some x) ∧ x.own = true ∧ E.ρ b = i) ∨ (∃ h e, M.vecs[h]? = some (some e) ∧ e.own = true ∧ E.bk h = some i)
  up _ h := .inl h
theorem lend_wr {E : Env} {w0 : Bs} {w : World} {M : Mem} (hR : RepM E w0 M w) {i : Nat} (h : (lend E M w).Wr i) : w0.Wr i := by
  rcases h with h | ⟨b, x, h1, h2, rfl⟩ | ⟨q, e, h1, h2, h3⟩
  · exact w0.up _ (Nat.le_trans hR.below.size h)
  · exact (hR.blk b x h1).1.1 h2
  · rcases hR.vec q e h1 with ⟨_, hz⟩ | ⟨a, cap, cs, fz, hv⟩
    · rw [bk_nil hz] at h3; cases h3
    rw [hv.bk] at h3
    simp only [Option.some.injEq] at h3
    rw [← h3]; exact (hv.mine h2).1
theorem RepM.rebase {E : Env} {w0 : Bs} {w : World} {M : Mem} (hR : RepM E w0 M w) : RepM E (lend E M w) M w := by
  refine ⟨Keeps.refl _, fun b x hx => ?_, hR.inj, fun i e he => ?_, hR.terr⟩
  · obtain ⟨⟨g1, g2⟩, cs, g3, g4⟩ := hR.blk b x hx
    exact ⟨⟨fun ho => .inr (.inl ⟨b, x, hx, ho, rfl⟩), fun ho hh => g2 ho (lend_wr hR hh)⟩, cs, g3, g4⟩
  · rcases hR.vec i e he with hz | ⟨a, cap, cs, fz, hv⟩
    · exact .inl hz
    refine .inr ⟨a, cap, cs, fz, { hv with old := fun ho hh => hv.old ho (lend_wr hR hh), mine := fun ho => ⟨.inr (.inr ⟨i, e, he, ho, hv.bk⟩), (hv.mine ho).2⟩ }⟩
end Go.Sx

namespace Go.Sx
open Go Go.RowKit

/-! What a callee made of the little that it was lent, put back among all that the caller knows. -/

def allLt (n : Nat) : List Nat → Bool
  | [] => true
  | x :: l => decide (x < n) && allLt n l
theorem allLt_at {n : Nat} : ∀ {p : List Nat} {i x : Nat}, allLt n p = true → p[i]? = some x → x < n
  | [], _, _, _, h => by simp at h
  | y :: l, i, x, ha, h => by
    simp only [allLt, Bool.and_eq_true, decide_eq_true_eq] at ha
    cases i with
    | zero => simp at h; omega
    | succ i => exact allLt_at ha.2 (by simpa using h)
def nodupB : List Nat → Bool
  | [] => true
  | x :: l => (invF l x 0).isNone && nodupB l
theorem nodupB_spec : ∀ {p : List Nat}, nodupB p = true → p.Nodup
  | [], _ => List.nodup_nil
  | x :: l, h => by
    simp only [nodupB, Bool.and_eq_true, Option.isNone_iff_eq_none] at h
    exact List.nodup_cons.2 ⟨invF_none h.1, nodupB_spec h.2⟩

def bkN (p : List Nat) (n len i : Nat) : Option Nat := match p[i]? with
  | some x => some x
  | none => bif decide (i < len) then some (n + (i - p.length)) else none
def updL {α : Type} (f : Nat → Option α → Option α) : Nat → List (Option α) → List (Option α)
  | _, [] => []
  | i, x :: l => f i x :: updL f (i + 1) l
theorem updL_get {α : Type} {f : Nat → Option α → Option α} : ∀ {i : Nat} {l : List (Option α)} {j : Nat}, (updL f i l)[j]? = (l[j]?).map (f (i + j))
  | i, [], j => by simp [updL]
  | i, x :: l, 0 => by simp [updL]
  | i, x :: l, j + 1 => by
    simp only [updL, List.getElem?_cons_succ]
    rw [updL_get, show i + 1 + j = i + (j + 1) by omega]
theorem updL_len {α : Type} {f : Nat → Option α → Option α} : ∀ {i : Nat} {l : List (Option α)}, (updL f i l).length = l.length
  | i, [] => rfl
  | i, x :: l => by simp [updL, updL_len]

def outL {α : Type} (p : List Nat) (g : α → α) (kp : α → Bool) (L LS : List (Option α)) : List (Option α) :=
  updL (fun b x => match invF p b 0 with
    | some i => ((LS[i]?).getD none).map g
    | none => x) 0 L ++ (LS.drop p.length).map fun o => match o with
    | some y => bif kp y then some (g y) else none
    | none => none
def outF {β : Type} (n : Nat) (p : List Nat) (r r' : Nat → β) (b : Nat) : β := if b < n then r b else r' (p.length + (b - n))

section
variable {α : Type} {p : List Nat} {g : α → α} {kp : α → Bool} {L LS : List (Option α)}
theorem outL_len : (outL p g kp L LS).length = L.length + (LS.length - p.length) := by simp [outL, updL_len]
theorem outL_cases {b : Nat} {x : α} (h : (outL p g kp L LS)[b]? = some (some x)) :
    (b < L.length ∧ invF p b 0 = none ∧ L[b]? = some (some x)) ∨ ∃ i y, bkN p L.length LS.length i = some b ∧ LS[i]? = some (some y) ∧ x = g y ∧ (i < p.length ∨ kp y = true) := by
  unfold outL at h
  rcases Nat.lt_or_ge b L.length with hb | hb
  · rw [List.getElem?_append_left (by rw [updL_len]; exact hb), updL_get, Nat.zero_add] at h
    rw [List.getElem?_eq_getElem hb] at h
    simp only [Option.map_some, Option.some.injEq] at h
    cases hi : invF p b 0 with
    | none =>
      rw [hi] at h
      exact .inl ⟨hb, rfl, by rw [List.getElem?_eq_getElem hb]; exact congrArg some h⟩
    | some i =>
      rw [hi] at h
      simp only at h
      have hp := invF_some hi
      refine .inr ⟨i, ?_⟩
      cases hy : LS[i]? with
      | none => rw [hy] at h; cases h
      | some o =>
        rw [hy] at h
        cases o with
        | none => cases h
        | some y =>
          simp only [Option.getD_some, Option.map_some, Option.some.injEq] at h
          exact ⟨y, by simp [bkN, hp], rfl, h.symm, .inl (lt_of_get hp)⟩
  · rw [List.getElem?_append_right (by rw [updL_len]; exact hb), updL_len, List.getElem?_map, List.getElem?_drop] at h
    cases hy : LS[p.length + (b - L.length)]? with
    | none => rw [hy] at h; cases h
    | some o =>
      rw [hy] at h
      cases o with
      | none => cases h
      | some y =>
        simp only [Option.map_some, Option.some.injEq] at h
        cases hk : kp y with
        | false => rw [hk] at h; cases h
        | true =>
          rw [hk] at h
          simp only [cond_true, Option.some.injEq] at h
          refine .inr ⟨p.length + (b - L.length), y, ?_, hy, h.symm, .inr hk⟩
          have hl := lt_of_get hy
          simp only [bkN]
          rw [List.getElem?_eq_none (by omega)]
          simp only [hl, decide_true, cond_true, Option.some.injEq]
          omega
theorem outL_at (hn : p.Nodup) (hr : allLt L.length p = true) {q i : Nat} (h : bkN p L.length LS.length q = some i) {x : α} (hx : (outL p g kp L LS)[i]? = some (some x)) : ∃ y, LS[q]? = some (some y) := by
  unfold bkN at h
  cases hp : p[q]? with
  | some z =>
    rw [hp] at h
    simp only [Option.some.injEq] at h
    subst h
    have hz := allLt_at hr hp
    unfold outL at hx
    rw [List.getElem?_append_left (by rw [updL_len]; exact hz), updL_get, Nat.zero_add, List.getElem?_eq_getElem hz, invF_at hn hp] at hx
    simp only [Option.map_some, Option.some.injEq, Nat.zero_add] at hx
    cases hy : LS[q]? with
    | none => rw [hy] at hx; cases hx
    | some o => cases o with
      | none => rw [hy] at hx; cases hx
      | some y => exact ⟨y, rfl⟩
  | none =>
    rw [hp] at h
    simp only [cond_eq_ite, decide_eq_true_eq] at h
    split at h
    · rename_i hl
      simp only [Option.some.injEq] at h
      subst h
      have hpq : p.length ≤ q := by
        rcases Nat.lt_or_ge q p.length with h1 | h1
        · rw [List.getElem?_eq_getElem h1] at hp; cases hp
        · exact h1
      unfold outL at hx
      rw [List.getElem?_append_right (by rw [updL_len]; omega), updL_len, List.getElem?_map, List.getElem?_drop, show p.length + (L.length + (q - p.length) - L.length) = q by omega] at hx
      cases hy : LS[q]? with
      | none => rw [hy] at hx; cases hx
      | some o => cases o with
        | none => rw [hy] at hx; cases hx
        | some y => exact ⟨y, rfl⟩
    · cases h
theorem bkN_lt (hr : allLt L.length p = true) (hl : p.length ≤ LS.length) {q i : Nat} (h : bkN p L.length LS.length q = some i) : i < (outL p g kp L LS).length := by
  rw [outL_len]
  unfold bkN at h
  split at h
  · rename_i x hx
    simp only [Option.some.injEq] at h
    subst h
    have := allLt_at hr hx
    omega
  · rename_i hx
    simp only [cond_eq_ite, decide_eq_true_eq] at h
    split at h
    · simp only [Option.some.injEq] at h
      have hpq : p.length ≤ q := by
        rcases Nat.lt_or_ge q p.length with h1 | h1
        · rw [List.getElem?_eq_getElem h1] at hx; cases hx
        · exact h1
      omega
    · cases h
theorem outF_bk {β : Type} {n : Nat} {r r' : Nat → β} (he : ∀ i q, p[i]? = some q → r' i = r q) (hr : allLt n p = true) {len q i : Nat} (h : bkN p n len q = some i) : outF n p r r' i = r' q := by
  unfold bkN at h
  cases hp : p[q]? with
  | some x =>
    rw [hp] at h
    simp only [Option.some.injEq] at h
    subst h
    simp only [outF, if_pos (allLt_at hr hp)]
    exact (he q x hp).symm
  | none =>
    rw [hp] at h
    simp only [cond_eq_ite, decide_eq_true_eq] at h
    split at h
    · simp only [Option.some.injEq] at h
      subst h
      have hpq : p.length ≤ q := by
        rcases Nat.lt_or_ge q p.length with h1 | h1
        · rw [List.getElem?_eq_getElem h1] at hp; cases hp
        · exact h1
      simp only [outF]
      rw [if_neg (by omega), show p.length + (n + (q - p.length) - n) = q by omega]
    · cases h
end

def bkT (M : Mem) (pv : List Nat) (t : Nat) : Nat := match pv[t]? with
  | some h => match M.vecs[h]? with
    | some (some e) => e.terr
    | _ => 0
  | none => M.vecs.length + (t - pv.length)
def outM (M MS : Mem) (pb pv : List Nat) : Mem :=
  ⟨outL pb (Blk.ren (bkN pb M.blks.length MS.blks.length) (bkN pv M.vecs.length MS.vecs.length)) Blk.own M.blks MS.blks,
   outL pv (Ent.ren (bkN pb M.blks.length MS.blks.length) (bkN pv M.vecs.length MS.vecs.length) (bkT M pv)) Ent.own M.vecs MS.vecs⟩
def outE (E ES : Env) (M : Mem) (pb pv : List Nat) : Env := ⟨outF M.blks.length pb E.ρ ES.ρ, outF M.vecs.length pv E.σ ES.σ⟩

def terrOk (M : Mem) (pv : List Nat) : Bool :=
  (List.range M.vecs.length).all fun h => match invF pv h 0 with
    | some _ => true
    | none => match M.vecs[h]? with
      | some (some e) => (pv.all fun h' => match M.vecs[h']? with
        | some (some e') => !(decide (e'.terr = e.terr)) || !e'.own
        | _ => true) || !e.own
      | _ => true
theorem terrOk_spec {M : Mem} {pv : List Nat} (h : terrOk M pv = true) {i j q : Nat} {e e' : Ent} (hi : M.vecs[i]? = some (some e)) (hn : invF pv i 0 = none) (ho : e.own = true) (hj : pv[j]? = some q) (hq : M.vecs[q]? = some (some e')) (ho' : e'.own = true) : e'.terr ≠ e.terr := by
  unfold terrOk at h
  rw [List.all_eq_true] at h
  have h1 := h i (List.mem_range.2 (lt_of_get hi))
  rw [hn, hi] at h1
  simp only [ho, Bool.not_true, Bool.or_false, List.all_eq_true] at h1
  have h2 := h1 q (List.mem_of_getElem? hj)
  rw [hq] at h2
  simpa [ho'] using h2
def okPick (M : Mem) (pb pv : List Nat) : Bool := nodupB pb && nodupB pv && allLt M.blks.length pb && allLt M.vecs.length pv && terrOk M pv

section
variable {E : Env} {w0 : Bs} {w w' : World} {M MS : Mem} {pb pv : List Nat} {ES : Env}

structure Framed (E : Env) (w0 : Bs) (M : Mem) (w : World) (pb pv : List Nat) (ES : Env) (MS : Mem) (w' : World) : Prop where
  rep : RepM E w0 M w
  nb : pb.Nodup
  nv : pv.Nodup
  lb : allLt M.blks.length pb = true
  lv : allLt M.vecs.length pv = true
  ok : terrOk M pv = true
  st : Step (pickE E pb pv) (pickM M pb pv) ES MS
  rep' : RepM ES (lend (pickE E pb pv) (pickM M pb pv) w) MS w'

theorem Framed.ρ (h : Framed E w0 M w pb pv ES MS w') {i q : Nat} (hq : pb[i]? = some q) : ES.ρ i = E.ρ q := by
  rw [h.st.env.ρ i (by simpa [pickM] using lt_of_get hq)]
  simp [pickE, List.getD, hq]
theorem Framed.σ (h : Framed E w0 M w pb pv ES MS w') {i q : Nat} (hq : pv[i]? = some q) : ES.σ i = E.σ q := by
  rw [h.st.env.σ i (by simpa [pickM] using lt_of_get hq)]
  simp [pickE, List.getD, hq]
theorem Framed.bk (h : Framed E w0 M w pb pv ES MS w') {i q : Nat} (hq : pv[i]? = some q) : ES.bk i = E.bk q := by unfold Env.bk; rw [h.σ hq]
theorem Framed.lenB (h : Framed E w0 M w pb pv ES MS w') : pb.length ≤ MS.blks.length := by simpa [pickM] using h.st.mem.nb
theorem Framed.lenV (h : Framed E w0 M w pb pv ES MS w') : pv.length ≤ MS.vecs.length := by simpa [pickM] using h.st.mem.nh
theorem Framed.ren (h : Framed E w0 M w pb pv ES MS w') : Ren ES MS (bkN pb M.blks.length MS.blks.length) (bkN pv M.vecs.length MS.vecs.length) (outE E ES M pb pv) (outM M MS pb pv) := by
  refine ⟨fun i q hq => bkN_lt h.lb h.lenB hq, fun i q hq => bkN_lt h.lv h.lenV hq, fun i q hq => outF_bk (fun i q => h.ρ) h.lb hq, fun i q hq => outF_bk (fun i q => h.σ) h.lv hq, fun i q hq ha => ?_, fun i q hq ha => ?_⟩
  · unfold aliveB at ha
    split at ha
    · rename_i x hx
      obtain ⟨y, hy⟩ := outL_at h.nb h.lb hq hx
      unfold aliveB; rw [hy]
    · cases ha
  · unfold aliveV at ha
    split at ha
    · rename_i x hx
      obtain ⟨y, hy⟩ := outL_at h.nv h.lv hq hx
      unfold aliveV; rw [hy]
    · cases ha
/-- what was alive among the lent is alive with the caller -/
theorem Framed.liveB (h : Framed E w0 M w pb pv ES MS w') {i q : Nat} {y : Blk} (hq : pb[i]? = some q) (hy : MS.blks[i]? = some (some y)) : ∃ z, M.blks[q]? = some (some z) := by
  have ha : aliveB (pickM M pb pv) i = true := h.st.mem.liveB i (by simpa [pickM] using lt_of_get hq) (by unfold aliveB; rw [hy])
  have := pickM_aliveB hq ha
  unfold aliveB at this
  split at this
  · rename_i x hx; exact ⟨x, hx⟩
  · cases this
theorem Framed.liveV (h : Framed E w0 M w pb pv ES MS w') {i q : Nat} {y : Ent} (hq : pv[i]? = some q) (hy : MS.vecs[i]? = some (some y)) : ∃ z, M.vecs[q]? = some (some z) := by
  have ha : aliveV (pickM M pb pv) i = true := h.st.mem.liveV i (by simpa [pickM] using lt_of_get hq) (by unfold aliveV; rw [hy])
  have := pickM_aliveV hq ha
  unfold aliveV at this
  split at this
  · rename_i x hx; exact ⟨x, hx⟩
  · cases this
theorem Framed.step (h : Framed E w0 M w pb pv ES MS w') : Step E M (outE E ES M pb pv) (outM M MS pb pv) := by
  refine ⟨⟨by simp [outM, outL_len], by simp [outM, outL_len], fun i hi ha => ?_, fun i hi ha => ?_⟩, ⟨fun b hb => by simp [outE, outF, hb], fun b hb => by simp [outE, outF, hb]⟩⟩
  · unfold aliveB at ha
    split at ha
    · rename_i x hx
      rcases outL_cases hx with ⟨_, _, hy⟩ | ⟨j, y, hj, hy, _, _⟩
      · unfold aliveB; rw [hy]
      · unfold bkN at hj
        cases hp : pb[j]? with
        | some q =>
          rw [hp] at hj; cases hj
          obtain ⟨z, hz⟩ := h.liveB hp hy
          unfold aliveB; rw [hz]
        | none =>
          rw [hp] at hj
          simp only [cond_eq_ite, decide_eq_true_eq] at hj
          split at hj
          · simp only [Option.some.injEq] at hj; omega
          · cases hj
    · cases ha
  · unfold aliveV at ha
    split at ha
    · rename_i x hx
      rcases outL_cases hx with ⟨_, _, hy⟩ | ⟨j, y, hj, hy, _, _⟩
      · unfold aliveV; rw [hy]
      · unfold bkN at hj
        cases hp : pv[j]? with
        | some q =>
          rw [hp] at hj; cases hj
          obtain ⟨z, hz⟩ := h.liveV hp hy
          unfold aliveV; rw [hz]
        | none =>
          rw [hp] at hj
          simp only [cond_eq_ite, decide_eq_true_eq] at hj
          split at hj
          · simp only [Option.some.injEq] at hj; omega
          · cases hj
    · cases ha

/-- which blocks were lent: new ones, or some of the caller's own -/
theorem Framed.wr (h : Framed E w0 M w pb pv ES MS w') {r : Nat} (hr : (lend (pickE E pb pv) (pickM M pb pv) w).Wr r) :
    w.heap.size ≤ r ∨ (∃ (i q : Nat) (x : Blk), pb[i]? = some q ∧ M.blks[q]? = some (some x) ∧ x.own = true ∧ E.ρ q = r) ∨ (∃ (i q : Nat) (e : Ent), pv[i]? = some q ∧ M.vecs[q]? = some (some e) ∧ e.own = true ∧ E.bk q = some r) := by
  rcases hr with hr | ⟨b, x, h1, h2, rfl⟩ | ⟨q, e, h1, h2, h3⟩
  · exact .inl hr
  · obtain ⟨p, y, g1, g2, rfl⟩ := pickM_blk h1
    exact .inr (.inl ⟨b, p, y, g1, g2, h2, by simp [pickE, List.getD, g1]⟩)
  · obtain ⟨p, y, g1, g2, rfl⟩ := pickM_vec h1
    exact .inr (.inr ⟨q, p, y, g1, g2, h2, by simpa [pickE, List.getD, g1, Env.bk] using h3⟩)
theorem Framed.wr0 (h : Framed E w0 M w pb pv ES MS w') {r : Nat} (hr : (lend (pickE E pb pv) (pickM M pb pv) w).Wr r) : w0.Wr r := by
  rcases h.wr hr with h1 | ⟨i, q, x, h1, h2, h3, rfl⟩ | ⟨i, q, e, h1, h2, h3, h4⟩
  · exact w0.up _ (Nat.le_trans h.rep.below.size h1)
  · exact (h.rep.blk q x h2).1.1 h3
  · rcases h.rep.vec q e h2 with ⟨_, hz⟩ | ⟨a, cap, cs, fz, hv⟩
    · rw [bk_nil hz] at h4; cases h4
    rw [hv.bk] at h4
    simp only [Option.some.injEq] at h4
    rw [← h4]; exact (hv.mine h3).1
/-- what was not lent is not among what may be turned -/
theorem Framed.farB (h : Framed E w0 M w pb pv ES MS w') {b : Nat} {x : Blk} (hx : M.blks[b]? = some (some x)) (hb : invF pb b 0 = none) : ¬ (lend (pickE E pb pv) (pickM M pb pv) w).Wr (E.ρ b) := by
  intro hr
  rcases h.wr hr with h1 | ⟨i, q, y, h1, h2, h3, h4⟩ | ⟨i, q, e, h1, h2, h3, h4⟩
  · have := h.rep.lt hx; omega
  · have := h.rep.inj q b y x h2 hx h4
    subst this
    exact invF_none hb (List.mem_of_getElem? h1)
  · rcases h.rep.vec q e h2 with ⟨_, hz⟩ | ⟨a, cap, cs, fz, hv⟩
    · rw [bk_nil hz] at h4; cases h4
    rw [hv.bk] at h4
    simp only [Option.some.injEq] at h4
    exact (hv.mine h3).2.2 b x hx h4.symm
theorem Framed.farV (h : Framed E w0 M w pb pv ES MS w') {i : Nat} {e : Ent} (he : M.vecs[i]? = some (some e)) (hi : invF pv i 0 = none) {g : Nat} (hg : E.bk i = some g) : ¬ (lend (pickE E pb pv) (pickM M pb pv) w).Wr g := by
  rcases h.rep.vec i e he with ⟨_, hz⟩ | ⟨a, cap, cs, fz, hv⟩
  · rw [bk_nil hz] at hg; cases hg
  have hga := hg
  rw [hv.bk] at hga
  simp only [Option.some.injEq] at hga
  subst hga
  intro hr
  cases ho : e.own with
  | false => exact hv.old ho (h.wr0 hr)
  | true =>
    rcases h.wr hr with h1 | ⟨j, q, y, h1, h2, h3, h4⟩ | ⟨j, q, e', h1, h2, h3, h4⟩
    · have := heap_lt hv.blk; omega
    · exact (hv.mine ho).2.2 q y h2 h4
    · exact terrOk_spec h.ok he hi ho h1 h2 h3 (h.rep.terr q i e' e h2 he h3 ho _ h4 hv.bk)
theorem Framed.same (h : Framed E w0 M w pb pv ES MS w') {r : Nat} (hr : ¬ (lend (pickE E pb pv) (pickM M pb pv) w).Wr r) : w'.heap[r]? = w.heap[r]? := h.rep'.below.block r hr

/-- one that a callee hands back: whether it is the walk's own -/
theorem Framed.ownB (h : Framed E w0 M w pb pv ES MS w') {i : Nat} {y : Blk} (hy : MS.blks[i]? = some (some y)) (hk : i < pb.length ∨ y.own = true) : (y.own = true → w0.Wr (ES.ρ i)) ∧ (y.own = false → ¬ w0.Wr (ES.ρ i)) := by
  obtain ⟨⟨g1, g2⟩, _⟩ := h.rep'.blk i y hy
  refine ⟨fun ho => h.wr0 (g1 ho), fun ho hw => ?_⟩
  rcases hk with hk | hk
  · have hp := List.getElem?_eq_getElem hk
    obtain ⟨z, hz⟩ := h.liveB hp hy
    rw [h.ρ hp] at hw g2
    cases hzo : z.own with
    | false => exact (h.rep.blk _ z hz).1.2 hzo hw
    | true =>
      refine g2 ho (.inr (.inl ⟨i, z.ren (invB pb) (invB pv), ?_, hzo, by simp [pickE, List.getD, hp]⟩))
      simp only [pickM, List.getElem?_map, hp, Option.map_some, hz, Option.getD_some]
  · rw [ho] at hk; cases hk
theorem Framed.ownV (h : Framed E w0 M w pb pv ES MS w') {i : Nat} {y : Ent} (hy : MS.vecs[i]? = some (some y)) (hk : i < pv.length ∨ y.own = true) (ho : y.own = false) {g : Nat} (hg : ES.bk i = some g) : ¬ w0.Wr g := by
  intro hw
  rcases hk with hk | hk
  · have hp := List.getElem?_eq_getElem hk
    obtain ⟨z, hz⟩ := h.liveV hp hy
    rcases h.rep'.vec i y hy with ⟨_, hz'⟩ | ⟨a, cap, cs, fz, hv⟩
    · rw [bk_nil hz'] at hg; cases hg
    have g2 := hv.old ho
    have hga := hg
    rw [hv.bk] at hga
    simp only [Option.some.injEq] at hga
    rw [hga] at g2
    rw [h.bk hp] at hg
    cases hzo : z.own with
    | false =>
      rcases h.rep.vec _ z hz with ⟨_, hz'⟩ | ⟨a', cap', cs', fz', hv'⟩
      · rw [bk_nil hz'] at hg; cases hg
      rw [hv'.bk] at hg
      simp only [Option.some.injEq] at hg
      exact hv'.old hzo (hg ▸ hw)
    | true =>
      refine g2 (.inr (.inr ⟨i, z.ren (invB pb) (invB pv) fun t => terrIx M t pv 0, ?_, hzo, ?_⟩))
      · simp only [pickM, List.getElem?_map, hp, Option.map_some, hz, Option.getD_some]
      · simp only [pickE, List.getD, hp, Env.bk, Option.getD_some]; exact hg
  · rw [ho] at hk; cases hk

theorem Framed.outρ (h : Framed E w0 M w pb pv ES MS w') {b : Nat} (hb : b < M.blks.length) : (outE E ES M pb pv).ρ b = E.ρ b := by simp [outE, outF, hb]
theorem Framed.outva (h : Framed E w0 M w pb pv ES MS w') {b : Nat} (hb : b < M.vecs.length) : (outE E ES M pb pv).bk b = E.bk b := by simp [outE, outF, hb, Env.bk]
theorem Framed.renva (h : Framed E w0 M w pb pv ES MS w') {i b : Nat} (hb : bkN pv M.vecs.length MS.vecs.length i = some b) : (outE E ES M pb pv).bk b = ES.bk i := by unfold Env.bk; rw [h.ren.σ b i hb]

/-- blocks that are known to the caller afterwards, and a place that a lent block, or a new one, may have: they don't meet but where they are one -/
theorem Framed.repM (h : Framed E w0 M w pb pv ES MS w') : RepM (outE E ES M pb pv) w0 (outM M MS pb pv) w' := by
  have hst := h.step
  have r := h.ren
  have unB : ∀ {b : Nat} {x : Blk}, M.blks[b]? = some (some x) → invF pb b 0 = none → ∀ {i : Nat} {y : Blk}, MS.blks[i]? = some (some y) → (i < pb.length ∨ y.own = true) → ES.ρ i ≠ E.ρ b := by
    intro b x hx hb i y hy hk e
    have far := h.farB hx hb
    cases hyo : y.own with
    | true => exact far (e ▸ ((h.rep'.blk i y hy).1.1 hyo))
    | false =>
      rcases hk with hk | hk
      · have hp := List.getElem?_eq_getElem hk
        obtain ⟨z, hz⟩ := h.liveB hp hy
        rw [h.ρ hp] at e
        have := h.rep.inj _ b z x hz hx e
        subst this
        exact invF_none hb (List.mem_of_getElem? hp)
      · rw [hyo] at hk; cases hk
  refine ⟨⟨h.rep'.below.os.trans h.rep.below.os, h.rep'.below.tape.trans h.rep.below.tape, h.rep'.below.output.trans h.rep.below.output, Nat.le_trans h.rep.below.size h.rep'.below.size, fun k hk => (h.same fun hh => hk (h.wr0 hh)).trans (h.rep.below.block k hk)⟩, fun b x hx => ?_, fun b b' x x' hx hx' he => ?_, fun i e he => ?_, fun i i' e e' he he' ho ho' g hb hb' => ?_⟩
  · rcases outL_cases hx with ⟨hb, hi, hy⟩ | ⟨j, y, hj, hy, rfl, hk⟩
    · obtain ⟨g1, cs, g2, g3⟩ := h.rep.blk b x hy
      rw [h.outρ hb]
      exact ⟨g1, cs, (h.same (h.farB hy hi)).trans g2, g3.step hst⟩
    · obtain ⟨g1, cs, g2, g3⟩ := h.rep'.blk j y hy
      rw [r.ρ b j hj]
      have go := h.ownB hy hk
      exact ⟨go, cs, g2, g3.ren r⟩
  · rcases outL_cases hx with ⟨hb, hi, hy⟩ | ⟨j, y, hj, hy, rfl, hk⟩ <;> rcases outL_cases hx' with ⟨hb', hi', hy'⟩ | ⟨j', y', hj', hy', rfl, hk'⟩
    · rw [h.outρ hb, h.outρ hb'] at he
      exact h.rep.inj b b' x x' hy hy' he
    · rw [h.outρ hb, r.ρ b' j' hj'] at he
      exact (unB hy hi hy' hk' he.symm).elim
    · rw [h.outρ hb', r.ρ b j hj] at he
      exact (unB hy' hi' hy hk he).elim
    · rw [r.ρ b j hj, r.ρ b' j' hj'] at he
      have := h.rep'.inj j j' y y' hy hy' he
      subst this
      rw [hj] at hj'
      simpa using hj'
  · rcases outL_cases he with ⟨hb, hi, hy⟩ | ⟨j, y, hj, hy, rfl, hk⟩
    · have hσ : (outE E ES M pb pv).σ i = E.σ i := by simp [outE, outF, hb]
      rcases h.rep.vec i e hy with ⟨hz, hz'⟩ | ⟨a, cap, cs, fz, hv⟩
      · exact .inl ⟨hz, hσ.trans hz'⟩
      have far := h.farV hy hi hv.bk
      refine .inr ⟨a, cap, cs, fz, { hv with val := ?_, blk := (h.same far).trans hv.blk, cell := ?_, mine := ?_ }⟩
      · have : (outE E ES M pb pv).σ i = E.σ i := by simp [outE, outF, hb]
        rw [this]; exact hv.val
      · intro q z hz k c hc
        obtain ⟨u, g1, g2⟩ := hv.cell q z hz k c hc
        exact ⟨u, g1, g2.step hst⟩
      · intro ho
        refine ⟨(hv.mine ho).1, (hv.mine ho).2.1, fun b x hx => ?_⟩
        rcases outL_cases hx with ⟨hb', _, hy'⟩ | ⟨j', y', hj', hy', rfl, hk'⟩
        · rw [h.outρ hb']; exact (hv.mine ho).2.2 b x hy'
        · rw [r.ρ b j' hj']
          intro e'
          cases hyo : y'.own with
          | true => exact far (e' ▸ (h.rep'.blk j' y' hy').1.1 hyo)
          | false => exact (h.ownB hy' hk').2 hyo (e' ▸ (hv.mine ho).1)
    · rcases h.rep'.vec j y hy with ⟨hz, hz'⟩ | ⟨a, cap, cs, fz, hv⟩
      · exact .inl ⟨ren_cont_nil hz, (r.σ i j hj).trans hz'⟩
      have hv' : VecOk ES w0.Wr MS w' j y a cap cs fz := { hv with old := fun ho => h.ownV hy hk ho hv.bk, mine := fun ho => ⟨h.wr0 (hv.mine ho).1, (hv.mine ho).2⟩ }
      refine .inr ⟨a, cap, cs, fz, hv'.ren r (r.σ i j hj) _ fun ho b x hx => ?_⟩
      rcases outL_cases hx with ⟨hb', hi', hy'⟩ | ⟨j', y', hj', hy', rfl, hk'⟩
      · rw [h.outρ hb']
        exact fun e' => h.farB hy' hi' (e' ▸ (hv.mine ho).1)
      · rw [r.ρ b j' hj']
        exact (hv.mine ho).2.2 j' y' hy'
  · rcases outL_cases he with ⟨hq, hi, hy⟩ | ⟨j, y, hj, hy, rfl, hk⟩ <;> rcases outL_cases he' with ⟨hq', hi', hy'⟩ | ⟨j', y', hj', hy', rfl, hk'⟩
    · rw [h.outva hq] at hb
      rw [h.outva hq'] at hb'
      exact h.rep.terr i i' e e' hy hy' ho ho' g hb hb'
    · rw [h.outva hq] at hb
      rw [h.renva hj'] at hb'
      have hyo : y'.own = true := ho'
      refine (h.farV hy hi hb ?_).elim
      rcases h.rep'.vec j' y' hy' with ⟨_, hz⟩ | ⟨a, cap, cs, fz, hv⟩
      · rw [bk_nil hz] at hb'; cases hb'
      rw [hv.bk] at hb'
      simp only [Option.some.injEq] at hb'
      rw [← hb']; exact (hv.mine hyo).1
    · rw [h.outva hq'] at hb'
      rw [h.renva hj] at hb
      have hyo : y.own = true := ho
      refine (h.farV hy' hi' hb' ?_).elim
      rcases h.rep'.vec j y hy with ⟨_, hz⟩ | ⟨a, cap, cs, fz, hv⟩
      · rw [bk_nil hz] at hb; cases hb
      rw [hv.bk] at hb
      simp only [Option.some.injEq] at hb
      rw [← hb]; exact (hv.mine hyo).1
    · rw [h.renva hj] at hb
      rw [h.renva hj'] at hb'
      show bkT M pv y.terr = bkT M pv y'.terr
      rw [h.rep'.terr j j' y y' hy hy' ho ho' g hb hb']
end
end Go.Sx

namespace Go.Sx
open Go Go.RowKit

/-! a literal's own row, told as a row: a name for it, in place of the block's -/
def litAt (slot : Nat) (el : TypeId) (ia : Bool) (sh : List CK) (l : List AV) (M : Mem) : List AV × Mem := match l.getD slot .bad with
  | .sl b 0 len cap => match M.blks[b]? with
    | some (some X) => bif X.own && decide (X.elem = el) && decide (0 < sh.length) && decide (len ≤ cap) && decide (cap ≤ 65536) && decide (X.cells.length = cap * sh.length) && shapes ia sh (chunks ia sh.length len (X.cells.take (len * sh.length))) then
        (l.set slot (.vec M.vecs.length), (Sx.killB M (some b)).addV ⟨el, ia, sh, M.vecs.length, true, true, chunks ia sh.length len (X.cells.take (len * sh.length))⟩) else (l, M)
    | _ => (l, M)
  | _ => (l, M)
theorem RelL.set_same' {E : Env} {M : Mem} {l : List AV} {vs : List Value} (h : RelL E M l vs) (i : Nat) {a : AV} (hr : ∀ v, vs[i]? = some v → RelS E M a v) : RelL E M (l.set i a) vs := by
  refine ⟨by rw [List.length_set]; exact h.len, fun j x v hx hv => ?_⟩
  rw [List.getElem?_set] at hx
  split at hx
  · rename_i e
    subst e
    split at hx
    · simp only [Option.some.injEq] at hx; subst hx; exact hr v hv
    · cases hx
  · exact h.at_ j x v hx hv
theorem litAt_sound {E : Env} {w0 : Bs} {w : World} {M : Mem} (slot : Nat) (el : TypeId) (ia : Bool) (sh : List CK) (l : List AV) (vs : List Value) (hR : RepM E w0 M w) (hT : RelL E M l vs) :
    ∃ E', Step E M E' (litAt slot el ia sh l M).2 ∧ RepM E' w0 (litAt slot el ia sh l M).2 w ∧ RelL E' (litAt slot el ia sh l M).2 (litAt slot el ia sh l M).1 vs := by
  unfold litAt
  split
  · rename_i b len cap hs
    split
    · rename_i X hX
      simp only [cond_eq_ite, Bool.and_eq_true, decide_eq_true_eq]
      split
      · rename_i hc
        obtain ⟨⟨⟨⟨⟨⟨hown, hel⟩, hpos⟩, hlc⟩, hcap⟩, hlen⟩, hshp⟩ := hc
        obtain ⟨hwr, cs, hheap, hrel⟩ := hR.blk b X hX
        have hwr := hwr.1 hown
        have hcs : cs.size = cap * sh.length := by rw [← hlen, ← Array.length_toList, ← hrel.len]
        obtain ⟨hstK, hsubK⟩ := RepM.killB (M := M) (some b) (E := E)
        have hRk := hsubK hR
        have hvl : (Sx.killB M (some b)).vecs = M.vecs := killB_vecs M (some b)
        have htk : (X.cells.take (len * sh.length)).length = len * sh.length := by
          rw [List.length_take, hlen]
          exact Nat.min_eq_left (Nat.mul_le_mul_right _ hlc)
        have hflat : flatC (chunks ia sh.length len (X.cells.take (len * sh.length))) = X.cells.take (len * sh.length) := flatC_chunks rfl hpos len _ htk hshp
        have hall : ∀ y, y ∈ chunks ia sh.length len (X.cells.take (len * sh.length)) → y.shape ia sh = true := shapes_mem hshp
        have hcl := chunks_len ia sh.length len (X.cells.take (len * sh.length))
        generalize hch : chunks ia sh.length len (X.cells.take (len * sh.length)) = ch at *
        have hstV := Step.addV E (Sx.killB M (some b)) ⟨el, ia, sh, M.vecs.length, true, true, ch⟩ (.slice (some ⟨E.ρ b, 0, none⟩) len cap)
        have hst := hstK.trans hstV
        have hadd := hRk.addV ⟨el, ia, sh, M.vecs.length, true, true, ch⟩ (.slice (some ⟨E.ρ b, 0, none⟩) len cap)
          (.inr ⟨⟨E.ρ b, 0, none⟩, cap, cs, (0, 0),
            { val := by simp only [Env.addV, if_true, hcl]
              spot := rfl
              le := by rw [hcl]; exact hlc
              blk := by rw [hheap, hel]
              room := .inr (by simp only [Nat.zero_add]; rw [hcl, hcs]; exact Nat.mul_le_mul_right _ hlc)
              shape := fun j y hy => hall y (List.mem_of_getElem? hy)
              cell := fun j y hy q cc hcc => by
                have hp := flatC_of (z := sh.length) _ (fun y hy => shape_len (hall y hy)) j q y cc hy hcc
                rw [hflat, List.getElem?_take] at hp
                split at hp
                · obtain ⟨u, hu, hru⟩ := hrel.get hp
                  refine ⟨u, ?_, hru.step hst⟩
                  simp only [Nat.zero_add]
                  simpa using hu
                · cases hp
              old := fun ho => by cases ho
              head := fun _ => ⟨rfl, hcs, by simp only [maxLen]; omega⟩
              mine := fun _ => ⟨hwr, rfl, fun c y hy he => by
                obtain ⟨hy', hne⟩ := killB_get hy
                have hxb := hR.inj c b y X hy' hX he
                exact hne (by rw [hxb])⟩ }⟩)
          (fun _ j e he ho g' hg' hb => by
            rw [hvl] at hg' he
            have hva : (E.addV M.vecs.length (.slice (some ⟨E.ρ b, 0, none⟩) len cap)).bk M.vecs.length = some (E.ρ b) := by simp [Env.bk, Env.addV]
            rw [hva] at hg'
            simp only [Option.some.injEq] at hg'
            exfalso
            rcases hR.vec j e he with ⟨_, hz'⟩ | ⟨a', cap', cs', fz', hv'⟩
            · rw [bk_nil hz'] at hb; cases hb
            · rw [hv'.bk] at hb
              simp only [Option.some.injEq] at hb
              exact (hv'.mine ho).2.2 b X hX (hg'.trans hb.symm))
        rw [hvl] at hadd hstV hst
        refine ⟨_, hst, hadd, (hT.step hst).set_same' _ fun v hv => ⟨by simp [AV.sc, Mem.addV, hvl], fun _ => ?_⟩⟩
        have hi : slot < l.length := by rw [hT.len]; exact lt_of_get hv
        have h1 : l[slot]? = some (.sl b 0 len cap) := by
          rw [List.getElem?_eq_getElem hi]
          simpa [List.getD, List.getElem?_eq_getElem hi] using hs
        have := (hT.at_ _ _ v h1 hv).2 (by simp only [AV.lv, live_even, aliveB, hX])
        rw [this]
        simp [AV.conc, Env.addV]
      · exact ⟨E, Step.refl E M, hR, hT⟩
    · exact ⟨E, Step.refl E M, hR, hT⟩
  · exact ⟨E, Step.refl E M, hR, hT⟩
end Go.Sx

namespace Go.Sx
open Go Go.RowKit

/-! What a callee, or a loop, is lent: all that can be reached from what it is given. -/

mutual
def AV.names : AV → List Nat
  | .ptr b _ => [2 * b]
  | .sl b _ _ _ => [2 * b]
  | .vec h => [2 * h + 1]
  | .vptr h _ _ _ => [2 * h + 1]
  | .vsl h _ _ => [2 * h + 1]
  | .agg cs => namesL cs
  | .tup cs => namesL cs
  | .fn _ cs => namesL cs
  | _ => []
def namesL : List AV → List Nat
  | [] => []
  | a :: l => a.names ++ namesL l
end
def memB : List Nat → Nat → Bool
  | [], _ => false
  | y :: l, x => decide (y = x) || memB l x
def reach (M : Mem) : Nat → List Nat → List Nat → List Nat → List Nat × List Nat
  | 0, _, pb, pv => (pb, pv)
  | _ + 1, [], pb, pv => (pb, pv)
  | f + 1, x :: todo, pb, pv => match x % 2 with
    | 0 => bif memB pb (x / 2) then reach M f todo pb pv else match M.blks[x / 2]? with
      | some (some X) => reach M f (todo ++ namesL X.cells) (pb ++ [x / 2]) pv
      | _ => reach M f todo pb pv
    | _ => bif memB pv (x / 2) then reach M f todo pb pv else match M.vecs[x / 2]? with
      | some (some e) => reach M f (bif noAny e.sh then todo else todo ++ namesL e.cont) pb (pv ++ [x / 2])
      | _ => reach M f todo pb pv
def hits (M : Mem) (t : Nat) : List Nat → Bool
  | [] => false
  | h :: l => (match M.vecs[h]? with
    | some (some e) => decide (e.terr = t) && e.own
    | _ => false) || hits M t l
def killF (M : Mem) (pv : List Nat) (h : Nat) (x : Option Ent) : Option Ent := match x with
  | some e => match invF pv h 0 with
    | some _ => some e
    | none => bif hits M e.terr pv && e.own then none else some e
  | none => none
/-- other names for what is lent are forgotten -/
def killA (M : Mem) (pv : List Nat) : Mem := ⟨M.blks, updL (killF M pv) 0 M.vecs⟩

theorem RepM.sub {M M' : Mem} (hb : M'.blks = M.blks) (hl : M'.vecs.length = M.vecs.length) (hv : ∀ (h : Nat) (e : Ent), M'.vecs[h]? = some (some e) → M.vecs[h]? = some (some e)) {E : Env} : Step E M E M' ∧ ∀ {w0 : Bs} {w : World}, RepM E w0 M w → RepM E w0 M' w := by
  have hst : Step E M E M' := by
    refine ⟨⟨by rw [hb]; exact Nat.le_refl _, by rw [hl]; exact Nat.le_refl _, fun i hi h => ?_, fun i hi h => ?_⟩, Env.le.refl _ _ _⟩
    · unfold aliveB at *; rw [hb] at h; exact h
    · unfold aliveV at h
      split at h
      · rename_i e he
        unfold aliveV
        rw [hv _ _ he]
      · cases h
  refine ⟨hst, fun {w0 w} h => ⟨h.below, fun b x hx => ?_, fun b b' x x' hx hx' => ?_, fun i e he => ?_, fun i i' e e' he he' => ?_⟩⟩
  · rw [hb] at hx
    obtain ⟨h1, cs, h2, h3⟩ := h.blk b x hx
    exact ⟨h1, cs, h2, h3.step hst⟩
  · rw [hb] at hx hx'
    exact h.inj b b' x x' hx hx'
  · rcases h.vec i e (hv _ _ he) with hz | ⟨a, cap, cs, fz, hV⟩
    · exact .inl hz
    refine .inr ⟨a, cap, cs, fz, { hV with cell := ?_, mine := ?_ }⟩
    · intro j y hy k c hc
      obtain ⟨u, h1, h2⟩ := hV.cell j y hy k c hc
      exact ⟨u, h1, h2.step hst⟩
    · intro ho
      obtain ⟨h1, h2, h3⟩ := hV.mine ho
      exact ⟨h1, h2, fun b x hx => h3 b x (by rw [hb] at hx; exact hx)⟩
  · exact h.terr i i' e e' (hv _ _ he) (hv _ _ he')
theorem killA_sub (M : Mem) (pv : List Nat) {E : Env} : Step E M E (killA M pv) ∧ ∀ {w0 : Bs} {w : World}, RepM E w0 M w → RepM E w0 (killA M pv) w := by
  refine RepM.sub (M := M) (M' := killA M pv) rfl (by simp [killA, updL_len]) fun h e he => ?_
  simp only [killA, updL_get, Nat.zero_add] at he
  cases hx : M.vecs[h]? with
  | none => rw [hx] at he; cases he
  | some o =>
    rw [hx] at he
    simp only [Option.map_some, Option.some.injEq] at he
    cases o with
    | none => cases he
    | some e' =>
      simp only [killF] at he
      split at he
      · exact congrArg some he
      · simp only [cond_eq_ite] at he
        split at he
        · cases he
        · exact congrArg some he

def CallOk (P : Program) (f : FuncId) (args : List AV) (M : Mem) (z : AV) (M' : Mem) : Prop :=
  ∀ E w0 w, RepM E w0 M w → scL M.blks.length M.vecs.length args = true → lvL M.live args = true →
    (callFunc f (concL E args).toArray).run P w = .ok (.enter f (concL E args).toArray) w ∧
    Calls P f (concL E args).toArray w (fun e w' => ∃ E' v, e = .returned v ∧ Step E M E' M' ∧ RelS E' M' z v ∧ RepM E' w0 M' w')

theorem framed_of {E : Env} {w0 : Bs} {w w' : World} {M MS : Mem} {pb pv : List Nat} {ES : Env} (hR : RepM E w0 M w) (hok : okPick M pb pv = true) (hst : Step (pickE E pb pv) (pickM M pb pv) ES MS) (hR' : RepM ES (lend (pickE E pb pv) (pickM M pb pv) w) MS w') : Framed E w0 M w pb pv ES MS w' := by
  simp only [okPick, Bool.and_eq_true] at hok
  exact ⟨hR, nodupB_spec hok.1.1.1.1, nodupB_spec hok.1.1.1.2, hok.1.1.2, hok.1.2, hok.2, hst, hR'⟩
theorem okPick_nodup {M : Mem} {pb pv : List Nat} (hok : okPick M pb pv = true) : pb.Nodup := by
  simp only [okPick, Bool.and_eq_true] at hok
  exact nodupB_spec hok.1.1.1.1

theorem CallOk.frame {P : Program} {f : FuncId} {args : List AV} {M MS : Mem} {z : AV} {pb pv : List Nat} (hok : okPick (killA M pv) pb pv = true) (hlv : lvL (pickM (killA M pv) pb pv).live (renL (invB pb) (invB pv) args) = true)
    (h : CallOk P f (renL (invB pb) (invB pv) args) (pickM (killA M pv) pb pv) z MS) :
    CallOk P f args M (z.ren (bkN pb (killA M pv).blks.length MS.blks.length) (bkN pv (killA M pv).vecs.length MS.vecs.length)) (outM (killA M pv) MS pb pv) := by
  intro E w0 w hR hs hl
  obtain ⟨hst0, hsub⟩ := killA_sub M pv (E := E)
  have hR1 := hsub hR
  have hp := hR1.pick pv (okPick_nodup hok)
  have r := Ren.pick E (killA M pv) pb pv
  obtain ⟨h1, h2⟩ := h _ _ w hp.rebase (r.scL args) hlv
  rw [(r.concL args hlv).2] at h1 h2
  refine ⟨h1, h2.mono fun e w' ⟨ES, v, he, hst, hv, hR'⟩ => ?_⟩
  have F := framed_of hR1 hok hst hR'
  exact ⟨_, v, he, hst0.trans F.step, hv.ren F.ren, F.repM⟩

/-! nil, told as a row of nothing -/
structure NilT where
  slot : Nat
  elem : TypeId
  isAgg : Bool
  sh : List CK
def nilAt (t : NilT) (l : List AV) (M : Mem) : List AV × Mem := match l.getD t.slot .bad with
  | .lit (.slice none 0 0) => (l.set t.slot (.vec M.vecs.length), M.addV ⟨t.elem, t.isAgg, t.sh, M.vecs.length, true, true, []⟩)
  | _ => (l, M)
def nilify : List NilT → List AV → Mem → List AV × Mem
  | [], l, M => (l, M)
  | t :: ts, l, M => match nilAt t l M with
    | (l', M') => nilify ts l' M'
theorem RelL.set_same {E : Env} {M : Mem} {l : List AV} {vs : List Value} (h : RelL E M l vs) (i : Nat) {a : AV} (hr : ∀ v, vs[i]? = some v → RelS E M a v) : RelL E M (l.set i a) vs := by
  refine ⟨by rw [List.length_set]; exact h.len, fun j x v hx hv => ?_⟩
  rw [List.getElem?_set] at hx
  split at hx
  · rename_i e
    subst e
    split at hx
    · simp only [Option.some.injEq] at hx; subst hx; exact hr v hv
    · cases hx
  · exact h.at_ j x v hx hv
theorem nilAt_sound {E : Env} {w0 : Bs} {w : World} {M : Mem} (t : NilT) (l : List AV) (vs : List Value) (hR : RepM E w0 M w) (hT : RelL E M l vs) :
    ∃ E', Step E M E' (nilAt t l M).2 ∧ RepM E' w0 (nilAt t l M).2 w ∧ RelL E' (nilAt t l M).2 (nilAt t l M).1 vs := by
  unfold nilAt
  split
  · rename_i hn
    have hst := Step.addV E M ⟨t.elem, t.isAgg, t.sh, M.vecs.length, true, true, []⟩ nilV
    refine ⟨_, hst, hR.addV _ nilV (.inl ⟨rfl, rfl⟩) (fun _ _ _ _ _ g hg => by rw [bk_nil (by simp [Env.addV])] at hg; cases hg), (hT.step hst).set_same _ fun v hv => ⟨by simp [AV.sc, Mem.addV], fun _ => ?_⟩⟩
    have hi : t.slot < l.length := by rw [hT.len]; exact lt_of_get hv
    have h1 : l[t.slot]? = some (.lit (.slice none 0 0)) := by
      rw [List.getElem?_eq_getElem hi]
      simpa [List.getD, List.getElem?_eq_getElem hi] using hn
    have := (hT.at_ _ _ v h1 hv).2 rfl
    rw [this]
    simp [AV.conc, Env.addV, nilV]
  · exact ⟨E, Step.refl E M, hR, hT⟩
theorem nilAt_len (t : NilT) (l : List AV) (M : Mem) : (nilAt t l M).1.length = l.length := by
  unfold nilAt
  split <;> simp
theorem nilify_len : ∀ (ts : List NilT) (l : List AV) (M : Mem), (nilify ts l M).1.length = l.length
  | [], _, _ => rfl
  | t :: ts, l, M => by
    simp only [nilify]
    rw [nilify_len, nilAt_len]
theorem nilify_sound : ∀ (ts : List NilT) {E : Env} {w0 : Bs} {w : World} {M : Mem} (l : List AV) (vs : List Value), RepM E w0 M w → RelL E M l vs →
    ∃ E', Step E M E' (nilify ts l M).2 ∧ RepM E' w0 (nilify ts l M).2 w ∧ RelL E' (nilify ts l M).2 (nilify ts l M).1 vs
  | [], E, w0, w, M, l, vs, hR, hT => ⟨E, Step.refl E M, hR, hT⟩
  | t :: ts, E, w0, w, M, l, vs, hR, hT => by
    obtain ⟨E1, h1, h2, h3⟩ := nilAt_sound t l vs hR hT
    obtain ⟨E2, g1, g2, g3⟩ := nilify_sound ts _ vs h2 h3
    exact ⟨E2, h1.trans g1, g2, g3⟩

/-- the same, and nothing that was there has turned -/
def CallOkR (P : Program) (f : FuncId) (args : List AV) (M : Mem) (z : AV) (M' : Mem) : Prop :=
  ∀ E w0 w, RepM E w0 M w → scL M.blks.length M.vecs.length args = true → lvL M.live args = true →
    (callFunc f (concL E args).toArray).run P w = .ok (.enter f (concL E args).toArray) w ∧
    Calls P f (concL E args).toArray w (fun e w' => ∃ E' v, e = .returned v ∧ Step E M E' M' ∧ RelS E' M' z v ∧ RepM E' w0 M' w' ∧ Below w.heap.size w w')
theorem CallOkR.call {P : Program} {f : FuncId} {args : List AV} {M : Mem} {z : AV} {M' : Mem} (h : CallOkR P f args M z M') : CallOk P f args M z M' :=
  fun E w0 w hR hs hl => let ⟨h1, h2⟩ := h E w0 w hR hs hl; ⟨h1, h2.mono fun e w' ⟨E', v, g1, g2, g3, g4, _⟩ => ⟨E', v, g1, g2, g3, g4⟩⟩
/-- a function that may read and turn memory, told of the little that it is lent -/
structure MSpec where
  nils : List NilT
  run : {R : Type} → List AV → Mem → (AV → Mem → Option R) → Option R
def MSpec.Ok (P : Program) (f : FuncId) (s : MSpec) : Prop := ∀ {R : Type} {args : List AV} {M : Mem} {k : AV → Mem → Option R} {r : R}, s.run args M k = some r → ∃ z M', k z M' = some r ∧ CallOk P f args M z M'
def frameP {R : Type} (M : Mem) (vs : List AV) (k : List Nat → List Nat → Mem → Option R) : Option R :=
  match reach M 200 (namesL vs) [] [] with
  | (pb, pv) => match killA M pv with
    | M1 => bif okPick M1 pb pv then k pb pv M1 else none
theorem frameP_sound {R : Type} {M : Mem} {vs : List AV} {k : List Nat → List Nat → Mem → Option R} {r : R} (h : frameP M vs k = some r) : ∃ pb pv, okPick (killA M pv) pb pv = true ∧ k pb pv (killA M pv) = some r := by
  unfold frameP at h
  simp only [cond_eq_ite] at h
  split at h
  · exact ⟨_, _, by assumption, h⟩
  · cases h
def frameCall {R : Type} (s : MSpec) (args : List AV) (M : Mem) (k : AV → Mem → Option R) : Option R :=
  match nilify s.nils args M with
  | (args, M) => frameP M args fun pb pv M1 => match renL (invB pb) (invB pv) args with
    | aS => bif lvL (pickM M1 pb pv).live aS then s.run aS (pickM M1 pb pv) fun z MS =>
        k (z.ren (bkN pb M1.blks.length MS.blks.length) (bkN pv M1.vecs.length MS.vecs.length)) (outM M1 MS pb pv) else none
theorem concL_rel' {E : Env} {M : Mem} : ∀ {l : List AV} {vs : List Value}, RelL E M l vs → lvL M.live l = true → vs = concL E l
  | [], vs, h, _ => List.eq_nil_of_length_eq_zero h.len.symm
  | a :: l, [], h, _ => by have := h.len; simp at this
  | a :: l, v :: vs, h, hl => by
    simp only [lvL, Bool.and_eq_true] at hl
    simp only [concL]
    rw [← concL_rel' (l := l) (vs := vs) ⟨by have := h.len; simpa using this, fun i x y hx hy => h.at_ (i + 1) x y (by simpa using hx) (by simpa using hy)⟩ hl.2, ← (h.at_ 0 a v rfl rfl).2 hl.1]
theorem scL_rel' {E : Env} {M : Mem} : ∀ {l : List AV} {vs : List Value}, RelL E M l vs → scL M.blks.length M.vecs.length l = true
  | [], _, _ => rfl
  | a :: l, [], h => by have := h.len; simp at this
  | a :: l, v :: vs, h => by
    simp only [scL, Bool.and_eq_true]
    exact ⟨(h.at_ 0 a v rfl rfl).1, scL_rel' (l := l) (vs := vs) ⟨by have := h.len; simpa using this, fun i x y hx hy => h.at_ (i + 1) x y (by simpa using hx) (by simpa using hy)⟩⟩
theorem relL_conc {E : Env} {M : Mem} : ∀ {l : List AV}, scL M.blks.length M.vecs.length l = true → RelL E M l (concL E l)
  | [], _ => ⟨rfl, fun i a v h => by simp at h⟩
  | a :: l, h => by
    simp only [scL, Bool.and_eq_true] at h
    have := relL_conc (E := E) h.2
    refine ⟨by simp [concL, this.len], fun i x v hx hv => ?_⟩
    cases i with
    | zero => simp [concL] at hx hv; subst hx; subst hv; exact ⟨h.1, fun _ => rfl⟩
    | succ i => exact this.at_ i x v (by simpa using hx) (by simpa [concL] using hv)
theorem lvL_nilify : True := trivial
theorem frameCall_sound {R : Type} {P : Program} {f : FuncId} {s : MSpec} (hs : s.Ok P f) {args : List AV} {M : Mem} {k : AV → Mem → Option R} {r : R} (h : frameCall s args M k = some r) : ∃ z M', k z M' = some r ∧ CallOk P f args M z M' := by
  unfold frameCall at h
  split at h
  rename_i args1 M1 hnil
  obtain ⟨pb, pv, hok, h⟩ := frameP_sound h
  simp only [cond_eq_ite] at h
  split at h
  · rename_i hlv
    obtain ⟨z, MS, hk, hc⟩ := hs h
    refine ⟨_, _, hk, ?_⟩
    intro E w0 w hR hsc hl
    obtain ⟨E1, h1, h2, h3⟩ := nilify_sound s.nils args (concL E args) hR (relL_conc hsc)
    rw [hnil] at h1 h2 h3
    simp only at h1 h2 h3
    have hlk : lvL M1.live args1 = true := by
      have r := Ren.pick E1 (killA M1 pv) pb pv
      have := (r.concL args1 hlv).1
      obtain ⟨hst0, _⟩ := killA_sub M1 pv (E := E1)
      exact lvL_of fun i a ha => lv_mono hst0.mem.live.1 hst0.mem.live.2 a ((scL_at (scL_rel' h3) ha)) (lvL_at this ha)
    have he := concL_rel' h3 hlk
    obtain ⟨g1, g2⟩ := hc.frame hok hlv E1 w0 w h2 (scL_rel' h3) hlk
    rw [← he] at g1 g2
    refine ⟨g1, g2.mono fun e w' ⟨E', v, q1, q2, q3, q4⟩ => ⟨E', v, q1, h1.trans q2, q3, q4⟩⟩
  · cases h

/-! readers: all is lent for reading alone -/
def Blk.ro (x : Blk) : Blk := { x with own := false }
def Ent.ro (e : Ent) : Ent := { e with own := false }
def Mem.ro (M : Mem) : Mem := ⟨M.blks.map fun o => o.map Blk.ro, M.vecs.map fun o => o.map Ent.ro⟩
theorem ro_blk {M : Mem} {b : Nat} {x : Blk} (h : M.ro.blks[b]? = some (some x)) : ∃ y, M.blks[b]? = some (some y) ∧ x = y.ro := by
  simp only [Mem.ro, List.getElem?_map] at h
  cases hb : M.blks[b]? with
  | none => rw [hb] at h; cases h
  | some o =>
    rw [hb] at h
    cases o with
    | none => simp at h
    | some y => simp at h; exact ⟨y, rfl, h.symm⟩
theorem ro_vec {M : Mem} {b : Nat} {x : Ent} (h : M.ro.vecs[b]? = some (some x)) : ∃ y, M.vecs[b]? = some (some y) ∧ x = y.ro := by
  simp only [Mem.ro, List.getElem?_map] at h
  cases hb : M.vecs[b]? with
  | none => rw [hb] at h; cases h
  | some o =>
    rw [hb] at h
    cases o with
    | none => simp at h
    | some y => simp at h; exact ⟨y, rfl, h.symm⟩
theorem ro_live (M : Mem) : M.ro.live = M.live := by
  have hB : ∀ b, aliveB M.ro b = aliveB M b := fun b => by
    unfold aliveB Mem.ro
    simp only [List.getElem?_map]
    cases M.blks[b]? with
    | none => rfl
    | some o => cases o <;> rfl
  have hV : ∀ b, aliveV M.ro b = aliveV M b := fun b => by
    unfold aliveV Mem.ro
    simp only [List.getElem?_map]
    cases M.vecs[b]? with
    | none => rfl
    | some o => cases o <;> rfl
  funext i
  unfold Mem.live
  simp only [hB, hV]
theorem ro_nb (M : Mem) : M.ro.blks.length = M.blks.length := by simp [Mem.ro]
theorem ro_nh (M : Mem) : M.ro.vecs.length = M.vecs.length := by simp [Mem.ro]
theorem RelS.ro {E : Env} {M : Mem} {a : AV} {v : Value} (h : RelS E M a v) : RelS E M.ro a v := by
  unfold RelS at *
  rw [ro_nb, ro_nh, ro_live]; exact h
theorem RelL.ro {E : Env} {M : Mem} {a : List AV} {v : List Value} (h : RelL E M a v) : RelL E M.ro a v := ⟨h.len, fun i x y hx hy => (h.at_ i x y hx hy).ro⟩
theorem RepM.ro {E : Env} {w0 : Bs} {M : Mem} {w : World} (h : RepM E w0 M w) : RepM E (Bs.of w) M.ro w := by
  refine ⟨Keeps.refl _, fun b x hx => ?_, fun b b' x x' hx hx' he => ?_, fun i e he => ?_, fun i i' e e' he he' ho => ?_⟩
  · obtain ⟨y, hy, rfl⟩ := ro_blk hx
    obtain ⟨_, cs, h2, h3⟩ := h.blk b y hy
    exact ⟨⟨fun e => (by cases e), fun _ hw => Nat.lt_irrefl _ (Nat.lt_of_lt_of_le (h.lt hy) hw)⟩, cs, h2, h3.ro⟩
  · obtain ⟨y, hy, _⟩ := ro_blk hx
    obtain ⟨y', hy', _⟩ := ro_blk hx'
    exact h.inj b b' y y' hy hy' he
  · obtain ⟨y, hy, rfl⟩ := ro_vec he
    rcases h.vec i y hy with hz | ⟨a, cap, cs, fz, hv⟩
    · exact .inl hz
    exact .inr ⟨a, cap, cs, fz, { val := hv.val, spot := hv.spot, le := hv.le, blk := hv.blk, room := hv.room, shape := hv.shape, cell := fun i x hx j c hc => let ⟨u, h1, h2⟩ := hv.cell i x hx j c hc; ⟨u, h1, h2.ro⟩, old := fun _ hw => Nat.lt_irrefl _ (Nat.lt_of_lt_of_le (heap_lt hv.blk) hw), head := hv.head, mine := fun e => (by cases e) }⟩
  · obtain ⟨y, _, rfl⟩ := ro_vec he
    cases ho

def gainL {α : Type} (p : List Nat) (g : α → α) (kp : α → Bool) (L LS : List (Option α)) : List (Option α) :=
  L ++ (LS.drop p.length).map fun o => match o with
    | some y => bif kp y then some (g y) else none
    | none => none
section
variable {α : Type} {p : List Nat} {g : α → α} {kp : α → Bool} {L LS : List (Option α)}
theorem gainL_len : (gainL p g kp L LS).length = L.length + (LS.length - p.length) := by simp [gainL]
theorem gainL_cases {b : Nat} {x : α} (h : (gainL p g kp L LS)[b]? = some (some x)) :
    (b < L.length ∧ L[b]? = some (some x)) ∨ ∃ i y, bkN p L.length LS.length i = some b ∧ p.length ≤ i ∧ L.length ≤ b ∧ LS[i]? = some (some y) ∧ x = g y ∧ kp y = true := by
  unfold gainL at h
  rcases Nat.lt_or_ge b L.length with hb | hb
  · rw [List.getElem?_append_left hb] at h
    exact .inl ⟨hb, h⟩
  · rw [List.getElem?_append_right hb, List.getElem?_map, List.getElem?_drop] at h
    cases hy : LS[p.length + (b - L.length)]? with
    | none => rw [hy] at h; cases h
    | some o =>
      rw [hy] at h
      cases o with
      | none => cases h
      | some y =>
        simp only [Option.map_some, Option.some.injEq] at h
        cases hk : kp y with
        | false => rw [hk] at h; cases h
        | true =>
          rw [hk] at h
          simp only [cond_true, Option.some.injEq] at h
          refine .inr ⟨p.length + (b - L.length), y, ?_, by omega, hb, hy, h.symm, hk⟩
          have hl := lt_of_get hy
          simp only [bkN]
          rw [List.getElem?_eq_none (by omega)]
          simp only [hl, decide_true, cond_true, Option.some.injEq]
          omega
theorem gainL_at {q i : Nat} (h : bkN p L.length LS.length q = some i) (hq : p.length ≤ q) {x : α} (hx : (gainL p g kp L LS)[i]? = some (some x)) : ∃ y, LS[q]? = some (some y) := by
  unfold bkN at h
  rw [List.getElem?_eq_none hq] at h
  simp only [cond_eq_ite, decide_eq_true_eq] at h
  split at h
  · simp only [Option.some.injEq] at h
    subst h
    unfold gainL at hx
    rw [List.getElem?_append_right (by omega), List.getElem?_map, List.getElem?_drop, show p.length + (L.length + (q - p.length) - L.length) = q by omega] at hx
    cases hy : LS[q]? with
    | none => rw [hy] at hx; cases hx
    | some o => cases o with
      | none => rw [hy] at hx; cases hx
      | some y => exact ⟨y, rfl⟩
  · cases h
theorem bkN_lt' (hr : allLt L.length p = true) (hl : p.length ≤ LS.length) {q i : Nat} (h : bkN p L.length LS.length q = some i) : i < (gainL p g kp L LS).length := by
  have := bkN_lt (g := g) (kp := kp) hr hl h
  rw [gainL_len]; rwa [outL_len] at this
end
def gkB (M MS : Mem) (pb : List Nat) (q : Nat) : Option Nat := bif aliveB MS q then bkN pb M.blks.length MS.blks.length q else none
def gkV (M MS : Mem) (pv : List Nat) (q : Nat) : Option Nat := bif aliveV MS q then bkN pv M.vecs.length MS.vecs.length q else none
def gainM (M MS : Mem) (pb pv : List Nat) : Mem :=
  ⟨gainL pb (Blk.ren (gkB M MS pb) (gkV M MS pv)) Blk.own M.blks MS.blks,
   gainL pv (Ent.ren (gkB M MS pb) (gkV M MS pv) (fun t => M.vecs.length + (t - pv.length))) Ent.own M.vecs MS.vecs⟩
structure Readed (E : Env) (w0 : Bs) (M : Mem) (w : World) (pb pv : List Nat) (ES : Env) (MS : Mem) (w' : World) : Prop where
  rep : RepM E w0 M w
  lb : allLt M.blks.length pb = true
  lv : allLt M.vecs.length pv = true
  st : Step (pickE E pb pv) (pickM M.ro pb pv) ES MS
  rep' : RepM ES (Bs.of w) MS w'
section
variable {E : Env} {w0 : Bs} {w w' : World} {M MS : Mem} {pb pv : List Nat} {ES : Env}
theorem Readed.ρ (h : Readed E w0 M w pb pv ES MS w') {i q : Nat} (hq : pb[i]? = some q) : ES.ρ i = E.ρ q := by
  rw [h.st.env.ρ i (by simpa [pickM] using lt_of_get hq)]
  simp [pickE, List.getD, hq]
theorem Readed.σ (h : Readed E w0 M w pb pv ES MS w') {i q : Nat} (hq : pv[i]? = some q) : ES.σ i = E.σ q := by
  rw [h.st.env.σ i (by simpa [pickM] using lt_of_get hq)]
  simp [pickE, List.getD, hq]
theorem Readed.lenB (h : Readed E w0 M w pb pv ES MS w') : pb.length ≤ MS.blks.length := by simpa [pickM] using h.st.mem.nb
theorem Readed.lenV (h : Readed E w0 M w pb pv ES MS w') : pv.length ≤ MS.vecs.length := by simpa [pickM] using h.st.mem.nh
theorem Readed.below (h : Readed E w0 M w pb pv ES MS w') : Below w.heap.size w w' := h.rep'.below.toBelow
theorem gkB_some {q i : Nat} (h : gkB M MS pb q = some i) : aliveB MS q = true ∧ bkN pb M.blks.length MS.blks.length q = some i := by
  unfold gkB at h
  cases ha : aliveB MS q with
  | false => rw [ha] at h; cases h
  | true => rw [ha] at h; exact ⟨rfl, h⟩
theorem gkV_some {q i : Nat} (h : gkV M MS pv q = some i) : aliveV MS q = true ∧ bkN pv M.vecs.length MS.vecs.length q = some i := by
  unfold gkV at h
  cases ha : aliveV MS q with
  | false => rw [ha] at h; cases h
  | true => rw [ha] at h; exact ⟨rfl, h⟩
theorem Readed.ren (h : Readed E w0 M w pb pv ES MS w') : Ren ES MS (gkB M MS pb) (gkV M MS pv) (outE E ES M pb pv) (gainM M MS pb pv) :=
  ⟨fun i q hq => bkN_lt' h.lb h.lenB (gkB_some hq).2, fun i q hq => bkN_lt' h.lv h.lenV (gkV_some hq).2, fun i q hq => outF_bk (fun i q => h.ρ) h.lb (gkB_some hq).2, fun i q hq => outF_bk (fun i q => h.σ) h.lv (gkV_some hq).2, fun i q hq _ => (gkB_some hq).1, fun i q hq _ => (gkV_some hq).1⟩
theorem Readed.step (h : Readed E w0 M w pb pv ES MS w') : Step E M (outE E ES M pb pv) (gainM M MS pb pv) := by
  refine ⟨⟨by simp [gainM, gainL_len], by simp [gainM, gainL_len], fun i hi ha => ?_, fun i hi ha => ?_⟩, ⟨fun b hb => by simp [outE, outF, hb], fun b hb => by simp [outE, outF, hb]⟩⟩
  · unfold aliveB at ha
    split at ha
    · rename_i x hx
      rcases gainL_cases hx with ⟨_, hy⟩ | ⟨j, y, _, _, hb, _⟩
      · unfold aliveB; rw [hy]
      · omega
    · cases ha
  · unfold aliveV at ha
    split at ha
    · rename_i x hx
      rcases gainL_cases hx with ⟨_, hy⟩ | ⟨j, y, _, _, hb, _⟩
      · unfold aliveV; rw [hy]
      · omega
    · cases ha
theorem Readed.repM (h : Readed E w0 M w pb pv ES MS w') : RepM (outE E ES M pb pv) w0 (gainM M MS pb pv) w' := by
  have hst := h.step
  have r := h.ren
  have hL := h.rep.later h.below
  have oρ : ∀ {b : Nat}, b < M.blks.length → (outE E ES M pb pv).ρ b = E.ρ b := fun hb => by simp [outE, outF, hb]
  have oσ : ∀ {b : Nat}, b < M.vecs.length → (outE E ES M pb pv).σ b = E.σ b := fun hb => by simp [outE, outF, hb]
  have obk : ∀ {b : Nat}, b < M.vecs.length → (outE E ES M pb pv).bk b = E.bk b := fun hb => by unfold Env.bk; rw [oσ hb]
  have nρ : ∀ {i b : Nat}, bkN pb M.blks.length MS.blks.length i = some b → (outE E ES M pb pv).ρ b = ES.ρ i := fun hb => outF_bk (fun i q => h.ρ) h.lb hb
  have nσ : ∀ {i b : Nat}, bkN pv M.vecs.length MS.vecs.length i = some b → (outE E ES M pb pv).σ b = ES.σ i := fun hb => outF_bk (fun i q => h.σ) h.lv hb
  have nbk : ∀ {i b : Nat}, bkN pv M.vecs.length MS.vecs.length i = some b → (outE E ES M pb pv).bk b = ES.bk i := fun hb => by unfold Env.bk; rw [nσ hb]
  have newB : ∀ {i : Nat} {y : Blk}, MS.blks[i]? = some (some y) → y.own = true → w.heap.size ≤ ES.ρ i := fun hy ho => (h.rep'.blk _ _ hy).1.1 ho
  have oldV : ∀ {i : Nat} {e : Ent}, M.vecs[i]? = some (some e) → ∀ g, E.bk i = some g → g < w.heap.size := fun he g hg => by
    rcases h.rep.vec _ _ he with ⟨_, hz⟩ | ⟨a, cap, cs, fz, hv⟩
    · rw [bk_nil hz] at hg; cases hg
    · rw [hv.bk] at hg
      simp only [Option.some.injEq] at hg
      rw [← hg]; exact heap_lt hv.blk
  have newV : ∀ {i : Nat} {y : Ent}, MS.vecs[i]? = some (some y) → y.own = true → ∀ g, ES.bk i = some g → w.heap.size ≤ g := fun hy ho g hg => by
    rcases h.rep'.vec _ _ hy with ⟨_, hz⟩ | ⟨a, cap, cs, fz, hv⟩
    · rw [bk_nil hz] at hg; cases hg
    · rw [hv.bk] at hg
      simp only [Option.some.injEq] at hg
      rw [← hg]; exact (hv.mine ho).1
  have up : ∀ {g : Nat}, w.heap.size ≤ g → w0.Wr g := fun hg => w0.up _ (Nat.le_trans h.rep.below.size hg)
  refine ⟨hL.below, fun b x hx => ?_, fun b b' x x' hx hx' he => ?_, fun i e he => ?_, fun i i' e e' he he' ho ho' g hb hb' => ?_⟩
  · rcases gainL_cases hx with ⟨hb, hy⟩ | ⟨j, y, hj, _, _, hy, rfl, hk⟩
    · obtain ⟨g1, cs, g2, g3⟩ := hL.blk b x hy
      rw [oρ hb]
      exact ⟨g1, cs, g2, g3.step hst⟩
    · obtain ⟨g1, cs, g2, g3⟩ := h.rep'.blk j y hy
      rw [nρ hj]
      refine ⟨⟨fun _ => up (newB hy hk), fun ho => ?_⟩, cs, g2, g3.ren r⟩
      have : y.own = false := ho
      rw [hk] at this; cases this
  · rcases gainL_cases hx with ⟨hb, hy⟩ | ⟨j, y, hj, _, _, hy, rfl, hk⟩ <;> rcases gainL_cases hx' with ⟨hb', hy'⟩ | ⟨j', y', hj', _, _, hy', rfl, hk'⟩
    · rw [oρ hb, oρ hb'] at he
      exact h.rep.inj b b' x x' hy hy' he
    · rw [oρ hb, nρ hj'] at he
      have := h.rep.lt hy; have := newB hy' hk'; omega
    · rw [oρ hb', nρ hj] at he
      have := h.rep.lt hy'; have := newB hy hk; omega
    · rw [nρ hj, nρ hj'] at he
      have := h.rep'.inj j j' y y' hy hy' he
      subst this
      rw [hj] at hj'
      simpa using hj'
  · rcases gainL_cases he with ⟨hb, hy⟩ | ⟨j, y, hj, _, _, hy, rfl, hk⟩
    · rcases hL.vec i e hy with ⟨hz, hz'⟩ | ⟨a, cap, cs, fz, hv⟩
      · exact .inl ⟨hz, (oσ hb).trans hz'⟩
      refine .inr ⟨a, cap, cs, fz, { hv with val := ?_, cell := ?_, mine := ?_ }⟩
      · rw [oσ hb]; exact hv.val
      · intro q z hz k c hc
        obtain ⟨u, g1, g2⟩ := hv.cell q z hz k c hc
        exact ⟨u, g1, g2.step hst⟩
      · intro ho
        refine ⟨(hv.mine ho).1, (hv.mine ho).2.1, fun b x hx => ?_⟩
        rcases gainL_cases hx with ⟨hb', hy'⟩ | ⟨j', y', hj', _, _, hy', rfl, hk'⟩
        · rw [oρ hb']; exact (hv.mine ho).2.2 b x hy'
        · rw [nρ hj']
          have h1 := newB hy' hk'
          have h2 := oldV hy a.block (by simp [Env.bk, hv.val])
          omega
    · rcases h.rep'.vec j y hy with ⟨hz, hz'⟩ | ⟨a, cap, cs, fz, hv⟩
      · exact .inl ⟨ren_cont_nil hz, (nσ hj).trans hz'⟩
      have hge := newV hy hk a.block hv.bk
      have hv' : VecOk ES w0.Wr MS w' j y a cap cs fz := { hv with old := fun ho => (by rw [hk] at ho; cases ho), mine := fun ho => ⟨up (hv.mine ho).1, (hv.mine ho).2⟩ }
      refine .inr ⟨a, cap, cs, fz, hv'.ren r (nσ hj) _ fun ho b x hx => ?_⟩
      rcases gainL_cases hx with ⟨hb', hy'⟩ | ⟨j', y', hj', _, _, hy', rfl, hk'⟩
      · rw [oρ hb']
        have := h.rep.lt hy'; omega
      · rw [nρ hj']
        exact (hv.mine ho).2.2 j' y' hy'
  · rcases gainL_cases he with ⟨hq, hy⟩ | ⟨j, y, hj, _, _, hy, rfl, hk⟩ <;> rcases gainL_cases he' with ⟨hq', hy'⟩ | ⟨j', y', hj', _, _, hy', rfl, hk'⟩
    · rw [obk hq] at hb
      rw [obk hq'] at hb'
      exact h.rep.terr i i' e e' hy hy' ho ho' g hb hb'
    · rw [obk hq] at hb
      rw [nbk hj'] at hb'
      have := oldV hy g hb; have := newV hy' hk' g hb'; omega
    · rw [obk hq'] at hb'
      rw [nbk hj] at hb
      have := oldV hy' g hb'; have := newV hy hk g hb; omega
    · rw [nbk hj] at hb
      rw [nbk hj'] at hb'
      show M.vecs.length + (y.terr - pv.length) = M.vecs.length + (y'.terr - pv.length)
      rw [h.rep'.terr j j' y y' hy hy' hk hk' g hb hb']
end

/-- what stood in M stands in M' -/
structure Gains (M M' : Mem) : Prop where
  blk : ∀ (b : Nat) (x : Blk), M.blks[b]? = some (some x) → M'.blks[b]? = some (some x)
  vec : ∀ (b : Nat) (x : Ent), M.vecs[b]? = some (some x) → M'.vecs[b]? = some (some x)
  nb : M.blks.length ≤ M'.blks.length
  nh : M.vecs.length ≤ M'.vecs.length
theorem Gains.refl (M : Mem) : Gains M M := ⟨fun _ _ h => h, fun _ _ h => h, Nat.le_refl _, Nat.le_refl _⟩
theorem Gains.trans {M M' M'' : Mem} (h : Gains M M') (h' : Gains M' M'') : Gains M M'' := ⟨fun b x hx => h'.blk b x (h.blk b x hx), fun b x hx => h'.vec b x (h.vec b x hx), Nat.le_trans h.nb h'.nb, Nat.le_trans h.nh h'.nh⟩
theorem gainL_old {α : Type} {p : List Nat} {g : α → α} {kp : α → Bool} {L LS : List (Option α)} {b : Nat} {x : α} (h : L[b]? = some (some x)) : (gainL p g kp L LS)[b]? = some (some x) := by
  unfold gainL
  rw [List.getElem?_append_left (lt_of_get h)]; exact h
theorem gainM_gains (M MS : Mem) (pb pv : List Nat) : Gains M (gainM M MS pb pv) := ⟨fun b x h => gainL_old h, fun b x h => gainL_old h, by simp [gainM, gainL_len], by simp [gainM, gainL_len]⟩
theorem nilAt_gains (t : NilT) (l : List AV) (M : Mem) : Gains M (nilAt t l M).2 := by
  unfold nilAt
  split
  · refine ⟨fun b x h => h, fun b x h => ?_, Nat.le_refl _, by simp [Mem.addV]⟩
    simp only [Mem.addV]
    rw [List.getElem?_append_left (lt_of_get h)]; exact h
  · exact Gains.refl M
theorem nilify_gains : ∀ (ts : List NilT) (l : List AV) (M : Mem), Gains M (nilify ts l M).2
  | [], _, M => Gains.refl M
  | t :: ts, l, M => (nilAt_gains t l M).trans (nilify_gains ts _ _)

def frameRead {R : Type} (s : MSpec) (args : List AV) (M : Mem) (k : AV → Mem → Option R) : Option R :=
  match nilify s.nils args M with
  | (args, M) => match reach M 200 (namesL args) [] [] with
    | (pb, pv) => bif nodupB pb && allLt M.blks.length pb && allLt M.vecs.length pv then
        match renL (invB pb) (invB pv) args with
        | aS => bif lvL (pickM M.ro pb pv).live aS then s.run aS (pickM M.ro pb pv) fun z MS =>
            k (z.ren (gkB M MS pb) (gkV M MS pv)) (gainM M MS pb pv) else none
      else none
theorem frameRead_sound {R : Type} {P : Program} {f : FuncId} {s : MSpec} (hs : s.Ok P f) {args : List AV} {M : Mem} {k : AV → Mem → Option R} {r : R} (h : frameRead s args M k = some r) : ∃ z M', k z M' = some r ∧ Gains M M' ∧ CallOkR P f args M z M' := by
  unfold frameRead at h
  split at h
  rename_i args1 M1 hnil
  split at h
  rename_i pb pv _
  simp only [cond_eq_ite, Bool.and_eq_true] at h
  split at h
  · rename_i hc
    obtain ⟨⟨hn, hlb⟩, hlv0⟩ := hc
    split at h
    · rename_i hlv
      obtain ⟨z, MS, hk, hcall⟩ := hs h
      have hg := nilify_gains s.nils args M
      rw [hnil] at hg
      refine ⟨_, _, hk, hg.trans (gainM_gains M1 MS pb pv), ?_⟩
      intro E w0 w hR hsc hl
      obtain ⟨E1, h1, h2, h3⟩ := nilify_sound s.nils args (concL E args) hR (relL_conc hsc)
      rw [hnil] at h1 h2 h3
      simp only at h1 h2 h3
      have hp := h2.ro.pick pv (nodupB_spec hn)
      have r := Ren.pick E1 M1.ro pb pv
      have hcc := r.concL args1 hlv
      have hlk : lvL M1.live args1 = true := by have := hcc.1; rwa [ro_live] at this
      have he := concL_rel' h3 hlk
      obtain ⟨g1, g2⟩ := hcall _ _ w hp (r.scL args1) hlv
      rw [hcc.2, ← he] at g1 g2
      refine ⟨g1, g2.mono fun e w' ⟨ES, v, q1, q2, q3, q4⟩ => ?_⟩
      have F : Readed E1 w0 M1 w pb pv ES MS w' := ⟨h2, hlb, hlv0, q2, q4⟩
      exact ⟨_, v, q1, h1.trans F.step, q3.ren F.ren, F.repM, F.below⟩
    · cases h
  · cases h

/-! loops -/
def CodeOk (P : Program) (c : Code) (st : St) (e : Exit) (st' : St) : Prop :=
  ∀ E w0 (a : Act) w, Rep E w0 st a w → ∀ Q : Exit → Act → World → Prop, (∀ E' a' w', Step E st.M E' st'.M → Rep E' w0 st' a' w' → Q e a' w') → c.wp P Q a w

structure LSpec where
  n : Nat
  nils : List NilT
  keep : List Nat
  touch : List Nat
  run : {R : Type} → List AV → Mem → (Exit → List AV → Mem → Option R) → Option R
def slotK (keep touch : List Nat) (kv : List AV) (x : AV) (i : Nat) : AV := match invF keep i 0 with
  | some j => kv.getD j .bad
  | none => bif memB touch i then .bad else x
def tmF (keep touch : List Nat) (kv : List AV) (f : Nat → Value) : Nat → Nat → List AV
  | 0, _ => []
  | n + 1, i => slotK keep touch kv (.lit (f i)) i :: tmF keep touch kv f n (i + 1)
def tmM (keep touch : List Nat) (kv : List AV) : List AV → Nat → List AV
  | [], _ => []
  | x :: l, i => slotK keep touch kv x i :: tmM keep touch kv l (i + 1)
theorem tmF_len (keep touch : List Nat) (kv : List AV) (f : Nat → Value) : ∀ (n i : Nat), (tmF keep touch kv f n i).length = n
  | 0, _ => rfl
  | n + 1, i => by simp [tmF, tmF_len]
theorem tmM_len (keep touch : List Nat) (kv : List AV) : ∀ (l : List AV) (i : Nat), (tmM keep touch kv l i).length = l.length
  | [], _ => rfl
  | x :: l, i => by simp [tmM, tmM_len]
theorem tmF_get (keep touch : List Nat) (kv : List AV) (f : Nat → Value) : ∀ (n i j : Nat), j < n → (tmF keep touch kv f n i)[j]? = some (slotK keep touch kv (.lit (f (i + j))) (i + j))
  | 0, _, _, h => by omega
  | n + 1, i, 0, _ => rfl
  | n + 1, i, j + 1, h => by
    simp only [tmF, List.getElem?_cons_succ]
    rw [tmF_get keep touch kv f n (i + 1) j (by omega), show i + 1 + j = i + (j + 1) by omega]
theorem tmM_get (keep touch : List Nat) (kv : List AV) : ∀ (l : List AV) (i j : Nat), (tmM keep touch kv l i)[j]? = (l[j]?).map fun x => slotK keep touch kv x (i + j)
  | [], _, _ => by simp [tmM]
  | x :: l, i, 0 => by simp [tmM]
  | x :: l, i, j + 1 => by
    simp only [tmM, List.getElem?_cons_succ]
    rw [tmM_get keep touch kv l (i + 1) j, show i + 1 + j = i + (j + 1) by omega]
def LSpec.Ok (P : Program) (c : Code) (L : LSpec) : Prop := ∀ {R : Type} {kv : List AV} {M : Mem} {k : Exit → List AV → Mem → Option R} {r : R}, L.run kv M k = some r →
  ∃ e kv' M', k e kv' M' = some r ∧ ∀ f, CodeOk P c ⟨tmF L.keep L.touch kv f L.n 0, M⟩ e ⟨tmF L.keep L.touch kv' f L.n 0, M'⟩

def frameLoop1 {R : Type} (L : LSpec) (st : St) (k : Exit → St → Option R) : Option R :=
  bif decide (st.tm.length = L.n) then
    match L.keep.map fun i => st.tm.getD i .bad with
    | kv => frameP st.M kv fun pb pv M1 => L.run (renL (invB pb) (invB pv) kv) (pickM M1 pb pv) fun e kvS MS =>
        k e ⟨tmM L.keep L.touch (renL (bkN pb M1.blks.length MS.blks.length) (bkN pv M1.vecs.length MS.vecs.length) kvS) st.tm 0, outM M1 MS pb pv⟩
  else none
def litify : List NilT → List AV → Mem → List AV × Mem
  | [], l, M => (l, M)
  | t :: ts, l, M => match litAt t.slot t.elem t.isAgg t.sh l M with
    | (l', M') => litify ts l' M'
theorem litify_sound : ∀ (ts : List NilT) {E : Env} {w0 : Bs} {w : World} {M : Mem} (l : List AV) (vs : List Value), RepM E w0 M w → RelL E M l vs →
    ∃ E', Step E M E' (litify ts l M).2 ∧ RepM E' w0 (litify ts l M).2 w ∧ RelL E' (litify ts l M).2 (litify ts l M).1 vs
  | [], E, w0, w, M, l, vs, hR, hT => ⟨E, Step.refl E M, hR, hT⟩
  | t :: ts, E, w0, w, M, l, vs, hR, hT => by
    obtain ⟨E1, h1, h2, h3⟩ := litAt_sound t.slot t.elem t.isAgg t.sh l vs hR hT
    obtain ⟨E2, g1, g2, g3⟩ := litify_sound ts _ vs h2 h3
    exact ⟨E2, h1.trans g1, g2, g3⟩
def frameLoop {R : Type} (L : LSpec) (st : St) (k : Exit → St → Option R) : Option R :=
  match nilify L.nils st.tm st.M with
  | (tm, M) => match litify L.nils tm M with
    | (tm, M) => frameLoop1 L ⟨tm, M⟩ k
theorem renL_getD (fb fv : Nat → Option Nat) (l : List AV) (j : Nat) : (renL fb fv l).getD j .bad = (l.getD j .bad).ren fb fv := by
  rw [renL_eq]
  simp only [List.getD, List.getElem?_map]
  cases l[j]? <;> rfl
theorem frameLoop1_sound {R : Type} {P : Program} {c : Code} {L : LSpec} (hs : L.Ok P c) {st : St} {k : Exit → St → Option R} {r : R} (h : frameLoop1 L st k = some r) : ∃ e st', k e st' = some r ∧ CodeOk P c st e st' := by
  simp only [frameLoop1, cond_eq_ite, decide_eq_true_eq] at h
  split at h
  · rename_i hn
    obtain ⟨pb, pv, hok, h⟩ := frameP_sound h
    obtain ⟨e, kvS, MS, hk, hc⟩ := hs h
    refine ⟨e, _, hk, fun E w0 a w hR Q hQ => ?_⟩
    obtain ⟨hst0, hsub⟩ := killA_sub st.M pv (E := E)
    have hR1 := hsub hR.mem
    have hp := hR1.pick pv (okPick_nodup hok)
    have r := Ren.pick E (killA st.M pv) pb pv
    have hal : a.tmps.toList.length = L.n := by rw [← hR.tm.len, hn]
    let f : Nat → Value := fun i => a.tmps.toList.getD i undef
    refine hc f _ _ a w ⟨hp.rebase, ⟨by rw [tmF_len, hal], fun i x v hx hv => ?_⟩, hR.defers⟩ Q fun ES a' w' hst hR' => ?_
    · have hi : i < L.n := by rw [← hal]; exact lt_of_get hv
      rw [tmF_get _ _ _ _ _ _ _ hi, Nat.zero_add] at hx
      simp only [Option.some.injEq] at hx
      subst hx
      have hti : i < st.tm.length := by omega
      have hrel := (hR.tm.at_ i _ v (List.getElem?_eq_getElem hti) hv).step hst0
      unfold slotK
      split
      · rename_i j hj
        have hkj := invF_some hj
        rw [renL_getD]
        have : (L.keep.map fun i => st.tm.getD i .bad).getD j .bad = st.tm[i] := by
          simp [List.getD, List.getElem?_map, hkj, List.getElem?_eq_getElem hti]
        rw [this]
        exact hrel.ren r
      · cases memB L.touch i with
        | true => exact RelS.bad _ _ _
        | false =>
          have : f i = v := by show (a.tmps.toList[i]?).getD undef = v; rw [hv]; rfl
          simp only [cond_false]
          rw [this]; exact RelS.lit _ _ _
    · have F := framed_of hR1 hok hst hR'.mem
      refine hQ _ a' w' (hst0.trans F.step) ⟨F.repM, ⟨?_, fun i x v hx hv => ?_⟩, hR'.defers⟩
      · simp only [tmM_len]
        rw [hn, ← hR'.tm.len, tmF_len]
      · simp only [tmM_get, Nat.zero_add] at hx
        cases hti : st.tm[i]? with
        | none => rw [hti] at hx; cases hx
        | some y =>
          rw [hti] at hx
          simp only [Option.map_some, Option.some.injEq] at hx
          subst hx
          have hil := lt_of_get hti
          have hs1 := hR'.tm.at_ i _ v (tmF_get _ _ _ _ _ _ _ (by omega)) hv
          rw [Nat.zero_add] at hs1
          unfold slotK at *
          split
          · rename_i j hj
            rw [hj] at hs1
            rw [renL_getD]
            exact hs1.ren F.ren
          · rename_i hj
            rw [hj] at hs1
            cases hm : memB L.touch i with
            | true => exact RelS.bad _ _ _
            | false =>
              rw [hm] at hs1
              simp only [cond_false] at *
              have hv0 : a.tmps.toList[i]? = some (f i) := by
                have : i < a.tmps.toList.length := by omega
                show _ = some ((a.tmps.toList[i]?).getD undef); rw [List.getElem?_eq_getElem this]; rfl
              have e1 : v = f i := hs1.2 rfl
              have := hR.tm.at_ i y (f i) hti hv0
              rw [e1]
              exact this.step (hst0.trans F.step)
  · cases h

theorem frameLoop_sound {R : Type} {P : Program} {c : Code} {L : LSpec} (hs : L.Ok P c) {st : St} {k : Exit → St → Option R} {r : R} (h : frameLoop L st k = some r) : ∃ e st', k e st' = some r ∧ CodeOk P c st e st' := by
  unfold frameLoop at h
  split at h
  rename_i tm1 M1 hnil
  split at h
  rename_i tm2 M2 hlit
  obtain ⟨e, st', hk, hc⟩ := frameLoop1_sound hs h
  refine ⟨e, st', hk, fun E w0 a w hR Q hQ => ?_⟩
  obtain ⟨E1, h1, h2, h3⟩ := nilify_sound L.nils st.tm a.tmps.toList hR.mem hR.tm
  rw [hnil] at h1 h2 h3
  obtain ⟨E2, g1, g2, g3⟩ := litify_sound L.nils tm1 a.tmps.toList h2 h3
  rw [hlit] at g1 g2 g3
  exact hc E2 w0 a w ⟨g2, g3, hR.defers⟩ Q fun E' a' w' hst hR' => hQ E' a' w' ((h1.trans g1).trans hst) hR'

/-! the loops of a code -/
def headId : Code → Option Nat
  | .region id _ _ => some id
  | .seq a b => match headId a with
    | some i => some i
    | none => headId b
  | .cond _ a b => match headId a with
    | some i => some i
    | none => headId b
  | .block _ c => headId c
  | .loop c => headId c
  | .rangeFunc _ _ a c => match headId a with
    | some i => some i
    | none => headId c
  | .scope c => headId c
  | _ => none
def nodeL (ls : Nat → Option LSpec) (c : Code) : Option LSpec := match headId c with
  | some i => ls i
  | none => none
def nodes : Code → List Code
  | .seq a b => nodes a ++ nodes b
  | .cond _ a b => nodes a ++ nodes b
  | .block _ c => nodes c
  | .loop c => .loop c :: nodes c
  | .rangeFunc g ps a c => .rangeFunc g ps a c :: (nodes a ++ nodes c)
  | .scope c => nodes c
  | _ => []
/-- a stretch, or a fork of the code, that has a contract of its own -/
def rkey (i : Nat) : Nat := i + 1000000
def ckey (i : Nat) : Nat := i + 2000000
def partL (ls : Nat → Option LSpec) (c : Code) : Option LSpec := match c with
  | .region id _ _ => ls (rkey id)
  | .cond c a b => match headId (.cond c a b) with
    | some i => ls (ckey i)
    | none => none
  | _ => none
def parts : Code → List Code
  | .region id ops d => [.region id ops d]
  | .seq a b => parts a ++ parts b
  | .cond c a b => .cond c a b :: (parts a ++ parts b)
  | .block _ c => parts c
  | .loop c => parts c
  | .rangeFunc g ps a c => parts a ++ parts c
  | .scope c => parts c
  | _ => []
structure LoopsOk (P : Program) (ls : Nat → Option LSpec) (c : Code) : Prop where
  node : ∀ x, x ∈ nodes c → ∀ L, nodeL ls x = some L → L.Ok P x
  part : ∀ x, x ∈ parts c → ∀ L, partL ls x = some L → L.Ok P x
def noLoops : Nat → Option LSpec := fun _ => none
theorem partL_none {ls : Nat → Option LSpec} (h : ∀ i, ls (i + 1000000) = none) (c : Code) : partL ls c = none := by
  unfold partL
  split
  · exact h _
  · split
    · rename_i i _
      have := h (i + 1000000)
      rw [show i + 1000000 + 1000000 = ckey i by unfold ckey; omega] at this
      exact this
    · rfl
  · rfl
theorem LoopsOk.no (P : Program) (c : Code) : LoopsOk P noLoops c where
  node := fun x _ L h => by
    unfold nodeL noLoops at h
    split at h <;> cases h
  part := fun x _ L h => by
    rw [partL_none (fun _ => rfl)] at h
    cases h
end Go.Sx

namespace Go.Sx
open Go Go.RowKit

structure CallSem where
  isPure : FuncId → Bool
  pure : {R : Type} → FuncId → List AV → (AV → Option R) → Option R
  call : {R : Type} → FuncId → List AV → Mem → (AV → Mem → Option R) → Option R
  split : Oper → Option (List Int)
  join : Bool
  loops : Nat → Option LSpec
  isRead : FuncId → Bool

def PureOk (P : Program) (f : FuncId) (args : List AV) (z : AV) : Prop :=
  z.sc 0 0 = true ∧ z.lv (fun _ => false) = true ∧ ∀ (E : Env) (w : World), (callFunc f (concL E args).toArray).run P w = .ok (.enter f (concL E args).toArray) w ∧
    Calls P f (concL E args).toArray w (fun e w' => e = .returned (z.conc E) ∧ Below w.heap.size w w')

structure CallSem.Sound (P : Program) (C : CallSem) : Prop where
  pure : ∀ {R : Type} {f : FuncId} {args : List AV} {k : AV → Option R} {r : R}, C.pure f args k = some r → ∃ z, k z = some r ∧ PureOk P f args z
  call : ∀ {R : Type} {f : FuncId} {args : List AV} {M : Mem} {k : AV → Mem → Option R} {r : R}, C.call f args M k = some r → ∃ z M', k z M' = some r ∧ CallOk P f args M z M'
  read : ∀ {R : Type} {f : FuncId} {args : List AV} {M : Mem} {k : AV → Mem → Option R} {r : R}, C.isRead f = true → C.call f args M k = some r → ∃ z M', k z M' = some r ∧ Gains M M' ∧ CallOkR P f args M z M'

/-- whom an operation calls, and with what -/
def tgt (tm : List AV) (o : Oper) : Option (FuncId × List AV) :=
  match o.op with
  | .call c => match c.callee with
    | .value g => match ev tm g with
      | .lit (.func (.func f) first caps) => some (f, first.toList.map AV.lit ++ c.args.toList.map (ev tm) ++ caps.toList.map AV.lit)
      | .fn f caps => some (f, c.args.toList.map (ev tm) ++ caps)
      | _ => none
    | _ => none
  | _ => none

theorem concL_append (E : Env) (l m : List AV) : concL E (l ++ m) = concL E l ++ concL E m := by simp [concL_eq]
theorem lvL_append (L : Nat → Bool) (l m : List AV) : lvL L (l ++ m) = (lvL L l && lvL L m) := by simp [lvL_eq]
theorem scL_append (n k : Nat) (l m : List AV) : scL n k (l ++ m) = (scL n k l && scL n k m) := by simp [scL_eq]
theorem scL_lits (n k : Nat) (l : List Value) : scL n k (l.map AV.lit) = true := by simp [scL_eq, AV.sc]

theorem scL_evs {E : Env} {M : Mem} {tm : List AV} {a : Act} (hT : RelL E M tm a.tmps.toList) (l : List Operand) : scL M.blks.length M.vecs.length (l.map (ev tm)) = true :=
  scL_of fun i x hx => by
    rw [List.getElem?_map] at hx
    cases hc : l[i]? with
    | none => rw [hc] at hx; cases hx
    | some y => rw [hc] at hx; simp at hx; subst hx; exact (hT.ev y).1

theorem tgt_run {P : Program} {E : Env} {M : Mem} {tm : List AV} {a : Act} {o : Oper} {f : FuncId} {args : List AV} (h : tgt tm o = some (f, args)) (hl : lvL M.live args = true) (hT : RelL E M tm a.tmps.toList) (w : World) :
    scL M.blks.length M.vecs.length args = true ∧ (execOp a.eval o).run P w = (callFunc f (concL E args).toArray).run P w := by
  unfold tgt at h
  split at h
  · rename_i c ho
    split at h
    · rename_i g hg
      split at h
      · rename_i f' first caps hv
        simp only [Option.some.injEq, Prod.mk.injEq] at h
        obtain ⟨rfl, rfl⟩ := h
        simp only [lvL_append, Bool.and_eq_true] at hl
        have hge := (hT.ev g).2 (by rw [hv]; rfl)
        rw [hv] at hge
        have hargs := evalL hT c.args.toList hl.1.2
        refine ⟨by simp only [scL_append, scL_lits, scL_evs hT, Bool.and_self], ?_⟩
        have he : (concL E (first.toList.map AV.lit ++ c.args.toList.map (ev tm) ++ caps.toList.map AV.lit)).toArray = first ++ c.args.map a.eval ++ caps := by
          apply Array.ext'
          simp [concL_append, concL_lits, ← hargs]
        simp only [execOp, ho, resolve, hg, Deferred.ofValue, hge, AV.conc, Sem.run_bind, Sem.run_pure, Result.andThen_ok, invoke, he]
      · rename_i f' caps hv
        simp only [Option.some.injEq, Prod.mk.injEq] at h
        obtain ⟨rfl, rfl⟩ := h
        simp only [lvL_append, Bool.and_eq_true] at hl
        have hge := (hT.ev g).2 (by rw [hv]; simpa [AV.lv] using hl.2)
        have hgs := (hT.ev g).1
        rw [hv] at hge hgs
        have hargs := evalL hT c.args.toList hl.1
        refine ⟨by simp only [scL_append, scL_evs hT, Bool.true_and]; simpa [AV.sc] using hgs, ?_⟩
        have he : (concL E (c.args.toList.map (ev tm) ++ caps)).toArray = c.args.map a.eval ++ (concL E caps).toArray := by
          apply Array.ext'
          simp [concL_append, ← hargs]
        simp only [execOp, ho, resolve, hg, Deferred.ofValue, hge, AV.conc, Sem.run_bind, Sem.run_pure, Result.andThen_ok, invoke, he]
        simp
      · cases h
    · cases h
  · cases h

def isVal (o : Oper) : Bool :=
  match o.op with
  | .move _ | .assign _ | .pick _ _ _ | .binOp _ _ _ _ _ | .unOp _ _ _ | .convert _ _ _ | .load _ _ | .fieldAddr _ _ _ | .indexAddr _ _ _ | .slice _ _ _ _ _
  | .sliceToArrayPointer _ _ | .field _ _ _ | .index _ _ _ | .build _ _ | .makeFunc _ _ _ | .nilCheck _ | .extract _ _ => true
  | .call c => match c.callee with
    | .builtin .len | .builtin .min | .builtin .max => true
    | _ => false
  | _ => false

/-- a number that is one of a few: the walk goes on with each -/
def splitR {R : Type} (v : Int) (k : Int → Option R) : List Int → Option R
  | [] => none
  | r :: l => bif decide (v = r) then k r else splitR v k l
theorem splitR_sound {R : Type} {v : Int} {k : Int → Option R} {r : R} : ∀ {l : List Int}, splitR v k l = some r → k v = some r
  | [], h => by cases h
  | x :: l, h => by
    simp only [splitR, cond_eq_ite, decide_eq_true_eq] at h
    split at h
    · rename_i e; rw [e]; exact h
    · exact splitR_sound h
def splitV {R : Type} (z : AV) (l : List Int) (k : AV → Option R) : Option R :=
  match z with
  | .lit (.int kk v) => splitR v (fun x => k (.lit (.int kk x))) l
  | _ => none
theorem splitV_sound {R : Type} {z : AV} {l : List Int} {k : AV → Option R} {r : R} (h : splitV z l k = some r) : k z = some r := by
  unfold splitV at h
  split at h
  · exact splitR_sound (k := fun x => k (.lit (.int _ x))) h
  · cases h

def opK {R : Type} (C : CallSem) (P : Program) (tm : List AV) (M : Mem) (o : Oper) (k : AV → Mem → Option R) : Option R :=
  bif isVal o then (match C.split o with
    | none => valK P tm M o k
    | some l => valK P tm M o fun z M' => splitV z l fun z => k z M')
  else match tgt tm o with
    | some (f, args) => bif lvL M.live args then C.call f args M k else none
    | none => match o.op with
      | .call c => match c.callee with
        | .builtin .copy => copyK P tm M o k
        | _ => appendK P tm M o k
      | .makeSlice _ _ _ => makeK P tm M o k
      | .store _ x _ => match ev tm x with
        | .vptr _ _ _ _ => storeVK P tm M o k
        | _ => memK P tm M o k
      | _ => memK P tm M o k

def OpOk (P : Program) (tm : List AV) (M : Mem) (o : Oper) (z : AV) (M' : Mem) : Prop :=
  ∀ E (a : Act) w0 w, RelL E M tm a.tmps.toList → RepM E w0 M w → ∀ (K : Act → World → Prop) (Q : Exit → Act → World → Prop),
    (∀ E' v w', Step E M E' M' → RelS E' M' z v → RepM E' w0 M' w' → K (a.put o.dst v) w') → o.wp P a w K Q

theorem opK_sound {R : Type} {C : CallSem} {P : Program} (hC : C.Sound P) {tm : List AV} {M : Mem} {o : Oper} {k : AV → Mem → Option R} {r : R} (h : opK C P tm M o k = some r) :
    ∃ z M', k z M' = some r ∧ OpOk P tm M o z M' := by
  unfold opK at h
  simp only [cond_eq_ite] at h
  split at h
  · have fin : ∀ {z : AV} {M' : Mem}, k z M' = some r → ValOk P tm M o z M' → ∃ z M', k z M' = some r ∧ OpOk P tm M o z M' := by
      intro z M' hk hv
      refine ⟨z, M', hk, fun E a w0 w hT hR K Q hK => ?_⟩
      obtain ⟨E', v, hs, hrun⟩ := hv E a hT
      obtain ⟨h1, h2, h3⟩ := hrun w0 w hR
      unfold Oper.wp
      rw [h3]
      exact hK E' v w hs h1 h2
    split at h
    · obtain ⟨z, M', hk, _, _, hv⟩ := valK_sound h
      exact fin hk hv
    · obtain ⟨z, M', hk, _, _, hv⟩ := valK_sound h
      exact fin (splitV_sound hk) hv
  · split at h
    · rename_i f args ht
      split at h
      · rename_i hl
        obtain ⟨z, M', hk, hc⟩ := hC.call h
        refine ⟨z, M', hk, fun E a w0 w hT hR K Q hK => ?_⟩
        obtain ⟨hsc, hrun⟩ := tgt_run (P := P) ht hl hT w
        obtain ⟨h1, h2⟩ := hc E w0 w hR hsc hl
        unfold Oper.wp
        rw [hrun, h1]
        exact h2.mono fun e w' ⟨E', v, he, hs, hv, hR'⟩ => by subst he; exact hK E' v w' hs hv hR'
      · cases h
    · have fin : ∀ {z : AV} {M' : Mem}, k z M' = some r → MemOk P tm M o z M' → ∃ z M', k z M' = some r ∧ OpOk P tm M o z M' := by
        intro z M' hk hm
        refine ⟨z, M', hk, fun E a w0 w hT hR K Q hK => ?_⟩
        obtain ⟨E', v, w', hs, hv, hR', _, hrun⟩ := hm E a w0 w hT hR
        unfold Oper.wp
        rcases hrun with hrun | ⟨hrun, rfl⟩
        · rw [hrun]; exact hK E' v w' hs hv hR'
        · rw [hrun]; exact hK E' undef w' hs hv hR'
      split at h
      · split at h
        · obtain ⟨z, M', hk, hm⟩ := copyK_sound h
          exact fin hk hm
        · obtain ⟨z, M', hk, hm⟩ := appendK_sound h
          exact fin hk hm
      · obtain ⟨z, M', hk, hm⟩ := makeK_sound h
        exact fin hk hm
      · split at h
        · obtain ⟨z, M', hk, hm⟩ := storeVK_sound h
          exact fin hk hm
        · obtain ⟨z, M', hk, hm⟩ := memK_sound h
          exact fin hk hm
      · obtain ⟨z, M', hk, hm⟩ := memK_sound h
        exact fin hk hm

/-! guards -/
def guardK {R : Type} (ops : Array Oper) (tm : List AV) (o : Oper) (run skip : List AV → Option R) : Option R :=
  match o.guard with
  | none => run tm
  | some (j, want) =>
    match (ops[j]?).bind (·.dst) with
    | none => skip tm
    | some d =>
      match tm.getD d .bad with
      | .lit (.bool t) =>
        match t with
        | true => bif want then run (tm.set d (.lit (.bool true))) else skip (tm.set d (.lit (.bool true)))
        | false => bif want then skip (tm.set d (.lit (.bool false))) else run (tm.set d (.lit (.bool false)))
      | .lit (.tuple _) => skip tm
      | _ => none

theorem set_self {tm : List AV} {d : Nat} {x : AV} (h : tm.getD d .bad = x) (hx : x ≠ .bad) : tm.set d x = tm := by
  apply List.ext_getElem?
  intro i
  rw [List.getElem?_set]
  split
  · rename_i e
    subst e
    cases hd : tm[d]? with
    | none => simp [List.getD, hd] at h; exact absurd h.symm hx
    | some y =>
      simp [List.getD, hd] at h
      rw [if_pos (lt_of_get hd), h]
  · rfl

theorem slot_val {E : Env} {M : Mem} {tm : List AV} {a : Act} (hT : RelL E M tm a.tmps.toList) {d : Nat} {v : Value} (h : tm.getD d .bad = .lit v) : a.tmps[d]? = some v := by
  cases hd : tm[d]? with
  | none => simp [List.getD, hd] at h
  | some y =>
    simp [List.getD, hd] at h
    subst h
    obtain ⟨u, hu, hr⟩ := hT.get hd
    have := hr.2 rfl
    rw [this] at hu
    simpa [AV.conc] using hu

theorem guardK_sound {R : Type} {ops : Array Oper} {tm : List AV} {o : Oper} {run skip : List AV → Option R} {r : R} (h : guardK ops tm o run skip = some r) :
    (run tm = some r ∧ ∀ E M (a : Act), RelL E M tm a.tmps.toList → Region.wanted o (yielded ops a.tmps) = true) ∨
    (skip tm = some r ∧ ∀ E M (a : Act), RelL E M tm a.tmps.toList → Region.wanted o (yielded ops a.tmps) = false) := by
  unfold guardK at h
  split at h
  · rename_i hg
    exact .inl ⟨h, fun _ _ _ _ => by simp [Region.wanted, hg]⟩
  · rename_i j want hg
    split at h
    · rename_i hd
      exact .inr ⟨h, fun _ _ _ _ => by simp [Region.wanted, hg, yielded, hd]⟩
    · rename_i d hd
      split at h
      · rename_i t ht
        split at h
        · rw [set_self ht (by simp)] at h
          cases want with
          | true => exact .inl ⟨h, fun E M a hT => by simp [Region.wanted, hg, yielded, hd, slot_val hT ht]⟩
          | false => exact .inr ⟨h, fun E M a hT => by simp [Region.wanted, hg, yielded, hd, slot_val hT ht]⟩
        · rw [set_self ht (by simp)] at h
          cases want with
          | true => exact .inr ⟨h, fun E M a hT => by simp [Region.wanted, hg, yielded, hd, slot_val hT ht]⟩
          | false => exact .inl ⟨h, fun E M a hT => by simp [Region.wanted, hg, yielded, hd, slot_val hT ht]⟩
      · rename_i vs ht
        exact .inr ⟨h, fun E M a hT => by simp [Region.wanted, hg, yielded, hd, slot_val hT ht]⟩
      · cases h

/-! operations in the order of the text -/
def seqK {R : Type} (C : CallSem) (P : Program) (ops : Array Oper) : List Oper → List AV → Mem → (List AV → Mem → Option R) → Option R
  | [], tm, M, k => k tm M
  | o :: rest, tm, M, k => guardK ops tm o (fun tm => opK C P tm M o fun z M' => seqK C P ops rest (putT tm o.dst z) M' k) (fun tm => seqK C P ops rest (putT tm o.dst (.lit undef)) M k)

def SeqOk (P : Program) (ops : Array Oper) (l : List Oper) (tm : List AV) (M : Mem) (tm' : List AV) (M' : Mem) : Prop :=
  ∀ E (a : Act) w0 w, RelL E M tm a.tmps.toList → a.defers = [] → RepM E w0 M w → ∀ (Q : Exit → Act → World → Prop),
    (∀ E' a' w', Step E M E' M' → RelL E' M' tm' a'.tmps.toList → a'.defers = [] → RepM E' w0 M' w' → Q .normal a' w') → wpList P ops Q l a w

theorem seqK_sound {R : Type} {C : CallSem} {P : Program} (hC : C.Sound P) {ops : Array Oper} : ∀ (l : List Oper) (tm : List AV) (M : Mem) (k : List AV → Mem → Option R) (r : R), seqK C P ops l tm M k = some r →
    ∃ tm' M', k tm' M' = some r ∧ SeqOk P ops l tm M tm' M'
  | [], tm, M, k, r, h => ⟨tm, M, h, fun E a w0 w hT hd hR Q hQ => hQ E a w (Step.refl E M) hT hd hR⟩
  | o :: rest, tm, M, k, r, h => by
    simp only [seqK] at h
    rcases guardK_sound h with ⟨h, hw⟩ | ⟨h, hw⟩
    · obtain ⟨z, M1, h1, hop⟩ := opK_sound hC h
      obtain ⟨tm', M', hk, hs⟩ := seqK_sound hC rest _ _ _ _ h1
      refine ⟨tm', M', hk, fun E a w0 w hT hd hR Q hQ => ?_⟩
      refine wpList_step fun K hK => ?_
      rw [if_pos (hw E M a hT)]
      refine hop E a w0 w hT hR K Q fun E' v w' hst hv hR' => hK _ _ ?_
      exact hs E' _ w0 w' ((hT.step hst).put o.dst hv) (by rw [put_defers]; exact hd) hR' Q fun E'' a' w'' hst' => hQ E'' a' w'' (hst.trans hst')
    · obtain ⟨tm', M', hk, hs⟩ := seqK_sound hC rest _ _ _ _ h
      refine ⟨tm', M', hk, fun E a w0 w hT hd hR Q hQ => ?_⟩
      refine wpList_step fun K hK => ?_
      rw [if_neg (by rw [hw E M a hT]; exact Bool.false_ne_true)]
      exact hK _ _ (hs E _ w0 w (hT.put o.dst (RelS.lit _ _ _)) (by rw [put_defers]; exact hd) hR Q hQ)

end Go.Sx
