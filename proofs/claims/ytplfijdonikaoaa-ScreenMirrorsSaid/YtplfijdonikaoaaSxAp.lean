import Derived.Test.YtplfijdonikaoaaSxI
import Derived.Maps.AppendAt
set_option linter.unusedVariables false
set_option linter.unusedSimpArgs false
namespace Go.Sx
open Go Go.RowKit

/-! append onto a row that is the walk's own -/

def noAny : List CK → Bool
  | [] => true
  | .any :: _ => false
  | _ :: l => noAny l
def ckT (P : Program) (t : TypeId) : CK := match P.underlying t with
  | some (.int k) => .int k
  | some .bool => .bool
  | some .string => .str
  | _ => .any
def shT (P : Program) (el : TypeId) : Option (Bool × List CK) := match aggT P el with
  | some true => match P.cellTypes P.depth el with
    | some ts => some (true, ts.map (ckT P))
    | none => none
  | some false => some (false, [ckT P el])
  | none => none

def chead (isAgg : Bool) (z : Nat) (l : List AV) : AV := match isAgg with
  | true => .agg (l.take z)
  | false => l.headD .bad
def chunks (isAgg : Bool) (z : Nat) : Nat → List AV → List AV
  | 0, _ => []
  | m + 1, l => chead isAgg z l :: chunks isAgg z m (l.drop z)
def shapes (isAgg : Bool) (sh : List CK) : List AV → Bool
  | [] => true
  | x :: l => x.shape isAgg sh && shapes isAgg sh l
theorem shapes_mem {isAgg : Bool} {sh : List CK} : ∀ {l : List AV}, shapes isAgg sh l = true → ∀ x, x ∈ l → x.shape isAgg sh = true
  | [], _, x, hx => by cases hx
  | y :: l, h, x, hx => by
    simp only [shapes, Bool.and_eq_true] at h
    rcases List.mem_cons.1 hx with rfl | hx
    · exact h.1
    · exact shapes_mem h.2 x hx

theorem flatC_chunks {isAgg : Bool} {sh : List CK} {z : Nat} (hz : sh.length = z) (hp : 0 < z) : ∀ (m : Nat) (l : List AV), l.length = m * z → shapes isAgg sh (chunks isAgg z m l) = true → flatC (chunks isAgg z m l) = l
  | 0, l, hl, _ => by
    have : l = [] := List.eq_nil_of_length_eq_zero (by omega)
    subst this; rfl
  | m + 1, l, hl, hs => by
    rw [Nat.add_mul, Nat.one_mul] at hl
    simp only [chunks, shapes, Bool.and_eq_true] at hs
    simp only [chunks, flatC]
    rw [flatC_chunks hz hp m (l.drop z) (by simp; omega) hs.2]
    have hh : (chead isAgg z l).cells = l.take z := by
      cases isAgg with
      | true => rfl
      | false =>
        have h1 := hs.1
        simp only [chead, AV.shape] at h1 ⊢
        match sh, h1, hz with
        | [k], h1, hz =>
          simp only [fitsAll, Bool.and_true] at h1
          have hz1 : z = 1 := by simpa using hz.symm
          subst hz1
          rw [fits_cells h1]
          cases l with
          | nil => simp at hl
          | cons a l => rfl
        | [], h1, hz => simp at hz; omega
        | _ :: _ :: _, h1, hz => simp [fitsAll] at h1
    rw [hh, List.take_append_drop]

def killT (M : Mem) (t : Option Nat) : Mem := match t with
  | none => M
  | some t => { M with vecs := M.vecs.map fun o => match o with
      | some e => bif (e.terr == t) && e.own then none else some e
      | none => none }
theorem killT_get {M : Mem} {t : Option Nat} {h : Nat} {e : Ent} (hh : (killT M t).vecs[h]? = some (some e)) : M.vecs[h]? = some (some e) ∧ ∀ t', t = some t' → e.own = true → e.terr ≠ t' := by
  cases t with
  | none => exact ⟨hh, fun t' h => by cases h⟩
  | some t =>
    simp only [killT, List.getElem?_map] at hh
    cases hv : M.vecs[h]? with
    | none => rw [hv] at hh; cases hh
    | some o =>
      rw [hv] at hh
      cases o with
      | none => simp at hh
      | some e' =>
        simp only [Option.map_some, Option.some.injEq, cond_eq_ite, Bool.and_eq_true, beq_iff_eq] at hh
        split at hh
        · cases hh
        · rename_i hc
          simp only [Option.some.injEq] at hh
          subst hh
          refine ⟨rfl, fun t' ht ho hte => hc ?_⟩
          cases ht
          exact ⟨hte, ho⟩
theorem killT_blks (M : Mem) (t : Option Nat) : (killT M t).blks = M.blks := by cases t <;> rfl
theorem killT_len (M : Mem) (t : Option Nat) : (killT M t).vecs.length = M.vecs.length := by cases t <;> simp [killT]
theorem killT_le (M : Mem) (t : Option Nat) : Mem.le M (killT M t) := by
  refine ⟨by rw [killT_blks]; exact Nat.le_refl _, by rw [killT_len]; exact Nat.le_refl _, fun i _ h => ?_, fun i _ h => ?_⟩
  · unfold aliveB at *; rw [killT_blks] at h; exact h
  · unfold aliveV at h
    split at h
    · rename_i e he
      unfold aliveV
      rw [(killT_get he).1]
    · cases h

theorem RepM.killT {E : Env} {w0 : Bs} {w : World} {M : Mem} (h : RepM E w0 M w) (t : Option Nat) : RepM E w0 (killT M t) w := by
  have hst : Step E M E (Sx.killT M t) := ⟨killT_le M t, Env.le.refl _ _ _⟩
  refine ⟨h.below, fun b x hx => ?_, fun b b' x x' hx hx' => ?_, fun i e he => ?_, fun i i' e e' he he' => ?_⟩
  · rw [killT_blks] at hx
    obtain ⟨h1, cs, h2, h3⟩ := h.blk b x hx
    exact ⟨h1, cs, h2, h3.step hst⟩
  · rw [killT_blks] at hx hx'
    exact h.inj b b' x x' hx hx'
  · rcases h.vec i e (killT_get he).1 with hz | ⟨a, cap, cs, fz, hv⟩
    · exact .inl hz
    refine .inr ⟨a, cap, cs, fz, { hv with cell := ?_, mine := ?_ }⟩
    · intro j y hy k c hc
      obtain ⟨u, h1, h2⟩ := hv.cell j y hy k c hc
      exact ⟨u, h1, h2.step hst⟩
    · intro ho
      obtain ⟨h1, h2, h3⟩ := hv.mine ho
      exact ⟨h1, h2, fun b x hx => h3 b x (by rw [killT_blks] at hx; exact hx)⟩
  · exact h.terr i i' e e' (killT_get he).1 (killT_get he').1

theorem RepM.grown {E : Env} {w0 : Bs} {w w' : World} {M : Mem} (h : RepM E w0 M w) {row : Option Nat} (hg : w.grownBy w' row) (hrow : ∀ g, row = some g → w0.Wr g ∧ (∀ (b : Nat) (x : Blk), M.blks[b]? = some (some x) → E.ρ b ≠ g) ∧ ∀ (i : Nat) (e : Ent), M.vecs[i]? = some (some e) → E.bk i ≠ some g) : RepM E w0 M w' := by
  have hs : w0.w0.heap.size ≤ w.heap.size := h.below.size
  have keep : ∀ k, k < w.heap.size → (∀ g, row = some g → k ≠ g) → w'.heap[k]? = w.heap[k]? := fun k hk hne => hg.block k hk fun e => hne k e.symm rfl
  refine ⟨⟨hg.os.trans h.below.os, hg.tape.trans h.below.tape, hg.output.trans h.below.output, Nat.le_trans h.below.size hg.size, fun k hk => ?_⟩, fun b x hx => ?_, h.inj, fun i e he => ?_, h.terr⟩
  · rw [keep k (Nat.lt_of_lt_of_le (Bs.lt hk) hs) fun g e hh => hk (hh ▸ (hrow g e).1)]
    exact h.below.block k hk
  · obtain ⟨h1, cs, h2, h3⟩ := h.blk b x hx
    exact ⟨h1, cs, (keep _ (heap_lt h2) fun g e => (hrow g e).2.1 b x hx).trans h2, h3⟩
  · rcases h.vec i e he with hz | ⟨a, cap, cs, fz, hv⟩
    · exact .inl hz
    exact .inr ⟨a, cap, cs, fz, { hv with blk := (keep _ (heap_lt hv.blk) fun g e' hh => (hrow g e').2.2 i e he (by rw [hv.bk, hh])).trans hv.blk }⟩

def killB (M : Mem) (b : Option Nat) : Mem := match b with
  | none => M
  | some b => ⟨M.blks.set b none, M.vecs⟩
theorem killB_get {M : Mem} {kb : Option Nat} {b : Nat} {x : Blk} (h : (killB M kb).blks[b]? = some (some x)) : M.blks[b]? = some (some x) ∧ kb ≠ some b := by
  cases kb with
  | none => exact ⟨h, fun e => by cases e⟩
  | some c =>
    simp only [killB, List.getElem?_set] at h
    split at h
    · split at h <;> cases h
    · rename_i hne
      exact ⟨h, fun e => hne (by simpa using e)⟩
theorem killB_vecs (M : Mem) (kb : Option Nat) : (killB M kb).vecs = M.vecs := by cases kb <;> rfl
theorem killB_len (M : Mem) (kb : Option Nat) : (killB M kb).blks.length = M.blks.length := by cases kb <;> simp [killB]
theorem RepM.killB {M : Mem} (kb : Option Nat) {E : Env} : Step E M E (killB M kb) ∧ ∀ {w0 : Bs} {w : World}, RepM E w0 M w → RepM E w0 (killB M kb) w := by
  have hst : Step E M E (Sx.killB M kb) := by
    refine ⟨⟨by rw [killB_len]; exact Nat.le_refl _, by rw [killB_vecs]; exact Nat.le_refl _, fun i hi h => ?_, fun i hi h => ?_⟩, Env.le.refl _ _ _⟩
    · unfold aliveB at h
      split at h
      · rename_i x hx
        unfold aliveB; rw [(killB_get hx).1]
      · cases h
    · unfold aliveV at *; rw [killB_vecs] at h; exact h
  refine ⟨hst, fun {w0 w} h => ⟨h.below, fun b x hx => ?_, fun b b' x x' hx hx' => h.inj b b' x x' (killB_get hx).1 (killB_get hx').1, fun i e he => ?_, fun i i' e e' he he' => ?_⟩⟩
  · obtain ⟨h1, cs, h2, h3⟩ := h.blk b x (killB_get hx).1
    exact ⟨h1, cs, h2, h3.step hst⟩
  · rw [killB_vecs] at he
    rcases h.vec i e he with hz | ⟨a, cap, cs, fz, hV⟩
    · exact .inl hz
    refine .inr ⟨a, cap, cs, fz, { hV with cell := ?_, mine := ?_ }⟩
    · intro j y hy k c hc
      obtain ⟨u, h1, h2⟩ := hV.cell j y hy k c hc
      exact ⟨u, h1, h2.step hst⟩
    · intro ho
      obtain ⟨h1, h2, h3⟩ := hV.mine ho
      exact ⟨h1, h2, fun b x hx => h3 b x (killB_get hx).1⟩
  · rw [killB_vecs] at he he'
    exact h.terr i i' e e' he he'
def killX (M : Mem) (t b : Option Nat) : Mem := Sx.killB (killT M t) b
theorem RepM.killX {M : Mem} (t kb : Option Nat) {E : Env} : Step E M E (killX M t kb) ∧ ∀ {w0 : Bs} {w : World}, RepM E w0 M w → RepM E w0 (Sx.killX M t kb) w := by
  obtain ⟨h1, h2⟩ := RepM.killB (M := Sx.killT M t) kb (E := E)
  have hst1 : Step E M E (Sx.killT M t) := ⟨killT_le M t, Env.le.refl _ _ _⟩
  exact ⟨hst1.trans h1, fun h => h2 (h.killT t)⟩
theorem killX_len (M : Mem) (t kb : Option Nat) : (killX M t kb).vecs.length = M.vecs.length := by unfold killX; rw [killB_vecs, killT_len]
theorem killX_vec {M : Mem} {t kb : Option Nat} {h : Nat} {e : Ent} (hh : (killX M t kb).vecs[h]? = some (some e)) : M.vecs[h]? = some (some e) ∧ ∀ t', t = some t' → e.own = true → e.terr ≠ t' := by
  unfold killX at hh; rw [killB_vecs] at hh; exact killT_get hh
theorem killX_blk {M : Mem} {t kb : Option Nat} {b : Nat} {x : Blk} (h : (killX M t kb).blks[b]? = some (some x)) : M.blks[b]? = some (some x) ∧ kb ≠ some b := by
  have := killB_get h
  rwa [killT_blks] at this

/-- what is appended to: the territory, a block, the elements, their shape -/
def dstA (P : Program) (M : Mem) (x : AV) (el : TypeId) : Option (Option Nat × Option Nat × List AV × Bool × List CK) :=
  match x with
  | .lit (.slice none 0 0) => match shT P el with
    | some (ia, sh) => some (none, none, [], ia, sh)
    | none => none
  | .vec h => match M.vecs[h]? with
    | some (some e) => bif e.own && e.head && decide (e.elem = el) then some (some e.terr, none, e.cont, e.isAgg, e.sh) else none
    | _ => none
  | .sl b 0 len cap => match M.blks[b]?, shT P el with
    | some (some X), some (ia, sh) => bif X.own && decide (X.elem = el) && decide (0 < sh.length) && decide (len ≤ cap) && decide (cap ≤ 65536) && decide (X.cells.length = cap * sh.length) && shapes ia sh (chunks ia sh.length len (X.cells.take (len * sh.length))) then
        some (none, some b, chunks ia sh.length len (X.cells.take (len * sh.length)), ia, sh) else none
    | _, _ => none
  | _ => none
theorem chunks_len (ia : Bool) (z : Nat) : ∀ (m : Nat) (l : List AV), (chunks ia z m l).length = m := by
  intro m
  induction m with
  | zero => intro l; rfl
  | succ m ih => intro l; simp [chunks, ih]

theorem dstA_sound {P : Program} {E : Env} {w0 : Bs} {w : World} {M : Mem} (hR : RepM E w0 M w) {x : AV} {el : TypeId} {t kb : Option Nat} {olds : List AV} {ia : Bool} {sh : List CK} (h : dstA P M x el = some (t, kb, olds, ia, sh)) :
    ∃ xs : List Value, w.ownsRow 0 el sh.length (x.conc E) olds.length xs ∧ RelL E M (flatC olds) xs ∧ (∀ y, y ∈ olds → y.shape ia sh = true) ∧
      (∀ g, (x.conc E).ownBlock = some g → w0.Wr g ∧ (∀ (b : Nat) (y : Blk), (killX M t kb).blks[b]? = some (some y) → E.ρ b ≠ g) ∧ ∀ (i : Nat) (e : Ent), (killX M t kb).vecs[i]? = some (some e) → E.bk i ≠ some g) := by
  unfold dstA at h
  split at h
  · split at h
    · rename_i ia' sh' hsh
      simp only [Option.some.injEq, Prod.mk.injEq] at h
      obtain ⟨rfl, rfl, rfl, rfl, rfl⟩ := h
      exact ⟨[], World.ownsRow_nil w _ _ _, ⟨rfl, fun i a v ha => (by simp [flatC] at ha)⟩, fun y hy => (by cases hy), fun g hg => (by simp [AV.conc, Value.ownBlock] at hg)⟩
    · cases h
  · rename_i q
    split at h
    · rename_i e he
      simp only [cond_eq_ite, Bool.and_eq_true, decide_eq_true_eq] at h
      split at h
      · rename_i hc
        obtain ⟨⟨ho, hh⟩, hel⟩ := hc
        simp only [Option.some.injEq, Prod.mk.injEq] at h
        obtain ⟨rfl, rfl, rfl, rfl, rfl⟩ := h
        rcases hR.vec q e he with ⟨hz, hz'⟩ | ⟨a, cap, cs, fz, hv⟩
        · refine ⟨[], ?_, ?_, ?_, ?_⟩
          · rw [hz]; simp only [AV.conc, hz']; exact World.ownsRow_nil w _ _ _
          · rw [hz]; exact ⟨rfl, fun i a v ha => (by simp [flatC] at ha)⟩
          · rw [hz]; exact fun y hy => (by cases hy)
          · intro g hg; simp [AV.conc, hz', nilV, Value.ownBlock] at hg
        obtain ⟨hm1, hm2, hm3⟩ := hv.mine ho
        obtain ⟨hh1, hh2, hh3⟩ := hv.head hh
        have ha : a = ⟨a.block, 0, none⟩ := by
          have hsp := hv.spot
          obtain ⟨ab, ao, asp⟩ := a
          simp only at hsp hh1
          rw [hsp, hh1]
        have hcl : ∀ x, x ∈ e.cont → x.cells.length = e.sh.length := fun x hx => by
          obtain ⟨i, hi⟩ := List.mem_iff_getElem?.1 hx
          exact shape_len (hv.shape i x hi)
        have hfl := flatC_len e.cont hcl
        have hmul := Nat.mul_le_mul_right e.sh.length hv.le
        refine ⟨cs.toList.take (e.cont.length * e.sh.length), ⟨by simp; omega, .inr ⟨a.block, cap, cs, ?_, Nat.zero_le _, ?_, hv.le, hh3, hh2, rfl⟩⟩, ⟨by simp [hfl]; omega, fun i c v hc hvv => ?_⟩, fun y hy => ?_, fun g hg => ?_⟩
        · simp only [AV.conc, hv.val]
          rw [← ha]
        · rw [hv.blk, hm2, hel]
        · obtain ⟨i', j', x, h1, h2, rfl⟩ := flatC_get e.cont hcl i c hc
          obtain ⟨u, hu, hr⟩ := hv.cell i' x h1 j' c h2
          rw [List.getElem?_take] at hvv
          split at hvv
          · have : cs[i' * e.sh.length + j']? = some v := by simpa using hvv
            rw [hh1, Nat.zero_add, this] at hu
            simp only [Option.some.injEq] at hu
            exact hu ▸ hr
          · cases hvv
        · obtain ⟨i, hi⟩ := List.mem_iff_getElem?.1 hy
          exact hv.shape i y hi
        · simp only [AV.conc, hv.val, Value.ownBlock, Option.some.injEq] at hg
          subst hg
          refine ⟨hm1, fun b y hy => hm3 b y (killX_blk hy).1, fun i e' he' hb => ?_⟩
          obtain ⟨g1, g2⟩ := killX_vec he'
          cases ho' : e'.own with
          | false =>
            rcases hR.vec i e' g1 with ⟨_, hz'⟩ | ⟨a', cap', cs', fz', hv'⟩
            · rw [bk_nil hz'] at hb; cases hb
            · rw [hv'.bk] at hb
              simp only [Option.some.injEq] at hb
              exact hv'.old ho' (by rw [hb]; exact hm1)
          | true => exact g2 _ rfl ho' (hR.terr i q e' e g1 he ho' ho _ hb hv.bk)
      · cases h
    · cases h
  · rename_i b len cap
    split at h
    · rename_i X ia' sh' hX hsh
      simp only [cond_eq_ite, Bool.and_eq_true, decide_eq_true_eq] at h
      split at h
      · rename_i hc
        obtain ⟨⟨⟨⟨⟨⟨ho, hel⟩, hz⟩, hlc⟩, hcap⟩, hln⟩, hsp⟩ := hc
        simp only [Option.some.injEq, Prod.mk.injEq] at h
        obtain ⟨rfl, rfl, rfl, rfl, rfl⟩ := h
        obtain ⟨⟨hw, _⟩, cs, h2, h3⟩ := hR.blk b X hX
        have hmul := Nat.mul_le_mul_right sh'.length hlc
        have htl : (X.cells.take (len * sh'.length)).length = len * sh'.length := by simp; omega
        have hsz : cs.size = cap * sh'.length := by rw [← hln, h3.len]; simp
        have hfc := flatC_chunks (isAgg := ia') (sh := sh') (z := sh'.length) rfl hz len _ htl hsp
        refine ⟨cs.toList.take (len * sh'.length), ⟨by rw [chunks_len]; simp; omega, .inr ⟨E.ρ b, cap, cs, by rw [chunks_len]; rfl, Nat.zero_le _, ?_, by rw [chunks_len]; exact hlc, by simp only [maxLen]; omega, hsz, by rw [chunks_len]⟩⟩, ?_, fun y hy => shapes_mem hsp y hy, fun g hg => ?_⟩
        · rw [h2, hel]
        · rw [hfc]
          refine ⟨by rw [htl]; simp; omega, fun i c v hc hv => ?_⟩
          rw [List.getElem?_take] at hc hv
          split at hc
          · rename_i hi
            rw [if_pos hi] at hv
            exact h3.at_ i c v hc hv
          · cases hc
        · simp only [AV.conc, Value.ownBlock, Option.some.injEq] at hg
          subst hg
          refine ⟨hw ho, fun b' y hy he => ?_, fun i e he hb => ?_⟩
          · obtain ⟨g1, g2⟩ := killX_blk hy
            exact g2 (by rw [hR.inj b' b y X g1 hX he])
          · obtain ⟨g1, _⟩ := killX_vec he
            rcases hR.vec i e g1 with ⟨_, hz'⟩ | ⟨a', cap', cs', fz', hv'⟩
            · rw [bk_nil hz'] at hb; cases hb
            · rw [hv'.bk] at hb
              simp only [Option.some.injEq] at hb
              cases hoe : e.own with
              | true => exact (hv'.mine hoe).2.2 b X hX hb.symm
              | false => exact hv'.old hoe (hb ▸ hw ho)
      · cases h
    · cases h
  · cases h

/-- a row of plain elements of the same shape -/
def sameE (M : Mem) (x : AV) : Option Ent := match x with
  | .vec h => match M.vecs[h]? with
    | some (some e) => some e
    | _ => none
  | _ => none
def appendK {R : Type} (P : Program) (tm : List AV) (M : Mem) (o : Oper) (k : AV → Mem → Option R) : Option R :=
  match o.op with
  | .call ⟨.builtin .append, ⟨[s, x]⟩, ⟨[t, t']⟩⟩ =>
    bif decide (t = t') && (ev tm s).lv M.live && (ev tm x).lv M.live then
      match P.underlying t with
      | some (.slice el) => match P.info? el with
        | some i => match i.zero with
          | some z => match dstA P M (ev tm s) el with
            | some (tr, kb, olds, ia, sh) => match sameE M (ev tm x) with
              | some e =>
                bif decide (e.sh = sh) && decide (e.isAgg = ia) && noAny sh && decide (i.size = sh.length) && decide (z.cells.size = i.size) && decide (0 < i.size) && decide (olds.length + e.cont.length ≤ 65536) && decide (i.bytes ≤ 1048576) then
                  k (.vec M.vecs.length) ((killX M tr kb).addV ⟨el, ia, sh, M.vecs.length, true, true, olds ++ e.cont⟩)
                else none
              | none => match srcA M (ev tm x) i.size with
                | some (m, news) =>
                  bif decide (i.size = sh.length) && decide (z.cells.size = i.size) && decide (0 < i.size) && decide (olds.length + m ≤ 65536) && decide (i.bytes ≤ 1048576) && allOne news && lvL M.live news && shapes ia sh (chunks ia i.size m news) then
                    k (.vec M.vecs.length) ((killX M tr kb).addV ⟨el, ia, sh, M.vecs.length, true, true, olds ++ chunks ia i.size m news⟩)
                  else none
                | none => none
            | none => none
          | none => none
        | none => none
      | _ => none
    else none
  | _ => none

theorem firstCells_nil {P : Program} (w : World) (z : Nat) : (Builtin.firstCells z 0 nilV).run P w = .ok #[] w := by
  simp [Builtin.firstCells, nilV]
theorem run_append_nil {P : Program} (w : World) (t ty e : TypeId) (i : TypeInfo) (ht : P.underlying t = some (.slice e)) (hi : P.info? e = some i) (p : Option Addr) (n c : Nat) (hnc : n ≤ c) :
    (Builtin.append_ #[t, t] ty #[.slice p n c, nilV]).run P w = .ok (.slice p n c) w := by
  unfold Builtin.append_
  have hs : sizeT P e = some i.size := by simp [sizeT, hi]
  have h1 : (Builtin.lenOf (.slice none 0 0)).run P w = .ok 0 w := rfl
  have h2 : (Builtin.firstCells i.size 0 (.slice none 0 0)).run P w = .ok #[] w := firstCells_nil w _
  have h3 : ∀ a : Addr, (storeCells a []).run P w = .ok () w := fun a => by simp [storeCells]
  simp [run_underlying ht, run_sizeOf hs, nilV, h1, h2, hnc]
  cases p with
  | none => simp
  | some a => simp [h3]

theorem append_core {P : Program} {tm : List AV} {M : Mem} {o : Oper} {s x : Operand} {t el : TypeId} {i : TypeInfo} {z : Value} {tr kb : Option Nat} {olds news : List AV} {ia : Bool} {sh : List CK} {m : Nat}
    (hop : o.op = .call ⟨.builtin .append, ⟨[s, x]⟩, ⟨[t, t]⟩⟩) (hls : (ev tm s).lv M.live = true) (hlx : (ev tm x).lv M.live = true) (hu : P.underlying t = some (.slice el)) (hi : P.info? el = some i) (hz : i.zero = some z)
    (hdst : dstA P M (ev tm s) el = some (tr, kb, olds, ia, sh)) (hsrc : srcA M (ev tm x) i.size = some (m, news))
    (c1 : i.size = sh.length) (c2 : z.cells.size = i.size) (c3 : 0 < i.size) (c5 : olds.length + m ≤ 65536) (c6 : i.bytes ≤ 1048576) (c7 : allOne news = true) (c8 : lvL M.live news = true) (c9 : shapes ia sh (chunks ia i.size m news) = true)
    (E : Env) (a : Act) (w0 : Bs) (w : World) (hT : RelL E M tm a.tmps.toList) (hR : RepM E w0 M w) :
    ∃ E' v w', Step E M E' ((killX M tr kb).addV ⟨el, ia, sh, M.vecs.length, true, true, olds ++ chunks ia i.size m news⟩) ∧ RelS E' ((killX M tr kb).addV ⟨el, ia, sh, M.vecs.length, true, true, olds ++ chunks ia i.size m news⟩) (.vec M.vecs.length) v ∧
      RepM E' w0 ((killX M tr kb).addV ⟨el, ia, sh, M.vecs.length, true, true, olds ++ chunks ia i.size m news⟩) w' ∧ w.heap.size ≤ w'.heap.size ∧
      ((execOp a.eval o).run P w = .ok (.value v) w' ∨ ((execOp a.eval o).run P w = .ok .skip w' ∧ v = undef)) := by
  obtain ⟨dst, op, ty, pos, after, guard⟩ := o
  simp only at hop
  subst hop
  obtain ⟨xs, hown, hrel, hcl, hrow⟩ := dstA_sound hR hdst
  rw [← c1] at hown
  have hb47 : (olds.length + m) * i.bytes ≤ 140737488355328 := by
    have := Nat.mul_le_mul c5 c6
    omega
  obtain ⟨nv, v', w', hnl, hnrel, hrun, hown', hgrow, hat⟩ : ∃ (nv : List Value) (v' : Value) (w' : World), news.length = m * i.size ∧ RelL E M news nv ∧
      (Builtin.append_ #[t, t] ty #[(ev tm s).conc E, (ev tm x).conc E]).run P w = .ok v' w' ∧ w'.ownsRow 0 el i.size v' (olds.length + m) (xs ++ nv) ∧ w.grownBy w' ((ev tm s).conc E).ownBlock ∧
      (v'.ownBlock = ((ev tm s).conc E).ownBlock ∨ v'.ownBlock = some w.heap.size) := by
    rcases srcA_sound hR hsrc with ⟨hx, rfl, rfl⟩ | ⟨ad, c, nv, hx, hnl, hnrel, hcell⟩
    · rw [hx]
      have hss : ∃ p cc, (ev tm s).conc E = .slice p olds.length cc ∧ olds.length ≤ cc := by
        rcases hown.2 with ⟨h1, h2⟩ | ⟨g, cap, cur, h1, _, _, h4, _⟩
        · exact ⟨none, 0, by rw [h1, h2], by omega⟩
        · exact ⟨_, cap, h1, h4⟩
      obtain ⟨p, cc, e1, e2⟩ := hss
      refine ⟨[], (ev tm s).conc E, w, by simp, ⟨rfl, fun i a v ha => by cases ha⟩, ?_, by simpa using hown, ⟨rfl, rfl, rfl, Nat.le_refl _, fun _ _ _ => rfl⟩, .inl rfl⟩
      rw [e1]; exact run_append_nil w t ty el i hu hi p _ cc e2
    · have hone : ∀ u ∈ nv, u.oneCell' = true := by
        intro u hu
        obtain ⟨j, hj⟩ := List.mem_iff_getElem?.1 hu
        have hjl : j < news.length := by rw [hnrel.len]; exact lt_of_get hj
        have hn := List.getElem?_eq_getElem hjl
        have hl := lvL_at c8 hn
        have := (hnrel.at_ j _ u hn hj).2 hl
        rw [this]
        exact one_conc hR (allOne_mem c7 _ (List.mem_of_getElem? hn)) hl
      obtain ⟨v', w', hrun, hown', hgrow, hnil, hat⟩ := run_append_own_at (P := P) w 0 t ty el i z i.size i.bytes hu hi hz rfl rfl c2 c3 ((ev tm s).conc E) olds.length xs hown ad m c nv (by rw [← hnrel.len]; exact hnl) hcell hone (by simp only [maxLen]; omega) hb47 (Nat.zero_le _)
      rw [hx]
      exact ⟨nv, v', w', hnl, hnrel, hrun, hown', hgrow, hat⟩
  obtain ⟨hstX, hsubX⟩ := RepM.killX (M := M) tr kb (E := E)
  have hRk := (hsubX hR).grown hgrow hrow
  have hvl := killX_len M tr kb
  rcases hown'.2 with ⟨hv0, hn0⟩ | hrowN
  · have hnil : (olds ++ chunks ia i.size m news : List AV) = [] := by
      apply List.eq_nil_of_length_eq_zero
      rw [List.length_append, chunks_len]; exact hn0
    subst hv0
    have hstV := Step.addV E (killX M tr kb) ⟨el, ia, sh, M.vecs.length, true, true, olds ++ chunks ia i.size m news⟩ nilV
    have hadd := hRk.addV ⟨el, ia, sh, M.vecs.length, true, true, olds ++ chunks ia i.size m news⟩ nilV (.inl ⟨hnil, rfl⟩) (fun _ j e he _ g hg => by rw [bk_nil (by simp [Env.addV])] at hg; cases hg)
    refine ⟨_, _, w', hstX.trans hstV, ⟨?_, fun _ => rfl⟩, hadd, hgrow.size, .inl ?_⟩
    · simp [AV.sc, Mem.addV, hvl]
    · simp only [execOp, resolve, invoke, builtin, Sem.run_bind, Sem.run_pure, Result.andThen_ok, List.map_toArray, List.map_cons, List.map_nil, (hT.ev s).2 hls, (hT.ev x).2 hlx, hrun, AV.conc, Env.addV, hvl, if_true, nilV]
  have hsz := hgrow.size
  -- the new row
  obtain ⟨g, cap, cur, rfl, hg1, hg2, hg3, hg4, hg5, hg6⟩ : ∃ g cap cur, v' = .slice (some ⟨g, 0, none⟩) (olds.length + m) cap ∧ 0 ≤ g ∧ w'.heap[g]? = some (.cells cur el (0, 0)) ∧ olds.length + m ≤ cap ∧ cap ≤ maxLen ∧ cur.size = cap * i.size ∧ cur.toList.take ((olds.length + m) * i.size) = xs ++ nv := by
    exact hrowN
  have hwr : w0.Wr g := by
    rcases hat with hat | hat
    · exact (hrow g hat.symm).1
    · simp only [Value.ownBlock, Option.some.injEq] at hat
      exact hat ▸ w0.up _ hR.below.size
  have hst1 := hstX
  have hflat : flatC (olds ++ chunks ia i.size m news) = flatC olds ++ news := by rw [flatC_append, flatC_chunks c1.symm c3 m news hnl c9]
  have hall : ∀ y, y ∈ olds ++ chunks ia i.size m news → y.shape ia sh = true := fun y hy => by
    rcases List.mem_append.1 hy with hy | hy
    · exact hcl y hy
    · exact shapes_mem c9 y hy
  have hcont : (olds ++ chunks ia i.size m news).length = olds.length + m := by simp [chunks_len]
  have hrelF : RelL E M (flatC olds ++ news) (xs ++ nv) := by
    refine ⟨by simp [hrel.len, hnrel.len], fun q y v hy hv => ?_⟩
    rcases Nat.lt_or_ge q (flatC olds).length with hl | hl
    · rw [List.getElem?_append_left hl] at hy
      rw [List.getElem?_append_left (by rw [← hrel.len]; exact hl)] at hv
      exact hrel.at_ q y v hy hv
    · rw [List.getElem?_append_right hl] at hy
      rw [List.getElem?_append_right (by rw [← hrel.len]; exact hl), ← hrel.len] at hv
      exact hnrel.at_ _ y v hy hv
  have fresh : ∀ k, (∃ b x, (killX M tr kb).blks[b]? = some (some x) ∧ E.ρ b = k) ∨ (∃ i e, (killX M tr kb).vecs[i]? = some (some e) ∧ E.bk i = some k) → k ≠ g := by
    intro k hk hkg
    subst hkg
    have hkl : k < w.heap.size := by
      rcases hk with ⟨b, y, hy, rfl⟩ | ⟨j, e, he, hbk⟩
      · exact (hsubX hR).lt hy
      · rcases (hsubX hR).vec j e he with ⟨_, hz'⟩ | ⟨a', cap', cs', fz', hv'⟩
        · rw [bk_nil hz'] at hbk; cases hbk
        rw [hv'.bk] at hbk
        simp only [Option.some.injEq] at hbk
        rw [← hbk]; exact heap_lt hv'.blk
    rcases hat with hat | hat
    · simp only [Value.ownBlock] at hat
      obtain ⟨_, r1, r2⟩ := hrow k hat.symm
      rcases hk with ⟨b, y, hy, e1⟩ | ⟨j, e, he, e1⟩
      · exact r1 b y hy e1
      · exact r2 j e he e1
    · simp only [Value.ownBlock, Option.some.injEq] at hat
      omega
  have hstV := Step.addV E (killX M tr kb) ⟨el, ia, sh, M.vecs.length, true, true, olds ++ chunks ia i.size m news⟩ (.slice (some ⟨g, 0, none⟩) (olds.length + m) cap)
  have hadd := hRk.addV ⟨el, ia, sh, M.vecs.length, true, true, olds ++ chunks ia i.size m news⟩ (.slice (some ⟨g, 0, none⟩) (olds.length + m) cap)
    (.inr ⟨⟨g, 0, none⟩, cap, cur, (0, 0),
      { val := by simp only [Env.addV, if_true, hcont]
        spot := rfl
        le := by rw [hcont]; exact hg3
        blk := hg2
        room := .inr (by simp only [Nat.zero_add]; rw [hcont, hg5, c1]; exact Nat.mul_le_mul_right _ hg3)
        shape := fun j y hy => hall y (List.mem_of_getElem? hy)
        cell := fun j y hy q cc hcc => by
          have hp := flatC_of (z := i.size) _ (fun y hy => by rw [shape_len (hall y hy), c1]) j q y cc hy hcc
          rw [hflat] at hp
          obtain ⟨u, hu', hru⟩ := hrelF.get hp
          refine ⟨u, ?_, ((hru.step hst1).step hstV)⟩
          rw [← hg6, List.getElem?_take] at hu'
          split at hu'
          · rw [c1] at hu'
            simp only [Nat.zero_add]
            simpa using hu'
          · cases hu'
        old := fun ho => by cases ho
        head := fun _ => ⟨rfl, by rw [hg5, c1], hg4⟩
        mine := fun _ => ⟨hwr, rfl, fun b y hy => fresh _ (.inl ⟨b, y, hy, rfl⟩)⟩ }⟩)
    (fun _ j e he _ g' hg' hb => by
      have hva : (E.addV (killX M tr kb).vecs.length (.slice (some ⟨g, 0, none⟩) (olds.length + m) cap)).bk (killX M tr kb).vecs.length = some g := by simp [Env.bk, Env.addV]
      rw [hva] at hg'
      simp only [Option.some.injEq] at hg'
      exact (fresh _ (.inr ⟨j, e, he, hb⟩) hg'.symm).elim)
  refine ⟨_, _, w', hst1.trans hstV, ⟨?_, fun _ => rfl⟩, hadd, hgrow.size, .inl ?_⟩
  · simp [AV.sc, Mem.addV, hvl]
  · simp only [execOp, resolve, invoke, builtin, Sem.run_bind, Sem.run_pure, Result.andThen_ok, List.map_toArray, List.map_cons, List.map_nil, (hT.ev s).2 hls, (hT.ev x).2 hlx, hrun, AV.conc, Env.addV, hvl, if_true]
theorem fits_one {sh : List CK} {x : AV} (h : fitsAll sh [x] = true) : ∃ k, sh = [k] ∧ k.fits x = true := by
  cases sh with
  | nil => cases h
  | cons k ks => cases ks with
    | nil => exact ⟨k, rfl, by simpa [fitsAll] using h⟩
    | cons _ _ => simp [fitsAll] at h
/-- a row's elements, taken apart and put together again -/
theorem chunks_flatC {ia : Bool} {sh : List CK} : ∀ {l : List AV}, (∀ x, x ∈ l → x.shape ia sh = true) → noAny sh = true → chunks ia sh.length l.length (flatC l) = l
  | [], _, _ => rfl
  | x :: l, h, hn => by
    have hx := h x List.mem_cons_self
    have hl := shape_len hx
    have ih := chunks_flatC (ia := ia) (sh := sh) (l := l) (fun y hy => h y (List.mem_cons_of_mem _ hy)) hn
    simp only [List.length_cons, chunks, flatC]
    rw [← hl, List.drop_left, hl, ih]
    congr 1
    cases ia with
    | true =>
      simp only [chead]
      rw [← hl, List.take_left]
      cases x <;> first | rfl | cases hx
    | false =>
      simp only [chead]
      have h1 : fitsAll sh [x] = true := by cases x <;> exact hx
      obtain ⟨k, rfl, h2⟩ := fits_one h1
      rw [fits_cells h2]
      rfl
theorem noAny_one : ∀ {sh : List CK} {l : List AV}, noAny sh = true → fitsAll sh l = true → ∀ c, c ∈ l → c.one = true ∧ ∀ L, c.lv L = true
  | [], [], _, _, c, hc => by cases hc
  | [], _ :: _, _, h, _, _ => by cases h
  | _ :: _, [], _, h, _, _ => by cases h
  | k :: ks, a :: l, hn, h, c, hc => by
    simp only [fitsAll, Bool.and_eq_true] at h
    have hn' : noAny ks = true := by cases k <;> first | exact hn | cases hn
    rcases List.mem_cons.1 hc with rfl | hc
    · have h1 := h.1
      cases k with
      | any => cases hn
      | int k => cases c with
        | lit v => cases v <;> first | exact ⟨rfl, fun _ => rfl⟩ | cases h1
        | _ => cases h1
      | bool => cases c with
        | lit v => cases v <;> first | exact ⟨rfl, fun _ => rfl⟩ | cases h1
        | _ => cases h1
      | str => cases c with
        | lit v => cases v <;> first | exact ⟨rfl, fun _ => rfl⟩ | cases h1
        | _ => cases h1
    · exact noAny_one hn' h.2 c hc
theorem shape_one {ia : Bool} {sh : List CK} {x : AV} (hn : noAny sh = true) (h : x.shape ia sh = true) : ∀ c, c ∈ x.cells → c.one = true ∧ ∀ L, c.lv L = true := by
  cases ia with
  | true =>
    cases x with
    | agg cs => exact noAny_one hn h
    | _ => cases h
  | false =>
    have h1 : fitsAll sh [x] = true := by cases x <;> exact h
    obtain ⟨k, rfl, h2⟩ := fits_one h1
    rw [fits_cells h2]
    exact noAny_one hn h1
theorem allOne_of : ∀ {l : List AV}, (∀ a, a ∈ l → a.one = true) → allOne l = true
  | [], _ => rfl
  | a :: l, h => by simp only [allOne, Bool.and_eq_true]; exact ⟨h a List.mem_cons_self, allOne_of fun b hb => h b (List.mem_cons_of_mem _ hb)⟩
theorem flatC_mem : ∀ {l : List AV} {c : AV}, c ∈ flatC l → ∃ x, x ∈ l ∧ c ∈ x.cells
  | [], _, h => by cases h
  | x :: l, c, h => by
    simp only [flatC, List.mem_append] at h
    rcases h with h | h
    · exact ⟨x, List.mem_cons_self, h⟩
    · obtain ⟨y, hy, hc⟩ := flatC_mem h
      exact ⟨y, List.mem_cons_of_mem _ hy, hc⟩
theorem shapes_of {ia : Bool} {sh : List CK} : ∀ {l : List AV}, (∀ x, x ∈ l → x.shape ia sh = true) → shapes ia sh l = true
  | [], _ => rfl
  | x :: l, h => by simp only [shapes, Bool.and_eq_true]; exact ⟨h x List.mem_cons_self, shapes_of fun y hy => h y (List.mem_cons_of_mem _ hy)⟩

theorem appendK_sound {R : Type} {P : Program} {tm : List AV} {M : Mem} {o : Oper} {k : AV → Mem → Option R} {r : R} (h : appendK P tm M o k = some r) :
    ∃ z M', k z M' = some r ∧ MemOk P tm M o z M' := by
  unfold appendK at h
  split at h
  · rename_i s x t t' hop
    simp only [cond_eq_ite, Bool.and_eq_true, decide_eq_true_eq] at h
    split at h
    · rename_i hc0
      obtain ⟨⟨rfl, hls⟩, hlx⟩ := hc0
      split at h
      · rename_i el hu
        split at h
        · rename_i i hi
          split at h
          · rename_i z hz
            split at h
            · rename_i tr kb olds ia sh hdst
              split at h
              · rename_i e hex
                split at h
                · rename_i hc
                  obtain ⟨⟨⟨⟨⟨⟨⟨e1, e2⟩, hn⟩, c1⟩, c2⟩, c3⟩, c5⟩, c6⟩ := hc
                  refine ⟨_, _, h, fun E a w0 w hT hR => ?_⟩
                  obtain ⟨q, hq, he⟩ : ∃ q, ev tm x = .vec q ∧ M.vecs[q]? = some (some e) := by
                    unfold sameE at hex
                    split at hex
                    · rename_i q hq
                      split at hex
                      · rename_i e' he
                        simp only [Option.some.injEq] at hex
                        subst hex
                        exact ⟨q, hq, he⟩
                      · cases hex
                    · cases hex
                  have hsh : ∀ y, y ∈ e.cont → y.shape ia sh = true := fun y hy => by
                    obtain ⟨j, hj⟩ := List.mem_iff_getElem?.1 hy
                    have := hR.shape he hj
                    rwa [e1, e2] at this
                  have hsrc : srcA M (ev tm x) i.size = some (e.cont.length, flatC e.cont) := by
                    simp [srcA, hq, he, e1, c1]
                  have hch : chunks ia i.size e.cont.length (flatC e.cont) = e.cont := by rw [c1]; exact chunks_flatC hsh hn
                  have hone : ∀ c, c ∈ flatC e.cont → c.one = true ∧ ∀ L, c.lv L = true := fun c hc => by
                    obtain ⟨y, hy, hcy⟩ := flatC_mem hc
                    exact shape_one hn (hsh y hy) c hcy
                  have := append_core hop hls hlx hu hi hz hdst hsrc c1 c2 c3 c5 c6 (allOne_of fun c hc => (hone c hc).1) (lvL_of fun j c hc => (hone c (List.mem_of_getElem? hc)).2 _) (by rw [hch]; exact shapes_of hsh) E a w0 w hT hR
                  rw [hch] at this
                  exact this
                · cases h
              · split at h
                · rename_i m news hsrc
                  split at h
                  · rename_i hc
                    obtain ⟨⟨⟨⟨⟨⟨⟨c1, c2⟩, c3⟩, c5⟩, c6⟩, c7⟩, c8⟩, c9⟩ := hc
                    exact ⟨_, _, h, fun E a w0 w hT hR => append_core hop hls hlx hu hi hz hdst hsrc c1 c2 c3 c5 c6 c7 c8 c9 E a w0 w hT hR⟩
                  · cases h
                · cases h
            · cases h
          · cases h
        · cases h
      · cases h
    · cases h
  · cases h

/-- what is appended to a literal's own row touches none but its block -/
theorem appendK_sl {R : Type} {P : Program} {tm : List AV} {M : Mem} {o : Oper} {k : AV → Mem → Option R} {r : R} {s0 x0 : Operand} {t0 t1 : TypeId} {b off len cap : Nat} (ho : o.op = .call ⟨.builtin .append, ⟨[s0, x0]⟩, ⟨[t0, t1]⟩⟩) (hs0 : ev tm s0 = .sl b off len cap) (h : appendK P tm M o k = some r) :
    ∃ z M', k z M' = some r ∧ MemOk P tm M o z M' ∧ ∃ e, M' = (killX M none (some b)).addV e := by
  unfold appendK at h
  split at h
  · rename_i s x t t' hop
    simp only [cond_eq_ite, Bool.and_eq_true, decide_eq_true_eq] at h
    split at h
    · rename_i hc0
      obtain ⟨⟨rfl, hls⟩, hlx⟩ := hc0
      rw [hop] at ho
      have ho : s = s0 := by injection ho with ho; injection ho with _ ho _; injection ho with ho; injection ho
      subst ho
      split at h
      · rename_i el hu
        split at h
        · rename_i i hi
          split at h
          · rename_i z hz
            split at h
            · rename_i tr kb olds ia sh hdst
              have htk : tr = none ∧ kb = some b := by
                have hd := hdst
                rw [hs0] at hd
                unfold dstA at hd
                split at hd
                · rename_i e; cases e
                · rename_i e; cases e
                · rename_i b' l' c' e
                  simp only [AV.sl.injEq] at e
                  obtain ⟨rfl, _, _, _⟩ := e
                  split at hd
                  · simp only [cond_eq_ite] at hd
                    split at hd
                    · simp only [Option.some.injEq, Prod.mk.injEq] at hd
                      exact ⟨hd.1.symm, hd.2.1.symm⟩
                    · cases hd
                  · cases hd
                · cases hd
              split at h
              · rename_i e hex
                split at h
                · rename_i hc
                  obtain ⟨⟨⟨⟨⟨⟨⟨e1, e2⟩, hn⟩, c1⟩, c2⟩, c3⟩, c5⟩, c6⟩ := hc
                  refine ⟨_, _, h, fun E a w0 w hT hR => ?_, ⟨_, by rw [htk.1, htk.2]⟩⟩
                  obtain ⟨q, hq, he⟩ : ∃ q, ev tm x = .vec q ∧ M.vecs[q]? = some (some e) := by
                    unfold sameE at hex
                    split at hex
                    · rename_i q hq
                      split at hex
                      · rename_i e' he
                        simp only [Option.some.injEq] at hex
                        subst hex
                        exact ⟨q, hq, he⟩
                      · cases hex
                    · cases hex
                  have hsh : ∀ y, y ∈ e.cont → y.shape ia sh = true := fun y hy => by
                    obtain ⟨j, hj⟩ := List.mem_iff_getElem?.1 hy
                    have := hR.shape he hj
                    rwa [e1, e2] at this
                  have hsrc : srcA M (ev tm x) i.size = some (e.cont.length, flatC e.cont) := by
                    simp [srcA, hq, he, e1, c1]
                  have hch : chunks ia i.size e.cont.length (flatC e.cont) = e.cont := by rw [c1]; exact chunks_flatC hsh hn
                  have hone : ∀ c, c ∈ flatC e.cont → c.one = true ∧ ∀ L, c.lv L = true := fun c hc => by
                    obtain ⟨y, hy, hcy⟩ := flatC_mem hc
                    exact shape_one hn (hsh y hy) c hcy
                  have := append_core hop hls hlx hu hi hz hdst hsrc c1 c2 c3 c5 c6 (allOne_of fun c hc => (hone c hc).1) (lvL_of fun j c hc => (hone c (List.mem_of_getElem? hc)).2 _) (by rw [hch]; exact shapes_of hsh) E a w0 w hT hR
                  rw [hch] at this
                  exact this
                · cases h
              · split at h
                · rename_i m news hsrc
                  split at h
                  · rename_i hc
                    obtain ⟨⟨⟨⟨⟨⟨⟨c1, c2⟩, c3⟩, c5⟩, c6⟩, c7⟩, c8⟩, c9⟩ := hc
                    exact ⟨_, _, h, fun E a w0 w hT hR => append_core hop hls hlx hu hi hz hdst hsrc c1 c2 c3 c5 c6 c7 c8 c9 E a w0 w hT hR, ⟨_, by rw [htk.1, htk.2]⟩⟩
                  · cases h
                · cases h
            · cases h
          · cases h
        · cases h
      · cases h
    · cases h
  · cases h


end Go.Sx
