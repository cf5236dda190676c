import Derived.Test.YtplfijdonikaoaaSxF1
set_option linter.unusedVariables false
set_option linter.unusedSimpArgs false
namespace Go.Sx
open Go Go.RowKit

/-! The stretch, evaluated. -/

def doneL (l : List Nat) (s : Array Bool) : Array Bool := l.foldl (fun s i => s.setIfInBounds i true) s
def readyB (ops : Array Oper) (s : Array Bool) (i : Nat) : Bool :=
  !s.getD i true && (match ops[i]? with
    | some o => o.after.all fun e => !Region.binds .any e || s.getD e.on false
    | none => false)
theorem readyB_spec {ops : Array Oper} {s : Array Bool} {i : Nat} (h : readyB ops s i = true) : i ∈ Region.ready .any ops s := by
  simp only [readyB, Bool.and_eq_true, Bool.not_eq_true'] at h
  refine mem_ready.2 ⟨h.1, ?_⟩
  have h2 := h.2
  split at h2
  · rename_i o ho
    refine ⟨o, ho, fun e he hb => ?_⟩
    have := Array.all_eq_true_iff_forall_mem.1 h2 e he
    simpa [hb] using this
  · cases h2

/-- no two operations meet in a slot, but where one waits for the other -/
def looksOk (ops : Array Oper) (ds : List (Option Tmp × Nat)) (j : Nat) (oj : Oper) : Bool :=
  (oj.looksAt ops).all fun t => ds.all fun p => match p.1 with
    | some d => !(d == t) || p.2 == j || oj.after.any (fun e => Region.binds .any e && e.on == p.2)
    | none => true
def dstsOf (ops : Array Oper) : List (Option Tmp × Nat) := (ops.toList.map (·.dst)).zipIdx
def dstNe : List (Option Tmp × Nat) → Bool
  | [] => true
  | p :: l => (match p.1 with
    | some d => l.all fun q => !(q.1 == some d)
    | none => true) && dstNe l
def freeAll (ops : Array Oper) : Bool :=
  dstNe (dstsOf ops) && (ops.toList.zipIdx).all fun p => looksOk ops (dstsOf ops) p.2 p.1

theorem dstsOf_mem {ops : Array Oper} {i : Nat} {o : Oper} (h : ops[i]? = some o) : (o.dst, i) ∈ dstsOf ops := by
  unfold dstsOf
  rw [List.mem_zipIdx_iff_getElem?]
  simp [h]
theorem dstNe_get : ∀ (l : List (Option Tmp × Nat)), dstNe l = true → ∀ (i j : Nat) (p q : Option Tmp × Nat), l[i]? = some p → l[j]? = some q → i < j → ∀ d, p.1 = some d → q.1 ≠ some d
  | [], _, i, j, p, q, h, _, _, _, _ => by simp at h
  | r :: l, h, i, j, p, q, hp, hq, hij, d, hd => by
    simp only [dstNe, Bool.and_eq_true] at h
    cases j with
    | zero => omega
    | succ j =>
      cases i with
      | zero =>
        simp only [List.getElem?_cons_zero, Option.some.injEq] at hp
        subst hp
        rw [hd] at h
        have h1 := h.1
        simp only [List.all_eq_true, Bool.not_eq_true'] at h1
        have := h1 q (List.mem_of_getElem? (by simpa using hq))
        simpa using this
      | succ i => exact dstNe_get l h.2 i j p q (by simpa using hp) (by simpa using hq) (by omega) d hd
theorem dst_ne {ops : Array Oper} (h : dstNe (dstsOf ops) = true) {i j : Nat} {oi oj : Oper} (hi : ops[i]? = some oi) (hj : ops[j]? = some oj) (hne : i ≠ j) {d : Tmp} (hd : oi.dst = some d) : oj.dst ≠ some d := by
  have gi : (dstsOf ops)[i]? = some (oi.dst, i) := by unfold dstsOf; simp [List.getElem?_zipIdx, hi]
  have gj : (dstsOf ops)[j]? = some (oj.dst, j) := by unfold dstsOf; simp [List.getElem?_zipIdx, hj]
  rcases Nat.lt_or_gt_of_ne hne with hl | hl
  · exact dstNe_get _ h i j _ _ gi gj hl d hd
  · intro hh
    exact dstNe_get _ h j i _ _ gj gi hl d hh hd

theorem freeAll_spec {ops : Array Oper} {s : Array Bool} {i : Nat} {oi : Oper} (h : freeAll ops = true) (hi : ops[i]? = some oi) (hr : i ∈ Region.ready .any ops s) : Free ops s i oi := by
  intro j oj hj hne hun hno
  simp only [freeAll, Bool.and_eq_true, List.all_eq_true] at h
  have look : ∀ (k : Nat) (ok : Oper), ops[k]? = some ok → ∀ t, t ∈ ok.looksAt ops → ∀ (m : Nat) (om : Oper), ops[m]? = some om → m ≠ k → om.dst = some t → ∃ e ∈ ok.after, Region.binds .any e = true ∧ e.on = m := by
    intro k ok hk t ht m om hm hmk hd
    have h1 := h.2 (ok, k) (by rw [List.mem_zipIdx_iff_getElem?]; simpa using hk)
    simp only [looksOk, List.all_eq_true] at h1
    have h2 := h1 t ht (om.dst, m) (dstsOf_mem hm)
    rw [hd] at h2
    simp only [beq_self_eq_true, Bool.not_true, Bool.false_or, Bool.or_eq_true, beq_iff_eq] at h2
    rcases h2 with h2 | h2
    · exact absurd h2 hmk
    · obtain ⟨e, he, hb⟩ := Array.any_eq_true'.1 h2
      simp only [Bool.and_eq_true, beq_iff_eq] at hb
      exact ⟨e, he, hb.1, hb.2⟩
  unfold Oper.apart
  rw [Bool.and_eq_true]
  constructor
  · cases hd : oi.dst with
    | none => rfl
    | some d =>
      simp only [Bool.and_eq_true, Bool.not_eq_true', bne_iff_ne]
      refine ⟨?_, dst_ne h.1 hi hj (Ne.symm hne) hd⟩
      cases hc : (oj.looksAt ops).contains d with
      | false => rfl
      | true =>
        obtain ⟨e, he, hb, hon⟩ := look j oj hj d (by simpa using hc) i oi hi (Ne.symm hne) hd
        exact absurd hon (hno e he hb)
  · cases hd : oj.dst with
    | none => rfl
    | some d =>
      simp only [Bool.not_eq_true']
      cases hc : (oi.looksAt ops).contains d with
      | false => rfl
      | true =>
        obtain ⟨e, he, hb, hon⟩ := look i oi hi d (by simpa using hc) j oj hj hne hd
        obtain ⟨_, o', ho', hall⟩ := mem_ready.1 hr
        have : o' = oi := Option.some.inj (ho'.symm.trans hi)
        subst this
        have := hall e he hb
        rw [hon, getD_both hun] at this; cases this

def stepsB (ops : Array Oper) (fa : Bool) : List Nat → Array Bool → Bool
  | [], _ => true
  | i :: l, s => readyB ops s i && (fa || Region.free .any ops s i) && stepsB ops fa l (s.setIfInBounds i true)
theorem free_of {ops : Array Oper} {fa : Bool} (hfa : fa = true → freeAll ops = true) {s : Array Bool} {i : Nat} {oi : Oper} (hi : ops[i]? = some oi) (hr : i ∈ Region.ready .any ops s) (h : (fa || Region.free .any ops s i) = true) : Free ops s i oi := by
  cases fa with
  | true => exact freeAll_spec (hfa rfl) hi hr
  | false => exact Region.free_spec hi (by simpa using h)
def seqL (ops : Array Oper) : List Nat → Array Bool → Bool
  | [], _ => true
  | i :: l, s => decide (Region.ready .any ops s = [i]) && seqL ops l (s.setIfInBounds i true)

def frontK {R : Type} (C : CallSem) (P : Program) (ops : Array Oper) : List Nat → List AV → Mem → (List AV → Mem → Option R) → Option R
  | [], tm, M, k => k tm M
  | i :: l, tm, M, k => match ops[i]? with
    | none => none
    | some o => guardK ops tm o
        (fun tm => bif isVal o then valK P tm M o fun z M' => frontK C P ops l (putT tm o.dst z) M' k
          else match tgt tm o with
            | some (f, args) => bif lvL M.live args then C.pure f args fun z => frontK C P ops l (putT tm o.dst z) M k else none
            | none => none)
        (fun tm => frontK C P ops l (putT tm o.dst (.lit undef)) M k)

def qkd : Bool → Kd
  | true => .q0
  | false => .q1
def QKind (ops : Array Oper) (T : Nat → Kd) (i : Nat) : Prop := ∃ o, ops[i]? = some o ∧ T i = qkd (isVal o)

def FrontOk (P : Program) (ops : Array Oper) (fa : Bool) (l : List Nat) (tm : List AV) (M : Mem) (tm' : List AV) (M' : Mem) : Prop :=
  ∀ E w0 (a : Act) (D : World → Prop), (∃ w, D w) → Lasts D → (∀ w, D w → RepM E w0 M w) → RelL E M tm a.tmps.toList → a.defers = [] →
    ∃ E' a', Step E M E' M' ∧ (∀ w, D w → RepM E' w0 M' w) ∧ RelL E' M' tm' a'.tmps.toList ∧ a'.defers = [] ∧
      ∀ (C : Array Bool → World → Prop) (T : Nat → Kd) (sE : Array Bool) (B1 : Nat) (K : Act → World → Prop) (f : Nat) (U : Nat → Prop) (s : Array Bool) (w : World), Cs ops T sE C → (∀ s' i, i ∈ l → s'.getD i true = false → ∀ w, C s' w → D w) → Seg ops T sE → (∀ i, i ∈ l → QKind ops T i) → Inv ops T sE s → stepsB ops fa l s = true → D w → C s w →
        (∀ w', D w' → C (doneL l s) w' → Below w.heap.size w w' → anyR P ops C B1 T sE K f U (doneL l s) a' w') → anyR P ops C B1 T sE K (f + l.length) U s a w


theorem frontK_sound {R : Type} {C : CallSem} {P : Program} (hC : C.Sound P) {ops : Array Oper} {fa : Bool} (hfa : fa = true → freeAll ops = true) : ∀ (l : List Nat) (tm : List AV) (M : Mem) (k : List AV → Mem → Option R) (r : R), frontK C P ops l tm M k = some r →
    ∃ tm' M', k tm' M' = some r ∧ Grow M M' ∧ FrontOk P ops fa l tm M tm' M'
  | [], tm, M, k, r, h => ⟨tm, M, h, Grow.refl M, fun E w0 a D hex hD hR hT hd => ⟨E, a, Step.refl E M, hR, hT, hd, fun C' T sE B1 K f U s w hCs hCD S hQ hinv hst hw hCw hk => hk w hw hCw (Below.refl _ _)⟩⟩
  | i :: l, tm, M, k, r, h => by
    simp only [frontK] at h
    cases hi : ops[i]? with
    | none => rw [hi] at h; cases h
    | some o =>
      rw [hi] at h
      simp only at h
      -- one step, then the rest
      have glue0 : ∀ {z : AV} {M1 : Mem} {tm' : List AV} {M' : Mem}, (∀ E (a : Act) w0 (D : World → Prop), (∃ w, D w) → (∀ w, D w → RepM E w0 M w) → RelL E M tm a.tmps.toList → ∃ E1 v, Step E M E1 M1 ∧ RelS E1 M1 z v ∧ (∀ w, D w → RepM E1 w0 M1 w) ∧ ((isVal o = true ∧ Qy0 P ops D o a v) ∨ (isVal o = false ∧ Qy1 P ops D o a v))) →
          FrontOk P ops fa l (putT tm o.dst z) M1 tm' M' → FrontOk P ops fa (i :: l) tm M tm' M' := by
        intro z M1 tm' M' hone hrest E w0 a D hex hD hR hT hd
        obtain ⟨E1, v, hs1, hv, hR1, hq⟩ := hone E a w0 D hex hR hT
        obtain ⟨E', a', hs', hR', hT', hd', hany⟩ := hrest E1 w0 (a.put o.dst v) D hex hD hR1 ((hT.step hs1).put o.dst hv) (by rw [put_defers]; exact hd)
        refine ⟨E', a', hs1.trans hs', hR', hT', hd', fun C' T sE B1 K f U s w hCs hCD S hQ hinv hst hw hCw hk => ?_⟩
        simp only [stepsB, Bool.and_eq_true] at hst
        have hr : i ∈ Region.ready .any ops s := readyB_spec hst.1.1
        have hf := free_of hfa hi hr hst.1.2
        obtain ⟨o', ho', hTi⟩ := hQ i List.mem_cons_self
        have : o' = o := Option.some.inj (ho'.symm.trans hi)
        subst this
        have hQ' : ∀ j, j ∈ l → QKind ops T j := fun j hj => hQ j (List.mem_cons_of_mem _ hj)
        rcases hq with ⟨hval, hq⟩ | ⟨hval, hq⟩
        · rw [hval] at hTi
          have hin : T i ≠ .out := by rw [hTi]; exact fun h => (by cases h)
          exact anyR_q0 S hCs hi hTi _ U s a w hinv hr hf (fun s' _ hu => hq.sub (hCD s' i List.mem_cons_self hu)) hCw (hany C' T sE B1 K f U _ w hCs (fun s' j hj => hCD s' j (List.mem_cons_of_mem _ hj)) S hQ' (hinv.set S hin hr) hst.2 hw (hCs.up _ _ _ hCw) hk)
        · rw [hval] at hTi
          have hin : T i ≠ .out := by rw [hTi]; exact fun h => (by cases h)
          exact anyR_q1 S hCs hi hTi _ U s a w hinv hr hf (fun s' _ hu => hq.sub (hCD s' i List.mem_cons_self hu)) hCw fun w1 hb1 => hany C' T sE B1 K f U _ w1 hCs (fun s' j hj => hCD s' j (List.mem_cons_of_mem _ hj)) S hQ' (hinv.set S hin hr) hst.2 (hD w w1 hw hb1) (hCs.up _ _ _ (hCs.lasts _ _ _ hCw hb1)) fun w2 hw2 hCw2 hb2 => hk w2 hw2 hCw2 (below_thru hb1 hb2)
      rcases guardK_sound h with ⟨h, hw⟩ | ⟨h, hw⟩
      · simp only [cond_eq_ite] at h
        split at h
        · rename_i hval
          obtain ⟨z, M1, h1, hgr, _, hv⟩ := valK_sound h
          obtain ⟨tm', M', hk, hgr', hF⟩ := frontK_sound hC hfa l _ _ _ _ h1
          refine ⟨tm', M', hk, hgr.trans hgr', glue0 (fun E a w0 D hex hR hT => ?_) hF⟩
          obtain ⟨E1, v, hs, hrun⟩ := hv E a hT
          obtain ⟨we, hwe⟩ := hex
          exact ⟨E1, v, hs, (hrun w0 we (hR we hwe)).1, fun w hw => (hrun w0 w (hR w hw)).2.1, .inl ⟨hval, .inl ⟨hw E M a hT, fun w hw => (hrun w0 w (hR w hw)).2.2⟩⟩⟩
        · rename_i hval
          split at h
          · rename_i f args ht
            split at h
            · rename_i hl
              obtain ⟨z, h1, hp⟩ := hC.pure h
              obtain ⟨tm', M', hk, hgr', hF⟩ := frontK_sound hC hfa l _ _ _ _ h1
              refine ⟨tm', M', hk, hgr', glue0 (fun E a w0 D hex hR hT => ?_) hF⟩
              refine ⟨E, z.conc E, Step.refl E M, ⟨sc_mono (Nat.zero_le _) (Nat.zero_le _) z hp.1, fun _ => rfl⟩, hR, .inr ⟨by simpa using hval, .inl ⟨hw E M a hT, f, (concL E args).toArray, fun w hw => ?_⟩⟩⟩
              obtain ⟨hsc, hrun⟩ := tgt_run (P := P) ht hl hT w
              exact ⟨hrun.trans (hp.2.2 E w).1, (hp.2.2 E w).2⟩
            · cases h
          · cases h
      · obtain ⟨tm', M', hk, hgr', hF⟩ := frontK_sound hC hfa l _ _ _ _ h
        refine ⟨tm', M', hk, hgr', glue0 (fun E a w0 D hex hR hT => ?_) hF⟩
        refine ⟨E, undef, Step.refl E M, RelS.lit _ _ _, hR, ?_⟩
        cases hval : isVal o with
        | true => exact .inl ⟨rfl, .inr ⟨hw E M a hT, rfl⟩⟩
        | false => exact .inr ⟨rfl, .inr ⟨hw E M a hT, rfl⟩⟩

/-! new blocks -/
structure GEl where
  i : Nat
  gv : Option Nat
  t : TypeId
  cs : List AV

def newsK {R : Type} (P : Program) (ops : Array Oper) (tm1 : List AV) (M1 : Mem) : List Nat → List AV → Mem → (List AV → Mem → Option R) → Option R
  | [], tm, M, k => k tm M
  | i :: l, tm, M, k => match ops[i]? with
    | some o => match o.guard with
      | none => newK P tm1 M1 o fun gv t cs => newsK P ops tm1 M1 l (putT tm o.dst (mkA gv M.blks.length)) (M.addB ⟨t, true, cs⟩) k
      | some _ => none
    | none => none

def gTm (ops : Array Oper) : List GEl → List AV → Nat → List AV
  | [], tm, _ => tm
  | g :: l, tm, n => gTm ops l (match ops[g.i]? with
    | some o => putT tm o.dst (mkA g.gv n)
    | none => tm) (n + 1)
def gMem : List GEl → Mem → Mem
  | [], M => M
  | g :: l, M => gMem l (M.addB ⟨g.t, true, g.cs⟩)

def GOk (P : Program) (ops : Array Oper) (tm1 : List AV) (M1 : Mem) (g : GEl) : Prop :=
  ∃ o, ops[g.i]? = some o ∧ o.guard = none ∧ lvL M1.live g.cs = true ∧ NewOk P tm1 M1 o g.gv g.t g.cs

theorem newsK_sound {R : Type} {P : Program} {ops : Array Oper} {tm1 : List AV} {M1 : Mem} : ∀ (l : List Nat) (tm : List AV) (M : Mem) (k : List AV → Mem → Option R) (r : R), newsK P ops tm1 M1 l tm M k = some r →
    ∃ gl : List GEl, gl.map GEl.i = l ∧ (∀ g, g ∈ gl → GOk P ops tm1 M1 g) ∧ k (gTm ops gl tm M.blks.length) (gMem gl M) = some r
  | [], tm, M, k, r, h => ⟨[], rfl, fun g hg => (by cases hg), h⟩
  | i :: l, tm, M, k, r, h => by
    simp only [newsK] at h
    split at h
    · rename_i o ho
      split at h
      · rename_i hg
        obtain ⟨gv, t, cs, h1, hl, hn⟩ := newK_sound h
        obtain ⟨gl, h2, h3, h4⟩ := newsK_sound l _ _ _ _ h1
        refine ⟨⟨i, gv, t, cs⟩ :: gl, by simp [h2], fun g hg' => ?_, ?_⟩
        · rcases List.mem_cons.1 hg' with rfl | hg'
          · exact ⟨o, ho, hg, hl, hn⟩
          · exact h3 g hg'
        · simp only [gTm, gMem, ho]
          have e : (M.addB ⟨t, true, cs⟩).blks.length = M.blks.length + 1 := by simp [Mem.addB]
          rw [e] at h4
          exact h4
      · cases h
    · cases h

def glKd (E : Env) : List GEl → Nat → Kd
  | [], _ => .out
  | g :: l, i => match decide (g.i = i) with
    | true => .g (valOf g.gv) (.cells (concL E g.cs).toArray g.t)
    | false => glKd E l i

theorem glKd_eq {E : Env} : ∀ {l : List GEl}, (l.map GEl.i).Nodup → ∀ g, g ∈ l → glKd E l g.i = .g (valOf g.gv) (.cells (concL E g.cs).toArray g.t)
  | [], _, g, h => (by cases h)
  | d :: l, hn, g, h => by
    simp only [List.map_cons, List.nodup_cons] at hn
    rcases List.mem_cons.1 h with rfl | h
    · simp [glKd]
    · have hne : d.i ≠ g.i := fun e => hn.1 (e ▸ List.mem_map_of_mem h)
      simp only [glKd, decide_eq_false hne]
      exact glKd_eq hn.2 g h
theorem glKd_isG {E : Env} : ∀ {l : List GEl} {i : Nat}, i ∈ l.map GEl.i → ∃ v o, glKd E l i = .g v o
  | [], _, h => (by cases h)
  | d :: l, i, h => by
    by_cases e : d.i = i
    · exact ⟨valOf d.gv, .cells (concL E d.cs).toArray d.t, by simp [glKd, e]⟩
    · simp only [List.map_cons, List.mem_cons] at h
      rcases h with h | h
      · exact absurd h.symm e
      · obtain ⟨v, o, hh⟩ := glKd_isG (E := E) h
        exact ⟨v, o, by simp only [glKd, decide_eq_false e]; exact hh⟩

structure Known (U : Nat → Prop) (E : Env) (M : Mem) : Prop where
  blk : ∀ (b : Nat) (x : Blk), M.blks[b]? = some (some x) → U (E.ρ b)
  vec : ∀ (h : Nat) (e : Ent), M.vecs[h]? = some (some e) → e.own = true → ∀ g, E.bk h = some g → U g

theorem RepM.known {E : Env} {w0 : Bs} {w : World} {M : Mem} (h : RepM E w0 M w) : Known (fun r => r < w.heap.size) E M :=
  ⟨fun b x hx => h.lt hx, fun i e he _ g hg => by
    rcases h.vec i e he with ⟨_, hz⟩ | ⟨a, cap, cs, fz, hv⟩
    · rw [bk_nil hz] at hg; cases hg
    rw [hv.bk] at hg
    simp only [Option.some.injEq] at hg
    rw [← hg]; exact heap_lt hv.blk⟩

theorem gMem_same : ∀ (gl : List GEl) (M : Mem), (gMem gl M).vecs = M.vecs
  | [], _ => rfl
  | g :: l, M => (gMem_same l _).trans rfl
theorem gMem_cov {N : Mem} : ∀ (gl : List GEl) {M : Mem}, Cov N M → Cov N (gMem gl M)
  | [], _, h => h
  | g :: l, M, h => gMem_cov l (h.addB _)

/-- the new blocks, each known by the name that it has in the plan -/
theorem news_chain {P : Program} {ops : Array Oper} {fa : Bool} (hfa : fa = true → freeAll ops = true) {D : World → Prop} {C : Array Bool → World → Prop} {T : Nat → Kd} {sE : Array Bool} {K : Act → World → Prop} {w0 : Bs} (S : Seg ops T sE) (hD : Lasts D) (hCs : Cs ops T sE C) (hCD : ∀ s w, C s w → D w) (hDC : ∀ s, (∀ j, T j = .q0 ∨ T j = .q1 → s.getD j false = true) → ∀ w, D w → C s w) {E1 : Env} {M1 : Mem} :
    ∀ (gl : List GEl) (E : Env) (M : Mem) (tm : List AV) (a : Act) (U : Nat → Prop) (s : Array Bool) (w : World) (f : Nat),
      Step E1 M1 E M → RelL E M tm a.tmps.toList → a.defers = [] → RepM E w0 M w → D w → (∀ r, U r → r < w.heap.size) → Known U E M → Inv ops T sE s → (∀ j, T j = .q0 ∨ T j = .q1 → s.getD j false = true) →
      (gl.map GEl.i).Nodup → stepsB ops fa (gl.map GEl.i) s = true → (∀ g, g ∈ gl → g.i ∈ Region.ready .any ops s) →
      (∀ g, g ∈ gl → ∃ o, ops[g.i]? = some o ∧ T g.i = .g (valOf g.gv) (.cells (concL E1 g.cs).toArray g.t) ∧ Gy P ops D o a (valOf g.gv) (.cells (concL E1 g.cs).toArray g.t) ∧ RelL E1 M1 g.cs (concL E1 g.cs)) →
      (∀ E' a' U' w', Step E M E' (gMem gl M) → RelL E' (gMem gl M) (gTm ops gl tm M.blks.length) a'.tmps.toList → a'.defers = [] → RepM E' w0 (gMem gl M) w' → D w' → anyR P ops C w0.w0.heap.size T sE K f U' (doneL (gl.map GEl.i) s) a' w') →
      anyR P ops C w0.w0.heap.size T sE K (f + gl.length) U s a w
  | [], E, M, tm, a, U, s, w, f, hs, hT, hd, hR, hw, hU, hkn, hinv, hqd, hnd, hst, hrd, hg, hk => hk E a U w (Step.refl _ _) hT hd hR hw
  | g :: l, E, M, tm, a, U, s, w, f, hs, hT, hd, hR, hw, hU, hkn, hinv, hqd, hnd, hst, hrd, hg, hk => by
    obtain ⟨o, ho, hTi, hGy, hrel⟩ := hg g List.mem_cons_self
    simp only [List.map_cons, stepsB, Bool.and_eq_true] at hst
    simp only [List.map_cons, List.nodup_cons] at hnd
    have hr : g.i ∈ Region.ready .any ops s := readyB_spec hst.1.1
    have hf := free_of hfa ho hr hst.1.2
    have hin : T g.i ≠ .out := by rw [hTi]; exact fun h => by cases h
    refine anyR_g S hCs ho hTi _ U s a w hinv hqd hr hf (fun s' _ _ => hGy.sub (hCD s')) (hDC s hqd w hw) hR.below.size hU fun r w' hb hB hUr hheap => ?_
    have hR' := hR.later hb
    have hrel' : RelL E M g.cs (concL E1 g.cs).toArray.toList := hrel.step hs
    obtain ⟨hRn, hsn⟩ := hR'.adopt ⟨g.t, true, g.cs⟩ rfl hrel' hheap (w0.up _ hB) (fun b y hy e => hUr (e ▸ hkn.blk b y hy)) (fun i e he ho' e' => hUr (hkn.vec i e he ho' r e'))
    have hlen : (M.addB ⟨g.t, true, g.cs⟩).blks.length = M.blks.length + 1 := by simp [Mem.addB]
    have hval : (mkA g.gv M.blks.length).conc (E.setB M.blks.length r) = valOf g.gv r := by rw [mkA_conc]; simp [Env.setB]
    have hput : RelL (E.setB M.blks.length r) (M.addB ⟨g.t, true, g.cs⟩) (putT tm o.dst (mkA g.gv M.blks.length)) (a.put o.dst (valOf g.gv r)).tmps.toList :=
      (hT.step hsn).put o.dst ⟨mkA_sc g.gv (by rw [hlen]; omega), fun _ => hval.symm⟩
    have hne : ∀ j, j ∈ l → j.i ≠ g.i := fun j hj e => hnd.1 (e ▸ List.mem_map_of_mem hj)
    refine news_chain hfa S hD hCs hCD hDC l (E.setB M.blks.length r) (M.addB ⟨g.t, true, g.cs⟩) (putT tm o.dst (mkA g.gv M.blks.length)) _ _ _ w' f (hs.trans hsn) hput (by rw [put_defers]; exact hd) hRn (hD w w' hw hb) ?_ ?_ (hinv.set S hin hr) (fun j hj => getD_set_true (hqd j hj)) hnd.2 hst.2 ?_ ?_ ?_
    · intro x hx
      rcases hx with hx | rfl
      · exact Nat.lt_of_lt_of_le (hU x hx) hb.size
      · exact heap_lt hheap
    · refine ⟨fun b y hy => ?_, fun i e he ho' g hg => .inl (hkn.vec i e he ho' g hg)⟩
      rcases addB_cases hy with ⟨hlt, hy⟩ | ⟨rfl, _⟩
      · refine .inl ?_
        have : (E.setB M.blks.length r).ρ b = E.ρ b := by simp [Env.setB]; omega
        rw [this]; exact hkn.blk b y hy
      · exact .inr (by simp [Env.setB])
    · intro j hj
      exact ready_mono (hrd j (List.mem_cons_of_mem _ hj)) (hne j hj)
    · intro j hj
      obtain ⟨oj, hoj, hTj, hGj, hrj⟩ := hg j (List.mem_cons_of_mem _ hj)
      obtain ⟨_, oj', hoj', hap⟩ := S.apart ho hr hf (hrd j (List.mem_cons_of_mem _ hj)) (hne j hj)
      have : oj' = oj := Option.some.inj (hoj'.symm.trans hoj)
      subst this
      exact ⟨oj', hoj, hTj, hGj.of_same (hap.ij a _), hrj⟩
    · intro E' a' U' w'' hs' hT' hd' hR'' hw''
      refine hk E' a' U' w'' (hsn.trans hs') ?_ hd' hR'' hw''
      simp only [gTm, ho]
      rw [hlen] at hT'
      exact hT'

/-! stores that do not wait for all, and calls that read -/
/-- is it an append to a literal's own row, one that was laid in this stretch? -/
def newRowOf (tm : List AV) (n0 : Nat) (o : Oper) : Bool := match o.op with
  | .call ⟨.builtin .append, ⟨[s, _]⟩, ⟨[_, _]⟩⟩ => match ev tm s with
    | .sl b _ _ _ => Nat.ble n0 b
    | _ => false
  | _ => false
theorem newRowOf_spec {tm : List AV} {n0 : Nat} {o : Oper} (h : newRowOf tm n0 o = true) : ∃ s x t t' b off len cap, o.op = .call ⟨.builtin .append, ⟨[s, x]⟩, ⟨[t, t']⟩⟩ ∧ ev tm s = .sl b off len cap ∧ n0 ≤ b := by
  unfold newRowOf at h
  split at h
  · rename_i s x t t' ho
    split at h
    · rename_i b off len cap hs
      exact ⟨s, x, t, t', b, off, len, cap, ho, hs, Nat.le_of_ble_eq_true h⟩
    · cases h
  · cases h
theorem Cov.fresh {N M : Mem} (h : Cov N M) {b : Nat} (hb : N.blks.length ≤ b) (e : Ent) : Cov N ((killX M none (some b)).addV e) := by
  refine ⟨fun c x hx => ?_, fun i e' he => ?_⟩
  · obtain ⟨y, hy, r⟩ := h.blk c x hx
    have hc := lt_of_get hx
    refine ⟨y, ?_, r⟩
    simp only [Mem.addV, killX, killT, Sx.killB]
    rw [List.getElem?_set, if_neg (by omega)]
    exact hy
  · have := h.vec i e' he
    simp only [Mem.addV, killX, killT, Sx.killB]
    rw [List.getElem?_append_left (lt_of_get this)]
    exact this
def looseK {R : Type} (C : CallSem) (P : Program) (ops : Array Oper) (W : List Nat) (n0 : Nat) : List Nat → List AV → Mem → (List AV → Mem → Option R) → Option R
  | [], tm, M, k => k tm M
  | i :: l, tm, M, k => match ops[i]? with
    | some o => match o.op with
      | .store _ x _ => match o.guard with
        | some _ => none
        | none => match ev tm x with
          | .ptr b _ => bif W.contains b || decide (n0 ≤ b) then memK P tm M o fun z M' => looseK C P ops W n0 l (putT tm o.dst z) M' k else none
          | _ => none
      | _ => guardK ops tm o
          (fun tm => bif isVal o then valK P tm M o fun z M' => looseK C P ops W n0 l (putT tm o.dst z) M' k else match tgt tm o with
            | some (f, args) => bif lvL M.live args && C.isRead f then C.call f args M fun z M' => looseK C P ops W n0 l (putT tm o.dst z) M' k else none
            | none => match newRowOf tm n0 o with
              | true => appendK P tm M o fun z M' => looseK C P ops W n0 l (putT tm o.dst z) M' k
              | false => none)
          (fun tm => looseK C P ops W n0 l (putT tm o.dst (.lit undef)) M k)
    | none => none

theorem memK_store {R : Type} {P : Program} {tm : List AV} {M : Mem} {o : Oper} {k : AV → Mem → Option R} {r : R} (h : memK P tm M o k = some r) {t : TypeId} {x v : Operand} (ho : o.op = .store t x v) {b off : Nat} (hx : ev tm x = .ptr b off) :
    ∃ X cells', M.blks[b]? = some (some X) ∧ cells'.length = X.cells.length ∧ k (.lit undef) (M.setB b { X with cells := cells' }) = some r ∧ MemOk P tm M o (.lit undef) (M.setB b { X with cells := cells' }) := by
  have key : ∀ {S : Type} (q : AV → Mem → Option S) (y : S), memK P tm M o q = some y → ∃ X n, M.blks[b]? = some (some X) ∧ sizeT P t = some n ∧ (ev tm v).cells.length = n ∧ off + n ≤ X.cells.length ∧
      (∀ {S' : Type} (q' : AV → Mem → Option S'), memK P tm M o q' = q' (.lit undef) (M.setB b { X with cells := X.cells.take off ++ (ev tm v).cells ++ X.cells.drop (off + n) })) := by
    intro S q y h
    unfold memK at h
    simp only [ho, hx] at h
    split at h
    · rename_i X n hX hn
      simp only [cond_eq_ite, Bool.and_eq_true, decide_eq_true_eq] at h
      split at h
      · rename_i hc
        refine ⟨X, n, hX, hn, hc.1.1.2, hc.1.2, fun {S'} q' => ?_⟩
        unfold memK
        simp only [ho, hx, hX, hn, cond_eq_ite, Bool.and_eq_true, decide_eq_true_eq]
        rw [if_pos hc]
      · cases h
    · cases h
  obtain ⟨X, n, hX, hn, hl, hoff, hq⟩ := key k r h
  refine ⟨X, _, hX, ?_, (hq k).symm.trans h, ?_⟩
  · simp [hl]; omega
  · obtain ⟨z, M', h1, h2⟩ := memK_sound (k := fun z M' => some (z, M')) (hq (fun z M' => some (z, M')))
    simp only [Option.some.injEq, Prod.mk.injEq] at h1
    rw [← h1.1, ← h1.2]; exact h2

/-- what stands after the loose stores -/
def LooseOk (P : Program) (ops : Array Oper) (N : Mem) (l : List Nat) (tm : List AV) (M : Mem) (tm' : List AV) (M' : Mem) : Prop :=
  ∀ (E0 : Env) (we : World) (w0 : Bs) (E : Env) (a : Act) (w : World) (T : Nat → Kd) (sE : Array Bool) (B1 : Nat) (K : Act → World → Prop) (U : Nat → Prop) (C : Array Bool → World → Prop) (s : Array Bool), (∀ s', (∀ k, s.getD k false = true → s'.getD k false = true) → ∀ w, RepM E0 w0 N w → C s' w) → RepM E0 w0 N we → Env.le N.blks.length N.vecs.length E0 E →
    RelL E M tm a.tmps.toList → a.defers = [] → RepM E w0 M w → (∀ i, i ∈ l → T i = .l) → seqL ops l s = true → doneL l s = sE →
    (∀ E' a' w', Step E M E' M' → RelL E' M' tm' a'.tmps.toList → a'.defers = [] → RepM E' w0 M' w' → K a' w') →
    anyR P ops C B1 T sE K l.length U s a w

theorem looseK_sound {R : Type} {C : CallSem} {P : Program} (hC : C.Sound P) {ops : Array Oper} {W : List Nat} {n0 : Nat} {N : Mem} (hn0 : N.blks.length = n0) (hb : ∀ b, b ∈ W → ∀ x, N.blks[b]? = some (some x) → ∀ c, c ∈ x.cells → c = .bad) :
    ∀ (l : List Nat) (tm : List AV) (M : Mem) (k : List AV → Mem → Option R) (r : R), Cov N M → N.blks.length ≤ M.blks.length → N.vecs.length ≤ M.vecs.length → looseK C P ops W n0 l tm M k = some r →
      ∃ tm' M', k tm' M' = some r ∧ LooseOk P ops N l tm M tm' M'
  | [], tm, M, k, r, hcov, _, _, h => ⟨tm, M, h, fun E0 we w0 E a w T sE B1 K U C' s hC0 h0 hle hT hd hR _ _ hdn hk => ⟨hdn, hk E a w (Step.refl _ _) hT hd hR⟩⟩
  | i :: l, tm, M, k, r, hcov, hnb, hnh, h => by
    simp only [looseK] at h
    cases hi : ops[i]? with
    | none => rw [hi] at h; cases h
    | some o =>
      rw [hi] at h
      simp only at h
      have glue : ∀ {z : AV} {M1 : Mem} {tm' : List AV} {M' : Mem}, Cov N M1 → (∀ E (a : Act) w0 w, RelL E M tm a.tmps.toList → RepM E w0 M w → Ly P ops o a w fun v w' => ∃ E1, Step E M E1 M1 ∧ RelS E1 M1 z v ∧ RepM E1 w0 M1 w' ∧ w.heap.size ≤ w'.heap.size) →
          LooseOk P ops N l (putT tm o.dst z) M1 tm' M' → LooseOk P ops N (i :: l) tm M tm' M' := by
        intro z M1 tm' M' hcov1 hone hrest E0 we w0 E a w T sE B1 K U C' s hC0 h0 hle hT hd hR hTl hsq hdn hk
        simp only [seqL, Bool.and_eq_true, decide_eq_true_eq] at hsq
        refine anyR_l hi (hTl i List.mem_cons_self) hsq.1 (hone E a w0 w hT hR) fun v w' ⟨E1, hs, hv, hR', hsz⟩ => ?_
        have hle' : Env.le N.blks.length N.vecs.length E0 E1 := ⟨fun b hb => (hs.env.ρ b (by omega)).trans (hle.ρ b hb), fun b hb => (hs.env.σ b (by omega)).trans (hle.σ b hb)⟩
        refine ⟨hC0 _ (fun k hk => getD_set_true hk) _ (h0.back hR' hcov1 hle'), hsz, ?_⟩
        exact hrest E0 we w0 E1 (a.put o.dst v) w' T sE B1 K U C' _ (fun s' hs => hC0 s' fun k hk => hs k (getD_set_true hk)) h0 hle' ((hT.step hs).put o.dst hv) (by rw [put_defers]; exact hd) hR' (fun j hj => hTl j (List.mem_cons_of_mem _ hj)) hsq.2 hdn
          fun E' a' w'' hs' => hk E' a' w'' (hs.trans hs')
      split at h
      · rename_i t x v hop
        cases hg : o.guard with
        | some g => rw [hg] at h; cases h
        | none =>
        rw [hg] at h
        simp only at h
        split at h
        · rename_i b off hx
          simp only [cond_eq_ite, Bool.or_eq_true, decide_eq_true_eq] at h
          split at h
          · rename_i hc
            obtain ⟨X, cells', hX, hlen, hk, hm⟩ := memK_store h hop hx
            have hbad : ∀ y, N.blks[b]? = some (some y) → ∀ c, c ∈ y.cells → c = .bad := by
              rcases hc with hc | hc
              · exact hb b (by simpa using hc)
              · intro y hy
                have := lt_of_get hy
                omega
            have hcov1 := hcov.setB hX (X := { X with cells := cells' }) rfl rfl hlen hbad
            obtain ⟨tm', M', hk', hL⟩ := looseK_sound hC hn0 hb l _ _ _ _ hcov1 (by simpa [Mem.setB] using hnb) hnh hk
            refine ⟨tm', M', hk', glue hcov1 (fun E a w0 w hT hR => ?_) hL⟩
            obtain ⟨E1, v, w', hs, hv, hR', hsz, hrun⟩ := hm E a w0 w hT hR
            refine .inl ⟨by simp [Region.wanted, hg], ?_⟩
            rcases hrun with hrun | ⟨hrun, rfl⟩
            · exact .inl ⟨v, w', hrun, E1, hs, hv, hR', hsz⟩
            · exact .inr (.inl ⟨w', hrun, E1, hs, hv, hR', hsz⟩)
          · cases h
        · cases h
      · rcases guardK_sound h with ⟨h, hw⟩ | ⟨h, hw⟩
        · simp only [cond_eq_ite] at h
          split at h
          · obtain ⟨z, M1, h1, hgr, _, hv⟩ := valK_sound h
            have hcov1 := hcov.grow hgr
            have hlen : M1.blks.length = M.blks.length := by rw [hgr.blk]
            have hlenv : M.vecs.length ≤ M1.vecs.length := hgr.nh
            obtain ⟨tm', M', hk', hL⟩ := looseK_sound hC hn0 hb l _ _ _ _ hcov1 (by omega) (by omega) h1
            refine ⟨tm', M', hk', glue hcov1 (fun E a w0 w hT hR => ?_) hL⟩
            obtain ⟨E1, v, hs, hrun⟩ := hv E a hT
            obtain ⟨g1, g2, g3⟩ := hrun w0 w hR
            exact .inl ⟨hw E M a hT, .inl ⟨v, w, g3, E1, hs, g1, g2, Nat.le_refl _⟩⟩
          · split at h
            · rename_i f args htg
              simp only [Bool.and_eq_true] at h
              split at h
              · rename_i hc
                obtain ⟨z, M1, h1, hga, hcall⟩ := hC.read hc.2 h
                have hcov1 := hcov.gains hga
                have hnb1 := hga.nb
                have hnh1 := hga.nh
                obtain ⟨tm', M', hk', hL⟩ := looseK_sound hC hn0 hb l _ _ _ _ hcov1 (by omega) (by omega) h1
                refine ⟨tm', M', hk', glue hcov1 (fun E a w0 w hT hR => ?_) hL⟩
                obtain ⟨hsc, hrun⟩ := tgt_run (P := P) htg hc.1 hT w
                obtain ⟨g1, g2⟩ := hcall E w0 w hR hsc hc.1
                refine .inl ⟨hw E M a hT, .inr (.inr ⟨f, _, hrun.trans g1, g2.mono fun e w' ⟨E', v, q1, q2, q3, q4, q5⟩ => ⟨v, q1, E', q2, q3, q4, q5.size⟩⟩)⟩
              · cases h
            · split at h
              · rename_i hnw
                obtain ⟨s, x, t, t', b, off, len, cap, hop, hs, hbn⟩ := newRowOf_spec hnw
                obtain ⟨z, M1, h1, hm, e1, rfl⟩ := appendK_sl hop hs h
                have hcov1 := hcov.fresh (b := b) (by omega) e1
                obtain ⟨tm', M', hk', hL⟩ := looseK_sound hC hn0 hb l _ _ _ _ hcov1 (by simp only [Mem.addV, killX, killT, killB_len]; exact hnb) (by simp only [Mem.addV, List.length_append, killX_len]; omega) h1
                refine ⟨tm', M', hk', glue hcov1 (fun E a w0 w hT hR => ?_) hL⟩
                obtain ⟨E1, v, w', hs', hv, hR', hsz, hrun⟩ := hm E a w0 w hT hR
                refine .inl ⟨hw E M a hT, ?_⟩
                rcases hrun with hrun | ⟨hrun, rfl⟩
                · exact .inl ⟨v, w', hrun, E1, hs', hv, hR', hsz⟩
                · exact .inr (.inl ⟨w', hrun, E1, hs', hv, hR', hsz⟩)
              · cases h
        · obtain ⟨tm', M', hk', hL⟩ := looseK_sound hC hn0 hb l _ _ _ _ hcov hnb hnh h
          refine ⟨tm', M', hk', glue hcov (fun E a w0 w hT hR => .inr ⟨hw E M a hT, E, Step.refl E M, RelS.lit _ _ _, hR, Nat.le_refl _⟩) hL⟩

end Go.Sx
