import Derived.Test.YtplfijdonikaoaaSxH
set_option linter.unusedVariables false
set_option linter.unusedSimpArgs false
namespace Go.Sx
open Go Go.RowKit

/-- one cell that may be stored -/
def AV.one : AV → Bool
  | .lit v => v.oneCell'
  | .agg _ | .tup _ | .bad => false
  | _ => true

theorem one_conc {E : Env} {w0 : Bs} {w : World} {M : Mem} (hR : RepM E w0 M w) {a : AV} (ho : a.one = true) (hl : a.lv M.live = true) : (a.conc E).oneCell' = true := by
  cases a with
  | lit v => exact ho
  | vec h =>
    obtain ⟨e, he⟩ := live_ent (by simpa [AV.lv] using hl)
    obtain ⟨_, _, _, hv⟩ := hR.slc he
    simp [AV.conc, hv, Value.oneCell']
  | agg _ => cases ho
  | tup _ => cases ho
  | bad => cases ho
  | _ => rfl

theorem setB_live {M : Mem} {b : Nat} {y : Blk} (hy : M.blks[b]? = some (some y)) (x : Blk) : (M.setB b x).live = M.live := by
  funext i
  unfold Mem.live
  split
  · exact aliveB_setB hy _
  · rfl

theorem set_splice (l : List AV) (a : AV) (cs : List AV) (o : Nat) (h : o + (l.length + 1) ≤ cs.length) :
    (cs.set o a).take (o + 1) ++ l ++ (cs.set o a).drop (o + 1 + l.length) = cs.take o ++ (a :: l) ++ cs.drop (o + (l.length + 1)) := by
  rw [List.take_set, List.drop_set_of_lt (by omega), List.take_succ_eq_append_getElem (by omega), List.set_append_right _ _ (by simp; omega)]
  simp [Nat.min_eq_left (show o ≤ cs.length from by omega)]
  congr 1; omega

theorem storeCells_rep {P : Program} {E : Env} {w0 : Bs} {b off : Nat} : ∀ (l : List AV) (i : Nat) (M : Mem) (X : Blk) (w : World), RepM E w0 M w → M.blks[b]? = some (some X) → X.own = true → off + i + l.length ≤ X.cells.length →
    (∀ a ∈ l, a.one = true) → lvL M.live l = true → scL M.blks.length M.vecs.length l = true →
    ∃ w', (storeCells ⟨E.ρ b, off, none⟩ (concL E l) i).run P w = .ok () w' ∧ w'.heap.size = w.heap.size ∧ RepM E w0 (M.setB b { X with cells := X.cells.take (off + i) ++ l ++ X.cells.drop (off + i + l.length) }) w'
  | [], i, M, X, w, hR, hX, hown, hl, _, _, _ => by
    clear hown
    refine ⟨w, by simp [concL, storeCells], rfl, ?_⟩
    have : M.setB b { X with cells := X.cells.take (off + i) ++ [] ++ X.cells.drop (off + i + ([] : List AV).length) } = M := by
      simp only [Mem.setB, List.append_nil, List.length_nil, Nat.add_zero, List.take_append_drop]
      have : M.blks.set b (some X) = M.blks := by
        apply List.ext_getElem?
        intro j
        rw [List.getElem?_set]
        split
        · rename_i e; subst e; rw [hX]; simp [lt_of_get hX]
        · rfl
      cases M; simp_all
    rw [this]; exact hR
  | a :: l, i, M, X, w, hR, hX, hlo, hl, h1, hlv, hsc => by
    simp only [List.length_cons] at hl
    simp only [lvL, Bool.and_eq_true] at hlv
    simp only [scL, Bool.and_eq_true] at hsc
    have hrel : RelS E M a (a.conc E) := ⟨hsc.1, fun _ => rfl⟩
    obtain ⟨hR1, hst, ⟨u, hu⟩, hfz⟩ := hR.setCell hX hlo (o := off + i) (by omega) hrel
    have hb := lt_of_get hX
    obtain ⟨w', hw', hsz, hR'⟩ := storeCells_rep (b := b) (off := off) l (i + 1) (M.setB b { X with cells := X.cells.set (off + i) a }) { X with cells := X.cells.set (off + i) a } _ hR1
      (by simp [Mem.setB, hb]) hlo (by simp only [List.length_set]; omega) (fun x hx => h1 x (List.mem_cons_of_mem _ hx)) (by rw [setB_live hX]; exact hlv.2) (by simpa [Mem.setB] using hsc.2)
    refine ⟨w', ?_, hsz.trans (by simp [World.setCell]), ?_⟩
    · simp only [concL, storeCells, addr_add, Sem.run_bind]
      rw [run_store P w _ _ _ (one_conc hR (h1 a List.mem_cons_self) hlv.1), hu]
      simp only [hfz, Bool.false_eq_true, if_false, Result.andThen_ok]
      exact hw'
    · have e1 : (M.setB b { X with cells := X.cells.set (off + i) a }).setB b { X with cells := (X.cells.set (off + i) a).take (off + (i + 1)) ++ l ++ (X.cells.set (off + i) a).drop (off + (i + 1) + l.length) } = M.setB b { X with cells := X.cells.take (off + i) ++ (a :: l) ++ X.cells.drop (off + i + (a :: l).length) } := by
        simp only [Mem.setB, List.set_set]
        have := set_splice l a X.cells (off + i) (by omega)
        simp only [List.length_cons]
        rw [← this, show off + (i + 1) = off + i + 1 from by omega]
      rw [← e1]
      exact hR'

def allOne : List AV → Bool
  | [] => true
  | a :: l => a.one && allOne l
theorem allOne_mem : ∀ {l : List AV}, allOne l = true → ∀ a ∈ l, a.one = true
  | [], _, a, h => by cases h
  | b :: l, h, a, hm => by
    simp only [allOne, Bool.and_eq_true] at h
    rcases List.mem_cons.1 hm with rfl | hm
    · exact h.1
    · exact allOne_mem h.2 a hm

/-- what soundness says of an operation that turns memory -/
def MemOk (P : Program) (tm : List AV) (M : Mem) (o : Oper) (z : AV) (M' : Mem) : Prop :=
  ∀ E (a : Act) w0 w, RelL E M tm a.tmps.toList → RepM E w0 M w → ∃ E' v w', Step E M E' M' ∧ RelS E' M' z v ∧ RepM E' w0 M' w' ∧ w.heap.size ≤ w'.heap.size ∧
    ((execOp a.eval o).run P w = .ok (.value v) w' ∨ ((execOp a.eval o).run P w = .ok .skip w' ∧ v = undef))

/-- cells of a new block -/
theorem newCells {E : Env} {w0 : Bs} {w : World} {M : Mem} (hR : RepM E w0 M w) {cs : List AV} (hl : lvL M.live cs = true) (hs : scL M.blks.length M.vecs.length cs = true) : RelL E M cs (concL E cs).toArray.toList := by
  refine ⟨by simp [concL_eq], fun i a v ha hv => ?_⟩
  simp only [concL_eq, List.getElem?_map, ha, Option.map_some, Option.some.injEq] at hv
  exact ⟨scL_at hs ha, fun _ => hv.symm⟩

theorem step_len {E E' : Env} {M M' : Mem} (h : Step E M E' M') : True := trivial

theorem newBlock {P : Program} {E : Env} {w0 : Bs} {w : World} {M : Mem} (hR : RepM E w0 M w) (t : TypeId) {cs : List AV} (hl : lvL M.live cs = true) (hs : scL M.blks.length M.vecs.length cs = true) :
    ∃ E' w', Step E M E' (M.addB ⟨t, true, cs⟩) ∧ RepM E' w0 (M.addB ⟨t, true, cs⟩) w' ∧ (newRow t (concL E cs).toArray).run P w = .ok ⟨E'.ρ M.blks.length, 0, none⟩ w' ∧ E'.σ = E.σ := by
  obtain ⟨h1, h2⟩ := hR.alloc ⟨t, true, cs⟩ rfl (concL E cs).toArray (newCells hR hl hs)
  refine ⟨_, _, h2, h1, ?_, rfl⟩
  simp only [newRow, Sem.run_bind, run_newObj, Result.andThen_ok, Sem.run_pure, Env.setB, if_true]
  rfl

def valOf (gv : Option Nat) (r : Nat) : Value := match gv with
  | none => .pointer (some ⟨r, 0, none⟩)
  | some n => .slice (some ⟨r, 0, none⟩) n n
def mkA (gv : Option Nat) (n : Nat) : AV := match gv with
  | none => .ptr n 0
  | some k => .sl n 0 k k
theorem mkA_conc (E : Env) (gv : Option Nat) (n : Nat) : (mkA gv n).conc E = valOf gv (E.ρ n) := by cases gv <;> rfl
theorem mkA_sc (gv : Option Nat) {n m k : Nat} (h : n < m) : (mkA gv n).sc m k = true := by cases gv <;> simpa [mkA, AV.sc] using h

/-- an operation that lays one new block: what it holds -/
def newK {R : Type} (P : Program) (tm : List AV) (M : Mem) (o : Oper) (k : Option Nat → TypeId → List AV → Option R) : Option R :=
  match o.op with
  | .box t x => bif (ev tm x).lv M.live then k none t (ev tm x).cells else none
  | .alloc t => match P.info? t with
    | some i => match i.zero with
      | some z => k none t (AV.lit z).cells
      | none => none
    | none => none
  | .buildSlice t len parts => match P.underlying t with
    | some (.slice el) => match P.info? el, sizeT P el with
      | some i, some n => match i.zero with
        | some z =>
          bif decide (len * n ≤ 16777216) && decide ((AV.lit z).cells.length = n) && decide (0 < n) && lvL M.live ((evP tm parts.toList).map (·.2)) then
            match fillA (fun i => some (i * n, n)) ((List.range (len * n)).map fun j => (AV.lit z).cells.getD (j % n) .bad) (evP tm parts.toList) with
            | some cs => bif lvL M.live cs then k (some len) el cs else none
            | none => none
          else none
        | none => none
      | _, _ => none
    | _ => none
  | _ => none

def memK {R : Type} (P : Program) (tm : List AV) (M : Mem) (o : Oper) (k : AV → Mem → Option R) : Option R :=
  match o.op with
  | .store t x v => match ev tm x with
    | .ptr b off => match M.blks[b]?, sizeT P t with
      | some (some X), some n =>
        bif X.own && (ev tm v).lv M.live && decide ((ev tm v).cells.length = n) && decide (off + n ≤ X.cells.length) && allOne (ev tm v).cells then
          k (.lit undef) (M.setB b { X with cells := X.cells.take off ++ (ev tm v).cells ++ X.cells.drop (off + n) })
        else none
      | _, _ => none
    | _ => none
  | _ => newK P tm M o fun gv t cs => k (mkA gv M.blks.length) (M.addB ⟨t, true, cs⟩)

theorem splice_sc {n m : Nat} {a b c : List AV} (ha : scL n m a = true) (hb : scL n m b = true) (hc : scL n m c = true) : scL n m (a ++ b ++ c) = true := by
  rw [scL_eq] at *; simp [List.all_append, ha, hb, hc]

theorem run_newRow (P : Program) (w : World) (t : TypeId) (cs : Array Value) : (newRow t cs).run P w = .ok ⟨w.heap.size, 0, none⟩ (w.alloc (.cells cs t)) := by
  simp only [newRow, Sem.run_bind, run_newObj, Result.andThen_ok, Sem.run_pure]
  rfl

def NewOk (P : Program) (tm : List AV) (M : Mem) (o : Oper) (gv : Option Nat) (t : TypeId) (cs : List AV) : Prop :=
  ∀ E (a : Act), RelL E M tm a.tmps.toList → scL M.blks.length M.vecs.length cs = true ∧ ∀ w0 w, RepM E w0 M w → (execOp a.eval o).run P w = .ok (.value (valOf gv w.heap.size)) (w.alloc (.cells (concL E cs).toArray t))

theorem newK_sound {R : Type} {P : Program} {tm : List AV} {M : Mem} {o : Oper} {k : Option Nat → TypeId → List AV → Option R} {r : R} (h : newK P tm M o k = some r) :
    ∃ gv t cs, k gv t cs = some r ∧ lvL M.live cs = true ∧ NewOk P tm M o gv t cs := by
  obtain ⟨dst, op, ty, pos, after, guard⟩ := o
  unfold newK at h
  simp only at h
  split at h
  · -- box
    rename_i t x
    simp only [cond_eq_ite] at h
    split at h
    · rename_i hl
      refine ⟨_, _, _, h, cells_lv hl, fun E a hT => ⟨cells_sc (hT.ev x).1, fun w0 w hR => ?_⟩⟩
      have hc : (a.eval x).cells = (concL E (ev tm x).cells).toArray := by
        rw [(hT.ev x).2 hl, ← conc_cells hR hl]
      simp only [execOp, Instr.box, newVar, hc, Sem.run_bind, run_newRow, Result.andThen_ok, Sem.run_pure, valOf]
    · cases h
  · -- alloc
    rename_i t
    split at h
    · rename_i i hi
      split at h
      · rename_i z hz
        refine ⟨_, _, _, h, cells_lv (a := .lit z) rfl, fun E a hT => ⟨cells_sc (a := .lit z) rfl, fun w0 w hR => ?_⟩⟩
        have hc : z.cells = (concL E (AV.lit z).cells).toArray := by
          have := conc_cells hR (a := .lit z) rfl
          rw [← this]; rfl
        simp only [execOp, Instr.alloc, zeroValue, typeInfo, Sem.run_bind, run_program, Result.andThen_ok, hi, Sem.run_pure, hz, newVar, hc, run_newRow, valOf]
      · cases h
    · cases h
  · -- buildSlice
    rename_i t len parts
    split at h
    · rename_i el hu
      split at h
      · rename_i i n hi hn
        split at h
        · rename_i z hz
          simp only [cond_eq_ite, Bool.and_eq_true, decide_eq_true_eq] at h
          split at h
          · rename_i hc
            obtain ⟨⟨⟨hbig, hzl⟩, hpos⟩, hl⟩ := hc
            split at h
            · rename_i cs hcs
              split at h
              · rename_i hlcs
                refine ⟨_, _, _, h, hlcs, fun E a hT => ?_⟩
                have hlp : ∀ p ∈ evP tm parts.toList, p.2.lv M.live = true := by
                  intro p hp
                  rw [lvL_eq, List.all_eq_true] at hl
                  exact hl p.2 (List.mem_map_of_mem hp)
                have hsp : ∀ p ∈ evP tm parts.toList, p.2.sc M.blks.length M.vecs.length = true := by
                  intro p hp
                  simp only [evP, List.mem_map] at hp
                  obtain ⟨q, _, rfl⟩ := hp
                  exact (hT.ev q.2).1
                have hsc : scL M.blks.length M.vecs.length cs = true := by
                  have key : ∀ (parts : List (Nat × AV)) (cells out : List AV), (∀ p ∈ parts, p.2.sc M.blks.length M.vecs.length = true) → scL M.blks.length M.vecs.length cells = true → fillA (fun i => some (i * n, n)) cells parts = some out → scL M.blks.length M.vecs.length out = true := by
                    intro parts
                    induction parts with
                    | nil => intro cells out _ h0 h; simp only [fillA, Option.some.injEq] at h; subst h; exact h0
                    | cons p rest ih =>
                      intro cells out hs h0 h
                      obtain ⟨i, v⟩ := p
                      simp only [fillA, cond_eq_ite] at h
                      split at h
                      · refine ih _ _ (fun p hp => hs p (List.mem_cons_of_mem _ hp)) ?_ h
                        have hv := cells_sc (hs (i, v) List.mem_cons_self)
                        refine splice_sc ?_ hv ?_
                        · rw [scL_eq, List.all_eq_true] at *; exact fun a ha => h0 a (List.mem_of_mem_take ha)
                        · rw [scL_eq, List.all_eq_true] at *; exact fun a ha => h0 a (List.mem_of_mem_drop ha)
                      · cases h
                  refine key _ _ cs hsp ?_ hcs
                  rw [scL_eq, List.all_eq_true]
                  intro a ha
                  simp only [List.mem_map, List.mem_range] at ha
                  obtain ⟨j, _, rfl⟩ := ha
                  have h0 := cells_sc (n := M.blks.length) (m := M.vecs.length) (a := .lit z) rfl
                  rw [scL_eq, List.all_eq_true] at h0
                  simp only [List.getD]
                  cases hj : (AV.lit z).cells[j % n]? with
                  | none => rfl
                  | some y => exact h0 y (List.mem_of_getElem? hj)
                refine ⟨hsc, fun w0 w hR => ?_⟩
                have hfill := fillA_sound hR (fun i => some (i * n, n)) _ _ cs hlp hcs
                have he : (parts.map fun (i, x) => (i, a.eval x)).toList = (evP tm parts.toList).map fun p => (p.1, p.2.conc E) := by
                  simp only [Array.toList_map, evP, List.map_map]
                  apply List.map_congr_left
                  intro p hp
                  simp only [Function.comp]
                  rw [(hT.ev p.2).2 (hlp (p.1, ev tm p.2) (by simp only [evP, List.mem_map]; exact ⟨p, hp, rfl⟩))]
                have hzc : z.cells = (concL E (AV.lit z).cells).toArray := by
                  have := conc_cells hR (a := .lit z) rfl
                  rw [← this]; rfl
                have hrow : ((Array.range (len * n)).map ((if len * n = 0 then (#[] : Array Value) else z.cells)[· % (if len * n = 0 then (#[] : Array Value) else z.cells).size]!)) = (concL E ((List.range (len * n)).map fun j => (AV.lit z).cells.getD (j % n) .bad)).toArray := by
                  by_cases h0 : len * n = 0
                  · rw [h0]; simp [concL]
                  · apply Array.ext'
                    simp only [if_neg h0, hzc, concL_eq, Array.toList_map, Array.toList_range, List.map_map]
                    apply List.map_congr_left
                    intro j _
                    simp only [Function.comp, List.size_toArray, List.length_map, hzl]
                    have hjn : j % n < (AV.lit z).cells.length := by rw [hzl]; exact Nat.mod_lt _ hpos
                    rw [getElem!_pos _ _ (by simpa using hjn)]
                    simp [List.getD, List.getElem?_eq_getElem hjn]
                simp only [execOp, Instr.buildSlice, Sem.run_bind, run_underlying hu, Result.andThen_ok, run_sizeOf hn]
                rw [if_neg (by omega)]
                by_cases h0 : len * n = 0
                · simp only [if_pos h0] at hrow
                  simp only [if_pos h0, Sem.run_bind, Sem.run_pure, Result.andThen_ok]
                  rw [he, hrow, hfill]
                  simp only [Sem.run_bind, run_newRow, Result.andThen_ok, Sem.run_pure, valOf]
                · simp only [if_neg h0] at hrow
                  simp only [if_neg h0, zeroValue, typeInfo, Sem.run_bind, run_program, Result.andThen_ok, hi, Sem.run_pure, hz]
                  rw [he, hrow, hfill]
                  simp only [Sem.run_bind, run_newRow, Result.andThen_ok, Sem.run_pure, valOf]
              · cases h
            · cases h
          · cases h
        · cases h
      · cases h
    · cases h
  · cases h

theorem memK_sound {R : Type} {P : Program} {tm : List AV} {M : Mem} {o : Oper} {k : AV → Mem → Option R} {r : R} (h : memK P tm M o k = some r) :
    ∃ z M', k z M' = some r ∧ MemOk P tm M o z M' := by
  unfold memK at h
  split at h
  · -- store
    rename_i t x v hop
    obtain ⟨dst, op, ty, pos, after, guard⟩ := o
    simp only at hop
    subst hop
    split at h
    · rename_i b off hx
      split at h
      · rename_i X n hX hn
        simp only [cond_eq_ite, Bool.and_eq_true, decide_eq_true_eq] at h
        split at h
        · rename_i hc
          obtain ⟨⟨⟨⟨hlo, hl⟩, hlen⟩, hoff⟩, h1⟩ := hc
          refine ⟨_, _, h, fun E a w0 w hT hR => ?_⟩
          have hxe := (hT.ev x).2 (by rw [hx]; simp only [AV.lv, live_even, aliveB, hX])
          rw [hx] at hxe
          obtain ⟨w', hw', hsz', hR'⟩ := storeCells_rep (P := P) (b := b) (off := off) (ev tm v).cells 0 M X w hR hX hlo (by omega) (allOne_mem h1) (cells_lv hl) (cells_sc (hT.ev v).1)
          simp only [Nat.add_zero, hlen] at hR'
          refine ⟨E, undef, w', ⟨Mem.setB_le hX _, Env.le.refl _ _ _⟩, RelS.lit _ _ _, hR', Nat.le_of_eq hsz'.symm, .inr ⟨?_, rfl⟩⟩
          have hc := conc_cells hR hl
          have hsz : (a.eval v).cells.size = n := by
            rw [(hT.ev v).2 hl, ← Array.length_toList, hc, concL_eq, List.length_map, hlen]
          have hcc : (a.eval v).cells.toList = concL E (ev tm v).cells := by rw [(hT.ev v).2 hl, hc]
          simp only [execOp, Instr.storeAt, hxe, AV.conc, Instr.sureAddr, Sem.run_bind, Sem.run_pure, Result.andThen_ok, storeVar, run_sizeOf hn, hsz, ne_eq, not_true_eq_false, if_false, hcc, hw']
        · cases h
      · cases h
    · cases h
  · obtain ⟨gv, t, cs, hk, hl, hn⟩ := newK_sound h
    refine ⟨_, _, hk, fun E a w0 w hT hR => ?_⟩
    obtain ⟨hsc, hrun⟩ := hn E a hT
    obtain ⟨h1, h2⟩ := hR.alloc ⟨t, true, cs⟩ rfl (concL E cs).toArray (newCells hR hl hsc)
    refine ⟨_, _, _, h2, ⟨mkA_sc gv (by simp [Mem.addB]), fun _ => rfl⟩, h1, by show w.heap.size ≤ (w.heap.push _).size; simp, .inl ?_⟩
    rw [hrun w0 w hR, mkA_conc]
    simp [Env.setB]

end Go.Sx
