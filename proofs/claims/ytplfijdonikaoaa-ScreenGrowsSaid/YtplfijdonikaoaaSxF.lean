import Derived.Test.YtplfijdonikaoaaSxE
set_option linter.unusedVariables false
set_option linter.unusedSimpArgs false
namespace Go.Sx
open Go Go.RowKit

theorem live_ent {M : Mem} {h : Nat} (hl : M.live (2 * h + 1) = true) : ∃ e, M.vecs[h]? = some (some e) := by
  rw [live_odd] at hl
  unfold aliveV at hl
  split at hl
  · rename_i e he; exact ⟨e, he⟩
  · cases hl

theorem conc_cells {E : Env} {w0 : Bs} {w : World} {M : Mem} (hR : RepM E w0 M w) {a : AV} (hl : a.lv M.live = true) : (a.conc E).cells.toList = concL E a.cells := by
  cases a with
  | lit v => cases v <;> simp [AV.conc, Value.cells, AV.cells, concL, concL_lits]
  | vec h =>
    obtain ⟨e, he⟩ := live_ent (by simpa [AV.lv] using hl)
    obtain ⟨_, _, _, hv⟩ := hR.slc he
    simp [AV.conc, AV.cells, hv, Value.cells, concL]
  | bad => rfl
  | _ => simp [AV.conc, Value.cells, AV.cells, concL]

theorem cells_sc {n m : Nat} {a : AV} (h : a.sc n m = true) : scL n m a.cells = true := by
  cases a with
  | lit v => cases v <;> first | rfl | (simp [AV.cells, scL_eq, AV.sc])
  | agg cs => simpa [AV.cells, AV.sc] using h
  | _ => simp_all [AV.cells, scL]
theorem cells_lv {L : Nat → Bool} {a : AV} (h : a.lv L = true) : lvL L a.cells = true := by
  cases a with
  | lit v => cases v <;> first | rfl | (simp [AV.cells, lvL_eq, AV.lv])
  | agg cs => simpa [AV.cells, AV.lv] using h
  | _ => simp_all [AV.cells, lvL]

/-! building -/
def placeA (P : Program) (t : TypeId) (i : Nat) : Option (Nat × Nat) :=
  match P.underlying t with
  | some (.struct fs) =>
    match fs[i]? with
    | some f => (sizeT P f.type).map fun n => (f.offset, n)
    | none => none
  | some (.array _ el) => (sizeT P el).map fun n => (i * n, n)
  | _ => none

def fillA (place : Nat → Option (Nat × Nat)) : List AV → List (Nat × AV) → Option (List AV)
  | cells, [] => some cells
  | cells, (i, v) :: rest =>
    match place i with
    | none => none
    | some (off, size) =>
      bif decide (v.cells.length = size) && decide (off + size ≤ cells.length) then fillA place (cells.take off ++ v.cells ++ cells.drop (off + size)) rest else none

theorem foldl_splice (off : Nat) : ∀ (l : List Value) (k : Nat) (cs : List Value), off + k + l.length ≤ cs.length →
    ((l.zipIdx k).foldl (fun (cs : List Value) (p : Value × Nat) => cs.set (off + p.2) p.1) cs) = cs.take (off + k) ++ l ++ cs.drop (off + k + l.length)
  | [], k, cs, h => by simp
  | a :: l, k, cs, h => by
    simp only [List.zipIdx_cons, List.foldl_cons, List.length_cons] at *
    rw [foldl_splice off l (k + 1) _ (by simp; omega)]
    rw [show off + (k + 1) = off + k + 1 from by omega, List.take_set, List.drop_set_of_lt (by omega)]
    rw [List.take_succ_eq_append_getElem (by omega), List.set_append_right _ _ (by simp; omega)]
    simp [Nat.min_eq_left (show off + k ≤ cs.length from by omega)]
    congr 1; omega

theorem fill_step (off : Nat) (v : Array Value) (cells : Array Value) (h : off + v.size ≤ cells.size) :
    (v.zipIdx.foldl (fun cs (c, j) => cs.setIfInBounds (off + j) c) cells).toList = cells.toList.take off ++ v.toList ++ cells.toList.drop (off + v.size) := by
  have h1 : ∀ (l : List (Value × Nat)) (cs : Array Value), (l.foldl (fun (cs : Array Value) (p : Value × Nat) => cs.setIfInBounds (off + p.2) p.1) cs).toList = l.foldl (fun (cs : List Value) (p : Value × Nat) => cs.set (off + p.2) p.1) cs.toList := by
    intro l
    induction l with
    | nil => intro cs; rfl
    | cons a l ih => intro cs; simp only [List.foldl_cons]; rw [ih]; simp
  have h2 := foldl_splice off v.toList 0 cells.toList (by simpa using h)
  rw [← Array.foldl_toList, Array.toList_zipIdx]
  rw [h1]
  simpa using h2

theorem fillA_sound {E : Env} {w0 : Bs} {w : World} {M : Mem} (hR : RepM E w0 M w) (place : Nat → Option (Nat × Nat)) :
    ∀ (parts : List (Nat × AV)) (cells out : List AV), (∀ p ∈ parts, p.2.lv M.live = true) → fillA place cells parts = some out →
      Instr.fill place (concL E cells).toArray (parts.map fun p => (p.1, p.2.conc E)) = some (concL E out).toArray := by
  intro parts
  induction parts with
  | nil => intro cells out _ h; simp only [fillA, Option.some.injEq] at h; subst h; rfl
  | cons p rest ih =>
    intro cells out hl h
    obtain ⟨i, v⟩ := p
    simp only [fillA] at h
    cases hp : place i with
    | none => rw [hp] at h; cases h
    | some q =>
      obtain ⟨off, size⟩ := q
      rw [hp] at h
      simp only [cond_eq_ite, Bool.and_eq_true, decide_eq_true_eq] at h
      split at h
      · rename_i hc
        have hv := conc_cells hR (hl (i, v) List.mem_cons_self)
        have hvs : (v.conc E).cells.size = v.cells.length := by rw [← Array.length_toList, hv, concL_eq, List.length_map]
        have ih' := ih _ _ (fun p hp => hl p (List.mem_cons_of_mem _ hp)) h
        simp only [List.map_cons, Instr.fill, hp]
        rw [if_neg (by simp [hvs, hc.1, concL_eq]; omega)]
        rw [← ih']
        congr 1
        apply Array.ext'
        rw [fill_step off _ _ (by simp [hvs, concL_eq]; omega)]
        simp only [hv, concL_eq, List.map_append, List.map_take, List.map_drop, hvs, hc.1]
      · cases h

def buildable (P : Program) (t : TypeId) : Bool :=
  match P.underlying t with
  | some (.struct fs) => fs.all fun f => (sizeT P f.type).isSome
  | some (.array _ el) => (sizeT P el).isSome
  | _ => false

def buildA {R : Type} (P : Program) (t : TypeId) (parts : List (Nat × AV)) (k : AV → Option R) : Option R :=
  match P.info? t with
  | some i =>
    match i.zero with
    | some z =>
      bif buildable P t then
        match fillA (placeA P t) (AV.lit z).cells parts with
        | some cs => k (.agg cs)
        | none => none
      else none
    | none => none
  | none => none

theorem run_mapM_sizes {P : Program} (fs : List Field) (w : World) : (∀ f ∈ fs, (sizeT P f.type).isSome = true) →
    (fs.mapM fun f => do pure (f.offset, ← sizeOf f.type) : Sem (List (Nat × Nat))).run P w = .ok (fs.map fun f => (f.offset, (sizeT P f.type).getD 0)) w := by
  induction fs with
  | nil => intro _; simp
  | cons f fs ih =>
    intro h
    obtain ⟨n, hn⟩ := Option.isSome_iff_exists.1 (h f List.mem_cons_self)
    have := ih (fun g hg => h g (List.mem_cons_of_mem _ hg))
    simp only [List.mapM_cons, Sem.run_bind, run_sizeOf hn, Result.andThen_ok, Sem.run_pure, this, List.map_cons, hn, Option.getD_some]

theorem buildA_sound {R : Type} {P : Program} {t : TypeId} {parts : List (Nat × AV)} {k : AV → Option R} {r : R} (h : buildA P t parts k = some r) :
    ∃ z, k z = some r ∧ ∀ E w0 M w, RepM E w0 M w → (∀ p ∈ parts, p.2.lv M.live = true) → (∀ p ∈ parts, p.2.sc M.blks.length M.vecs.length = true) →
      z.sc M.blks.length M.vecs.length = true ∧ (Instr.build t ((parts.map fun p => (p.1, p.2.conc E)).toArray)).run P w = .ok (z.conc E) w := by
  unfold buildA at h
  split at h
  · rename_i i hi
    split at h
    · rename_i z hz
      simp only [cond_eq_ite] at h
      split at h
      · rename_i hall
        split at h
        · rename_i cs hcs
          refine ⟨_, h, fun E w0 M w hR hl hsc => ⟨?_, ?_⟩⟩
          · simp only [AV.sc]
            have key : ∀ (parts : List (Nat × AV)) (cells out : List AV), (∀ p ∈ parts, p.2.sc M.blks.length M.vecs.length = true) → scL M.blks.length M.vecs.length cells = true → fillA (placeA P t) cells parts = some out → scL M.blks.length M.vecs.length out = true := by
              intro parts
              induction parts with
              | nil => intro cells out _ h0 h; simp only [fillA, Option.some.injEq] at h; subst h; exact h0
              | cons p rest ih =>
                intro cells out hs h0 h
                obtain ⟨i, v⟩ := p
                simp only [fillA] at h
                split at h
                · cases h
                · simp only [cond_eq_ite] at h
                  split at h
                  · refine ih _ _ (fun p hp => hs p (List.mem_cons_of_mem _ hp)) ?_ h
                    have hv := cells_sc (hs (i, v) List.mem_cons_self)
                    rw [scL_eq, List.all_eq_true] at *
                    intro a ha
                    simp only [List.mem_append] at ha
                    rcases ha with (ha | ha) | ha
                    · exact h0 a (List.mem_of_mem_take ha)
                    · exact hv a ha
                    · exact h0 a (List.mem_of_mem_drop ha)
                  · cases h
            exact key parts _ cs hsc (cells_sc rfl) hcs
          · have hzc : (z.cells) = (concL E (AV.lit z).cells).toArray := by
              have := conc_cells hR (a := .lit z) rfl
              simp only [AV.conc] at this
              rw [← this]
            have hf := fillA_sound hR (placeA P t) parts _ cs hl hcs
            unfold Instr.build
            simp only [zeroValue, typeInfo, Sem.run_bind, run_program, Result.andThen_ok, hi, Sem.run_pure, hz]
            unfold buildable at hall
            cases hu : P.underlying t with
            | none => rw [hu] at hall; cases hall
            | some d =>
              rw [hu] at hall
              simp only [underlying, Sem.run_bind, run_program, Result.andThen_ok, hu, Sem.run_pure]
              cases d <;> first | cases hall | skip
              case struct fs =>
                simp only [Array.all_eq_true_iff_forall_mem] at hall
                have hm := run_mapM_sizes (P := P) fs.toList w (fun f hf => hall f (by simpa using hf))
                simp only
                rw [Array.mapM_eq_mapM_toList]
                simp only [Sem.run_map, Sem.run_bind, hm, Result.andThen_ok]
                have hpl : (fun (x : Nat) => ((fs.toList.map fun f => (f.offset, (sizeT P f.type).getD 0)).toArray)[x]?) = placeA P t := by
                  funext x
                  simp only [placeA, hu]
                  simp only [List.getElem?_toArray, List.getElem?_map, Array.getElem?_toList]
                  cases hx : fs[x]? with
                  | none => rfl
                  | some f =>
                    obtain ⟨n, hn⟩ := Option.isSome_iff_exists.1 (hall f (Array.mem_of_getElem? hx))
                    simp [hn]
                rw [hpl, hzc, hf]
                simp [AV.conc]
              case array len el =>
                obtain ⟨n, hn⟩ := Option.isSome_iff_exists.1 hall
                simp only [Sem.run_bind, run_sizeOf hn, Result.andThen_ok]
                have hpl : (fun (x : Nat) => some (x * n, n)) = placeA P t := by
                  funext x
                  simp [placeA, hu, hn]
                rw [hpl, hzc, hf]
                simp [AV.conc]
        · cases h
      · cases h
    · cases h
  · cases h

end Go.Sx
