import Derived.Test.YtplfijdonikaoaaSxB
set_option linter.unusedVariables false
set_option linter.unusedSimpArgs false
namespace Go.Sx
open Go Go.RowKit

/-! elements of slices that are known as lists -/
def AV.cellD (a : AV) (p : Nat) : AV := match a with | .agg cs => cs.getD p .bad | _ => .bad
def normL (a : AV) : List CK → Nat → List AV
  | [], _ => []
  | c :: cs, p => c.norm (a.cellD p) :: normL a cs (p + 1)
def normE (isAgg : Bool) (sh : List CK) (a : AV) : AV :=
  match isAgg with
  | true => .agg (normL a sh 0)
  | false => match sh with
    | [c] => c.norm a
    | _ => .bad

theorem CK.norm_fits (c : CK) (a : AV) (h : c.fits a = true) : c.norm a = a := by
  unfold CK.fits at h
  split at h <;> simp_all [CK.norm, AV.getInt, AV.getBool, AV.getStr]

theorem fitsAll_len : ∀ (sh : List CK) (l : List AV), fitsAll sh l = true → l.length = sh.length
  | [], [], _ => rfl
  | _ :: ks, _ :: l, h => by
    simp only [fitsAll, Bool.and_eq_true] at h
    simp [fitsAll_len ks l h.2]
  | [], _ :: _, h => by simp [fitsAll] at h
  | _ :: _, [], h => by simp [fitsAll] at h

theorem normL_fits (cs : List AV) : ∀ (sh : List CK) (p : Nat) (l : List AV), cs.drop p = l → fitsAll sh l = true → normL (.agg cs) sh p = l := by
  intro sh
  induction sh with
  | nil => intro p l hl h; cases l with
    | nil => rfl
    | cons a l => simp [fitsAll] at h
  | cons c sh ih =>
    intro p l hl h
    cases l with
    | nil => simp [fitsAll] at h
    | cons a l =>
      simp only [fitsAll, Bool.and_eq_true] at h
      have hp : cs[p]? = some a := by
        have : (cs.drop p)[0]? = some a := by rw [hl]; rfl
        simpa using this
      have e1 : AV.cellD (.agg cs) p = a := by simp [AV.cellD, List.getD, hp]
      simp only [normL, e1, CK.norm_fits c a h.1]
      rw [ih (p + 1) l (by rw [← List.drop_drop, hl]; rfl) h.2]

theorem normE_shape {isAgg : Bool} {sh : List CK} {a : AV} (h : a.shape isAgg sh = true) : normE isAgg sh a = a := by
  unfold AV.shape at h
  split at h
  · simp only [normE]
    rw [normL_fits _ sh 0 _ List.drop_zero h]
  · have := fitsAll_len _ _ h
    match sh, this with
    | [c], _ =>
      simp only [fitsAll, Bool.and_eq_true] at h
      simp only [normE]
      exact CK.norm_fits c a h.1
  · cases h

theorem shape_cells {isAgg : Bool} {sh : List CK} {a : AV} (h : a.shape isAgg sh = true) : a.cells.length = sh.length := by
  unfold AV.shape at h
  split at h
  · exact fitsAll_len _ _ h
  · have h1 := fitsAll_len _ _ h
    match sh, h1 with
    | [c], _ =>
      simp only [fitsAll, Bool.and_eq_true] at h
      have h2 := h.1
      cases a with
      | agg cs => cases c <;> simp [CK.fits] at h2
      | lit v => cases v <;> first | rfl | (cases c <;> simp [CK.fits] at h2)
      | _ => rfl
  · cases h

def Ent.elem_ (e : Ent) (i : Nat) : AV := normE e.isAgg e.sh (e.cont.getD i .bad)

theorem Ent.elem_eq {e : Ent} {i : Nat} {x : AV} (hx : e.cont[i]? = some x) (h : x.shape e.isAgg e.sh = true) : e.elem_ i = x := by
  unfold Ent.elem_
  rw [show e.cont.getD i .bad = x from by simp [List.getD, hx]]
  exact normE_shape h

/-! loading -/
def loadA {R : Type} (P : Program) (M : Mem) (t : TypeId) (x : AV) (k : AV → Option R) : Option R :=
  match x with
  | .ptr b off =>
    match M.blks[b]?, aggT P t, sizeT P t with
    | some (some X), some true, some n => bif decide (off + n ≤ X.cells.length) && lvL M.live ((X.cells.drop off).take n) then k (.agg ((X.cells.drop off).take n)) else none
    | some (some X), some false, _ =>
      match X.cells[off]? with
      | some c => bif c.lv M.live then k c else none
      | none => none
    | _, _, _ => none
  | .vptr h i z j =>
    match M.vecs[h]?, aggT P t, sizeT P t with
    | some (some e), some true, some n =>
      bif decide (z = e.sh.length) then
        bif decide (j + n ≤ z) then
          if i < e.cont.length then (bif lvL M.live (((e.elem_ i).cells.drop j).take n) then k (.agg (((e.elem_ i).cells.drop j).take n)) else none) else none
        else bif decide (z = 1) && decide (j = 0) && !e.isAgg then
          if i + n ≤ e.cont.length then (bif lvL M.live ((List.range n).map fun p => e.elem_ (i + p)) then k (.agg ((List.range n).map fun p => e.elem_ (i + p))) else none) else none
        else none
      else none
    | some (some e), some false, _ =>
      bif decide (z = e.sh.length) then
        if i < e.cont.length then
          match (e.elem_ i).cells[j]? with
          | some c => bif c.lv M.live then k c else none
          | none => none
        else none
      else none
    | _, _, _ => none
  | _ => none

theorem addr_add (b o n : Nat) : Addr.add ⟨b, o, none⟩ n = ⟨b, o + n, none⟩ := by
  unfold Addr.add; split
  · rename_i h; subst h; rfl
  · rfl

theorem lvL_at {L : Nat → Bool} {l : List AV} (h : lvL L l = true) {i : Nat} {a : AV} (ha : l[i]? = some a) : a.lv L = true := by
  rw [lvL_eq, List.all_eq_true] at h
  exact h a (List.mem_of_getElem? ha)
theorem scL_at {n m : Nat} {l : List AV} (h : scL n m l = true) {i : Nat} {a : AV} (ha : l[i]? = some a) : a.sc n m = true := by
  rw [scL_eq, List.all_eq_true] at h
  exact h a (List.mem_of_getElem? ha)
theorem scL_of {n m : Nat} {l : List AV} (h : ∀ (i : Nat) (a : AV), l[i]? = some a → a.sc n m = true) : scL n m l = true := by
  rw [scL_eq, List.all_eq_true]
  intro a ha
  obtain ⟨i, hi⟩ := List.getElem?_of_mem ha
  exact h i a hi
theorem lvL_of {L : Nat → Bool} {l : List AV} (h : ∀ (i : Nat) (a : AV), l[i]? = some a → a.lv L = true) : lvL L l = true := by
  rw [lvL_eq, List.all_eq_true]
  intro a ha
  obtain ⟨i, hi⟩ := List.getElem?_of_mem ha
  exact h i a hi

/-- a row of cells that are all alive -/
theorem run_loadVar_agg {P : Program} {E : Env} {t : TypeId} {n : Nat} {b o : Nat} {cs : List AV} {w : World} (ha : aggT P t = some true) (hs : sizeT P t = some n) (hl : cs.length = n)
    (hc : ∀ (p : Nat) (c : AV), cs[p]? = some c → w.cell? ⟨b, o + p, none⟩ = some (c.conc E)) : (loadVar t ⟨b, o, none⟩).run P w = .ok ((AV.agg cs).conc E) w := by
  unfold loadVar
  simp only [Sem.run_bind, run_isAgg ha w, Result.andThen_ok, if_true, run_sizeOf hs w]
  have := run_loadCells_list (P := P) w ⟨b, o, none⟩ (concL E cs) (fun j v hv => by
    rw [concL_eq, List.getElem?_map] at hv
    cases hcj : cs[j]? with
    | none => rw [hcj] at hv; cases hv
    | some c =>
      rw [hcj] at hv
      simp only [Option.map_some, Option.some.injEq] at hv
      subst hv
      rw [addr_add]; exact hc j c hcj)
  rw [show (concL E cs).length = n from by rw [concL_eq, List.length_map, hl]] at this
  simp only [this, Result.andThen_ok, Sem.run_pure, AV.conc]

theorem run_loadVar_one {P : Program} {t : TypeId} {b o : Nat} {v : Value} {w : World} (ha : aggT P t = some false) (hc : w.cell? ⟨b, o, none⟩ = some v) : (loadVar t ⟨b, o, none⟩).run P w = .ok v w := by
  unfold loadVar
  simp only [Sem.run_bind, run_isAgg ha w, Result.andThen_ok, Bool.false_eq_true, if_false]
  simp [hc]

theorem RepM.vcell {E : Env} {w0 : Bs} {M : Mem} {w : World} (h : RepM E w0 M w) {i : Nat} {e : Ent} (he : M.vecs[i]? = some (some e)) {q : Nat} {x : AV} (hx : e.cont[q]? = some x) {j : Nat} {c : AV} (hc : x.cells[j]? = some c) :
    ∃ u, w.cell? ⟨(E.va i).block, (E.va i).off + (q * e.sh.length + j), none⟩ = some u ∧ RelS E M c u := by
  rcases h.vec i e he with ⟨hz, _⟩ | ⟨a, cap, cs, fz, hv⟩
  · rw [hz] at hx; simp at hx
  obtain ⟨u, h1, h2⟩ := hv.cell q x hx j c hc
  have : E.va i = a := by simp [Env.va, hv.val]
  exact ⟨u, by rw [this]; simp [World.cell?, hv.blk, h1], h2⟩

/-- the shape of what stands in a row -/
theorem RepM.shape {E : Env} {w0 : Bs} {M : Mem} {w : World} (h : RepM E w0 M w) {i : Nat} {e : Ent} (he : M.vecs[i]? = some (some e)) {q : Nat} {x : AV} (hx : e.cont[q]? = some x) : x.shape e.isAgg e.sh = true := by
  rcases h.vec i e he with ⟨hz, _⟩ | ⟨a, cap, cs, fz, hv⟩
  · rw [hz] at hx; simp at hx
  · exact hv.shape q x hx

theorem loadA_sound {R : Type} {P : Program} {M : Mem} {t : TypeId} {x : AV} {k : AV → Option R} {r : R} (h : loadA P M t x k = some r) :
    ∃ z, k z = some r ∧ z.lv M.live = true ∧ ∀ E w0 w, RepM E w0 M w → z.sc M.blks.length M.vecs.length = true ∧ (Instr.loadAt t (x.conc E)).run P w = .ok (z.conc E) w := by
  unfold loadA at h
  split at h
  · rename_i b off
    split at h
    · rename_i X n hX ha hs
      simp only [cond_eq_ite, Bool.and_eq_true, decide_eq_true_eq] at h
      split at h
      · rename_i hle
        refine ⟨_, h, by simp only [AV.lv]; exact hle.2, fun E w0 w hR => ?_⟩
        obtain ⟨_, ds, hd, hr⟩ := hR.blk b X hX
        refine ⟨?_, ?_⟩
        · simp only [AV.sc]
          refine scL_of fun i a hi => ?_
          have : X.cells[off + i]? = some a := by
            rw [List.getElem?_take] at hi
            split at hi
            · simpa using hi
            · cases hi
          obtain ⟨v, _, hv⟩ := hr.get this
          exact hv.1
        · simp only [Instr.loadAt, AV.conc, Instr.sureAddr, Sem.run_bind, Sem.run_pure, Result.andThen_ok]
          refine run_loadVar_agg ha hs (by simp; omega) (fun p c hc => ?_)
          have hc' : X.cells[off + p]? = some c := by
            rw [List.getElem?_take] at hc
            split at hc
            · simpa using hc
            · cases hc
          obtain ⟨v, hv, hrel⟩ := hR.cell hX hc'
          rw [hv, hrel.2 (lvL_at hle.2 hc)]
      · cases h
    · rename_i X hX ha
      split at h
      · rename_i c hc
        simp only [cond_eq_ite] at h
        split at h
        · rename_i hl
          refine ⟨_, h, hl, fun E w0 w hR => ?_⟩
          obtain ⟨v, hv, hrel⟩ := hR.cell hX hc
          refine ⟨hrel.1, ?_⟩
          simp only [Instr.loadAt, AV.conc, Instr.sureAddr, Sem.run_bind, Sem.run_pure, Result.andThen_ok]
          rw [run_loadVar_one ha hv, hrel.2 hl]
        · cases h
      · cases h
    · cases h
  · rename_i hh i z j
    split at h
    · rename_i e n he ha hs
      simp only [cond_eq_ite, Bool.and_eq_true, decide_eq_true_eq, Bool.not_eq_true', Bool.not_eq_eq_eq_not, Bool.not_true] at h
      split at h
      · rename_i hz
        subst hz
        split at h
        · rename_i hjn
          split at h
          · rename_i hi
            split at h
            · rename_i hl
              refine ⟨_, h, by simp only [AV.lv]; exact hl, fun E w0 w hR => ?_⟩
              have hx : e.cont[i]? = some e.cont[i] := List.getElem?_eq_getElem hi
              have hel := Ent.elem_eq hx (hR.shape he hx)
              have hlen := shape_cells (hR.shape he hx)
              rw [hel] at hl ⊢
              refine ⟨?_, ?_⟩
              · simp only [AV.sc]
                refine scL_of fun p a hp => ?_
                have : (e.cont[i]).cells[j + p]? = some a := by
                  rw [List.getElem?_take] at hp
                  split at hp
                  · simpa using hp
                  · cases hp
                obtain ⟨u, _, hu⟩ := hR.vcell he hx this
                exact hu.1
              · simp only [Instr.loadAt, AV.conc, Instr.sureAddr, Sem.run_bind, Sem.run_pure, Result.andThen_ok]
                refine run_loadVar_agg ha hs (by simp; omega) (fun p c hc => ?_)
                have hc' : (e.cont[i]).cells[j + p]? = some c := by
                  rw [List.getElem?_take] at hc
                  split at hc
                  · simpa using hc
                  · cases hc
                obtain ⟨u, hu, hrel⟩ := hR.vcell he hx hc'
                rw [show (E.va hh).off + (i * e.sh.length + j) + p = (E.va hh).off + (i * e.sh.length + (j + p)) from by omega, hu, hrel.2 (lvL_at hl hc)]
            · cases h
          · cases h
        · split at h
          · rename_i h1
            obtain ⟨⟨hz1, hj0⟩, hna⟩ := h1
            split at h
            · rename_i hi
              split at h
              · rename_i hl
                refine ⟨_, h, by simp only [AV.lv]; exact hl, fun E w0 w hR => ?_⟩
                have hx : ∀ p, p < n → ∃ x, e.cont[i + p]? = some x ∧ e.elem_ (i + p) = x ∧ x.cells[0]? = some x := by
                  intro p hp
                  have hx : e.cont[i + p]? = some e.cont[i + p] := List.getElem?_eq_getElem (by omega)
                  refine ⟨_, hx, Ent.elem_eq hx (hR.shape he hx), ?_⟩
                  have hsh := hR.shape he hx
                  generalize e.cont[i + p] = y at hsh
                  unfold AV.shape at hsh
                  rw [hna] at hsh
                  have h1 := fitsAll_len _ _ hsh
                  match hsh' : e.sh, h1 with
                  | [c], _ =>
                    rw [hsh'] at hsh
                    simp only [fitsAll, Bool.and_eq_true] at hsh
                    have h2 := hsh.1
                    cases y with
                    | agg cs => cases c <;> simp [CK.fits] at h2
                    | lit v => cases v <;> first | rfl | (cases c <;> simp [CK.fits] at h2)
                    | _ => rfl
                refine ⟨?_, ?_⟩
                · simp only [AV.sc]
                  refine scL_of fun p a hp => ?_
                  rw [List.getElem?_map] at hp
                  by_cases hpn : p < n
                  · obtain ⟨x, h1, h2, h3⟩ := hx p hpn
                    simp [hpn] at hp
                    rw [h2] at hp
                    subst hp
                    obtain ⟨u, _, hu⟩ := hR.vcell he h1 h3
                    exact hu.1
                  · simp [hpn] at hp
                · simp only [Instr.loadAt, AV.conc, Instr.sureAddr, Sem.run_bind, Sem.run_pure, Result.andThen_ok]
                  refine run_loadVar_agg ha hs (by simp) (fun p c hc => ?_)
                  have hc0 := hc
                  rw [List.getElem?_map] at hc
                  by_cases hpn : p < n
                  · obtain ⟨x, h1, h2, h3⟩ := hx p hpn
                    simp [hpn] at hc
                    rw [h2] at hc
                    subst hc
                    obtain ⟨u, hu, hrel⟩ := hR.vcell he h1 h3
                    rw [hz1] at hu ⊢
                    rw [hj0, show (E.va hh).off + (i * 1 + 0) + p = (E.va hh).off + ((i + p) * 1 + 0) from by omega, hu, hrel.2 (lvL_at hl hc0)]
                  · simp [hpn] at hc
              · cases h
            · cases h
          · cases h
      · cases h
    · rename_i e he ha
      simp only [cond_eq_ite, decide_eq_true_eq] at h
      split at h
      · rename_i hz
        subst hz
        split at h
        · rename_i hi
          split at h
          · rename_i c hc
            split at h
            · rename_i hl
              refine ⟨_, h, hl, fun E w0 w hR => ?_⟩
              have hx : e.cont[i]? = some e.cont[i] := List.getElem?_eq_getElem hi
              have hel := Ent.elem_eq hx (hR.shape he hx)
              rw [hel] at hc
              obtain ⟨u, hu, hrel⟩ := hR.vcell he hx hc
              refine ⟨hrel.1, ?_⟩
              simp only [Instr.loadAt, AV.conc, Instr.sureAddr, Sem.run_bind, Sem.run_pure, Result.andThen_ok]
              rw [run_loadVar_one ha hu, hrel.2 hl]
            · cases h
          · cases h
        · cases h
      · cases h
    · cases h
  · cases h

end Go.Sx
