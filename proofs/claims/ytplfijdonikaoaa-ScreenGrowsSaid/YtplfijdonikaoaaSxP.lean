import Derived.Test.YtplfijdonikaoaaSxAp
set_option linter.unusedVariables false
set_option linter.unusedSimpArgs false
namespace Go.Sx
open Go Go.RowKit

/-! A memory told anew: a few blocks and rows under new names. -/

def invF : List Nat → Nat → Nat → Option Nat
  | [], _, _ => none
  | y :: l, x, i => bif decide (y = x) then some i else invF l x (i + 1)
theorem invF_spec : ∀ {p : List Nat} {x i j : Nat}, invF p x i = some j → i ≤ j ∧ p[j - i]? = some x
  | [], _, _, _, h => by cases h
  | y :: l, x, i, j, h => by
    simp only [invF, cond_eq_ite, decide_eq_true_eq] at h
    split at h
    · rename_i e; simp only [Option.some.injEq] at h; subst h; subst e; exact ⟨Nat.le_refl _, by simp⟩
    · obtain ⟨h1, h2⟩ := invF_spec h
      refine ⟨by omega, ?_⟩
      rw [show j - i = (j - (i + 1)) + 1 by omega]
      simpa using h2
theorem invF_some {p : List Nat} {x j : Nat} (h : invF p x 0 = some j) : p[j]? = some x := by simpa using (invF_spec h).2
theorem invF_at : ∀ {p : List Nat} {x i j : Nat}, p.Nodup → p[j]? = some x → invF p x i = some (i + j)
  | [], _, _, _, _, h => by simp at h
  | y :: l, x, i, j, hn, h => by
    simp only [List.nodup_cons] at hn
    simp only [invF, cond_eq_ite, decide_eq_true_eq]
    cases j with
    | zero => simp at h; simp [h]
    | succ j =>
      simp at h
      rw [if_neg (fun e : y = x => hn.1 (by rw [e]; exact List.mem_of_getElem? h)), invF_at hn.2 h]
      congr 1; omega
theorem invF_none : ∀ {p : List Nat} {x i : Nat}, invF p x i = none → x ∉ p
  | [], _, _, _ => by simp
  | y :: l, x, i, h => by
    simp only [invF, cond_eq_ite, decide_eq_true_eq] at h
    split at h
    · cases h
    · rename_i e; simp only [List.mem_cons, not_or]; exact ⟨fun hh => e hh.symm, invF_none h⟩

mutual
def AV.ren (fb fv : Nat → Option Nat) : AV → AV
  | .lit v => .lit v
  | .agg cs => .agg (renL fb fv cs)
  | .tup vs => .tup (renL fb fv vs)
  | .ptr b off => match fb b with
    | some i => .ptr i off
    | none => .bad
  | .sl b off len cap => match fb b with
    | some i => .sl i off len cap
    | none => .bad
  | .fn f caps => .fn f (renL fb fv caps)
  | .vec h => match fv h with
    | some i => .vec i
    | none => .bad
  | .vptr h i z j => match fv h with
    | some q => .vptr q i z j
    | none => .bad
  | .bad => .bad
def renL (fb fv : Nat → Option Nat) : List AV → List AV
  | [] => []
  | a :: l => a.ren fb fv :: renL fb fv l
end
theorem renL_eq (fb fv : Nat → Option Nat) (l : List AV) : renL fb fv l = l.map (AV.ren fb fv) := by
  induction l with
  | nil => rfl
  | cons a l ih => simp [renL, ih]

def Blk.ren (fb fv : Nat → Option Nat) (x : Blk) : Blk := { x with cells := renL fb fv x.cells }
def Ent.ren (fb fv : Nat → Option Nat) (tf : Nat → Nat) (e : Ent) : Ent := { e with terr := tf e.terr, cont := bif noAny e.sh then e.cont else renL fb fv e.cont }
def invB (p : List Nat) (x : Nat) : Option Nat := invF p x 0
def terrIx (M : Mem) (t : Nat) : List Nat → Nat → Nat
  | [], i => i
  | h :: l, i => match M.vecs[h]? with
    | some (some e) => bif decide (e.terr = t) then i else terrIx M t l (i + 1)
    | _ => terrIx M t l (i + 1)
def pickM (M : Mem) (pb pv : List Nat) : Mem := ⟨pb.map fun b => ((M.blks[b]?).getD none).map (Blk.ren (invB pb) (invB pv)), pv.map fun h => ((M.vecs[h]?).getD none).map (Ent.ren (invB pb) (invB pv) fun t => terrIx M t pv 0)⟩
def pickE (E : Env) (pb pv : List Nat) : Env := ⟨fun i => E.ρ (pb.getD i 0), fun i => E.σ (pv.getD i 0)⟩

theorem pickM_blk {M : Mem} {pb pv : List Nat} {i : Nat} {x : Blk} (h : (pickM M pb pv).blks[i]? = some (some x)) : ∃ q y, pb[i]? = some q ∧ M.blks[q]? = some (some y) ∧ x = y.ren (invB pb) (invB pv) := by
  simp only [pickM, List.getElem?_map] at h
  cases hq : pb[i]? with
  | none => rw [hq] at h; cases h
  | some q =>
    rw [hq] at h
    simp only [Option.map_some, Option.some.injEq] at h
    cases hv : M.blks[q]? with
    | none => rw [hv] at h; cases h
    | some o =>
      rw [hv] at h
      cases o with
      | none => cases h
      | some y => simp only [Option.getD_some, Option.map_some, Option.some.injEq] at h; exact ⟨q, y, rfl, hv, h.symm⟩
theorem pickM_vec {M : Mem} {pb pv : List Nat} {i : Nat} {x : Ent} (h : (pickM M pb pv).vecs[i]? = some (some x)) : ∃ q y, pv[i]? = some q ∧ M.vecs[q]? = some (some y) ∧ x = y.ren (invB pb) (invB pv) fun t => terrIx M t pv 0 := by
  simp only [pickM, List.getElem?_map] at h
  cases hq : pv[i]? with
  | none => rw [hq] at h; cases h
  | some q =>
    rw [hq] at h
    simp only [Option.map_some, Option.some.injEq] at h
    cases hv : M.vecs[q]? with
    | none => rw [hv] at h; cases h
    | some o =>
      rw [hv] at h
      cases o with
      | none => cases h
      | some y => simp only [Option.getD_some, Option.map_some, Option.some.injEq] at h; exact ⟨q, y, rfl, hv, h.symm⟩
theorem pickM_aliveB {M : Mem} {pb pv : List Nat} {i q : Nat} (hq : pb[i]? = some q) (h : aliveB (pickM M pb pv) i = true) : aliveB M q = true := by
  unfold aliveB at h
  split at h
  · rename_i x hx
    obtain ⟨q', y, h1, h2, _⟩ := pickM_blk hx
    rw [hq] at h1; cases h1
    unfold aliveB; rw [h2]
  · cases h
theorem pickM_aliveV {M : Mem} {pb pv : List Nat} {i q : Nat} (hq : pv[i]? = some q) (h : aliveV (pickM M pb pv) i = true) : aliveV M q = true := by
  unfold aliveV at h
  split at h
  · rename_i x hx
    obtain ⟨q', y, h1, h2, _⟩ := pickM_vec hx
    rw [hq] at h1; cases h1
    unfold aliveV; rw [h2]
  · cases h

/-- what a told value is, told anew: names that are read the same -/
structure Ren (E : Env) (M : Mem) (fb fv : Nat → Option Nat) (E' : Env) (M' : Mem) : Prop where
  nb : ∀ i q, fb q = some i → i < M'.blks.length
  nv : ∀ i q, fv q = some i → i < M'.vecs.length
  ρ : ∀ i q, fb q = some i → E'.ρ i = E.ρ q
  σ : ∀ i q, fv q = some i → E'.σ i = E.σ q
  aB : ∀ i q, fb q = some i → aliveB M' i = true → aliveB M q = true
  aV : ∀ i q, fv q = some i → aliveV M' i = true → aliveV M q = true

theorem Ren.pick (E : Env) (M : Mem) (pb pv : List Nat) : Ren E M (invB pb) (invB pv) (pickE E pb pv) (pickM M pb pv) :=
  ⟨fun i q h => by simpa [pickM] using lt_of_get (invF_some h), fun i q h => by simpa [pickM] using lt_of_get (invF_some h), fun i q h => by simp [pickE, List.getD, invF_some h], fun i q h => by simp [pickE, List.getD, invF_some h], fun i q h => pickM_aliveB (invF_some h), fun i q h => pickM_aliveV (invF_some h)⟩

mutual
theorem Ren.sc {E E' : Env} {M M' : Mem} {fb fv : Nat → Option Nat} (r : Ren E M fb fv E' M') : ∀ a : AV, (a.ren fb fv).sc M'.blks.length M'.vecs.length = true
  | .lit v => rfl
  | .agg cs => by simp only [AV.ren, AV.sc]; exact r.scL cs
  | .tup cs => by simp only [AV.ren, AV.sc]; exact r.scL cs
  | .ptr b off => by
    simp only [AV.ren]
    cases h : fb b with
    | none => rfl
    | some i => simp only [AV.sc, decide_eq_true_eq]; exact r.nb i b h
  | .sl b off len cap => by
    simp only [AV.ren]
    cases h : fb b with
    | none => rfl
    | some i => simp only [AV.sc, decide_eq_true_eq]; exact r.nb i b h
  | .fn f caps => by simp only [AV.ren, AV.sc]; exact r.scL caps
  | .vec h => by
    simp only [AV.ren]
    cases h : fv h with
    | none => rfl
    | some i => simp only [AV.sc, decide_eq_true_eq]; exact r.nv i _ (by assumption)
  | .vptr h _ _ _ => by
    simp only [AV.ren]
    cases h : fv h with
    | none => rfl
    | some i => simp only [AV.sc, decide_eq_true_eq]; exact r.nv i _ (by assumption)
  | .bad => rfl
theorem Ren.scL {E E' : Env} {M M' : Mem} {fb fv : Nat → Option Nat} (r : Ren E M fb fv E' M') : ∀ l : List AV, Sx.scL M'.blks.length M'.vecs.length (renL fb fv l) = true
  | [] => rfl
  | a :: l => by simp only [renL, Sx.scL, Bool.and_eq_true]; exact ⟨r.sc a, r.scL l⟩
end
mutual
theorem Ren.conc {E E' : Env} {M M' : Mem} {fb fv : Nat → Option Nat} (r : Ren E M fb fv E' M') : ∀ a : AV, (a.ren fb fv).lv M'.live = true → a.lv M.live = true ∧ (a.ren fb fv).conc E' = a.conc E
  | .lit v, _ => ⟨rfl, rfl⟩
  | .agg cs, h => by
    simp only [AV.ren, AV.lv, AV.conc] at *
    obtain ⟨h1, h2⟩ := r.concL cs h
    exact ⟨h1, by rw [h2]⟩
  | .tup cs, h => by
    simp only [AV.ren, AV.lv, AV.conc] at *
    obtain ⟨h1, h2⟩ := r.concL cs h
    exact ⟨h1, by rw [h2]⟩
  | .ptr b off, h => by
    simp only [AV.ren] at *
    cases hi : fb b with
    | none => rw [hi] at h; cases h
    | some i =>
      rw [hi] at h
      simp only [AV.lv, live_even, AV.conc] at *
      exact ⟨r.aB i b hi h, by rw [r.ρ i b hi]⟩
  | .sl b off len cap, h => by
    simp only [AV.ren] at *
    cases hi : fb b with
    | none => rw [hi] at h; cases h
    | some i =>
      rw [hi] at h
      simp only [AV.lv, live_even, AV.conc] at *
      exact ⟨r.aB i b hi h, by rw [r.ρ i b hi]⟩
  | .fn f caps, h => by
    simp only [AV.ren, AV.lv, AV.conc] at *
    obtain ⟨h1, h2⟩ := r.concL caps h
    exact ⟨h1, by rw [h2]⟩
  | .vec q, h => by
    simp only [AV.ren] at *
    cases hi : fv q with
    | none => rw [hi] at h; cases h
    | some i =>
      rw [hi] at h
      simp only [AV.lv, live_odd, AV.conc] at *
      exact ⟨r.aV i q hi h, r.σ i q hi⟩
  | .vptr q _ _ _, h => by
    simp only [AV.ren] at *
    cases hi : fv q with
    | none => rw [hi] at h; cases h
    | some i =>
      rw [hi] at h
      simp only [AV.lv, live_odd, AV.conc] at *
      refine ⟨r.aV i q hi h, ?_⟩
      unfold Env.va; rw [r.σ i q hi]
  | .bad, h => by cases h
theorem Ren.concL {E E' : Env} {M M' : Mem} {fb fv : Nat → Option Nat} (r : Ren E M fb fv E' M') : ∀ l : List AV, lvL M'.live (renL fb fv l) = true → lvL M.live l = true ∧ Sx.concL E' (renL fb fv l) = Sx.concL E l
  | [], _ => ⟨rfl, rfl⟩
  | a :: l, h => by
    simp only [renL, lvL, Bool.and_eq_true, Sx.concL] at *
    obtain ⟨h1, h2⟩ := r.conc a h.1
    obtain ⟨h3, h4⟩ := r.concL l h.2
    exact ⟨⟨h1, h3⟩, by rw [h2, h4]⟩
end
theorem RelS.ren {E E' : Env} {M M' : Mem} {fb fv : Nat → Option Nat} (r : Ren E M fb fv E' M') {a : AV} {v : Value} (h : RelS E M a v) : RelS E' M' (a.ren fb fv) v :=
  ⟨r.sc a, fun hl => let ⟨h1, h2⟩ := r.conc a hl; (h.2 h1).trans h2.symm⟩
theorem RelL.ren {E E' : Env} {M M' : Mem} {fb fv : Nat → Option Nat} (r : Ren E M fb fv E' M') {l : List AV} {vs : List Value} (h : RelL E M l vs) : RelL E' M' (renL fb fv l) vs := by
  rw [renL_eq]
  refine ⟨by rw [List.length_map]; exact h.len, fun i a v ha hv => ?_⟩
  rw [List.getElem?_map] at ha
  cases hx : l[i]? with
  | none => rw [hx] at ha; cases ha
  | some x =>
    rw [hx] at ha
    simp only [Option.map_some, Option.some.injEq] at ha
    subst ha
    exact (h.at_ i x v hx hv).ren r

/-! a value that names nothing -/
theorem RelS.closed {E E' : Env} {M M' : Mem} {n : Value} {v : Value} (h : RelS E M (.lit n) v) : RelS E' M' (.lit n) v := ⟨rfl, fun _ => h.2 rfl⟩

theorem fits_lit {k : CK} {a : AV} (h : k.fits a = true) (hk : k ≠ .any) : ∃ v, a = .lit v := by
  cases k with
  | any => exact absurd rfl hk
  | int k => cases a <;> first | exact ⟨_, rfl⟩ | cases h
  | bool => cases a <;> first | exact ⟨_, rfl⟩ | cases h
  | str => cases a <;> first | exact ⟨_, rfl⟩ | cases h
theorem noAny_lit : ∀ {sh : List CK} {l : List AV}, noAny sh = true → fitsAll sh l = true → ∀ c, c ∈ l → ∃ v, c = .lit v
  | [], [], _, _, c, hc => by cases hc
  | [], _ :: _, _, h, _, _ => by cases h
  | _ :: _, [], _, h, _, _ => by cases h
  | k :: ks, a :: l, hn, h, c, hc => by
    simp only [fitsAll, Bool.and_eq_true] at h
    have hk : k ≠ .any := fun e => by subst e; cases hn
    have hn' : noAny ks = true := by cases k <;> first | exact hn | cases hn
    rcases List.mem_cons.1 hc with rfl | hc
    · exact fits_lit h.1 hk
    · exact noAny_lit hn' h.2 c hc
theorem shape_lit {ia : Bool} {sh : List CK} {x : AV} (hn : noAny sh = true) (h : x.shape ia sh = true) : ∀ c, c ∈ x.cells → ∃ v, c = .lit v := by
  intro c hc
  unfold AV.shape at h
  split at h
  · exact noAny_lit hn h c hc
  · rename_i a
    obtain ⟨v, rfl⟩ := noAny_lit hn h x (by simp)
    have hk : ∃ k, sh = [k] := by
      cases sh with
      | nil => cases h
      | cons k ks => cases ks with
        | nil => exact ⟨k, rfl⟩
        | cons _ _ => simp [fitsAll] at h
    obtain ⟨k, rfl⟩ := hk
    cases v with
    | agg cs => simp [AV.cells] at hc; obtain ⟨v, _, rfl⟩ := hc; exact ⟨v, rfl⟩
    | _ => simp [AV.cells] at hc; exact ⟨_, hc⟩
  · cases h

theorem renL_lits (fb fv : Nat → Option Nat) (l : List Value) : renL fb fv (l.map AV.lit) = l.map AV.lit := by
  induction l with
  | nil => rfl
  | cons a l ih => simp [renL, AV.ren, ih]
theorem ren_cells (fb fv : Nat → Option Nat) (a : AV) : (a.ren fb fv).cells = renL fb fv a.cells := by
  cases a with
  | lit v => cases v with
    | agg cs => simp only [AV.ren, AV.cells]; exact (renL_lits fb fv _).symm
    | _ => rfl
  | agg cs => rfl
  | tup vs => rfl
  | fn f caps => rfl
  | bad => rfl
  | ptr b off => simp only [AV.ren, AV.cells, renL]; cases fb b <;> rfl
  | sl b off len cap => simp only [AV.ren, AV.cells, renL]; cases fb b <;> rfl
  | vec h => simp only [AV.ren, AV.cells, renL]; cases fv h <;> rfl
  | vptr h _ _ _ => simp only [AV.ren, AV.cells, renL]; cases fv h <;> rfl
theorem fits_ren {k : CK} {a : AV} (fb fv : Nat → Option Nat) (h : k.fits a = true) : k.fits (a.ren fb fv) = true := by
  cases a with
  | lit v => exact h
  | agg cs => cases k <;> cases h
  | tup vs => cases k <;> cases h
  | fn f caps => cases k <;> first | rfl | cases h
  | bad => exact h
  | ptr b off => simp only [AV.ren]; cases fb b <;> (cases k <;> first | rfl | cases h)
  | sl b off len cap => simp only [AV.ren]; cases fb b <;> (cases k <;> first | rfl | cases h)
  | vec h' => simp only [AV.ren]; cases fv h' <;> (cases k <;> first | rfl | cases h)
  | vptr h' _ _ _ => simp only [AV.ren]; cases fv h' <;> (cases k <;> first | rfl | cases h)
theorem fitsAll_ren (fb fv : Nat → Option Nat) : ∀ {ks : List CK} {l : List AV}, fitsAll ks l = true → fitsAll ks (renL fb fv l) = true
  | [], [], _ => rfl
  | [], _ :: _, h => by cases h
  | _ :: _, [], h => by cases h
  | k :: ks, a :: l, h => by
    simp only [fitsAll, renL, Bool.and_eq_true] at *
    exact ⟨fits_ren fb fv h.1, fitsAll_ren fb fv h.2⟩
theorem shape_ren {ia : Bool} {sh : List CK} {x : AV} (fb fv : Nat → Option Nat) (h : x.shape ia sh = true) : (x.ren fb fv).shape ia sh = true := by
  cases ia with
  | true => cases x <;> first | exact fitsAll_ren fb fv h | cases h
  | false =>
    have : fitsAll sh [x] = true := by cases x <;> exact h
    have := fitsAll_ren fb fv this
    simp only [renL] at this
    generalize x.ren fb fv = y at *
    cases y <;> exact this

/-- an entry's cells, told anew -/
theorem VecOk.ren {E E' : Env} {B : Nat → Prop} {M M' : Mem} {fb fv : Nat → Option Nat} (r : Ren E M fb fv E' M') {w : World} {h i : Nat} {e : Ent} {a : Addr} {cap : Nat} {cs : Array Value} {fz : Nat × Nat} (hv : VecOk E B M w h e a cap cs fz) (hσ : E'.σ i = E.σ h) (tf : Nat → Nat)
    (hm : e.own = true → ∀ (b : Nat) (x : Blk), M'.blks[b]? = some (some x) → E'.ρ b ≠ a.block) : VecOk E' B M' w i (e.ren fb fv tf) a cap cs fz := by
  have hlen : (e.ren fb fv tf).cont.length = e.cont.length := by
    unfold Ent.ren
    cases noAny e.sh <;> simp [renL_eq]
  have hcont : ∀ (j : Nat) (x : AV), (e.ren fb fv tf).cont[j]? = some x → ∃ y, e.cont[j]? = some y ∧ y.shape e.isAgg e.sh = true ∧ ((noAny e.sh = true ∧ x = y) ∨ x = y.ren fb fv) := by
    intro j x hx
    unfold Ent.ren at hx
    cases hn : noAny e.sh with
    | true => simp only [hn, cond_true] at hx; exact ⟨x, hx, hv.shape j x hx, .inl ⟨rfl, rfl⟩⟩
    | false =>
      simp only [hn, cond_false, renL_eq, List.getElem?_map] at hx
      cases hy : e.cont[j]? with
      | none => rw [hy] at hx; cases hx
      | some y =>
        rw [hy] at hx
        simp only [Option.map_some, Option.some.injEq] at hx
        exact ⟨y, rfl, hv.shape j y hy, .inr hx.symm⟩
  exact
    { val := by rw [hσ, hlen]; exact hv.val
      spot := hv.spot
      le := by rw [hlen]; exact hv.le
      blk := hv.blk, room := by rw [hlen]; exact hv.room
      shape := fun j x hx => by
        obtain ⟨y, _, h2, h3⟩ := hcont j x hx
        rcases h3 with ⟨_, rfl⟩ | rfl
        · exact h2
        · exact shape_ren fb fv h2
      cell := fun j x hx q c hc => by
        obtain ⟨y, h1, h2, h3⟩ := hcont j x hx
        rcases h3 with ⟨hn, rfl⟩ | rfl
        · obtain ⟨u, g1, g2⟩ := hv.cell j x h1 q c hc
          obtain ⟨v, rfl⟩ := shape_lit hn h2 c (List.mem_of_getElem? hc)
          exact ⟨u, g1, g2.closed⟩
        · rw [ren_cells, renL_eq, List.getElem?_map] at hc
          cases hy : y.cells[q]? with
          | none => rw [hy] at hc; cases hc
          | some c' =>
            rw [hy] at hc
            simp only [Option.map_some, Option.some.injEq] at hc
            subst hc
            obtain ⟨u, g1, g2⟩ := hv.cell j y h1 q c' hy
            exact ⟨u, g1, g2.ren r⟩
      old := hv.old, head := hv.head
      mine := fun ho => ⟨(hv.mine ho).1, (hv.mine ho).2.1, hm ho⟩ }

theorem ren_cont_nil {fb fv : Nat → Option Nat} {tf : Nat → Nat} {e : Ent} (h : e.cont = []) : (e.ren fb fv tf).cont = [] := by
  unfold Ent.ren
  cases noAny e.sh <;> simp [h, renL]
theorem RepM.pick {E : Env} {w0 : Bs} {w : World} {M : Mem} (hR : RepM E w0 M w) {pb : List Nat} (pv : List Nat) (hn : pb.Nodup) : RepM (pickE E pb pv) w0 (pickM M pb pv) w := by
  have r := Ren.pick E M pb pv
  have pρ : ∀ i q, pb[i]? = some q → (pickE E pb pv).ρ i = E.ρ q := fun i q h => by simp [pickE, List.getD, h]
  have pσ : ∀ i q, pv[i]? = some q → (pickE E pb pv).σ i = E.σ q := fun i q h => by simp [pickE, List.getD, h]
  have hva : ∀ {i q : Nat}, pv[i]? = some q → (pickE E pb pv).bk i = E.bk q := fun {i q} h => by unfold Env.bk; rw [pσ i q h]
  refine ⟨hR.below, fun b x h => ?_, fun b b' x x' h h' he => ?_, fun i e he => ?_, fun i i' e e' he he' ho ho' g hb hb' => ?_⟩
  · obtain ⟨q, y, h1, h2, rfl⟩ := pickM_blk h
    obtain ⟨g1, cs, g2, g3⟩ := hR.blk q y h2
    rw [pρ b q h1]
    exact ⟨g1, cs, g2, g3.ren r⟩
  · obtain ⟨q, y, h1, h2, rfl⟩ := pickM_blk h
    obtain ⟨q', y', h1', h2', rfl⟩ := pickM_blk h'
    rw [pρ b q h1, pρ b' q' h1'] at he
    have hq := hR.inj q q' y y' h2 h2' he
    subst hq
    have := invF_at (i := 0) hn h1
    rw [invF_at hn h1'] at this
    simpa using this.symm
  · obtain ⟨q, y, h1, h2, rfl⟩ := pickM_vec he
    rcases hR.vec q y h2 with ⟨hz, hz'⟩ | ⟨a, cap, cs, fz, hV⟩
    · exact .inl ⟨ren_cont_nil hz, (pσ i q h1).trans hz'⟩
    refine .inr ⟨a, cap, cs, fz, hV.ren r (pσ i q h1) _ fun ho b x hx => ?_⟩
    obtain ⟨p, z, g1, g2, _⟩ := pickM_blk hx
    rw [pρ b p g1]
    exact (hV.mine ho).2.2 p z g2
  · obtain ⟨q, y, h1, h2, rfl⟩ := pickM_vec he
    obtain ⟨q', y', h1', h2', rfl⟩ := pickM_vec he'
    rw [hva h1] at hb
    rw [hva h1'] at hb'
    simp only [Ent.ren]
    rw [hR.terr q q' y y' h2 h2' ho ho' g hb hb']

/-! a base of its own: what is the walk's own is lent, and nothing else -/
def lend (E : Env) (M : Mem) (w : World) : Bs where
  w0 := w
  Wr i := w.heap.size ≤ i ∨ (∃ b x, M.blks[b]? = some (some x) ∧ x.own = true ∧ E.ρ b = i) ∨ (∃ h e, M.vecs[h]? = some (some e) ∧ e.own = true ∧ E.bk h = some i)
  up _ h := .inl h
theorem lend_wr {E : Env} {w0 : Bs} {w : World} {M : Mem} (hR : RepM E w0 M w) {i : Nat} (h : (lend E M w).Wr i) : w0.Wr i := by
  rcases h with h | ⟨b, x, h1, h2, rfl⟩ | ⟨q, e, h1, h2, h3⟩
  · exact w0.up _ (Nat.le_trans hR.below.size h)
  · exact (hR.blk b x h1).1.1 h2
  · rcases hR.vec q e h1 with ⟨_, hz⟩ | ⟨a, cap, cs, fz, hv⟩
    · rw [bk_nil hz] at h3; cases h3
    rw [hv.bk] at h3
    simp only [Option.some.injEq] at h3
    rw [← h3]; exact (hv.mine h2).1
theorem RepM.rebase {E : Env} {w0 : Bs} {w : World} {M : Mem} (hR : RepM E w0 M w) : RepM E (lend E M w) M w := by
  refine ⟨Keeps.refl _, fun b x hx => ?_, hR.inj, fun i e he => ?_, hR.terr⟩
  · obtain ⟨⟨g1, g2⟩, cs, g3, g4⟩ := hR.blk b x hx
    exact ⟨⟨fun ho => .inr (.inl ⟨b, x, hx, ho, rfl⟩), fun ho hh => g2 ho (lend_wr hR hh)⟩, cs, g3, g4⟩
  · rcases hR.vec i e he with hz | ⟨a, cap, cs, fz, hv⟩
    · exact .inl hz
    refine .inr ⟨a, cap, cs, fz, { hv with old := fun ho hh => hv.old ho (lend_wr hR hh), mine := fun ho => ⟨.inr (.inr ⟨i, e, he, ho, hv.bk⟩), (hv.mine ho).2⟩ }⟩
end Go.Sx
