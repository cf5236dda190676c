import Derived.Test.YtplfijdonikaoaaSxC
set_option linter.unusedVariables false
set_option linter.unusedSimpArgs false
namespace Go.Sx
open Go Go.RowKit

/-- a name more for a slice of a slice that is known as a list: nothing in the world turns -/
def Mem.addV (M : Mem) (e : Ent) : Mem := { M with vecs := M.vecs ++ [some e] }
/-- the same blocks; more handles, perhaps -/
structure Grow (M M' : Mem) : Prop where
  blk : M'.blks = M.blks
  vec : ∀ (h : Nat) (e : Ent), M.vecs[h]? = some (some e) → M'.vecs[h]? = some (some e)
  nh : M.vecs.length ≤ M'.vecs.length
theorem Grow.refl (M : Mem) : Grow M M := ⟨rfl, fun _ _ h => h, Nat.le_refl _⟩
theorem Grow.trans {M M' M'' : Mem} (h : Grow M M') (h' : Grow M' M'') : Grow M M'' := ⟨h'.blk.trans h.blk, fun i e hi => h'.vec i e (h.vec i e hi), Nat.le_trans h.nh h'.nh⟩
theorem Grow.addV (M : Mem) (e : Ent) : Grow M (M.addV e) := ⟨rfl, fun h e' hh => by
  simp only [Mem.addV]
  rw [List.getElem?_append_left (by
    rcases Nat.lt_or_ge h M.vecs.length with hl | hl
    · exact hl
    · rw [List.getElem?_eq_none hl] at hh; cases hh)]
  exact hh, by simp [Mem.addV]⟩
def Env.addV (E : Env) (n : Nat) (v : Value) : Env := { E with σ := fun h => if h = n then v else E.σ h }

theorem aliveV_addV (M : Mem) (e : Ent) (i : Nat) (hi : i < M.vecs.length) : aliveV (M.addV e) i = aliveV M i := by
  unfold aliveV Mem.addV
  simp only [List.getElem?_append_left hi]
theorem Mem.addV_le (M : Mem) (e : Ent) : Mem.le M (M.addV e) :=
  ⟨Nat.le_refl _, by simp [Mem.addV], fun _ _ h => h, fun i hi h => by rwa [aliveV_addV M e i hi] at h⟩
theorem Env.addV_le (E : Env) (n m : Nat) (v : Value) : Env.le m n E (E.addV n v) := ⟨fun _ _ => rfl, fun b hb => by simp [Env.addV]; omega⟩
theorem Step.addV (E : Env) (M : Mem) (e : Ent) (v : Value) : Step E M (E.addV M.vecs.length v) (M.addV e) := ⟨M.addV_le e, E.addV_le _ _ _⟩

theorem VecOk.step {E E' : Env} {B : Nat → Prop} {M M' : Mem} {w : World} {h : Nat} {e : Ent} {a : Addr} {cap : Nat} {cs : Array Value} {fz : Nat × Nat} (hs : Step E M E' M') (hb : M'.blks = M.blks) (hh : h < M.vecs.length)
    (hv : VecOk E B M w h e a cap cs fz) : VecOk E' B M' w h e a cap cs fz :=
  { hv with
    val := (hs.env.σ h hh).trans hv.val
    cell := fun i x hx j c hc => let ⟨u, h1, h2⟩ := hv.cell i x hx j c hc; ⟨u, h1, h2.step hs⟩
    mine := fun ho => let ⟨h1, h2, h3⟩ := hv.mine ho; ⟨h1, h2, fun b y hy => by rw [hb] at hy; rw [hs.env.ρ b (lt_of_get hy)]; exact h3 b y hy⟩ }

theorem va_addV_old (E : Env) (n h : Nat) (v : Value) (hh : h ≠ n) : (E.addV n v).va h = E.va h := by simp [Env.va, Env.addV, hh]
theorem bk_addV_old (E : Env) (n h : Nat) (v : Value) (hh : h ≠ n) : (E.addV n v).bk h = E.bk h := by simp [Env.bk, Env.addV, hh]

theorem RepM.addV {E : Env} {w0 : Bs} {M : Mem} {w : World} (h : RepM E w0 M w) (e : Ent) (v : Value)
    (hv : (e.cont = [] ∧ v = nilV) ∨ ∃ a cap cs fz, VecOk (E.addV M.vecs.length v) w0.Wr (M.addV e) w M.vecs.length e a cap cs fz)
    (ht : e.own = true → ∀ (h' : Nat) (e' : Ent), M.vecs[h']? = some (some e') → e'.own = true → ∀ g, (E.addV M.vecs.length v).bk M.vecs.length = some g → E.bk h' = some g → e.terr = e'.terr) :
    RepM (E.addV M.vecs.length v) w0 (M.addV e) w := by
  have hs := Step.addV E M e v
  have cases_ : ∀ (i : Nat) (e' : Ent), (M.addV e).vecs[i]? = some (some e') → (i < M.vecs.length ∧ M.vecs[i]? = some (some e')) ∨ (i = M.vecs.length ∧ e' = e) := by
    intro i e' he'
    simp only [Mem.addV] at he'
    rcases Nat.lt_or_ge i M.vecs.length with hi | hi
    · rw [List.getElem?_append_left hi] at he'; exact .inl ⟨hi, he'⟩
    · have hl := lt_of_get he'
      simp at hl
      have : i = M.vecs.length := by omega
      subst this
      simp at he'
      exact .inr ⟨rfl, he'.symm⟩
  refine ⟨h.below, fun b x hx => ?_, h.inj, fun i e' he' => ?_, fun i i' e1 e2 h1 h2 o1 o2 g hb hb' => ?_⟩
  · obtain ⟨h1, cs, h2, h3⟩ := h.blk b x hx
    exact ⟨h1, cs, h2, h3.step hs⟩
  · rcases cases_ i e' he' with ⟨hi, he⟩ | ⟨rfl, rfl⟩
    · rcases h.vec i e' he with ⟨hz, hz'⟩ | ⟨a, cap, cs, fz, hv'⟩
      · exact .inl ⟨hz, by simp only [Env.addV]; rw [if_neg (by omega)]; exact hz'⟩
      exact .inr ⟨a, cap, cs, fz, hv'.step hs rfl hi⟩
    · exact hv.imp (fun ⟨h1, h2⟩ => ⟨h1, by simp [Env.addV, h2]⟩) id
  · rcases cases_ i e1 h1 with ⟨hi, he⟩ | ⟨rfl, rfl⟩ <;> rcases cases_ i' e2 h2 with ⟨hi', he'⟩ | ⟨rfl, rfl⟩
    · rw [bk_addV_old E _ i v (by omega)] at hb
      rw [bk_addV_old E _ i' v (by omega)] at hb'
      exact h.terr i i' e1 e2 he he' o1 o2 g hb hb'
    · rw [bk_addV_old E _ i v (by omega)] at hb
      exact (ht o2 i e1 he o1 g hb' hb).symm
    · rw [bk_addV_old E _ i' v (by omega)] at hb'
      exact ht o1 i' e2 he' o2 g hb hb'
    · rfl

/-! addresses -/
def fieldA {R : Type} (P : Program) (s : TypeId) (x : AV) (f : Nat) (k : AV → Option R) : Option R :=
  match P.underlying s with
  | some (.struct fs) =>
    match fs[f]? with
    | some fd =>
      match sizeT P fd.type with
      | some n =>
        bif decide (n = 0) then none else
        match x with
        | .ptr b off => k (.ptr b (off + fd.offset))
        | .vptr h i z j => k (.vptr h i z (j + fd.offset))
        | _ => none
      | none => none
    | none => none
  | _ => none

theorem fieldA_sound {R : Type} {P : Program} {s : TypeId} {x : AV} {f : Nat} {k : AV → Option R} {r : R} (h : fieldA P s x f k = some r) :
    ∃ z, k z = some r ∧ (∀ n m, x.sc n m = true → z.sc n m = true) ∧ ∀ E w, (Instr.fieldAt s (x.conc E) f).run P w = .ok (z.conc E) w := by
  unfold fieldA at h
  split at h
  · rename_i fs hu
    split at h
    · rename_i fd hf
      split at h
      · rename_i n hn
        simp only [cond_eq_ite, decide_eq_true_eq] at h
        split at h
        · cases h
        · rename_i hn0
          have hfp : ∀ b o w, (fieldPlace ⟨b, o, none⟩ fd).run P w = .ok ⟨b, o + fd.offset, none⟩ w := by
            intro b o w
            unfold fieldPlace
            simp only [Sem.run_bind, run_sizeOf hn, Result.andThen_ok, hn0, if_false, Sem.run_pure, addr_add]
          split at h
          · refine ⟨_, h, fun n m hs => hs, fun E w => ?_⟩
            simp only [Instr.fieldAt, Sem.run_bind, run_underlying hu, Result.andThen_ok, hf, AV.conc, Instr.sureAddr, Sem.run_pure, hfp]
          · refine ⟨_, h, fun n m hs => hs, fun E w => ?_⟩
            simp only [Instr.fieldAt, Sem.run_bind, run_underlying hu, Result.andThen_ok, hf, AV.conc, Instr.sureAddr, Sem.run_pure, hfp, Nat.add_assoc]
          · cases h
      · cases h
    · cases h
  · cases h

def indexA {R : Type} (P : Program) (M : Mem) (t : TypeId) (x ix : AV) (k : AV → Option R) : Option R :=
  match ix with
  | .lit (.int _ i) =>
    match P.underlying t with
    | some (.array len el) =>
      match sizeT P el with
      | some n =>
        match x with
        | .ptr b off => if 0 ≤ i ∧ i < (len : Int) then k (.ptr b (off + i.toNat * n)) else none
        | .vptr h q z j => if 0 ≤ i ∧ i < (len : Int) then k (.vptr h q z (j + i.toNat * n)) else none
        | _ => none
      | none => none
    | some (.slice el) =>
      match sizeT P el with
      | some n =>
        match x with
        | .sl b off len _ => if 0 ≤ i ∧ i < (len : Int) then k (.ptr b (off + i.toNat * n)) else none
        | .vec h =>
          match M.vecs[h]? with
          | some (some e) => if 0 ≤ i ∧ i < (e.cont.length : Int) then k (.vptr h i.toNat n 0) else none
          | _ => none
        | _ => none
      | none => none
    | _ => none
  | _ => none

theorem RepM.slc {E : Env} {w0 : Bs} {M : Mem} {w : World} (h : RepM E w0 M w) {i : Nat} {e : Ent} (he : M.vecs[i]? = some (some e)) : ∃ p l c, E.σ i = .slice p l c := by
  rcases h.vec i e he with ⟨_, hz⟩ | ⟨a, cap, cs, fz, hv⟩
  · exact ⟨_, _, _, hz⟩
  · exact ⟨_, _, _, hv.val⟩
theorem RepM.val {E : Env} {w0 : Bs} {M : Mem} {w : World} (h : RepM E w0 M w) {i : Nat} {e : Ent} (he : M.vecs[i]? = some (some e)) (hne : 0 < e.cont.length) :
    ∃ cap, E.σ i = .slice (some ⟨(E.va i).block, (E.va i).off, none⟩) e.cont.length cap ∧ e.cont.length ≤ cap := by
  rcases h.vec i e he with ⟨hz, _⟩ | ⟨a, cap, cs, fz, hv⟩
  · rw [hz] at hne; simp at hne
  have h1 : E.va i = a := by simp [Env.va, hv.val]
  refine ⟨cap, ?_, hv.le⟩
  rw [hv.val, h1]
  obtain ⟨b, o, s⟩ := a
  have := hv.spot
  simp only at this
  subst this
  rfl

theorem indexA_sound {R : Type} {P : Program} {M : Mem} {t : TypeId} {x ix : AV} {k : AV → Option R} {r : R} (h : indexA P M t x ix k = some r) :
    ∃ z, k z = some r ∧ (∀ n m, x.sc n m = true → z.sc n m = true) ∧ ∀ E w0 w, RepM E w0 M w → (Instr.indexAt t (x.conc E) (ix.conc E)).run P w = .ok (z.conc E) w := by
  unfold indexA at h
  split at h
  · rename_i kk i
    split at h
    · rename_i len el hu
      split at h
      · rename_i n hn
        split at h
        · rename_i b off
          split at h
          · rename_i hi
            refine ⟨_, h, fun n m hs => hs, fun E w0 w hR => ?_⟩
            simp only [Instr.indexAt, AV.conc, asIntOf, Sem.run_bind, Sem.run_pure, Result.andThen_ok, run_underlying hu, Instr.sureAddr, if_pos hi, run_sizeOf hn, addr_add]
          · cases h
        · rename_i hh q z j
          split at h
          · rename_i hi
            refine ⟨_, h, fun n m hs => hs, fun E w0 w hR => ?_⟩
            simp only [Instr.indexAt, AV.conc, asIntOf, Sem.run_bind, Sem.run_pure, Result.andThen_ok, run_underlying hu, Instr.sureAddr, if_pos hi, run_sizeOf hn, addr_add, Nat.add_assoc]
          · cases h
        · cases h
      · cases h
    · rename_i el hu
      split at h
      · rename_i n hn
        split at h
        · rename_i b off len cap
          split at h
          · rename_i hi
            refine ⟨_, h, fun n m hs => hs, fun E w0 w hR => ?_⟩
            simp only [Instr.indexAt, AV.conc, asIntOf, Sem.run_bind, Sem.run_pure, Result.andThen_ok, run_underlying hu, if_pos hi, run_sizeOf hn, addr_add]
          · cases h
        · rename_i hh
          split at h
          · rename_i e he
            split at h
            · rename_i hi
              refine ⟨_, h, fun n m hs => hs, fun E w0 w hR => ?_⟩
              obtain ⟨cap, hv, _⟩ := hR.val he (by omega)
              simp only [Instr.indexAt, AV.conc, asIntOf, Sem.run_bind, Sem.run_pure, Result.andThen_ok, run_underlying hu, hv, if_pos hi, run_sizeOf hn, addr_add, Nat.add_zero]
            · cases h
          · cases h
        · cases h
      · cases h
    · cases h
  · cases h

end Go.Sx
