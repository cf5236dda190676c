import Derived.Test.YtplfijdonikaoaaSxF
set_option linter.unusedVariables false
set_option linter.unusedSimpArgs false
namespace Go.Sx
open Go Go.RowKit

def litOf : AV → Option Value
  | .lit v => some v
  | _ => none
def litsOf : List AV → Option (List Value)
  | [] => some []
  | a :: l => match litOf a, litsOf l with
    | some v, some vs => some (v :: vs)
    | _, _ => none

theorem litsOf_eq {l : List AV} : ∀ {vs : List Value}, litsOf l = some vs → l = vs.map AV.lit := by
  induction l with
  | nil => intro vs h; simp only [litsOf, Option.some.injEq] at h; subst h; rfl
  | cons a l ih =>
    intro vs h
    simp only [litsOf] at h
    split at h
    · rename_i v us hv hus
      simp only [Option.some.injEq] at h
      subst h
      rw [ih hus]
      cases a <;> simp [litOf] at hv
      subst hv; rfl
    · cases h

def isSliceT (P : Program) (ts : Array TypeId) : Bool :=
  match ts[0]? with
  | some t => match P.underlying t with
    | some (.slice _) => true
    | _ => false
  | none => false

def builtinA {R : Type} (P : Program) (M : Mem) (b : Builtin) (ts : Array TypeId) (ty : TypeId) (args : List AV) (k : AV → Option R) : Option R :=
  match b with
  | .len =>
    match args with
    | [.lit v] => match pureRun P (Builtin.len_ ts ty #[v]) with
      | some u => k (.lit u)
      | none => none
    | [.sl _ _ n _] => bif isSliceT P ts then k (.lit (goInt n)) else none
    | [.vec h] => match M.vecs[h]? with
      | some (some e) => bif isSliceT P ts then k (.lit (goInt e.cont.length)) else none
      | _ => none
    | _ => none
  | .min => match litsOf args with
    | some vs => match pureRun P (Builtin.min_ ts ty vs.toArray) with
      | some u => k (.lit u)
      | none => none
    | none => none
  | .max => match litsOf args with
    | some vs => match pureRun P (Builtin.max_ ts ty vs.toArray) with
      | some u => k (.lit u)
      | none => none
    | none => none
  | _ => none

theorem run_len_sliceT {P : Program} {ts : Array TypeId} {ty : TypeId} (h : isSliceT P ts = true) (p : Option Addr) (n c : Nat) (w : World) : (Builtin.len_ ts ty #[.slice p n c]).run P w = .ok (goInt n) w := by
  unfold isSliceT at h
  split at h
  · rename_i t ht
    split at h
    · rename_i e hu
      unfold Builtin.len_
      simp [ht, run_underlying hu]
    · cases h
  · cases h

theorem builtinA_sound {R : Type} {P : Program} {M : Mem} {b : Builtin} {ts : Array TypeId} {ty : TypeId} {args : List AV} {k : AV → Option R} {r : R} (h : builtinA P M b ts ty args k = some r) :
    ∃ u : Value, k (.lit u) = some r ∧ ∀ E w0 w (cs : Array Bool), RepM E w0 M w → (builtin b ts ty cs (concL E args).toArray).run P w = .ok (.value u) w := by
  unfold builtinA at h
  split at h
  · split at h
    · rename_i v
      split at h
      · rename_i u hu
        refine ⟨u, h, fun E w0 w cs hR => ?_⟩
        simp only [builtin, concL, AV.conc, Sem.run_bind, pureRun_run _ w hu, Result.andThen_ok, Sem.run_pure]
      · cases h
    · rename_i n _
      simp only [cond_eq_ite] at h
      split at h
      · rename_i hs
        refine ⟨_, h, fun E w0 w cs hR => ?_⟩
        simp only [builtin, concL, AV.conc, Sem.run_bind, run_len_sliceT hs, Result.andThen_ok, Sem.run_pure]
      · cases h
    · rename_i q
      split at h
      · rename_i e he
        simp only [cond_eq_ite] at h
        split at h
        · rename_i hs
          refine ⟨_, h, fun E w0 w cs hR => ?_⟩
          rcases hR.vec _ e he with ⟨hz, hz'⟩ | ⟨a, cap, cs', fz, hv'⟩
          · simp only [builtin, concL, AV.conc, hz', nilV, Sem.run_bind, run_len_sliceT hs, Result.andThen_ok, Sem.run_pure, hz, List.length_nil]
          have hv := hv'.val
          simp only [builtin, concL, AV.conc, hv, Sem.run_bind, run_len_sliceT hs, Result.andThen_ok, Sem.run_pure]
        · cases h
      · cases h
    · cases h
  · split at h
    · rename_i vs hvs
      split at h
      · rename_i u hu
        refine ⟨u, h, fun E w0 w cs hR => ?_⟩
        rw [litsOf_eq hvs, concL_lits]
        simp only [builtin, Sem.run_bind, pureRun_run _ w hu, Result.andThen_ok, Sem.run_pure]
      · cases h
    · cases h
  · split at h
    · rename_i vs hvs
      split at h
      · rename_i u hu
        refine ⟨u, h, fun E w0 w cs hR => ?_⟩
        rw [litsOf_eq hvs, concL_lits]
        simp only [builtin, Sem.run_bind, pureRun_run _ w hu, Result.andThen_ok, Sem.run_pure]
      · cases h
    · cases h
  · cases h

def arrayA {R : Type} (P : Program) (M : Mem) (t : TypeId) (x : AV) (k : AV → Option R) : Option R :=
  match P.underlying t with
  | some (.array n el) =>
    match x with
    | .sl b off len _ => bif decide (n ≤ len) then k (.ptr b off) else none
    | .vec h => match M.vecs[h]? with
      | some (some e) => if 0 < n ∧ n ≤ e.cont.length then k (.vptr h 0 e.sh.length 0) else none
      | _ => none
    | _ => none
  | _ => none

theorem arrayA_sound {R : Type} {P : Program} {M : Mem} {t : TypeId} {x : AV} {k : AV → Option R} {r : R} (h : arrayA P M t x k = some r) :
    ∃ z, k z = some r ∧ (∀ n m, x.sc n m = true → z.sc n m = true) ∧ ∀ E w0 w, RepM E w0 M w → (Instr.arrayAt t (x.conc E)).run P w = .ok (z.conc E) w := by
  unfold arrayA at h
  split at h
  · rename_i n el hu
    split at h
    · rename_i b off len cap
      simp only [cond_eq_ite, decide_eq_true_eq] at h
      split at h
      · rename_i hn
        refine ⟨_, h, fun _ _ hs => hs, fun E w0 w hR => ?_⟩
        simp only [Instr.arrayAt, Sem.run_bind, run_underlying hu, Result.andThen_ok, AV.conc]
        rw [if_neg (by omega)]; rfl
      · cases h
    · rename_i q
      split at h
      · rename_i e he
        split at h
        · rename_i hn
          refine ⟨_, h, fun _ _ hs => hs, fun E w0 w hR => ?_⟩
          obtain ⟨cap, hv, _⟩ := hR.val he (by omega)
          simp only [Instr.arrayAt, Sem.run_bind, run_underlying hu, Result.andThen_ok, AV.conc, hv]
          rw [if_neg (by omega)]
          simp
        · cases h
      · cases h
    · cases h
  · cases h

def nilOk : AV → Bool
  | .ptr _ _ | .vptr _ _ _ _ | .fn _ _ => true
  | .lit (.pointer (some _)) => true
  | .lit (.func (.func _) _ _) => true
  | _ => false

theorem nilOk_sound {P : Program} {E : Env} {x : AV} (h : nilOk x = true) (o : Oper) (a : Act) (ox : Operand) (ho : o.op = .nilCheck ox) (hx : a.eval ox = x.conc E) (w : World) : (execOp a.eval o).run P w = .ok (.value (x.conc E)) w := by
  unfold nilOk at h
  unfold execOp
  simp only [ho, hx]
  split at h <;> first | (simp only [AV.conc, Sem.run_pure]; done) | cases h

/-! a field, an element of a value -/
def fieldV {R : Type} (P : Program) (t : TypeId) (x : AV) (f : Nat) (k : AV → Option R) : Option R :=
  match P.underlying t, x.asAgg with
  | some (.struct fs), .agg cs =>
    match fs[f]? with
    | some fd => match partA P fd.type cs fd.offset with
      | some z => k z
      | none => none
    | none => none
  | _, _ => none

theorem partA_sc {P : Program} {t : TypeId} {cs : List AV} {off n m : Nat} {z : AV} (h : partA P t cs off = some z) (hs : scL n m cs = true) : z.sc n m = true := by
  unfold partA at h
  split at h
  · split at h
    · simp only [cond_eq_ite] at h
      split at h
      · simp only [Option.some.injEq] at h
        subst h
        simp only [AV.sc]
        rw [scL_eq, List.all_eq_true] at *
        intro a ha
        exact hs a (List.mem_of_mem_drop (List.mem_of_mem_take ha))
      · cases h
    · cases h
  · exact scL_at hs h
  · cases h

theorem asAgg_sc {n m : Nat} {x : AV} (h : x.sc n m = true) : x.asAgg.sc n m = true := by
  unfold AV.asAgg
  split
  · simp [AV.sc, scL_eq]
  · exact h

theorem fieldV_sound {R : Type} {P : Program} {t : TypeId} {x : AV} {f : Nat} {k : AV → Option R} {r : R} (h : fieldV P t x f k = some r) :
    ∃ z, k z = some r ∧ (∀ n m, x.sc n m = true → z.sc n m = true) ∧ ∀ E w, (Instr.field t (x.conc E) f).run P w = .ok (z.conc E) w := by
  unfold fieldV at h
  split at h
  · rename_i fs cs hu hx
    split at h
    · rename_i fd hf
      split at h
      · rename_i z hz
        refine ⟨z, h, fun n m hs => partA_sc hz (by have := asAgg_sc hs; rw [hx] at this; simpa [AV.sc] using this), fun E w => ?_⟩
        rw [← AV.asAgg_conc E x, hx]
        simp only [Instr.field, Sem.run_bind, run_underlying hu, Result.andThen_ok, hf, AV.conc, asAgg, Sem.run_pure, run_part hz w]
      · cases h
    · cases h
  · cases h

def indexV {R : Type} (P : Program) (t : TypeId) (x ix : AV) (k : AV → Option R) : Option R :=
  match P.underlying t, x.asAgg, ix with
  | some (.array len el), .agg cs, .lit (.int _ i) =>
    match sizeT P el with
    | some n => if 0 ≤ i ∧ i < (len : Int) then (match partA P el cs (i.toNat * n) with
      | some z => k z
      | none => none) else none
    | none => none
  | _, _, _ => none

theorem indexV_sound {R : Type} {P : Program} {t : TypeId} {x ix : AV} {k : AV → Option R} {r : R} (h : indexV P t x ix k = some r) :
    ∃ z, k z = some r ∧ (∀ n m, x.sc n m = true → z.sc n m = true) ∧ ∀ E w, (Instr.index t (x.conc E) (ix.conc E)).run P w = .ok (z.conc E) w := by
  unfold indexV at h
  split at h
  · rename_i len el cs kk i hu hx
    split at h
    · rename_i n hn
      split at h
      · rename_i hi
        split at h
        · rename_i z hz
          refine ⟨z, h, fun n m hs => partA_sc hz (by have := asAgg_sc hs; rw [hx] at this; simpa [AV.sc] using this), fun E w => ?_⟩
          rw [← AV.asAgg_conc E x, hx]
          simp only [Instr.index, Sem.run_bind, run_underlying hu, Result.andThen_ok, AV.conc, asIntOf, Sem.run_pure, if_pos hi, run_sizeOf hn, run_part hz w]
        · cases h
      · cases h
    · cases h
  · cases h

end Go.Sx
