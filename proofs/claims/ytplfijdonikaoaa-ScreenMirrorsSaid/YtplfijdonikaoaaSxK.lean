import Derived.Test.YtplfijdonikaoaaSxJ
import Derived.Test.YtplfijdonikaoaaSxAp
import Derived.Test.YtplfijdonikaoaaSxO
set_option linter.unusedVariables false
set_option linter.unusedSimpArgs false
namespace Go.Sx
open Go Go.RowKit

structure CallSem where
  isPure : FuncId → Bool
  pure : {R : Type} → FuncId → List AV → (AV → Option R) → Option R
  call : {R : Type} → FuncId → List AV → Mem → (AV → Mem → Option R) → Option R
  split : Oper → Option (List Int)
  join : Bool
  loops : Nat → Option LSpec
  isRead : FuncId → Bool

def PureOk (P : Program) (f : FuncId) (args : List AV) (z : AV) : Prop :=
  z.sc 0 0 = true ∧ z.lv (fun _ => false) = true ∧ ∀ (E : Env) (w : World), (callFunc f (concL E args).toArray).run P w = .ok (.enter f (concL E args).toArray) w ∧
    Calls P f (concL E args).toArray w (fun e w' => e = .returned (z.conc E) ∧ Below w.heap.size w w')

structure CallSem.Sound (P : Program) (C : CallSem) : Prop where
  pure : ∀ {R : Type} {f : FuncId} {args : List AV} {k : AV → Option R} {r : R}, C.pure f args k = some r → ∃ z, k z = some r ∧ PureOk P f args z
  call : ∀ {R : Type} {f : FuncId} {args : List AV} {M : Mem} {k : AV → Mem → Option R} {r : R}, C.call f args M k = some r → ∃ z M', k z M' = some r ∧ CallOk P f args M z M'
  read : ∀ {R : Type} {f : FuncId} {args : List AV} {M : Mem} {k : AV → Mem → Option R} {r : R}, C.isRead f = true → C.call f args M k = some r → ∃ z M', k z M' = some r ∧ Gains M M' ∧ CallOkR P f args M z M'

/-- whom an operation calls, and with what -/
def tgt (tm : List AV) (o : Oper) : Option (FuncId × List AV) :=
  match o.op with
  | .call c => match c.callee with
    | .value g => match ev tm g with
      | .lit (.func (.func f) first caps) => some (f, first.toList.map AV.lit ++ c.args.toList.map (ev tm) ++ caps.toList.map AV.lit)
      | .fn f caps => some (f, c.args.toList.map (ev tm) ++ caps)
      | _ => none
    | _ => none
  | _ => none

theorem concL_append (E : Env) (l m : List AV) : concL E (l ++ m) = concL E l ++ concL E m := by simp [concL_eq]
theorem lvL_append (L : Nat → Bool) (l m : List AV) : lvL L (l ++ m) = (lvL L l && lvL L m) := by simp [lvL_eq]
theorem scL_append (n k : Nat) (l m : List AV) : scL n k (l ++ m) = (scL n k l && scL n k m) := by simp [scL_eq]
theorem scL_lits (n k : Nat) (l : List Value) : scL n k (l.map AV.lit) = true := by simp [scL_eq, AV.sc]

theorem scL_evs {E : Env} {M : Mem} {tm : List AV} {a : Act} (hT : RelL E M tm a.tmps.toList) (l : List Operand) : scL M.blks.length M.vecs.length (l.map (ev tm)) = true :=
  scL_of fun i x hx => by
    rw [List.getElem?_map] at hx
    cases hc : l[i]? with
    | none => rw [hc] at hx; cases hx
    | some y => rw [hc] at hx; simp at hx; subst hx; exact (hT.ev y).1

theorem tgt_run {P : Program} {E : Env} {M : Mem} {tm : List AV} {a : Act} {o : Oper} {f : FuncId} {args : List AV} (h : tgt tm o = some (f, args)) (hl : lvL M.live args = true) (hT : RelL E M tm a.tmps.toList) (w : World) :
    scL M.blks.length M.vecs.length args = true ∧ (execOp a.eval o).run P w = (callFunc f (concL E args).toArray).run P w := by
  unfold tgt at h
  split at h
  · rename_i c ho
    split at h
    · rename_i g hg
      split at h
      · rename_i f' first caps hv
        simp only [Option.some.injEq, Prod.mk.injEq] at h
        obtain ⟨rfl, rfl⟩ := h
        simp only [lvL_append, Bool.and_eq_true] at hl
        have hge := (hT.ev g).2 (by rw [hv]; rfl)
        rw [hv] at hge
        have hargs := evalL hT c.args.toList hl.1.2
        refine ⟨by simp only [scL_append, scL_lits, scL_evs hT, Bool.and_self], ?_⟩
        have he : (concL E (first.toList.map AV.lit ++ c.args.toList.map (ev tm) ++ caps.toList.map AV.lit)).toArray = first ++ c.args.map a.eval ++ caps := by
          apply Array.ext'
          simp [concL_append, concL_lits, ← hargs]
        simp only [execOp, ho, resolve, hg, Deferred.ofValue, hge, AV.conc, Sem.run_bind, Sem.run_pure, Result.andThen_ok, invoke, he]
      · rename_i f' caps hv
        simp only [Option.some.injEq, Prod.mk.injEq] at h
        obtain ⟨rfl, rfl⟩ := h
        simp only [lvL_append, Bool.and_eq_true] at hl
        have hge := (hT.ev g).2 (by rw [hv]; simpa [AV.lv] using hl.2)
        have hgs := (hT.ev g).1
        rw [hv] at hge hgs
        have hargs := evalL hT c.args.toList hl.1
        refine ⟨by simp only [scL_append, scL_evs hT, Bool.true_and]; simpa [AV.sc] using hgs, ?_⟩
        have he : (concL E (c.args.toList.map (ev tm) ++ caps)).toArray = c.args.map a.eval ++ (concL E caps).toArray := by
          apply Array.ext'
          simp [concL_append, ← hargs]
        simp only [execOp, ho, resolve, hg, Deferred.ofValue, hge, AV.conc, Sem.run_bind, Sem.run_pure, Result.andThen_ok, invoke, he]
        simp
      · cases h
    · cases h
  · cases h

def isVal (o : Oper) : Bool :=
  match o.op with
  | .move _ | .assign _ | .pick _ _ _ | .binOp _ _ _ _ _ | .unOp _ _ _ | .convert _ _ _ | .load _ _ | .fieldAddr _ _ _ | .indexAddr _ _ _ | .slice _ _ _ _ _
  | .sliceToArrayPointer _ _ | .field _ _ _ | .index _ _ _ | .build _ _ | .makeFunc _ _ _ | .nilCheck _ | .extract _ _ => true
  | .call c => match c.callee with
    | .builtin .len | .builtin .min | .builtin .max => true
    | _ => false
  | _ => false

/-- a number that is one of a few: the walk goes on with each -/
def splitR {R : Type} (v : Int) (k : Int → Option R) : List Int → Option R
  | [] => none
  | r :: l => bif decide (v = r) then k r else splitR v k l
theorem splitR_sound {R : Type} {v : Int} {k : Int → Option R} {r : R} : ∀ {l : List Int}, splitR v k l = some r → k v = some r
  | [], h => by cases h
  | x :: l, h => by
    simp only [splitR, cond_eq_ite, decide_eq_true_eq] at h
    split at h
    · rename_i e; rw [e]; exact h
    · exact splitR_sound h
def splitV {R : Type} (z : AV) (l : List Int) (k : AV → Option R) : Option R :=
  match z with
  | .lit (.int kk v) => splitR v (fun x => k (.lit (.int kk x))) l
  | _ => none
theorem splitV_sound {R : Type} {z : AV} {l : List Int} {k : AV → Option R} {r : R} (h : splitV z l k = some r) : k z = some r := by
  unfold splitV at h
  split at h
  · exact splitR_sound (k := fun x => k (.lit (.int _ x))) h
  · cases h

def opK {R : Type} (C : CallSem) (P : Program) (tm : List AV) (M : Mem) (o : Oper) (k : AV → Mem → Option R) : Option R :=
  bif isVal o then (match C.split o with
    | none => valK P tm M o k
    | some l => valK P tm M o fun z M' => splitV z l fun z => k z M')
  else match tgt tm o with
    | some (f, args) => bif lvL M.live args then C.call f args M k else none
    | none => match o.op with
      | .call _ => appendK P tm M o k
      | _ => memK P tm M o k

def OpOk (P : Program) (tm : List AV) (M : Mem) (o : Oper) (z : AV) (M' : Mem) : Prop :=
  ∀ E (a : Act) w0 w, RelL E M tm a.tmps.toList → RepM E w0 M w → ∀ (K : Act → World → Prop) (Q : Exit → Act → World → Prop),
    (∀ E' v w', Step E M E' M' → RelS E' M' z v → RepM E' w0 M' w' → K (a.put o.dst v) w') → o.wp P a w K Q

theorem opK_sound {R : Type} {C : CallSem} {P : Program} (hC : C.Sound P) {tm : List AV} {M : Mem} {o : Oper} {k : AV → Mem → Option R} {r : R} (h : opK C P tm M o k = some r) :
    ∃ z M', k z M' = some r ∧ OpOk P tm M o z M' := by
  unfold opK at h
  simp only [cond_eq_ite] at h
  split at h
  · have fin : ∀ {z : AV} {M' : Mem}, k z M' = some r → ValOk P tm M o z M' → ∃ z M', k z M' = some r ∧ OpOk P tm M o z M' := by
      intro z M' hk hv
      refine ⟨z, M', hk, fun E a w0 w hT hR K Q hK => ?_⟩
      obtain ⟨E', v, hs, hrun⟩ := hv E a hT
      obtain ⟨h1, h2, h3⟩ := hrun w0 w hR
      unfold Oper.wp
      rw [h3]
      exact hK E' v w hs h1 h2
    split at h
    · obtain ⟨z, M', hk, _, _, hv⟩ := valK_sound h
      exact fin hk hv
    · obtain ⟨z, M', hk, _, _, hv⟩ := valK_sound h
      exact fin (splitV_sound hk) hv
  · split at h
    · rename_i f args ht
      split at h
      · rename_i hl
        obtain ⟨z, M', hk, hc⟩ := hC.call h
        refine ⟨z, M', hk, fun E a w0 w hT hR K Q hK => ?_⟩
        obtain ⟨hsc, hrun⟩ := tgt_run (P := P) ht hl hT w
        obtain ⟨h1, h2⟩ := hc E w0 w hR hsc hl
        unfold Oper.wp
        rw [hrun, h1]
        exact h2.mono fun e w' ⟨E', v, he, hs, hv, hR'⟩ => by subst he; exact hK E' v w' hs hv hR'
      · cases h
    · have fin : ∀ {z : AV} {M' : Mem}, k z M' = some r → MemOk P tm M o z M' → ∃ z M', k z M' = some r ∧ OpOk P tm M o z M' := by
        intro z M' hk hm
        refine ⟨z, M', hk, fun E a w0 w hT hR K Q hK => ?_⟩
        obtain ⟨E', v, w', hs, hv, hR', _, hrun⟩ := hm E a w0 w hT hR
        unfold Oper.wp
        rcases hrun with hrun | ⟨hrun, rfl⟩
        · rw [hrun]; exact hK E' v w' hs hv hR'
        · rw [hrun]; exact hK E' undef w' hs hv hR'
      split at h
      · obtain ⟨z, M', hk, hm⟩ := appendK_sound h
        exact fin hk hm
      · obtain ⟨z, M', hk, hm⟩ := memK_sound h
        exact fin hk hm

/-! guards -/
def guardK {R : Type} (ops : Array Oper) (tm : List AV) (o : Oper) (run skip : List AV → Option R) : Option R :=
  match o.guard with
  | none => run tm
  | some (j, want) =>
    match (ops[j]?).bind (·.dst) with
    | none => skip tm
    | some d =>
      match tm.getD d .bad with
      | .lit (.bool t) =>
        match t with
        | true => bif want then run (tm.set d (.lit (.bool true))) else skip (tm.set d (.lit (.bool true)))
        | false => bif want then skip (tm.set d (.lit (.bool false))) else run (tm.set d (.lit (.bool false)))
      | .lit (.tuple _) => skip tm
      | _ => none

theorem set_self {tm : List AV} {d : Nat} {x : AV} (h : tm.getD d .bad = x) (hx : x ≠ .bad) : tm.set d x = tm := by
  apply List.ext_getElem?
  intro i
  rw [List.getElem?_set]
  split
  · rename_i e
    subst e
    cases hd : tm[d]? with
    | none => simp [List.getD, hd] at h; exact absurd h.symm hx
    | some y =>
      simp [List.getD, hd] at h
      rw [if_pos (lt_of_get hd), h]
  · rfl

theorem slot_val {E : Env} {M : Mem} {tm : List AV} {a : Act} (hT : RelL E M tm a.tmps.toList) {d : Nat} {v : Value} (h : tm.getD d .bad = .lit v) : a.tmps[d]? = some v := by
  cases hd : tm[d]? with
  | none => simp [List.getD, hd] at h
  | some y =>
    simp [List.getD, hd] at h
    subst h
    obtain ⟨u, hu, hr⟩ := hT.get hd
    have := hr.2 rfl
    rw [this] at hu
    simpa [AV.conc] using hu

theorem guardK_sound {R : Type} {ops : Array Oper} {tm : List AV} {o : Oper} {run skip : List AV → Option R} {r : R} (h : guardK ops tm o run skip = some r) :
    (run tm = some r ∧ ∀ E M (a : Act), RelL E M tm a.tmps.toList → Region.wanted o (yielded ops a.tmps) = true) ∨
    (skip tm = some r ∧ ∀ E M (a : Act), RelL E M tm a.tmps.toList → Region.wanted o (yielded ops a.tmps) = false) := by
  unfold guardK at h
  split at h
  · rename_i hg
    exact .inl ⟨h, fun _ _ _ _ => by simp [Region.wanted, hg]⟩
  · rename_i j want hg
    split at h
    · rename_i hd
      exact .inr ⟨h, fun _ _ _ _ => by simp [Region.wanted, hg, yielded, hd]⟩
    · rename_i d hd
      split at h
      · rename_i t ht
        split at h
        · rw [set_self ht (by simp)] at h
          cases want with
          | true => exact .inl ⟨h, fun E M a hT => by simp [Region.wanted, hg, yielded, hd, slot_val hT ht]⟩
          | false => exact .inr ⟨h, fun E M a hT => by simp [Region.wanted, hg, yielded, hd, slot_val hT ht]⟩
        · rw [set_self ht (by simp)] at h
          cases want with
          | true => exact .inr ⟨h, fun E M a hT => by simp [Region.wanted, hg, yielded, hd, slot_val hT ht]⟩
          | false => exact .inl ⟨h, fun E M a hT => by simp [Region.wanted, hg, yielded, hd, slot_val hT ht]⟩
      · rename_i vs ht
        exact .inr ⟨h, fun E M a hT => by simp [Region.wanted, hg, yielded, hd, slot_val hT ht]⟩
      · cases h

/-! operations in the order of the text -/
def seqK {R : Type} (C : CallSem) (P : Program) (ops : Array Oper) : List Oper → List AV → Mem → (List AV → Mem → Option R) → Option R
  | [], tm, M, k => k tm M
  | o :: rest, tm, M, k => guardK ops tm o (fun tm => opK C P tm M o fun z M' => seqK C P ops rest (putT tm o.dst z) M' k) (fun tm => seqK C P ops rest (putT tm o.dst (.lit undef)) M k)

def SeqOk (P : Program) (ops : Array Oper) (l : List Oper) (tm : List AV) (M : Mem) (tm' : List AV) (M' : Mem) : Prop :=
  ∀ E (a : Act) w0 w, RelL E M tm a.tmps.toList → a.defers = [] → RepM E w0 M w → ∀ (Q : Exit → Act → World → Prop),
    (∀ E' a' w', Step E M E' M' → RelL E' M' tm' a'.tmps.toList → a'.defers = [] → RepM E' w0 M' w' → Q .normal a' w') → wpList P ops Q l a w

theorem seqK_sound {R : Type} {C : CallSem} {P : Program} (hC : C.Sound P) {ops : Array Oper} : ∀ (l : List Oper) (tm : List AV) (M : Mem) (k : List AV → Mem → Option R) (r : R), seqK C P ops l tm M k = some r →
    ∃ tm' M', k tm' M' = some r ∧ SeqOk P ops l tm M tm' M'
  | [], tm, M, k, r, h => ⟨tm, M, h, fun E a w0 w hT hd hR Q hQ => hQ E a w (Step.refl E M) hT hd hR⟩
  | o :: rest, tm, M, k, r, h => by
    simp only [seqK] at h
    rcases guardK_sound h with ⟨h, hw⟩ | ⟨h, hw⟩
    · obtain ⟨z, M1, h1, hop⟩ := opK_sound hC h
      obtain ⟨tm', M', hk, hs⟩ := seqK_sound hC rest _ _ _ _ h1
      refine ⟨tm', M', hk, fun E a w0 w hT hd hR Q hQ => ?_⟩
      refine wpList_step fun K hK => ?_
      rw [if_pos (hw E M a hT)]
      refine hop E a w0 w hT hR K Q fun E' v w' hst hv hR' => hK _ _ ?_
      exact hs E' _ w0 w' ((hT.step hst).put o.dst hv) (by rw [put_defers]; exact hd) hR' Q fun E'' a' w'' hst' => hQ E'' a' w'' (hst.trans hst')
    · obtain ⟨tm', M', hk, hs⟩ := seqK_sound hC rest _ _ _ _ h
      refine ⟨tm', M', hk, fun E a w0 w hT hd hR Q hQ => ?_⟩
      refine wpList_step fun K hK => ?_
      rw [if_neg (by rw [hw E M a hT]; exact Bool.false_ne_true)]
      exact hK _ _ (hs E _ w0 w (hT.put o.dst (RelS.lit _ _ _)) (by rw [put_defers]; exact hd) hR Q hQ)

end Go.Sx
