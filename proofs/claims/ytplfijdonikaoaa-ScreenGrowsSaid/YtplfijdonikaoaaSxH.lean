import Derived.Test.YtplfijdonikaoaaSxG1
set_option linter.unusedVariables false
set_option linter.unusedSimpArgs false
namespace Go.Sx
open Go Go.RowKit

def optB {α : Type} (p : α → Bool) : Option α → Bool
  | none => true
  | some a => p a

def evP (tm : List AV) (ps : List (Nat × Operand)) : List (Nat × AV) := ps.map fun p => (p.1, ev tm p.2)

/-- a comparison; a row that has elements is not nil -/
def binV {R : Type} (P : Program) (M : Mem) (op : BinOp) (t : TypeId) (ox oy : Operand) (x y : AV) (k : AV → Option R) : Option R :=
  match x with
  | .vec h => match y with
    | .lit (.slice none _ _) => match M.vecs[h]? with
      | some (some e) => match P.underlying t with
        | some (.slice _) => bif decide (0 < e.cont.length) then (match op with
          | .eql => k (.lit (.bool false))
          | .neq => k (.lit (.bool true))
          | _ => none) else none
        | _ => none
      | _ => none
    | _ => binK P op t ox oy x y k
  | _ => binK P op t ox oy x y k
theorem binV_sound {R : Type} {P : Program} {M : Mem} {op : BinOp} {t : TypeId} {ox oy : Operand} {x y : AV} {k : AV → Option R} {r : R} (h : binV P M op t ox oy x y k = some r) :
    ∃ v : Value, k (.lit v) = some r ∧ ∀ (E : Env) w0 w, RepM E w0 M w → (do eqGuard op t ox oy (x.conc E) (y.conc E); binOp op t (x.conc E) (y.conc E) : Sem Value).run P w = .ok v w := by
  have old : binK P op t ox oy x y k = some r → ∃ v : Value, k (.lit v) = some r ∧ ∀ (E : Env) w0 w, RepM E w0 M w → (do eqGuard op t ox oy (x.conc E) (y.conc E); binOp op t (x.conc E) (y.conc E) : Sem Value).run P w = .ok v w := fun h =>
    let ⟨v, h1, h2⟩ := binK_sound h; ⟨v, h1, fun E w0 w _ => h2 E w⟩
  unfold binV at h
  split at h
  · rename_i q
    split at h
    · rename_i la ca
      split at h
      · rename_i e he
        split at h
        · rename_i el hu
          simp only [cond_eq_ite, decide_eq_true_eq] at h
          split at h
          · rename_i hne
            have key : ∀ (E : Env) w0 w, RepM E w0 M w → (eqGuard op t ox oy (E.σ q) (.slice none la ca)).run P w = .ok () w ∧ (binOp .eql t (E.σ q) (.slice none la ca)).run P w = .ok (.bool false) w ∧ (binOp .neq t (E.σ q) (.slice none la ca)).run P w = .ok (.bool true) w := by
              intro E w0 w hR
              obtain ⟨cap, hv, _⟩ := hR.val he hne
              have hc : cmpA P t (.sl 0 (E.va q).off e.cont.length cap) (.lit (.slice none la ca)) = some false := by
                unfold cmpA nilCmp
                simp [hu]
              have := cmpA_sound (E := ⟨fun _ => (E.va q).block, E.σ⟩) hc op ox oy w
              simp only [AV.conc] at this
              rw [hv]
              exact this
            split at h
            · refine ⟨_, h, fun E w0 w hR => ?_⟩
              obtain ⟨k1, k2, k3⟩ := key E w0 w hR
              simp only [AV.conc, Sem.run_bind, k1, Result.andThen_ok, k2]
            · refine ⟨_, h, fun E w0 w hR => ?_⟩
              obtain ⟨k1, k2, k3⟩ := key E w0 w hR
              simp only [AV.conc, Sem.run_bind, k1, Result.andThen_ok, k3]
            · cases h
          · cases h
        · cases h
      · cases h
    · exact old h
  · exact old h

/-- an operation that hands back a value and leaves the world alone -/
def valK {R : Type} (P : Program) (tm : List AV) (M : Mem) (o : Oper) (k : AV → Mem → Option R) : Option R :=
  match o.op with
  | .move x => k (ev tm x) M
  | .assign x => k (ev tm x) M
  | .pick c a b => match ev tm c with
    | .lit (.bool t) => match t with
      | true => k (ev tm a) M
      | false => k (ev tm b) M
    | _ => none
  | .binOp op t x y _ => bif (ev tm x).lv M.live && (ev tm y).lv M.live then binV P M op t x y (ev tm x) (ev tm y) (fun z => k z M) else none
  | .unOp op _ x => match ev tm x with
    | .lit v => match pureRun P (Op.unary op v) with
      | some u => k (.lit u) M
      | none => none
    | _ => none
  | .convert s d x => match ev tm x with
    | .lit v => match pureRun P (convert s d v) with
      | some u => k (.lit u) M
      | none => none
    | y => bif y.lv M.live then convA P M s d y (fun z => k z M) else none
  | .load t x => bif (ev tm x).lv M.live then loadA P M t (ev tm x) (fun z => k z M) else none
  | .fieldAddr s x f => bif (ev tm x).lv M.live then fieldA P s (ev tm x) f (fun z => k z M) else none
  | .indexAddr t x ix => bif (ev tm x).lv M.live && (ev tm ix).lv M.live then indexA P M t (ev tm x) (ev tm ix) (fun z => k z M) else none
  | .slice t x lo hi none => bif (ev tm x).lv M.live && optB (fun y => (ev tm y).lv M.live) lo && optB (fun y => (ev tm y).lv M.live) hi then sliceA P M t (ev tm x) (lo.map (ev tm)) (hi.map (ev tm)) k else none
  | .sliceToArrayPointer t x => bif (ev tm x).lv M.live then arrayA P M t (ev tm x) (fun z => k z M) else none
  | .field t x f => bif (ev tm x).lv M.live then fieldV P t (ev tm x) f (fun z => k z M) else none
  | .index t x ix => bif (ev tm x).lv M.live && (ev tm ix).lv M.live then indexV P t (ev tm x) (ev tm ix) (fun z => k z M) else none
  | .build t parts => bif lvL M.live ((evP tm parts.toList).map (·.2)) then buildA P t (evP tm parts.toList) (fun z => k z M) else none
  | .makeFunc (.func f) first caps => bif first.isEmpty && lvL M.live (caps.toList.map (ev tm)) then k (.fn f (caps.toList.map (ev tm))) M else none
  | .nilCheck x => bif (ev tm x).lv M.live && nilOk (ev tm x) then k (ev tm x) M else none
  | .extract t i => match ev tm t with
    | .tup vs => bif (AV.tup vs).lv M.live then (match vs[i]? with
      | some a => k a M
      | none => none) else none
    | .lit (.tuple vs) => match vs[i]? with
      | some a => k (.lit a) M
      | none => none
    | _ => none
  | .call c => match c.callee with
    | .builtin b => bif lvL M.live (c.args.toList.map (ev tm)) then builtinA P M b c.argTypes o.type (c.args.toList.map (ev tm)) (fun z => k z M) else none
    | _ => none
  | _ => none

theorem evalL {E : Env} {M : Mem} {tm : List AV} {a : Act} (hT : RelL E M tm a.tmps.toList) : ∀ (l : List Operand), lvL M.live (l.map (ev tm)) = true → l.map a.eval = concL E (l.map (ev tm))
  | [], _ => rfl
  | x :: l, h => by
    simp only [List.map_cons, lvL, Bool.and_eq_true] at h
    simp only [List.map_cons, concL]
    rw [(hT.ev x).2 h.1, evalL hT l h.2]

/-- what soundness says of one operation -/
def ValOk (P : Program) (tm : List AV) (M : Mem) (o : Oper) (z : AV) (M' : Mem) : Prop :=
  ∀ E (a : Act), RelL E M tm a.tmps.toList → ∃ E' v, Step E M E' M' ∧
    ∀ w0 w, RepM E w0 M w → RelS E' M' z v ∧ RepM E' w0 M' w ∧ (execOp a.eval o).run P w = .ok (.value v) w

theorem ValOk.same {P : Program} {tm : List AV} {M : Mem} {o : Oper} {z : AV}
    (h : ∀ E (a : Act), RelL E M tm a.tmps.toList → ∀ w0 w, RepM E w0 M w → z.sc M.blks.length M.vecs.length = true ∧ (execOp a.eval o).run P w = .ok (.value (z.conc E)) w) : ValOk P tm M o z M :=
  fun E a hT => ⟨E, z.conc E, Step.refl E M, fun w0 w hR => ⟨⟨(h E a hT w0 w hR).1, fun _ => rfl⟩, hR, (h E a hT w0 w hR).2⟩⟩

def isSl (o : Oper) : Bool := match o.op with
  | .slice _ _ _ _ _ => true
  | _ => false

theorem valK_sound {R : Type} {P : Program} {tm : List AV} {M : Mem} {o : Oper} {k : AV → Mem → Option R} {r : R} (h : valK P tm M o k = some r) :
    ∃ z M', k z M' = some r ∧ Grow M M' ∧ (isSl o = false → M' = M) ∧ ValOk P tm M o z M' := by
  obtain ⟨dst, op, ty, pos, after, guard⟩ := o
  unfold valK at h
  simp only at h
  split at h
  · -- move
    rename_i x
    exact ⟨_, _, h, Grow.refl _, fun _ => rfl, fun E a hT => ⟨E, a.eval x, Step.refl E M, fun w0 w hR => ⟨hT.ev x, hR, by simp [execOp]⟩⟩⟩
  · rename_i x
    exact ⟨_, _, h, Grow.refl _, fun _ => rfl, fun E a hT => ⟨E, a.eval x, Step.refl E M, fun w0 w hR => ⟨hT.ev x, hR, by simp [execOp]⟩⟩⟩
  · -- pick
    rename_i c x y
    split at h
    · rename_i t hc
      split at h
      · refine ⟨_, _, h, Grow.refl _, fun _ => rfl, fun E a hT => ⟨E, a.eval x, Step.refl E M, fun w0 w hR => ⟨hT.ev x, hR, ?_⟩⟩⟩
        have hce := (hT.ev c).2 (by rw [hc]; rfl)
        rw [hc] at hce
        simp [execOp, hce, AV.conc, asBool]
      · refine ⟨_, _, h, Grow.refl _, fun _ => rfl, fun E a hT => ⟨E, a.eval y, Step.refl E M, fun w0 w hR => ⟨hT.ev y, hR, ?_⟩⟩⟩
        have hce := (hT.ev c).2 (by rw [hc]; rfl)
        rw [hc] at hce
        simp [execOp, hce, AV.conc, asBool]
    · cases h
  · -- binOp
    rename_i op t x y yt
    simp only [cond_eq_ite, Bool.and_eq_true] at h
    split at h
    · rename_i hl
      obtain ⟨v, hk, hv⟩ := binV_sound h
      refine ⟨_, _, hk, Grow.refl _, fun _ => rfl, ValOk.same fun E a hT w0 w hR => ⟨rfl, ?_⟩⟩
      have := hv E w0 w hR
      rw [← (hT.ev x).2 hl.1, ← (hT.ev y).2 hl.2] at this
      unfold execOp
      simp only [Sem.run_bind] at this ⊢
      rw [this]
      simp [AV.conc]
    · cases h
  · -- unOp
    rename_i op t x
    split at h
    · rename_i v hx
      split at h
      · rename_i u hu
        refine ⟨_, _, h, Grow.refl _, fun _ => rfl, ValOk.same fun E a hT w0 w hR => ⟨rfl, ?_⟩⟩
        have hxe := (hT.ev x).2 (by rw [hx]; rfl)
        rw [hx] at hxe
        simp only [execOp, hxe, AV.conc, Sem.run_bind, pureRun_run _ w hu, Result.andThen_ok, Sem.run_pure]
      · cases h
    · cases h
  · -- convert
    rename_i s d x
    split at h
    · rename_i v hx
      split at h
      · rename_i u hu
        refine ⟨_, _, h, Grow.refl _, fun _ => rfl, ValOk.same fun E a hT w0 w hR => ⟨rfl, ?_⟩⟩
        have hxe := (hT.ev x).2 (by rw [hx]; rfl)
        rw [hx] at hxe
        simp only [execOp, hxe, AV.conc, Sem.run_bind, pureRun_run _ w hu, Result.andThen_ok, Sem.run_pure]
      · cases h
    · simp only [cond_eq_ite] at h
      split at h
      · rename_i hl
        obtain ⟨u, hu, hrun⟩ := convA_sound h
        refine ⟨_, _, hu, Grow.refl _, fun _ => rfl, ValOk.same fun E a hT w0 w hR => ⟨rfl, ?_⟩⟩
        simp only [execOp, (hT.ev x).2 hl, Sem.run_bind, hrun E w0 w hR, Result.andThen_ok, Sem.run_pure, AV.conc]
      · cases h
  · -- load
    rename_i t x
    simp only [cond_eq_ite] at h
    split at h
    · rename_i hl
      obtain ⟨z, hz, hlz, hrun⟩ := loadA_sound h
      refine ⟨_, _, hz, Grow.refl _, fun _ => rfl, ValOk.same fun E a hT w0 w hR => ⟨(hrun E w0 w hR).1, ?_⟩⟩
      simp only [execOp, (hT.ev x).2 hl, Sem.run_bind, (hrun E w0 w hR).2, Result.andThen_ok, Sem.run_pure]
    · cases h
  · -- fieldAddr
    rename_i s x f
    simp only [cond_eq_ite] at h
    split at h
    · rename_i hl
      obtain ⟨z, hz, hsc, hrun⟩ := fieldA_sound h
      refine ⟨_, _, hz, Grow.refl _, fun _ => rfl, ValOk.same fun E a hT w0 w hR => ⟨hsc _ _ (hT.ev x).1, ?_⟩⟩
      simp only [execOp, (hT.ev x).2 hl, Sem.run_bind, hrun E w, Result.andThen_ok, Sem.run_pure]
    · cases h
  · -- indexAddr
    rename_i t x ix
    simp only [cond_eq_ite, Bool.and_eq_true] at h
    split at h
    · rename_i hl
      obtain ⟨z, hz, hsc, hrun⟩ := indexA_sound h
      refine ⟨_, _, hz, Grow.refl _, fun _ => rfl, ValOk.same fun E a hT w0 w hR => ⟨hsc _ _ (hT.ev x).1, ?_⟩⟩
      simp only [execOp, (hT.ev x).2 hl.1, (hT.ev ix).2 hl.2, Sem.run_bind, hrun E w0 w hR, Result.andThen_ok, Sem.run_pure]
    · cases h
  · -- slice
    rename_i t x lo hi
    simp only [cond_eq_ite, Bool.and_eq_true] at h
    split at h
    · rename_i hl
      obtain ⟨z, M', hz, hgr, hrun⟩ := sliceA_sound h
      refine ⟨_, _, hz, hgr, fun hh => (by simp [isSl] at hh), fun E a hT => ?_⟩
      obtain ⟨E', hs, hsc, hr⟩ := hrun E
      refine ⟨E', z.conc E', hs, fun w0 w hR => ⟨⟨hsc (hT.ev x).1, fun _ => rfl⟩, (hr w0 w hR).1, ?_⟩⟩
      have hlo : lo.map a.eval = (lo.map (ev tm)).map (AV.conc E) := by
        cases lo with
        | none => rfl
        | some y => simp only [Option.map_some]; rw [(hT.ev y).2 hl.1.2]
      have hhi : hi.map a.eval = (hi.map (ev tm)).map (AV.conc E) := by
        cases hi with
        | none => rfl
        | some y => simp only [Option.map_some]; rw [(hT.ev y).2 hl.2]
      simp only [execOp, (hT.ev x).2 hl.1.1, hlo, hhi, Option.map_none, Sem.run_bind, (hr w0 w hR).2, Result.andThen_ok, Sem.run_pure]
    · cases h
  · -- sliceToArrayPointer
    rename_i t x
    simp only [cond_eq_ite] at h
    split at h
    · rename_i hl
      obtain ⟨z, hz, hsc, hrun⟩ := arrayA_sound h
      refine ⟨_, _, hz, Grow.refl _, fun _ => rfl, ValOk.same fun E a hT w0 w hR => ⟨hsc _ _ (hT.ev x).1, ?_⟩⟩
      simp only [execOp, (hT.ev x).2 hl, Sem.run_bind, hrun E w0 w hR, Result.andThen_ok, Sem.run_pure]
    · cases h
  · -- field
    rename_i t x f
    simp only [cond_eq_ite] at h
    split at h
    · rename_i hl
      obtain ⟨z, hz, hsc, hrun⟩ := fieldV_sound h
      refine ⟨_, _, hz, Grow.refl _, fun _ => rfl, ValOk.same fun E a hT w0 w hR => ⟨hsc _ _ (hT.ev x).1, ?_⟩⟩
      simp only [execOp, (hT.ev x).2 hl, Sem.run_bind, hrun E w, Result.andThen_ok, Sem.run_pure]
    · cases h
  · -- index
    rename_i t x ix
    simp only [cond_eq_ite, Bool.and_eq_true] at h
    split at h
    · rename_i hl
      obtain ⟨z, hz, hsc, hrun⟩ := indexV_sound h
      refine ⟨_, _, hz, Grow.refl _, fun _ => rfl, ValOk.same fun E a hT w0 w hR => ⟨hsc _ _ (hT.ev x).1, ?_⟩⟩
      simp only [execOp, (hT.ev x).2 hl.1, (hT.ev ix).2 hl.2, Sem.run_bind, hrun E w, Result.andThen_ok, Sem.run_pure]
    · cases h
  · -- build
    rename_i t parts
    simp only [cond_eq_ite] at h
    split at h
    · rename_i hl
      obtain ⟨z, hz, hrun⟩ := buildA_sound h
      refine ⟨_, _, hz, Grow.refl _, fun _ => rfl, ValOk.same fun E a hT w0 w hR => ?_⟩
      have hlp : ∀ p ∈ evP tm parts.toList, p.2.lv M.live = true := by
        intro p hp
        rw [lvL_eq, List.all_eq_true] at hl
        exact hl p.2 (List.mem_map_of_mem hp)
      have hsp : ∀ p ∈ evP tm parts.toList, p.2.sc M.blks.length M.vecs.length = true := by
        intro p hp
        simp only [evP, List.mem_map] at hp
        obtain ⟨q, _, rfl⟩ := hp
        exact (hT.ev q.2).1
      have := hrun E w0 M w hR hlp hsp
      refine ⟨this.1, ?_⟩
      have he : (parts.map fun (i, x) => (i, a.eval x)) = ((evP tm parts.toList).map fun p => (p.1, p.2.conc E)).toArray := by
        apply Array.ext'
        simp only [Array.toList_map, evP, List.map_map]
        apply List.map_congr_left
        intro p hp
        simp only [Function.comp]
        rw [(hT.ev p.2).2 (hlp (p.1, ev tm p.2) (by simp only [evP, List.mem_map]; exact ⟨p, hp, rfl⟩))]
      simp only [execOp, he, Sem.run_bind, this.2, Result.andThen_ok, Sem.run_pure]
    · cases h
  · -- makeFunc
    rename_i f first caps
    simp only [cond_eq_ite, Bool.and_eq_true] at h
    split at h
    · rename_i hl
      refine ⟨_, _, h, Grow.refl _, fun _ => rfl, ValOk.same fun E a hT w0 w hR => ⟨?_, ?_⟩⟩
      · simp only [AV.sc]
        refine scL_of fun i x hx => ?_
        rw [List.getElem?_map] at hx
        cases hc : caps.toList[i]? with
        | none => rw [hc] at hx; cases hx
        | some y => rw [hc] at hx; simp at hx; subst hx; exact (hT.ev y).1
      · have h0 : first = #[] := by simpa using hl.1
        have h1 := evalL hT caps.toList hl.2
        have h2 : caps.map a.eval = (concL E (caps.toList.map (ev tm))).toArray := by
          rw [← h1]; apply Array.ext'; simp
        simp only [execOp, h0, h2, Instr.makeFunc, Sem.run_bind, Sem.run_pure, Result.andThen_ok, AV.conc]
        simp
    · cases h
  · -- nilCheck
    rename_i x
    simp only [cond_eq_ite, Bool.and_eq_true] at h
    split at h
    · rename_i hl
      refine ⟨_, _, h, Grow.refl _, fun _ => rfl, ValOk.same fun E a hT w0 w hR => ⟨(hT.ev x).1, ?_⟩⟩
      exact nilOk_sound hl.2 _ a x rfl ((hT.ev x).2 hl.1) w
    · cases h
  · -- extract
    rename_i t i
    split at h
    · rename_i vs ht
      simp only [cond_eq_ite] at h
      split at h
      · rename_i hl
        split at h
        · rename_i x hx
          refine ⟨_, _, h, Grow.refl _, fun _ => rfl, ValOk.same fun E a hT w0 w hR => ?_⟩
          have hte := (hT.ev t).2 (by rw [ht]; exact hl)
          have hts := (hT.ev t).1
          rw [ht] at hte hts
          refine ⟨scL_at (by simpa [AV.sc] using hts) hx, ?_⟩
          simp only [execOp, hte, AV.conc, Instr.extract]
          simp [concL_eq, hx]
        · cases h
      · cases h
    · rename_i vs ht
      split at h
      · rename_i x hx
        refine ⟨_, _, h, Grow.refl _, fun _ => rfl, ValOk.same fun E a hT w0 w hR => ⟨rfl, ?_⟩⟩
        have hte := (hT.ev t).2 (by rw [ht]; rfl)
        rw [ht] at hte
        simp only [execOp, hte, AV.conc, Instr.extract]
        simp [hx]
      · cases h
    · cases h
  · -- call
    rename_i c
    split at h
    · rename_i b hb
      simp only [cond_eq_ite] at h
      split at h
      · rename_i hl
        obtain ⟨u, hu, hrun⟩ := builtinA_sound h
        refine ⟨_, _, hu, Grow.refl _, fun _ => rfl, ValOk.same fun E a hT w0 w hR => ⟨rfl, ?_⟩⟩
        have h1 := evalL hT c.args.toList hl
        have h2 : c.args.map a.eval = (concL E (c.args.toList.map (ev tm))).toArray := by
          rw [← h1]; apply Array.ext'; simp
        simp only [execOp, resolve, hb, Sem.run_bind, Sem.run_pure, Result.andThen_ok, invoke, h2, hrun E w0 w _ hR, AV.conc]
      · cases h
    · cases h
  · cases h

end Go.Sx
