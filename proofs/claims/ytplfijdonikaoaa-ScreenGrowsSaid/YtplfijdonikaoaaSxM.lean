import Derived.Test.YtplfijdonikaoaaSxL
set_option linter.unusedVariables false
set_option linter.unusedSimpArgs false
namespace Go.Sx
open Go Go.RowKit

def resOne {R : Type} (P : Program) (tm : List AV) (M : Mem) : ResultVar → (AV → Option R) → Option R
  | .tmp t, k => bif (tm.getD t .bad).lv M.live then k (tm.getD t .bad) else none
  | .cell a t, k => bif (tm.getD a .bad).lv M.live then loadA P M t (tm.getD a .bad) k else none

def resL {R : Type} (P : Program) (tm : List AV) (M : Mem) : List ResultVar → (List AV → Option R) → Option R
  | [], k => k []
  | v :: vs, k => resOne P tm M v fun a => resL P tm M vs fun l => k (a :: l)

def resK {R : Type} (P : Program) (tm : List AV) (M : Mem) (rs : List ResultVar) (k : AV → Option R) : Option R :=
  resL P tm M rs fun l => match l with
    | [a] => k a
    | l => k (.tup l)

def empty : Mem := ⟨[], []⟩

def bodyK {R : Type} (C : CallSem) (P : Program) (n : Nat) (fn : Func) (args : List AV) (M : Mem) (k : AV → Mem → Option R) : Option R :=
  match fn.body with
  | some c => exK C P n c ⟨args ++ List.replicate (fn.ntmps - args.length) (.lit undef), M⟩ fun e st => match e with
    | .normal => resK P st.tm st.M fn.results.toList fun v => k v st.M
    | .ret => resK P st.tm st.M fn.results.toList fun v => k v st.M
    | _ => none
  | none => none

def resSem (tmps : Array Value) : ResultVar → Sem Value
  | .tmp t => Pure.pure (tmps.getD t undef)
  | .cell a t => do loadVar t (← asAddr (tmps.getD a undef))

theorem results_eq (fn : Func) (tmps : Array Value) : results fn tmps = (do
    let vs ← fn.results.mapM (resSem tmps)
    Pure.pure (if h : vs.size = 1 then vs[0] else .tuple vs) : Sem Value) := by
  have e : resSem tmps = (fun v => match v with
    | .tmp t => Pure.pure (tmps.getD t undef)
    | .cell a t => (do loadVar t (← asAddr (tmps.getD a undef)))) := by funext v; cases v <;> rfl
  rw [e]
  rfl

theorem resOne_sound {R : Type} {P : Program} {tm : List AV} {M : Mem} {v : ResultVar} {k : AV → Option R} {r : R} (h : resOne P tm M v k = some r) :
    ∃ z, k z = some r ∧ z.lv M.live = true ∧ ∀ E w0 (a : Act) w, RelL E M tm a.tmps.toList → RepM E w0 M w → z.sc M.blks.length M.vecs.length = true ∧
      (resSem a.tmps v).run P w = .ok (z.conc E) w := by
  cases v with
  | tmp t =>
    simp only [resOne, cond_eq_ite] at h
    split at h
    · rename_i hl
      refine ⟨_, h, hl, fun E w0 a w hT hR => ?_⟩
      have := hT.ev (.tmp t)
      simp only [ev, Act.eval] at this
      exact ⟨this.1, by rw [resSem, Sem.run_pure, this.2 hl]⟩
    · cases h
  | cell ad t =>
    simp only [resOne, cond_eq_ite] at h
    split at h
    · rename_i hl
      have h0 := h
      obtain ⟨z, hk, hlz, hrun⟩ := loadA_sound h
      refine ⟨z, hk, hlz, fun E w0 a w hT hR => ⟨(hrun E w0 w hR).1, ?_⟩⟩
      have := hT.ev (.tmp ad)
      simp only [ev, Act.eval] at this
      have hr := (hrun E w0 w hR).2
      have e0 : resSem a.tmps (.cell ad t) = (do loadVar t (← asAddr (a.tmps.getD ad undef)) : Sem Value) := rfl
      rw [e0, this.2 hl]
      unfold loadA at h0
      split at h0
      · rename_i hx; rw [hx] at hr ⊢; simpa [Instr.loadAt, AV.conc, Instr.sureAddr, asAddr] using hr
      · rename_i hx; rw [hx] at hr ⊢; simpa [Instr.loadAt, AV.conc, Instr.sureAddr, asAddr] using hr
      · cases h0
    · cases h

theorem resL_sound {R : Type} {P : Program} {tm : List AV} {M : Mem} : ∀ (rs : List ResultVar) (k : List AV → Option R) (r : R), resL P tm M rs k = some r →
    ∃ zs, k zs = some r ∧ lvL M.live zs = true ∧ zs.length = rs.length ∧ ∀ E w0 (a : Act) w, RelL E M tm a.tmps.toList → RepM E w0 M w → scL M.blks.length M.vecs.length zs = true ∧
      (rs.mapM (resSem a.tmps)).run P w = .ok (concL E zs) w
  | [], k, r, h => ⟨[], h, rfl, rfl, fun E w0 a w _ _ => ⟨rfl, by simp [concL]⟩⟩
  | v :: vs, k, r, h => by
    simp only [resL] at h
    obtain ⟨z, h1, hl, hz⟩ := resOne_sound h
    obtain ⟨zs, h2, hls, hlen, hzs⟩ := resL_sound vs _ _ h1
    refine ⟨z :: zs, h2, by simp [lvL, hl, hls], by simp [hlen], fun E w0 a w hT hR => ?_⟩
    obtain ⟨a1, a2⟩ := hz E w0 a w hT hR
    obtain ⟨b1, b2⟩ := hzs E w0 a w hT hR
    refine ⟨by simp [scL, a1, b1], ?_⟩
    simp only [List.mapM_cons, Sem.run_bind, a2, Result.andThen_ok, b2, Sem.run_pure, concL]

theorem resK_sound {R : Type} {P : Program} {tm : List AV} {M : Mem} {fn : Func} {k : AV → Option R} {r : R} (h : resK P tm M fn.results.toList k = some r) :
    ∃ z, k z = some r ∧ z.lv M.live = true ∧ ∀ E w0 (a : Act) w, RelL E M tm a.tmps.toList → RepM E w0 M w → z.sc M.blks.length M.vecs.length = true ∧ (results fn a.tmps).run P w = .ok (z.conc E) w := by
  unfold resK at h
  obtain ⟨zs, h1, hl, hlen, hz⟩ := resL_sound _ _ _ h
  have run : ∀ E w0 (a : Act) w, RelL E M tm a.tmps.toList → RepM E w0 M w → (results fn a.tmps).run P w = .ok (if h : (concL E zs).toArray.size = 1 then (concL E zs).toArray[0] else .tuple (concL E zs).toArray) w := by
    intro E w0 a w hT hR
    rw [results_eq, Array.mapM_eq_mapM_toList]
    have := (hz E w0 a w hT hR).2
    simp only [Sem.run_bind, Sem.run_map, this, Result.andThen_ok, Sem.run_pure]
  split at h1
  · rename_i x
    simp only [lvL, Bool.and_true] at hl
    refine ⟨x, h1, hl, fun E w0 a w hT hR => ?_⟩
    have hsc := (hz E w0 a w hT hR).1
    simp only [scL, Bool.and_true] at hsc
    refine ⟨hsc, ?_⟩
    rw [run E w0 a w hT hR]
    simp [concL]
  · rename_i hne
    refine ⟨_, h1, by simpa [AV.lv] using hl, fun E w0 a w hT hR => ⟨by simpa [AV.sc] using (hz E w0 a w hT hR).1, ?_⟩⟩
    rw [run E w0 a w hT hR, dif_neg]
    · rfl
    · intro h1
      simp only [List.size_toArray, concL_eq, List.length_map] at h1
      obtain ⟨x, hx⟩ := List.length_eq_one_iff.1 h1
      exact hne x hx

structure Enters (P : Program) (f : FuncId) (fn : Func) : Prop where
  at_ : P.funcs[f]? = some fn
  name : (fn.name == "runtime.NumGoroutine") = false
  body : fn.body.isNone = false

theorem Enters.run {P : Program} {f : FuncId} {fn : Func} (h : Enters P f fn) (args : Array Value) (w : World) : (callFunc f args).run P w = .ok (.enter f args) w := by
  unfold callFunc
  simp only [Sem.run_bind, run_program, Result.andThen_ok, h.at_, h.name, h.body, Bool.false_eq_true, if_false, Sem.run_pure]

theorem RelL.lits {E : Env} {M : Mem} {w0 : Bs} {w : World} (hR : RepM E w0 M w) {args : List AV} (hs : scL M.blks.length M.vecs.length args = true) (hl : lvL M.live args = true) (n : Nat) :
    RelL E M (args ++ List.replicate n (.lit undef)) (((concL E args).toArray ++ Array.replicate n undef).toList) := by
  have h1 := newCells hR hl hs
  refine ⟨by simp [concL_eq], fun i a v ha hv => ?_⟩
  simp only [Array.toList_append, Array.toList_replicate] at hv
  rcases Nat.lt_or_ge i args.length with hi | hi
  · rw [List.getElem?_append_left hi] at ha
    rw [List.getElem?_append_left (by simpa [concL_eq] using hi)] at hv
    exact h1.at_ i a v ha hv
  · rw [List.getElem?_append_right hi] at ha
    rw [List.getElem?_append_right (by simpa [concL_eq] using hi)] at hv
    rw [List.getElem?_replicate] at ha hv
    split at ha
    · simp only [Option.some.injEq] at ha
      split at hv
      · simp only [Option.some.injEq] at hv
        subst ha; subst hv
        exact RelS.lit _ _ _
      · cases hv
    · cases ha

theorem bodyK_sound {R : Type} {C : CallSem} {P : Program} (hC : C.Sound P) (hm : P.follows .mixedOrders = true) {n : Nat} {f : FuncId} {fn : Func} (hf : Enters P f fn) (hls : ∀ c, fn.body = some c → LoopsOk P C.loops c) {args : List AV} {M : Mem} {k : AV → Mem → Option R} {r : R}
    (h : bodyK C P n fn args M k = some r) : ∃ z M', k z M' = some r ∧ z.lv M'.live = true ∧ CallOk P f args M z M' := by
  unfold bodyK at h
  split at h
  · rename_i c hc
    obtain ⟨e, st', hk, hcode⟩ := exK_sound hC hm n _ _ _ _ (hls c hc) h
    have fin : ∀ e, (e = .normal ∨ e = .ret) → (resK P st'.tm st'.M fn.results.toList fun v => k v st'.M) = some r → CodeOk P c ⟨args ++ List.replicate (fn.ntmps - args.length) (.lit undef), M⟩ e st' →
        ∃ z M', k z M' = some r ∧ z.lv M'.live = true ∧ CallOk P f args M z M' := by
      intro e he hk hcode
      obtain ⟨z, hz, hlz, hres⟩ := resK_sound hk
      refine ⟨z, st'.M, hz, hlz, fun E w0 w hR hsc hl => ⟨hf.run _ _, ?_⟩⟩
      refine calls_of_wp hf.at_ hc ?_
      have hsz : fn.ntmps - (concL E args).toArray.size = fn.ntmps - args.length := by simp [concL_eq]
      rw [hsz]
      refine hcode E w0 _ w ⟨hR, RelL.lits hR hsc hl _, rfl⟩ _ fun E' a' w' hst hR' => ?_
      obtain ⟨h1, h2⟩ := hres E' w0 a' w' hR'.tm hR'.mem
      rcases he with rfl | rfl <;> exact ⟨hR'.defers, _, h2, E', _, rfl, hst, ⟨h1, fun _ => rfl⟩, hR'.mem⟩
    cases e with
    | normal => exact fin _ (.inl rfl) hk hcode
    | ret => exact fin _ (.inr rfl) hk hcode
    | exit id => cases hk
    | goto l => cases hk
    | panic ch => cases hk
    | outgrown => cases hk
  · cases h

theorem RepM.empty (E : Env) (w : World) : RepM E (Bs.of w) Sx.empty w :=
  ⟨Keeps.refl _, fun b x h => (by simp [Sx.empty] at h), fun b b' x x' h => (by simp [Sx.empty] at h), fun h e he => (by simp [Sx.empty] at he), fun h h' e e' he => (by simp [Sx.empty] at he)⟩

def closedL (args : List AV) : Bool := scL 0 0 args && lvL (fun _ => false) args
def AV.closed (z : AV) : Bool := z.sc 0 0 && z.lv (fun _ => false)

def pureK {R : Type} (C : CallSem) (P : Program) (n : Nat) (fn : Func) (args : List AV) (k : AV → Option R) : Option R :=
  bif closedL args then bodyK C P n fn args empty (fun z _ => bif z.closed then k z else none) else none

theorem lv_closed {L : Nat → Bool} {z : AV} {n m : Nat} (hs : z.sc n m = true) (h : z.lv (fun _ => false) = true) : z.lv L = true :=
  lv_mono (n := n) (m := m) (L := L) (L' := fun _ => false) (fun _ _ h => (by cases h)) (fun _ _ h => (by cases h)) z hs h
theorem lvL_closed {L : Nat → Bool} {z : List AV} {n m : Nat} (hs : scL n m z = true) (h : lvL (fun _ => false) z = true) : lvL L z = true :=
  lvL_of fun i a ha => lv_closed (scL_at hs ha) (lvL_at h ha)

theorem pureK_sound {R : Type} {C : CallSem} {P : Program} (hC : C.Sound P) (hm : P.follows .mixedOrders = true) {n : Nat} {f : FuncId} {fn : Func} (hf : Enters P f fn) (hls : ∀ c, fn.body = some c → LoopsOk P C.loops c) {args : List AV} {k : AV → Option R} {r : R}
    (h : pureK C P n fn args k = some r) : ∃ z, k z = some r ∧ PureOk P f args z := by
  simp only [pureK, cond_eq_ite, closedL, Bool.and_eq_true] at h
  split at h
  · rename_i hcl
    obtain ⟨z, M', hk, _, hc⟩ := bodyK_sound hC hm hf hls h
    simp only [cond_eq_ite, AV.closed, Bool.and_eq_true] at hk
    split at hk
    · rename_i hz
      refine ⟨z, hk, hz.1, hz.2, fun E w => ?_⟩
      obtain ⟨h1, h2⟩ := hc E (Bs.of w) w (RepM.empty E w) hcl.1 (lvL_closed hcl.1 hcl.2)
      refine ⟨h1, h2.mono fun e w' ⟨E', v, he, hs, hv, hR⟩ => ⟨?_, hR.below.toBelow⟩⟩
      rw [he, hv.2 (lv_closed hv.1 hz.2), closed_conc E' E hz.1]
    · cases hk
  · cases h

theorem PureOk.call {P : Program} {f : FuncId} {args : List AV} {z : AV} (h : PureOk P f args z) (M : Mem) : CallOk P f args M z M :=
  fun E w0 w hR _ _ => ⟨(h.2.2 E w).1, (h.2.2 E w).2.mono fun e w' ⟨he, hb⟩ => ⟨E, _, he, Step.refl E M, ⟨sc_mono (Nat.zero_le _) (Nat.zero_le _) z h.1, fun _ => rfl⟩, hR.later hb⟩⟩

theorem PureOk.callR {P : Program} {f : FuncId} {args : List AV} {z : AV} (h : PureOk P f args z) (M : Mem) : CallOkR P f args M z M := by
  intro E w0 w hR hs hl
  obtain ⟨h1, h2⟩ := h.2.2 E w
  exact ⟨h1, h2.mono fun e w' ⟨he, hb⟩ => ⟨E, _, he, Step.refl E M, ⟨sc_mono (Nat.zero_le _) (Nat.zero_le _) z h.1, fun _ => rfl⟩, hR.later hb, hb⟩⟩

/-! tables of what is called -/
def CallSem.nil : CallSem := ⟨fun _ => false, fun _ _ _ => none, fun _ _ _ _ => none, fun _ => none, false, noLoops, fun _ => false⟩
theorem CallSem.nil_sound (P : Program) : CallSem.nil.Sound P := ⟨fun h => (by cases h), fun h => (by cases h), fun h => (by cases h)⟩

/-- a function of closed values, told by a specification -/
structure FSpec where
  run : {R : Type} → List AV → (AV → Option R) → Option R
def FSpec.Ok (P : Program) (f : FuncId) (s : FSpec) : Prop := ∀ {R : Type} {args : List AV} {k : AV → Option R} {r : R}, s.run args k = some r → ∃ z, k z = some r ∧ PureOk P f args z

def CallSem.withSpec (C : CallSem) (f : FuncId) (s : FSpec) : CallSem where
  isPure g := bif decide (g = f) then true else C.isPure g
  pure g args k := bif decide (g = f) then s.run args k else C.pure g args k
  call g args M k := bif decide (g = f) then s.run args (fun z => k z M) else C.call g args M k
  split := C.split
  join := C.join
  loops := C.loops
  isRead g := bif decide (g = f) then true else C.isRead g

theorem CallSem.withSpec_sound {P : Program} {C : CallSem} (hC : C.Sound P) {f : FuncId} {s : FSpec} (hs : s.Ok P f) : (C.withSpec f s).Sound P where
  pure {R g args k r} h := by
    simp only [CallSem.withSpec, cond_eq_ite, decide_eq_true_eq] at h
    split at h
    · rename_i e; subst e; exact hs h
    · exact hC.pure h
  call {R g args M k r} h := by
    simp only [CallSem.withSpec, cond_eq_ite, decide_eq_true_eq] at h
    split at h
    · rename_i e
      subst e
      obtain ⟨z, hk, hp⟩ := hs h
      exact ⟨z, M, hk, hp.call M⟩
    · exact hC.call h
  read {R g args M k r} hr h := by
    simp only [CallSem.withSpec, cond_eq_ite, decide_eq_true_eq] at h hr
    split at h
    · rename_i e
      subst e
      obtain ⟨z, hk, hp⟩ := hs h
      exact ⟨z, M, hk, Gains.refl M, hp.callR M⟩
    · rename_i e
      rw [if_neg e] at hr
      exact hC.read hr h

/-- a function that is walked in place -/
def CallSem.withBody (C : CallSem) (P : Program) (n : Nat) (f : FuncId) (fn : Func) (pu : Bool) : CallSem where
  isPure g := bif decide (g = f) then pu else C.isPure g
  pure g args k := bif decide (g = f) then pureK C P n fn args k else C.pure g args k
  call g args M k := bif decide (g = f) then bodyK C P n fn args M k else C.call g args M k
  split := C.split
  join := C.join
  loops := C.loops
  isRead g := bif decide (g = f) then false else C.isRead g

theorem CallSem.withBody_sound {P : Program} {C : CallSem} (hC : C.Sound P) (hm : P.follows .mixedOrders = true) (n : Nat) {f : FuncId} {fn : Func} (hf : Enters P f fn) (pu : Bool) (hls : ∀ c, fn.body = some c → LoopsOk P C.loops c := by exact fun _ _ => LoopsOk.no _ _) : (C.withBody P n f fn pu).Sound P where
  pure {R g args k r} h := by
    simp only [CallSem.withBody, cond_eq_ite, decide_eq_true_eq] at h
    split at h
    · rename_i e; subst e; exact pureK_sound hC hm hf hls h
    · exact hC.pure h
  call {R g args M k r} h := by
    simp only [CallSem.withBody, cond_eq_ite, decide_eq_true_eq] at h
    split at h
    · rename_i e
      subst e
      obtain ⟨z, M', hk, _, hc⟩ := bodyK_sound hC hm hf hls h
      exact ⟨z, M', hk, hc⟩
    · exact hC.call h
  read {R g args M k r} hr h := by
    simp only [CallSem.withBody, cond_eq_ite, decide_eq_true_eq] at h hr
    split at h
    · rename_i e; rw [if_pos e] at hr; cases hr
    · rename_i e
      rw [if_neg e] at hr
      exact hC.read hr h

/-- numbers that are one of a few -/
def CallSem.withSplit (C : CallSem) (f : Oper → Option (List Int)) : CallSem := { C with split := f }
theorem CallSem.withSplit_sound {P : Program} {C : CallSem} (hC : C.Sound P) (f : Oper → Option (List Int)) : (C.withSplit f).Sound P := ⟨hC.pure, hC.call, hC.read⟩

/-- branches that meet again are put together -/
def CallSem.withJoin (C : CallSem) : CallSem := { C with join := true }
theorem CallSem.withJoin_sound {P : Program} {C : CallSem} (hC : C.Sound P) : C.withJoin.Sound P := ⟨hC.pure, hC.call, hC.read⟩

/-- functions that are told of the memory that they are lent -/
def CallSem.withMem (C : CallSem) (f : FuncId) (s : MSpec) : CallSem where
  isPure g := bif decide (g = f) then false else C.isPure g
  pure g args k := bif decide (g = f) then none else C.pure g args k
  call g args M k := bif decide (g = f) then frameCall s args M k else C.call g args M k
  split := C.split
  join := C.join
  loops := C.loops
  isRead g := bif decide (g = f) then false else C.isRead g
theorem CallSem.withMem_sound {P : Program} {C : CallSem} (hC : C.Sound P) {f : FuncId} {s : MSpec} (hs : s.Ok P f) : (C.withMem f s).Sound P where
  pure {R g args k r} h := by
    simp only [CallSem.withMem, cond_eq_ite, decide_eq_true_eq] at h
    split at h
    · cases h
    · exact hC.pure h
  call {R g args M k r} h := by
    simp only [CallSem.withMem, cond_eq_ite, decide_eq_true_eq] at h
    split at h
    · rename_i e; subst e; exact frameCall_sound hs h
    · exact hC.call h
  read {R g args M k r} hr h := by
    simp only [CallSem.withMem, cond_eq_ite, decide_eq_true_eq] at h hr
    split at h
    · rename_i e; rw [if_pos e] at hr; cases hr
    · rename_i e
      rw [if_neg e] at hr
      exact hC.read hr h
/-- functions that only read what they are lent -/
def CallSem.withRead (C : CallSem) (f : FuncId) (s : MSpec) : CallSem where
  isPure g := bif decide (g = f) then false else C.isPure g
  pure g args k := bif decide (g = f) then none else C.pure g args k
  call g args M k := bif decide (g = f) then frameRead s args M k else C.call g args M k
  split := C.split
  join := C.join
  loops := C.loops
  isRead g := bif decide (g = f) then true else C.isRead g
theorem CallSem.withRead_sound {P : Program} {C : CallSem} (hC : C.Sound P) {f : FuncId} {s : MSpec} (hs : s.Ok P f) : (C.withRead f s).Sound P where
  pure {R g args k r} h := by
    simp only [CallSem.withRead, cond_eq_ite, decide_eq_true_eq] at h
    split at h
    · cases h
    · exact hC.pure h
  call {R g args M k r} h := by
    simp only [CallSem.withRead, cond_eq_ite, decide_eq_true_eq] at h
    split at h
    · rename_i e; subst e
      obtain ⟨z, M', h1, _, h2⟩ := frameRead_sound hs h
      exact ⟨z, M', h1, h2.call⟩
    · exact hC.call h
  read {R g args M k r} hr h := by
    simp only [CallSem.withRead, cond_eq_ite, decide_eq_true_eq] at h hr
    split at h
    · rename_i e; subst e; exact frameRead_sound hs h
    · rename_i e
      rw [if_neg e] at hr
      exact hC.read hr h

/-- loops that are told -/
def CallSem.withLoops (C : CallSem) (ls : Nat → Option LSpec) : CallSem := { C with loops := ls }
theorem CallSem.withLoops_sound {P : Program} {C : CallSem} (hC : C.Sound P) (ls : Nat → Option LSpec) : (C.withLoops ls).Sound P := ⟨hC.pure, hC.call, hC.read⟩

def boolOf : AV → Mem → Option Bool
  | .lit (.bool b), _ => some b
  | _, _ => none

/-- a law's call, out of a walk in place -/
theorem law_of {C : CallSem} {P : Program} (hC : C.Sound P) (hm : P.follows .mixedOrders = true) {n : Nat} {f : FuncId} {fn : Func} (hf : Enters P f fn) {args : List AV} {M : Mem}
    (h : bodyK C P n fn args M boolOf = some true) {E : Env} {w : World} (hR : RepM E (Bs.of w) M w) (hs : scL M.blks.length M.vecs.length args = true) (hl : lvL M.live args = true)
    (hls : ∀ c, fn.body = some c → LoopsOk P C.loops c := by exact fun _ _ => LoopsOk.no _ _) :
    Calls P f (concL E args).toArray w (fun e w' => e = .returned (.bool true) ∧ Below w.heap.size w w') := by
  obtain ⟨z, M', hk, hlz, hc⟩ := bodyK_sound hC hm hf hls h
  refine ((hc E (Bs.of w) w hR hs hl).2).mono fun e w' ⟨E', v, he, hst, hv, hR'⟩ => ⟨?_, hR'.below.toBelow⟩
  rw [he, hv.2 hlz]
  unfold boolOf at hk
  split at hk
  · simp only [Option.some.injEq] at hk
    subst hk; rfl
  · cases hk

end Go.Sx
