import Derived.Test.YtplfijdonikaoaaSxMx
set_option linter.unusedVariables false
set_option linter.unusedSimpArgs false
namespace Go.Sx
open Go Go.RowKit

/-! A stretch in which several operations that make memory are ready at once: every order is tried,
    and what lasts of it is a number or a truth. -/

def eqLit : AV → AV → Bool
  | .lit (.bool a), .lit (.bool b) => a == b
  | .lit (.int k a), .lit (.int j b) => decide (k = j) && decide (a = b)
  | _, _ => false
theorem eqLit_spec : ∀ {a b : AV}, eqLit a b = true → a = b ∧ ∃ v, b = .lit v := by
  intro a b h
  unfold eqLit at h
  split at h
  · simp only [beq_iff_eq] at h; subst h; exact ⟨rfl, _, rfl⟩
  · simp only [Bool.and_eq_true, decide_eq_true_eq] at h; obtain ⟨rfl, rfl⟩ := h; exact ⟨rfl, _, rfl⟩
  · cases h
def eqLits : List AV → List AV → Bool
  | [], [] => true
  | a :: l, b :: m => eqLit a b && eqLits l m
  | _, _ => false
theorem eqLits_spec : ∀ {a b : List AV}, eqLits a b = true → a = b ∧ ∀ z, z ∈ b → ∃ v, z = .lit v
  | [], [], _ => ⟨rfl, fun z hz => by cases hz⟩
  | a :: l, b :: m, h => by
    simp only [eqLits, Bool.and_eq_true] at h
    obtain ⟨h1, h1'⟩ := eqLit_spec h.1
    obtain ⟨h2, h2'⟩ := eqLits_spec h.2
    exact ⟨by rw [h1, h2], fun z hz => (List.mem_cons.1 hz).elim (fun e => e ▸ h1') (h2' z)⟩
  | [], _ :: _, h => by cases h
  | _ :: _, [], h => by cases h

def joinF (step : Nat → Option (List AV)) : List Nat → Option (List AV)
  | [] => none
  | [r] => step r
  | r :: l => match step r with
    | some a => match joinF step l with
      | some b => bif eqLits a b then some b else none
      | none => none
    | none => none
theorem joinF_spec {step : Nat → Option (List AV)} : ∀ {l : List Nat} {zs : List AV}, joinF step l = some zs → l ≠ [] ∧ ∀ r, r ∈ l → step r = some zs
  | [], zs, h => by cases h
  | [r], zs, h => ⟨by simp, fun x hx => by rw [List.mem_singleton.1 hx]; exact h⟩
  | r :: q :: l, zs, h => by
    rw [joinF] at h
    · split at h
      · rename_i a ha
        split at h
        · rename_i b hb
          simp only [cond_eq_ite] at h
          split at h
          · rename_i he
            simp only [Option.some.injEq] at h
            subst h
            obtain ⟨e, _⟩ := eqLits_spec he
            subst e
            obtain ⟨_, g⟩ := joinF_spec hb
            exact ⟨by simp, fun x hx => (List.mem_cons.1 hx).elim (fun e => e ▸ ha) (g x)⟩
          · cases h
        · cases h
      · cases h
    · intro h; cases h

/-- an operation that makes memory, and touches none -/
def growK {R : Type} (C : CallSem) (P : Program) (tm : List AV) (M : Mem) (o : Oper) (k : AV → Mem → Option R) : Option R :=
  match tgt tm o with
  | some (f, args) => bif lvL M.live args && C.isRead f then C.call f args M k else none
  | none => newK P tm M o fun gv t cs => k (mkA gv M.blks.length) (M.addB ⟨t, true, cs⟩)
def valR (ops : Array Oper) (s : Array Bool) : List Nat → Option Nat
  | [] => none
  | i :: l => bif readyB ops s i && (match ops[i]? with
    | some o => isVal o && !isSl o
    | none => false) then some i else valR ops s l
def forkK (C : CallSem) (P : Program) (ops : Array Oper) (is keep : List Nat) (sE : Array Bool) : Nat → Array Bool → List AV → Mem → Option (List AV)
  | 0, s, tm, _ => bif decide (s.toList = sE.toList) then some (keep.map fun t => tm.getD t .bad) else none
  | f + 1, s, tm, M => match valR ops s is with
    | some i => match ops[i]? with
      | some o => bif is.contains i && readyB ops s i && (isVal o && !isSl o) && (freeAll ops || Region.free .any ops s i) then
          guardK ops tm o (fun tm => valK P tm M o fun z M' => forkK C P ops is keep sE f (s.setIfInBounds i true) (putT tm o.dst z) M')
            (fun tm => forkK C P ops is keep sE f (s.setIfInBounds i true) (putT tm o.dst (.lit undef)) M) else none
      | none => none
    | none => joinF (fun i => match ops[i]? with
      | some o => bif is.contains i && !(isVal o && !isSl o) then
          guardK ops tm o (fun tm => growK C P tm M o fun z M' => forkK C P ops is keep sE f (s.setIfInBounds i true) (putT tm o.dst z) M')
            (fun tm => forkK C P ops is keep sE f (s.setIfInBounds i true) (putT tm o.dst (.lit undef)) M) else none
      | none => none) (Region.ready .any ops s)

theorem growK_sound {R : Type} {C : CallSem} {P : Program} (hC : C.Sound P) {ops : Array Oper} {tm : List AV} {M : Mem} {o : Oper} {k : AV → Mem → Option R} {r : R} (h : growK C P tm M o k = some r) :
    ∃ z M1, k z M1 = some r ∧ ∀ E (a : Act) w0 w, RelL E M tm a.tmps.toList → RepM E w0 M w → Region.wanted o (yielded ops a.tmps) = true → Ly P ops o a w fun v w' => ∃ E1, Step E M E1 M1 ∧ RelS E1 M1 z v ∧ RepM E1 w0 M1 w' ∧ Below w.heap.size w w' := by
  unfold growK at h
  split at h
  · rename_i f args htg
    simp only [cond_eq_ite, Bool.and_eq_true] at h
    split at h
    · rename_i hc
      obtain ⟨z, M1, h1, hga, hcall⟩ := hC.read hc.2 h
      refine ⟨z, M1, h1, fun E a w0 w hT hR hw => ?_⟩
      obtain ⟨hsc, hrun⟩ := tgt_run (P := P) htg hc.1 hT w
      obtain ⟨g1, g2⟩ := hcall E w0 w hR hsc hc.1
      exact .inl ⟨hw, .inr (.inr ⟨f, _, hrun.trans g1, g2.mono fun e w' ⟨E', v, q1, q2, q3, q4, q5⟩ => ⟨v, q1, E', q2, q3, q4, q5⟩⟩)⟩
    · cases h
  · obtain ⟨gv, t, cs, hk, hl, hn⟩ := newK_sound h
    refine ⟨_, _, hk, fun E a w0 w hT hR hw => ?_⟩
    obtain ⟨hsc, hrun⟩ := hn E a hT
    have hcells := newCells hR hl hsc
    obtain ⟨h1, h2⟩ := hR.alloc ⟨t, true, cs⟩ rfl (concL E cs).toArray hcells
    refine .inl ⟨hw, .inl ⟨_, _, hrun w0 w hR, _, h2, ⟨mkA_sc gv (by simp [Mem.addB]), fun _ => ?_⟩, h1, below_alloc _ _⟩⟩
    rw [mkA_conc]
    simp [Env.setB]

def clearT (ops : Array Oper) : List Nat → List AV → List AV
  | [], tm => tm
  | i :: l, tm => clearT ops l (match ops[i]? with
    | some o => putT tm o.dst .bad
    | none => tm)
theorem clearT_bad (ops : Array Oper) : ∀ (l : List Nat) (tm : List AV) (t : Nat), tm[t]? = some .bad → (clearT ops l tm)[t]? = some .bad
  | [], tm, t, h => h
  | i :: l, tm, t, h => by
    refine clearT_bad ops l _ t ?_
    split
    · rename_i o _
      cases hd : o.dst with
      | none => exact h
      | some d =>
        simp only [putT]
        rw [List.getElem?_set]
        split
        · rename_i e; subst e; rw [if_pos (lt_of_get h)]
        · exact h
    · exact h
theorem clearT_len (ops : Array Oper) : ∀ (l : List Nat) (tm : List AV), (clearT ops l tm).length = tm.length
  | [], tm => rfl
  | i :: l, tm => by
    rw [clearT, clearT_len ops l]
    split
    · rename_i o _
      cases o.dst <;> simp [putT]
    · rfl
theorem clearT_in (ops : Array Oper) {i : Nat} {o : Oper} {d : Nat} (ho : ops[i]? = some o) (hd : o.dst = some d) (l : List Nat) : ∀ (tm : List AV), i ∈ l → d < tm.length → (clearT ops l tm)[d]? = some .bad := by
  induction l with
  | nil => intro tm hi; cases hi
  | cons j l ih =>
    intro tm hi hlt
    rw [clearT]
    by_cases e : j = i
    · subst e
      rw [ho]
      refine clearT_bad ops l _ d ?_
      simp only [hd, putT]
      rw [List.getElem?_set]
      simp [hlt]
    · refine ih _ ((List.mem_cons.1 hi).elim (fun h => absurd h.symm e) id) ?_
      split
      · rename_i o' _
        cases o'.dst <;> simp [putT, hlt]
      · exact hlt
theorem clearT_put (ops : Array Oper) {is : List Nat} {tm : List AV} {i : Nat} {o : Oper} (hi : i ∈ is) (ho : ops[i]? = some o) : putT (clearT ops is tm) o.dst .bad = clearT ops is tm := by
  cases hd : o.dst with
  | none => rfl
  | some d =>
    simp only [putT]
    rcases Nat.lt_or_ge d tm.length with hlt | hge
    · have := clearT_in ops ho hd is tm hi hlt
      apply List.ext_getElem?
      intro j
      rw [List.getElem?_set]
      split
      · rename_i e; subst e
        rw [if_pos (by rw [clearT_len]; exact hlt), this]
      · rfl
    · rw [List.set_eq_of_length_le (by rw [clearT_len]; exact hge)]
theorem RelS.bad_ {E : Env} {M : Mem} {v : Value} : RelS E M .bad v := ⟨rfl, fun h => by cases h⟩
theorem clearT_rel {E : Env} {M : Mem} {vs : List Value} {ops : Array Oper} : ∀ (l : List Nat) (tm : List AV), RelL E M tm vs → RelL E M (clearT ops l tm) vs
  | [], tm, h => h
  | i :: l, tm, h => by
    refine clearT_rel l _ ?_
    split
    · rename_i o _
      cases hd : o.dst with
      | none => exact h
      | some d =>
        refine ⟨by simp [putT, h.len], fun j x v hx hv => ?_⟩
        simp only [putT] at hx
        rw [List.getElem?_set] at hx
        split at hx
        · split at hx
          · cases hx; exact RelS.bad_
          · cases hx
        · exact h.at_ j x v hx hv
    · exact h

def putZ : List Nat → List AV → List AV → List AV
  | [], _, tm => tm
  | _ :: _, [], tm => tm
  | t :: l, z :: zs, tm => putZ l zs (tm.set t z)
theorem putZ_rel {E : Env} {M : Mem} {vs : List Value} : ∀ (keep : List Nat) (zs tm : List AV), RelL E M tm vs → (∀ t z, (t, z) ∈ keep.zip zs → ∀ v, vs[t]? = some v → RelS E M z v) → RelL E M (putZ keep zs tm) vs
  | [], zs, tm, h, _ => h
  | t :: l, [], tm, h, _ => h
  | t :: l, z :: zs, tm, h, hz => by
    refine putZ_rel l zs _ ⟨by simp [h.len], fun j x v hx hv => ?_⟩ fun t' z' hm => hz t' z' (by simp [hm])
    rw [List.getElem?_set] at hx
    split at hx
    · rename_i e; subst e
      split at hx
      · cases hx; exact hz _ _ (by simp) v hv
      · cases hx
    · exact h.at_ j x v hx hv

/-- what every order ends in -/
def Leaf (E0 : Env) (w0 : Bs) (M0 : Mem) (tmC : List AV) (keep : List Nat) (zs : List AV) (a : Act) (w : World) : Prop :=
  a.defers = [] ∧ RepM E0 w0 M0 w ∧ RelL E0 M0 tmC a.tmps.toList ∧ ∃ E M tm, RelL E M tm a.tmps.toList ∧ zs = keep.map fun t => tm.getD t .bad
theorem array_ext_list {s t : Array Bool} (h : s.toList = t.toList) : s = t := by
  cases s; cases t; simp_all
theorem forkK_sound {C : CallSem} {P : Program} (hC : C.Sound P) {ops : Array Oper} {is keep : List Nat} {sE : Array Bool} {T : Nat → Kd} {K : Act → World → Prop} {E0 : Env} {w0 : Bs} {M0 : Mem} {tmC zs : List AV}
    (S : Seg ops T sE) (hkd : ∀ i, i ∈ is → T i = mkd ops i) (hclr : ∀ i o, i ∈ is → ops[i]? = some o → putT tmC o.dst .bad = tmC) (hK : ∀ a w, Leaf E0 w0 M0 tmC keep zs a w → K a w) :
    ∀ (f : Nat) (s : Array Bool) (tm : List AV) (M : Mem), forkK C P ops is keep sE f s tm M = some zs → ∀ E (a : Act) w, Inv ops T sE s → RelL E M tm a.tmps.toList → RepM E w0 M w → a.defers = [] → RelL E0 M0 tmC a.tmps.toList → RepM E0 w0 M0 w → anyB P ops T sE K f s a w := by
  intro f
  induction f with
  | zero =>
    intro s tm M h E a w hinv hT hR hd hT0 hR0
    simp only [forkK, cond_eq_ite, decide_eq_true_eq] at h
    split at h
    · rename_i hs
      simp only [Option.some.injEq] at h
      exact ⟨array_ext_list hs, hK a w ⟨hd, hR0, hT0, E, M, tm, hT, h.symm⟩⟩
    · cases h
  | succ f ih =>
    intro s tm M h E a w hinv hT hR hd hT0 hR0
    have put0 : ∀ {i : Nat} {o : Oper} {v : Value}, i ∈ is → ops[i]? = some o → RelL E0 M0 tmC (a.put o.dst v).tmps.toList := fun {i o v} hi ho => by
      have := hT0.put o.dst (RelS.bad_ (E := E0) (M := M0) (v := v))
      rw [hclr _ _ hi ho] at this
      exact this
    rw [forkK] at h
    split at h
    · rename_i i _
      split at h
      · rename_i o ho
        simp only [cond_eq_ite] at h
        split at h
        · rename_i hc
          simp only [Bool.and_eq_true, Bool.not_eq_true', List.contains_eq_mem, decide_eq_true_eq] at hc
          obtain ⟨⟨⟨hin, hrb⟩, hval, hsl0⟩, hfr⟩ := hc
          have hkq : mkd ops i = .q0 := by unfold mkd; rw [ho]; simp [hval, hsl0]
          have hTi : T i = .q0 := (hkd i hin).trans hkq
          have hr := readyB_spec hrb
          have hinv' := hinv.set S (by rw [hTi]; exact fun h => by cases h) hr
          rcases guardK_sound h with ⟨h, hw⟩ | ⟨h, hw⟩
          · obtain ⟨z, M1, h1, hgr, hsl, hv⟩ := valK_sound h
            have hM := hsl hsl0
            subst hM
            obtain ⟨E1, v, hs, hrun⟩ := hv E a hT
            obtain ⟨g1, g2, g3⟩ := hrun w0 w hR
            refine anyB_q0 S ho hTi _ s a w hinv hr (free_of (fa := freeAll ops) id ho hr hfr) (.inl ⟨hw E _ a hT, fun w' hb => (hrun w0 w' (hR.later hb)).2.2⟩) ?_
            exact ih _ _ _ h1 E1 _ w hinv' ((hT.step hs).put o.dst g1) g2 (by rw [put_defers]; exact hd) (put0 hin ho) hR0
          · refine anyB_q0 S ho hTi _ s a w hinv hr (free_of (fa := freeAll ops) id ho hr hfr) (v := undef) (.inr ⟨hw E M a hT, rfl⟩) ?_
            exact ih _ _ _ h E _ w hinv' (hT.put o.dst (RelS.lit _ _ _)) hR (by rw [put_defers]; exact hd) (put0 hin ho) hR0
        · cases h
      · cases h
    · obtain ⟨hne, hall⟩ := joinF_spec h
      refine ⟨hne, fun j hj => ?_⟩
      have h := hall j hj
      split at h
      · rename_i o ho
        refine ⟨o, ho, ?_⟩
        simp only [cond_eq_ite] at h
        split at h
        · rename_i hc
          simp only [Bool.and_eq_true, List.contains_eq_mem, decide_eq_true_eq] at hc
          obtain ⟨hin, hval⟩ := hc
          have hkl : mkd ops j = .l := by
            unfold mkd; rw [ho]
            cases hv1 : isVal o <;> cases hv2 : isSl o <;> simp_all
          have hTj : T j = .l := (hkd j hin).trans hkl
          have hinv' := hinv.set S (by rw [hTj]; exact fun h => by cases h) hj
          simp only [hTj]
          rcases guardK_sound h with ⟨h, hw⟩ | ⟨h, hw⟩
          · obtain ⟨z, M1, h1, hgo⟩ := growK_sound hC h
            refine ⟨_, hgo E a w0 w hT hR (hw E M a hT), fun v w' ⟨E1, hs, hv, hR1, hb⟩ => ⟨hb, ?_⟩⟩
            exact ih _ _ _ h1 E1 _ w' hinv' ((hT.step hs).put o.dst hv) hR1 (by rw [put_defers]; exact hd) (put0 hin ho) (hR0.later hb)
          · refine ⟨fun v w' => v = undef ∧ w' = w, .inr ⟨hw E M a hT, rfl, rfl⟩, fun v w' ⟨e1, e2⟩ => ?_⟩
            subst e1; subst e2
            exact ⟨Below.refl _ _, ih _ _ _ h E _ w' hinv' (hT.put o.dst (RelS.lit _ _ _)) hR (by rw [put_defers]; exact hd) (put0 hin ho) hR0⟩
        · cases h
      · cases h

/-! its place in a plan -/
def stepsC (ops : Array Oper) : List Nat → Array Bool → Bool
  | [], _ => true
  | i :: l, s => readyB ops s i && stepsC ops l (s.setIfInBounds i true)
def forkB (ops : Array Oper) (is : List Nat) (s : Array Bool) : Bool :=
  let sE := doneL is s
  Region.noSelect ops && stepsC ops is s && 
  ((List.range ops.size).all fun j => sE.getD j true || (match ops[j]? with
    | some o => (o.after.any fun e => Region.binds .any e && !sE.getD e.on false)
    | none => true) || (let R := reachB ops j; is.all fun i => R.getD i false))
theorem stepsC_closed {ops : Array Oper} : ∀ (l : List Nat) (s : Array Bool), stepsC ops l s = true → Closed ops s → Closed ops (doneL l s) ∧ ∀ i, i ∈ l → i < ops.size
  | [], s, _, hc => ⟨hc, fun i hi => by cases hi⟩
  | i :: l, s, h, hc => by
    simp only [stepsC, Bool.and_eq_true] at h
    have hr : i ∈ Region.ready .any ops s := readyB_spec h.1
    obtain ⟨g1, g2⟩ := stepsC_closed l _ h.2 (hc.set hr)
    refine ⟨g1, fun j hj => ?_⟩
    rcases List.mem_cons.1 hj with rfl | hj
    · obtain ⟨_, o, ho, _⟩ := mem_ready.1 hr
      exact (Array.getElem?_eq_some_iff.1 ho).1
    · exact g2 j hj
structure ForkSpec (ops : Array Oper) (is : List Nat) (s : Array Bool) : Prop where
  seg : Seg ops (mixT ops is) (doneL is s)
  inv : Inv ops (mixT ops is) (doneL is s) s
  closed : Closed ops (doneL is s)
  size : (doneL is s).size = ops.size
theorem forkB_spec {ops : Array Oper} {is : List Nat} {s : Array Bool} (h : forkB ops is s = true) (hc : Closed ops s) (hsz : s.size = ops.size) : ForkSpec ops is s := by
  simp only [forkB, Bool.and_eq_true, List.all_eq_true] at h
  obtain ⟨⟨hsel, hst⟩, hout⟩ := h
  obtain ⟨hc1, hlt⟩ := stepsC_closed is s hst hc
  have hszE : (doneL is s).size = ops.size := (doneL_size _ _).trans hsz
  have ct : ∀ (i : Nat), i ∈ is → is.contains i = true := fun i hi => by simpa using hi
  have cf : ∀ (i : Nat), i ∉ is → is.contains i = false := fun i hi => by simpa using hi
  have ki : ∀ i, mixT ops is i ≠ .out → i ∈ is := fun i hi => by
    by_cases hm : i ∈ is
    · exact hm
    · unfold mixT at hi; rw [cf i hm] at hi; exact absurd rfl hi
  have kout : ∀ i, i ∈ is → mixT ops is i ≠ .out := fun i hi => by
    unfold mixT mkd
    rw [ct i hi]
    simp only [Array.getElem?_eq_getElem (hlt i hi)]
    split <;> exact fun h => by cases h
  have kk : ∀ i, mixT ops is i = .out ∨ mixT ops is i = .q0 ∨ mixT ops is i = .l := fun i => by
    unfold mixT mkd
    split
    · split
      · split
        · exact .inr (.inl rfl)
        · exact .inr (.inr rfl)
      · exact .inl rfl
    · exact .inl rfl
  have inn : ∀ j, mixT ops is j ≠ .out → (doneL is s).getD j false = true := fun j hj => doneL_in _ _ _ (ki j hj) (by rw [hsz]; exact hlt j (ki j hj))
  have hinv : Inv ops (mixT ops is) (doneL is s) s :=
    ⟨(doneL_size _ _).symm, doneL_mono _ s, fun j hj hd => by rw [doneL_ne _ _ _ _ (fun hm => kout j hm hj)] at hd; exact hd, hc⟩
  refine ⟨⟨Region.noSelect_spec hsel, inn, fun {t} hi {i j} hu hT hj hTj => ?_, fun {t} hi {i j} hu hT h0 hl hj hTj => ?_⟩, hinv, hc1, hszE⟩
  · obtain ⟨hju, o, ho, hall⟩ := mem_ready.1 hj
    have hjl : j < ops.size := (Array.getElem?_eq_some_iff.1 ho).1
    have hjE : (doneL is s).getD j false = false := by
      cases hE : (doneL is s).getD j false with
      | false => rfl
      | true => have := hi.old j hTj hE; rw [getD_both hju] at this; cases this
    have := hout j (List.mem_range.2 hjl)
    simp only [Bool.or_eq_true] at this
    rcases this with (h1 | h1) | h1
    · rw [getD_in (by rw [hszE]; exact hjl) hjE] at h1; cases h1
    · rw [ho] at h1
      obtain ⟨e, he, hb⟩ := Array.any_eq_true'.1 h1
      simp only [Bool.and_eq_true, Bool.not_eq_true'] at hb
      have := hi.sub _ (hall e he hb.1)
      rw [hb.2] at this; cases this
    · simp only [List.all_eq_true] at h1
      rcases reachB_spec hi.closed hj i (h1 i (ki i hT)) with rfl | hd
      · exact hT hTj
      · rw [getD_both hu] at hd; cases hd
  · rcases kk i with e | e | e
    · exact hT e
    · exact h0 e
    · exact hl e
def forkOf (C : CallSem) (P : Program) (ops : Array Oper) (is keep : List Nat) (s : Array Bool) (tm : List AV) (M : Mem) : Option (List AV) :=
  match forkK C P ops is keep (doneL is s) is.length s tm M with
  | some zs => bif eqLits zs zs then some (putZ keep zs (clearT ops is tm)) else none
  | none => none
theorem forkOf_sound {C : CallSem} {P : Program} (hC : C.Sound P) {ops : Array Oper} {is keep : List Nat} {s : Array Bool} {tm tm' : List AV} {M : Mem} (hS : ForkSpec ops is s) (h : forkOf C P ops is keep s tm M = some tm') :
    ∀ (K : Act → World → Prop) (E : Env) (w0 : Bs) (a : Act) (w : World), RelL E M tm a.tmps.toList → a.defers = [] → RepM E w0 M w →
    (∀ a' w', RelL E M tm' a'.tmps.toList → a'.defers = [] → RepM E w0 M w' → K a' w') → anyB P ops (mixT ops is) (doneL is s) K is.length s a w := by
  intro K E w0 a w hT hd hR hk
  unfold forkOf at h
  split at h
  · rename_i zs hz
    simp only [cond_eq_ite] at h
    split at h
    · rename_i he
      simp only [Option.some.injEq] at h
      subst h
      obtain ⟨_, hlit⟩ := eqLits_spec he
      refine forkK_sound (tmC := clearT ops is tm) hC hS.seg (fun i hi => ?_) (fun i o hi ho => clearT_put ops hi ho) (fun a' w' ⟨hd', hR', hT', E1, M1, tm1, hT1, hzs⟩ => ?_) _ s tm M hz E a w hS.inv hT hR hd (clearT_rel is tm hT) hR
      · unfold mixT
        have : is.contains i = true := by simpa using hi
        rw [this]
      · refine hk a' w' (putZ_rel keep zs _ hT' fun t z hm v hv => ?_) hd' hR'
        obtain ⟨x, rfl⟩ := hlit z (List.of_mem_zip hm).2
        rw [hzs] at hm
        have ht : tm1.getD t .bad = .lit x := by
          rw [List.zip_map_right, List.mem_map] at hm
          obtain ⟨⟨p, q⟩, hpq, e⟩ := hm
          simp only [Prod.map, id, Prod.mk.injEq] at e
          obtain ⟨rfl, e2⟩ := e
          have : p = q := by
            obtain ⟨i, hi⟩ := List.mem_iff_getElem?.1 hpq
            rw [List.getElem?_zip_eq_some] at hi
            obtain ⟨h1, h2⟩ := hi
            rw [h1] at h2
            exact Option.some.inj h2
          rw [this]; exact e2
        have ht' : tm1[t]? = some (.lit x) := by
          rw [List.getD_eq_getElem?_getD] at ht
          cases hq : tm1[t]? with
          | none => rw [hq] at ht; cases ht
          | some y => rw [hq] at ht; simp only [Option.getD_some] at ht; rw [ht]
        have := (hT1.at_ t _ v ht' hv).2 rfl
        rw [this]
        exact RelS.lit _ _ _
    · cases h
  · cases h
end Go.Sx
