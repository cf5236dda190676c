import Derived.Test.YtplfijdonikaoaaSxF3
set_option linter.unusedVariables false
set_option linter.unusedSimpArgs false
namespace Go.Sx
open Go Go.RowKit

/-! A stretch of values and calls that read: the calls stand in one order, the values in any. -/

section
variable {P : Program} {ops : Array Oper} {T : Nat → Kd} {sE : Array Bool} {K : Act → World → Prop}

def QyB (P : Program) (ops : Array Oper) (o : Oper) (a : Act) (v : Value) (w : World) : Prop :=
  (Region.wanted o (yielded ops a.tmps) = true ∧ ∀ w', Below w.heap.size w w' → (execOp a.eval o).run P w' = .ok (.value v) w') ∨ (Region.wanted o (yielded ops a.tmps) = false ∧ v = undef)
theorem QyB.of_same {o : Oper} {v : Value} {w : World} {a a' : Act} (h : QyB P ops o a v w) (he : execOp a'.eval o = execOp a.eval o ∧ Region.wanted o (yielded ops a'.tmps) = Region.wanted o (yielded ops a.tmps)) : QyB P ops o a' v w := by
  unfold QyB at *; rw [he.1, he.2]; exact h
theorem QyB.later {o : Oper} {v : Value} {w w1 : World} {a : Act} (h : QyB P ops o a v w) (hb : Below w.heap.size w w1) : QyB P ops o a v w1 :=
  h.imp (fun ⟨h1, h2⟩ => ⟨h1, fun w' hb' => h2 w' (below_thru hb hb')⟩) id
def anyB (P : Program) (ops : Array Oper) (T : Nat → Kd) (sE : Array Bool) (K : Act → World → Prop) : Nat → Array Bool → Act → World → Prop
  | 0 => fun s a w => s = sE ∧ K a w
  | f + 1 => fun s a w => Region.ready .any ops s ≠ [] ∧ ∀ j, j ∈ Region.ready .any ops s → ∃ oj, ops[j]? = some oj ∧
      match T j with
      | .q0 => ∃ v, QyB P ops oj a v w ∧ anyB P ops T sE K f (s.setIfInBounds j true) (a.put oj.dst v) w
      | .l => ∃ R : Value → World → Prop, Ly P ops oj a w R ∧ ∀ v w', R v w' → Below w.heap.size w w' ∧ anyB P ops T sE K f (s.setIfInBounds j true) (a.put oj.dst v) w'
      | _ => False

theorem anyB_run {Q : Exit → Act → World → Prop} {g : Nat} (hK : ∀ a w, K a w → wpAny P .any ops Q g sE a w) :
    ∀ (f : Nat) (s : Array Bool) (a : Act) (w : World), anyB P ops T sE K f s a w → wpAny P .any ops Q (f + g) s a w := by
  intro f
  induction f with
  | zero => intro s a w h; rw [Nat.zero_add]; obtain ⟨rfl, h⟩ := h; exact hK a w h
  | succ f ih =>
    intro s a w h
    rw [Nat.add_right_comm]
    refine ⟨fun e => absurd e h.1, fun j hj => ?_⟩
    obtain ⟨oj, hoj, hstep⟩ := h.2 j hj
    unfold wpOp
    simp only [hoj]
    cases hT : T j with
    | out => simp only [hT] at hstep
    | q1 => simp only [hT] at hstep
    | g v o => simp only [hT] at hstep
    | q0 =>
      simp only [hT] at hstep
      obtain ⟨v, hq, hk⟩ := hstep
      rcases hq with ⟨hwt, hrun⟩ | ⟨hwt, rfl⟩
      · rw [if_pos hwt]
        refine .inl ?_
        unfold Oper.wp
        rw [hrun w (Below.refl _ _)]
        exact ih _ _ w hk
      · rw [if_neg (by rw [hwt]; exact Bool.false_ne_true)]
        exact ih _ _ w hk
    | l =>
      simp only [hT] at hstep
      obtain ⟨R, hl, hk⟩ := hstep
      have go : ∀ v w', R v w' → wpAny P .any ops Q (f + g) (s.setIfInBounds j true) (a.put oj.dst v) w' := fun v w' hr => ih _ _ w' (hk v w' hr).2
      rcases hl with ⟨hwt, hrun⟩ | ⟨hwt, hr⟩
      · rw [if_pos hwt]
        refine .inl ?_
        unfold Oper.wp
        rcases hrun with ⟨v, w', hrun, hr⟩ | ⟨w', hrun, hr⟩ | ⟨f', args, hrun, hc⟩
        · rw [hrun]; exact go v w' hr
        · rw [hrun]; exact go undef w' hr
        · rw [hrun]
          refine hc.mono fun e w' ⟨v, he, hr⟩ => ?_
          subst he
          exact go v w' hr
      · rw [if_neg (by rw [hwt]; exact Bool.false_ne_true)]
        exact go undef w hr

theorem anyB_q0 (S : Seg ops T sE) {i : Nat} {oi : Oper} {v : Value} (hi : ops[i]? = some oi) (hT : T i = .q0) :
    ∀ (f : Nat) (s : Array Bool) (a : Act) (w : World), Inv ops T sE s → i ∈ Region.ready .any ops s → Free ops s i oi → QyB P ops oi a v w →
      anyB P ops T sE K f (s.setIfInBounds i true) (a.put oi.dst v) w → anyB P ops T sE K (f + 1) s a w := by
  have hTo : T i ≠ .out := by rw [hT]; exact fun h => by cases h
  intro f
  induction f with
  | zero =>
    intro s a w hinv hr hfree hy h
    refine ⟨fun e => (by rw [e] at hr; cases hr), fun j hj => ?_⟩
    by_cases e : j = i
    · subst e; exact ⟨oi, hi, by simp only [hT]; exact ⟨v, hy, h⟩⟩
    · exact (last_no S hinv hTo hr hj e h.1).elim
  | succ f ih =>
    intro s a w hinv hr hfree hy h
    refine ⟨fun e => (by rw [e] at hr; cases hr), fun j hj => ?_⟩
    by_cases e : j = i
    · subst e; exact ⟨oi, hi, by simp only [hT]; exact ⟨v, hy, h⟩⟩
    · obtain ⟨hjun, oj, hoj, hap⟩ := S.apart hi hr hfree hj e
      obtain ⟨oj', hoj', hform⟩ := h.2 j (ready_mono hj e)
      have : oj' = oj := Option.some.inj (hoj'.symm.trans hoj)
      subst this
      have hin := S.isIn hinv (mem_ready.1 hr).1 hTo hj
      have hr' := ready_mono hr (Ne.symm e)
      refine ⟨oj', hoj, ?_⟩
      cases hTj : T j with
      | out => exact (hin hTj).elim
      | q1 => simp only [hTj] at hform
      | g v o => simp only [hTj] at hform
      | q0 =>
        simp only [hTj] at hform ⊢
        obtain ⟨u, hq, hk⟩ := hform
        refine ⟨u, hq.of_same (hap.ij' a v), ih _ _ w (hinv.set S hin hj) hr' (hfree.later hjun) (hy.of_same (hap.ji a u)) ?_⟩
        rw [← hap.comm a v u, Array.setIfInBounds_comm _ _ e]
        exact hk
      | l =>
        simp only [hTj] at hform ⊢
        obtain ⟨R, hl, hk⟩ := hform
        refine ⟨R, hl.of_same (hap.ij' a v), fun u w1 hru => ?_⟩
        obtain ⟨hb, hk⟩ := hk u w1 hru
        refine ⟨hb, ih _ _ w1 (hinv.set S hin hj) hr' (hfree.later hjun) ((hy.of_same (hap.ji a u)).later hb) ?_⟩
        rw [← hap.comm a v u, Array.setIfInBounds_comm _ _ e]
        exact hk
theorem anyB_l {i : Nat} {oi : Oper} {R : Value → World → Prop} (hi : ops[i]? = some oi) (hT : T i = .l) {f : Nat} {s : Array Bool} {a : Act} {w : World} (hr : Region.ready .any ops s = [i]) (hl : Ly P ops oi a w R)
    (h : ∀ v w', R v w' → Below w.heap.size w w' ∧ anyB P ops T sE K f (s.setIfInBounds i true) (a.put oi.dst v) w') : anyB P ops T sE K (f + 1) s a w := by
  refine ⟨fun e => (by rw [e] at hr; cases hr), fun j hj => ?_⟩
  rw [hr] at hj
  have : j = i := by simpa using hj
  subst this
  exact ⟨oi, hi, by simp only [hT]; exact ⟨R, hl, h⟩⟩
end

/-! its reckoning -/
def mkd (ops : Array Oper) (i : Nat) : Kd := match ops[i]? with
  | some o => match isVal o && !isSl o with
    | true => .q0
    | false => .l
  | none => .out
def mixT (ops : Array Oper) (is : List Nat) (i : Nat) : Kd := match is.contains i with
  | true => mkd ops i
  | false => .out
def stepsM (ops : Array Oper) (fa : Bool) : List Nat → Array Bool → Bool
  | [], _ => true
  | i :: l, s => (match mkd ops i with
    | .q0 => readyB ops s i && (fa || Region.free .any ops s i)
    | .l => decide (Region.ready .any ops s = [i])
    | _ => false) && stepsM ops fa l (s.setIfInBounds i true)
def mixB (ops : Array Oper) (is : List Nat) (s : Array Bool) : Bool :=
  let sE := doneL is s
  Region.noSelect ops && stepsM ops (freeAll ops) is s && 
  ((List.range ops.size).all fun j => sE.getD j true || (match ops[j]? with
    | some o => (o.after.any fun e => Region.binds .any e && !sE.getD e.on false)
    | none => true) || (let R := reachB ops j; is.all fun i => R.getD i false))
theorem ready_one {ops : Array Oper} {s : Array Bool} {i : Nat} (h : Region.ready .any ops s = [i]) : i ∈ Region.ready .any ops s := by rw [h]; exact List.mem_singleton.2 rfl
theorem stepsM_closed {ops : Array Oper} {fa : Bool} : ∀ (l : List Nat) (s : Array Bool), stepsM ops fa l s = true → Closed ops s → Closed ops (doneL l s) ∧ ∀ i, i ∈ l → i < ops.size
  | [], s, _, hc => ⟨hc, fun i hi => by cases hi⟩
  | i :: l, s, h, hc => by
    simp only [stepsM, Bool.and_eq_true] at h
    have hr : i ∈ Region.ready .any ops s := by
      have h1 := h.1
      split at h1
      · simp only [Bool.and_eq_true] at h1; exact readyB_spec h1.1
      · simp only [decide_eq_true_eq] at h1; exact ready_one h1
      · cases h1
    obtain ⟨g1, g2⟩ := stepsM_closed l _ h.2 (hc.set hr)
    refine ⟨g1, fun j hj => ?_⟩
    rcases List.mem_cons.1 hj with rfl | hj
    · obtain ⟨_, o, ho, _⟩ := mem_ready.1 hr
      exact (Array.getElem?_eq_some_iff.1 ho).1
    · exact g2 j hj
structure MixSpec (ops : Array Oper) (is : List Nat) (s : Array Bool) : Prop where
  seg : Seg ops (mixT ops is) (doneL is s)
  inv : Inv ops (mixT ops is) (doneL is s) s
  steps : stepsM ops (freeAll ops) is s = true
  closed : Closed ops (doneL is s)
  size : (doneL is s).size = ops.size
theorem mixB_spec {ops : Array Oper} {is : List Nat} {s : Array Bool} (h : mixB ops is s = true) (hc : Closed ops s) (hsz : s.size = ops.size) : MixSpec ops is s := by
  simp only [mixB, Bool.and_eq_true, List.all_eq_true] at h
  obtain ⟨⟨hsel, hst⟩, hout⟩ := h
  obtain ⟨hc1, hlt⟩ := stepsM_closed is s hst hc
  have hszE : (doneL is s).size = ops.size := (doneL_size _ _).trans hsz
  have ct : ∀ (i : Nat), i ∈ is → is.contains i = true := fun i hi => by simpa using hi
  have cf : ∀ (i : Nat), i ∉ is → is.contains i = false := fun i hi => by simpa using hi
  have ki : ∀ i, mixT ops is i ≠ .out → i ∈ is := fun i hi => by
    by_cases hm : i ∈ is
    · exact hm
    · unfold mixT at hi; rw [cf i hm] at hi; exact absurd rfl hi
  have kout : ∀ i, i ∈ is → mixT ops is i ≠ .out := fun i hi => by
    unfold mixT mkd
    rw [ct i hi]
    simp only [Array.getElem?_eq_getElem (hlt i hi)]
    split <;> exact fun h => by cases h
  have kk : ∀ i, mixT ops is i = .out ∨ mixT ops is i = .q0 ∨ mixT ops is i = .l := fun i => by
    unfold mixT mkd
    split
    · split
      · split
        · exact .inr (.inl rfl)
        · exact .inr (.inr rfl)
      · exact .inl rfl
    · exact .inl rfl
  have inn : ∀ j, mixT ops is j ≠ .out → (doneL is s).getD j false = true := fun j hj => doneL_in _ _ _ (ki j hj) (by rw [hsz]; exact hlt j (ki j hj))
  have hinv : Inv ops (mixT ops is) (doneL is s) s :=
    ⟨(doneL_size _ _).symm, doneL_mono _ s, fun j hj hd => by rw [doneL_ne _ _ _ _ (fun hm => kout j hm hj)] at hd; exact hd, hc⟩
  refine ⟨⟨Region.noSelect_spec hsel, inn, fun {t} hi {i j} hu hT hj hTj => ?_, fun {t} hi {i j} hu hT h0 hl hj hTj => ?_⟩, hinv, hst, hc1, hszE⟩
  · obtain ⟨hju, o, ho, hall⟩ := mem_ready.1 hj
    have hjl : j < ops.size := (Array.getElem?_eq_some_iff.1 ho).1
    have hjE : (doneL is s).getD j false = false := by
      cases hE : (doneL is s).getD j false with
      | false => rfl
      | true => have := hi.old j hTj hE; rw [getD_both hju] at this; cases this
    have := hout j (List.mem_range.2 hjl)
    simp only [Bool.or_eq_true] at this
    rcases this with (h1 | h1) | h1
    · rw [getD_in (by rw [hszE]; exact hjl) hjE] at h1; cases h1
    · rw [ho] at h1
      obtain ⟨e, he, hb⟩ := Array.any_eq_true'.1 h1
      simp only [Bool.and_eq_true, Bool.not_eq_true'] at hb
      have := hi.sub _ (hall e he hb.1)
      rw [hb.2] at this; cases this
    · simp only [List.all_eq_true] at h1
      rcases reachB_spec hi.closed hj i (h1 i (ki i hT)) with rfl | hd
      · exact hT hTj
      · rw [getD_both hu] at hd; cases hd
  · rcases kk i with e | e | e
    · exact hT e
    · exact h0 e
    · exact hl e

def mixK {R : Type} (C : CallSem) (P : Program) (ops : Array Oper) : List Nat → List AV → Mem → (List AV → Mem → Option R) → Option R
  | [], tm, M, k => k tm M
  | i :: l, tm, M, k => match ops[i]? with
    | some o => guardK ops tm o
        (fun tm => bif isVal o && !isSl o then valK P tm M o fun z M' => mixK C P ops l (putT tm o.dst z) M k else match tgt tm o with
          | some (f, args) => bif lvL M.live args && C.isRead f then C.call f args M fun z M' => mixK C P ops l (putT tm o.dst z) M' k else none
          | none => none)
        (fun tm => mixK C P ops l (putT tm o.dst (.lit undef)) M k)
    | none => none
def MixOk (P : Program) (ops : Array Oper) (fa : Bool) (l : List Nat) (tm : List AV) (M : Mem) (tm' : List AV) (M' : Mem) : Prop :=
  ∀ (T : Nat → Kd) (sE : Array Bool) (K : Act → World → Prop) (E : Env) (w0 : Bs) (a : Act) (w : World) (s : Array Bool), Seg ops T sE → Inv ops T sE s → (∀ i, i ∈ l → T i = mkd ops i) → stepsM ops fa l s = true → doneL l s = sE →
    RelL E M tm a.tmps.toList → a.defers = [] → RepM E w0 M w →
    (∀ E' a' w', Step E M E' M' → RelL E' M' tm' a'.tmps.toList → a'.defers = [] → RepM E' w0 M' w' → K a' w') → anyB P ops T sE K l.length s a w

theorem mixK_sound {R : Type} {C : CallSem} {P : Program} (hC : C.Sound P) {ops : Array Oper} {fa : Bool} (hfa : fa = true → freeAll ops = true) : ∀ (l : List Nat) (tm : List AV) (M : Mem) (k : List AV → Mem → Option R) (r : R), mixK C P ops l tm M k = some r →
    ∃ tm' M', k tm' M' = some r ∧ MixOk P ops fa l tm M tm' M'
  | [], tm, M, k, r, h => ⟨tm, M, h, fun T sE K E w0 a w s S hinv hkd hst hdn hT hd hR hk => ⟨hdn, hk E a w (Step.refl _ _) hT hd hR⟩⟩
  | i :: l, tm, M, k, r, h => by
    simp only [mixK] at h
    cases hi : ops[i]? with
    | none => rw [hi] at h; cases h
    | some o =>
      rw [hi] at h
      simp only at h
      -- a value
      have glueQ : ∀ {z : AV} {tm' : List AV} {M' : Mem}, mkd ops i = .q0 → (∀ E (a : Act) w0 w, RelL E M tm a.tmps.toList → RepM E w0 M w → ∃ E1 v, Step E M E1 M ∧ RelS E1 M z v ∧ RepM E1 w0 M w ∧ QyB P ops o a v w) →
          MixOk P ops fa l (putT tm o.dst z) M tm' M' → MixOk P ops fa (i :: l) tm M tm' M' := by
        intro z tm' M' hkq hone hrest T sE K E w0 a w s S hinv hkd hst hdn hT hd hR hk
        simp only [stepsM, hkq, Bool.and_eq_true] at hst
        have hr := readyB_spec hst.1.1
        have hTi : T i = .q0 := (hkd i List.mem_cons_self).trans hkq
        obtain ⟨E1, v, hs, hv, hR1, hq⟩ := hone E a w0 w hT hR
        refine anyB_q0 S hi hTi _ s a w hinv hr (free_of hfa hi hr hst.1.2) hq ?_
        exact hrest T sE K E1 w0 _ w _ S (hinv.set S (by rw [hTi]; exact fun h => by cases h) hr) (fun j hj => hkd j (List.mem_cons_of_mem _ hj)) hst.2 hdn ((hT.step hs).put o.dst hv) (by rw [put_defers]; exact hd) hR1 fun E' a' w' hs' => hk E' a' w' (hs.trans hs')
      have glueL : ∀ {z : AV} {M1 : Mem} {tm' : List AV} {M' : Mem}, mkd ops i = .l → (∀ E (a : Act) w0 w, RelL E M tm a.tmps.toList → RepM E w0 M w → Ly P ops o a w fun v w' => ∃ E1, Step E M E1 M1 ∧ RelS E1 M1 z v ∧ RepM E1 w0 M1 w' ∧ Below w.heap.size w w') →
          MixOk P ops fa l (putT tm o.dst z) M1 tm' M' → MixOk P ops fa (i :: l) tm M tm' M' := by
        intro z M1 tm' M' hkl hone hrest T sE K E w0 a w s S hinv hkd hst hdn hT hd hR hk
        simp only [stepsM, hkl, Bool.and_eq_true, decide_eq_true_eq] at hst
        have hr := ready_one hst.1
        have hTi : T i = .l := (hkd i List.mem_cons_self).trans hkl
        refine anyB_l hi hTi hst.1 (hone E a w0 w hT hR) fun v w' ⟨E1, hs, hv, hR1, hb⟩ => ⟨hb, ?_⟩
        exact hrest T sE K E1 w0 _ w' _ S (hinv.set S (by rw [hTi]; exact fun h => by cases h) hr) (fun j hj => hkd j (List.mem_cons_of_mem _ hj)) hst.2 hdn ((hT.step hs).put o.dst hv) (by rw [put_defers]; exact hd) hR1 fun E' a' w'' hs' => hk E' a' w'' (hs.trans hs')
      rcases guardK_sound h with ⟨h, hw⟩ | ⟨h, hw⟩
      · simp only [cond_eq_ite] at h
        split at h
        · rename_i hval
          obtain ⟨z, M1, h1, hgr, hsl, hv⟩ := valK_sound h
          simp only [Bool.and_eq_true, Bool.not_eq_true'] at hval
          have hM := hsl hval.2
          subst hM
          obtain ⟨tm', M', hk', hL⟩ := mixK_sound hC hfa l _ _ _ _ h1
          refine ⟨tm', M', hk', glueQ (by unfold mkd; rw [hi]; simp [hval.1, hval.2]) (fun E a w0 w hT hR => ?_) hL⟩
          obtain ⟨E1, v, hs, hrun⟩ := hv E a hT
          obtain ⟨g1, g2, g3⟩ := hrun w0 w hR
          exact ⟨E1, v, hs, g1, g2, .inl ⟨hw E _ a hT, fun w' hb => (hrun w0 w' (hR.later hb)).2.2⟩⟩
        · rename_i hval
          split at h
          · rename_i f args htg
            simp only [Bool.and_eq_true] at h
            split at h
            · rename_i hc
              obtain ⟨z, M1, h1, hga, hcall⟩ := hC.read hc.2 h
              obtain ⟨tm', M', hk', hL⟩ := mixK_sound hC hfa l _ _ _ _ h1
              refine ⟨tm', M', hk', glueL (by unfold mkd; rw [hi]; simp [Bool.not_eq_true] at hval ⊢; cases hv1 : isVal o <;> simp_all) (fun E a w0 w hT hR => ?_) hL⟩
              obtain ⟨hsc, hrun⟩ := tgt_run (P := P) htg hc.1 hT w
              obtain ⟨g1, g2⟩ := hcall E w0 w hR hsc hc.1
              exact .inl ⟨hw E M a hT, .inr (.inr ⟨f, _, hrun.trans g1, g2.mono fun e w' ⟨E', v, q1, q2, q3, q4, q5⟩ => ⟨v, q1, E', q2, q3, q4, q5⟩⟩)⟩
            · cases h
          · cases h
      · obtain ⟨tm', M', hk', hL⟩ := mixK_sound hC hfa l _ _ _ _ h
        refine ⟨tm', M', hk', ?_⟩
        have hkk : mkd ops i = .q0 ∨ mkd ops i = .l := by
          unfold mkd; rw [hi]
          simp only
          split
          · exact .inl rfl
          · exact .inr rfl
        rcases hkk with hkk | hkk
        · exact glueQ hkk (fun E a w0 w hT hR => ⟨E, undef, Step.refl E M, RelS.lit _ _ _, hR, .inr ⟨hw E M a hT, rfl⟩⟩) hL
        · exact glueL hkk (fun E a w0 w hT hR => .inr ⟨hw E M a hT, E, Step.refl E M, RelS.lit _ _ _, hR, Below.refl _ _⟩) hL
end Go.Sx
