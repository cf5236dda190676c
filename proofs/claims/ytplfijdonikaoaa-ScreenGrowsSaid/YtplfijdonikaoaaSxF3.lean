import Derived.Test.YtplfijdonikaoaaSxF2
set_option linter.unusedVariables false
set_option linter.unusedSimpArgs false
namespace Go.Sx
open Go Go.RowKit

/-! The plan of a region, and what is checked of it. -/

/-- what j waits for, in the end -/
def reachStep (ops : Array Oper) (R : Array Bool) (k : Nat) : Array Bool :=
  bif R.getD k false then (match ops[k]? with
    | some o => o.after.foldl (fun R e => bif Region.binds .any e then R.setIfInBounds e.on true else R) R
    | none => R) else R
def reachB (ops : Array Oper) (j : Nat) : Array Bool :=
  (List.range ops.size).reverse.foldl (reachStep ops) ((Array.replicate ops.size false).setIfInBounds j true)

theorem getD_setIf {s : Array Bool} {i k : Nat} (h : (s.setIfInBounds i true).getD k false = true) : k = i ∨ s.getD k false = true := by
  by_cases e : i = k
  · exact .inl e.symm
  · rw [getD_setv_ne _ _ e] at h; exact .inr h

theorem reachB_spec {ops : Array Oper} {s : Array Bool} (hc : Closed ops s) {j : Nat} (hj : j ∈ Region.ready .any ops s) : ∀ k, (reachB ops j).getD k false = true → k = j ∨ s.getD k false = true := by
  have start : ∀ k, ((Array.replicate ops.size false).setIfInBounds j true).getD k false = true → k = j ∨ s.getD k false = true := fun k hk => by
    rcases getD_setIf hk with e | e
    · exact .inl e
    · rw [getD_replicate_false] at e; cases e
  have step : ∀ (R : Array Bool) (m : Nat), (∀ k, R.getD k false = true → k = j ∨ s.getD k false = true) → ∀ k, (reachStep ops R m).getD k false = true → k = j ∨ s.getD k false = true := by
    intro R m hR k hk
    unfold reachStep at hk
    simp only [cond_eq_ite] at hk
    split at hk
    · rename_i hm
      split at hk
      · rename_i o ho
        have hall : ∀ e ∈ o.after, Region.binds .any e = true → s.getD e.on false = true := by
          intro e he hb
          rcases hR m hm with rfl | hd
          · obtain ⟨_, o', ho', h'⟩ := mem_ready.1 hj
            have : o' = o := Option.some.inj (ho'.symm.trans ho)
            subst this
            exact h' e he hb
          · exact hc m o ho hd e he hb
        have key : ∀ (l : List Edge) (R : Array Bool), (∀ e ∈ l, Region.binds .any e = true → s.getD e.on false = true) → (∀ k, R.getD k false = true → k = j ∨ s.getD k false = true) →
            ∀ k, (l.foldl (fun R e => if Region.binds .any e = true then R.setIfInBounds e.on true else R) R).getD k false = true → k = j ∨ s.getD k false = true := by
          intro l
          induction l with
          | nil => intro R _ hR k hk; exact hR k hk
          | cons e l ih =>
            intro R hl hR k hk
            refine ih _ (fun e' he' => hl e' (List.mem_cons_of_mem _ he')) (fun k hk => ?_) k hk
            simp only at hk
            split at hk
            · rename_i hb
              rcases getD_setIf hk with rfl | hk
              · exact .inr (hl e List.mem_cons_self hb)
              · exact hR k hk
            · exact hR k hk
        rw [← Array.foldl_toList] at hk
        exact key o.after.toList R (fun e he => hall e (by simpa using he)) hR k hk
      · exact hR k hk
    · exact hR k hk
  unfold reachB
  generalize (List.range ops.size).reverse = l
  revert start
  generalize (Array.replicate ops.size false).setIfInBounds j true = R
  intro start
  induction l generalizing R with
  | nil => exact start
  | cons m l ih => exact ih _ (step R m start)

theorem doneL_size (l : List Nat) : ∀ s : Array Bool, (doneL l s).size = s.size := by
  induction l with
  | nil => intro s; rfl
  | cons i l ih => intro s; show (doneL l (s.setIfInBounds i true)).size = _; rw [ih]; simp
theorem doneL_mono (l : List Nat) : ∀ (s : Array Bool) (k : Nat), s.getD k false = true → (doneL l s).getD k false = true := by
  induction l with
  | nil => intro s k h; exact h
  | cons i l ih => intro s k h; exact ih _ k (getD_set_true h)
theorem doneL_ne (l : List Nat) : ∀ (s : Array Bool) (k : Nat) (d : Bool), k ∉ l → (doneL l s).getD k d = s.getD k d := by
  induction l with
  | nil => intro s k d _; rfl
  | cons i l ih =>
    intro s k d h
    simp only [List.mem_cons, not_or] at h
    show (doneL l (s.setIfInBounds i true)).getD k d = _
    rw [ih _ k d h.2, getD_setv_ne _ _ (Ne.symm h.1)]
theorem doneL_in (l : List Nat) : ∀ (s : Array Bool) (k : Nat), k ∈ l → k < s.size → (doneL l s).getD k false = true := by
  induction l with
  | nil => intro s k h; cases h
  | cons i l ih =>
    intro s k h hlt
    show (doneL l (s.setIfInBounds i true)).getD k false = true
    by_cases e : k = i
    · subst e; exact doneL_mono l _ k (by simp [hlt])
    · rcases List.mem_cons.1 h with h | h
      · exact absurd h e
      · exact ih _ k h (by simpa using hlt)
theorem doneL_append (l m : List Nat) (s : Array Bool) : doneL (l ++ m) s = doneL m (doneL l s) := by simp [doneL, List.foldl_append]

theorem stepsB_closed {ops : Array Oper} {fa : Bool} : ∀ (l : List Nat) (s : Array Bool), stepsB ops fa l s = true → Closed ops s → Closed ops (doneL l s) ∧ ∀ i, i ∈ l → i < ops.size
  | [], s, _, h => ⟨h, fun i hi => (by cases hi)⟩
  | i :: l, s, hs, h => by
    simp only [stepsB, Bool.and_eq_true] at hs
    have hr : i ∈ Region.ready .any ops s := readyB_spec hs.1.1
    obtain ⟨h1, h2⟩ := stepsB_closed l _ hs.2 (h.set hr)
    refine ⟨h1, fun j hj => ?_⟩
    rcases List.mem_cons.1 hj with rfl | hj
    · obtain ⟨_, o, ho, _⟩ := mem_ready.1 hr
      exact (Array.getElem?_eq_some_iff.1 ho).1
    · exact h2 j hj
theorem seqL_closed {ops : Array Oper} : ∀ (l : List Nat) (s : Array Bool), seqL ops l s = true → Closed ops s → Closed ops (doneL l s) ∧ ∀ i, i ∈ l → i < ops.size
  | [], s, _, h => ⟨h, fun i hi => (by cases hi)⟩
  | i :: l, s, hs, h => by
    simp only [seqL, Bool.and_eq_true, decide_eq_true_eq] at hs
    have hr : i ∈ Region.ready .any ops s := by rw [hs.1]; simp
    obtain ⟨h1, h2⟩ := seqL_closed l _ hs.2 (h.set hr)
    refine ⟨h1, fun j hj => ?_⟩
    rcases List.mem_cons.1 hj with rfl | hj
    · obtain ⟨_, o, ho, _⟩ := mem_ready.1 hr
      exact (Array.getElem?_eq_some_iff.1 ho).1
    · exact h2 j hj

def kdOf (ops : Array Oper) (qs gs ls : List Nat) (gd : Nat → Kd) (i : Nat) : Kd :=
  match qs.contains i with
  | true => match ops[i]? with
    | some o => qkd (isVal o)
    | none => .out
  | false => match gs.contains i with
    | true => gd i
    | false => match ls.contains i with
      | true => .l
      | false => .out

def callIn (ops : Array Oper) (i : Nat) : Bool := match ops[i]? with
  | some o => !isVal o
  | none => true

def segB (ops : Array Oper) (qs gs ls : List Nat) (s : Array Bool) : Bool :=
  let sE := doneL (qs ++ gs ++ ls) s
  Region.noSelect ops && stepsB ops (freeAll ops) (qs ++ gs) s && seqL ops ls (doneL (qs ++ gs) s) && decide (qs ++ gs ++ ls).Nodup && gs.all (readyB ops (doneL qs s)) &&
  ((List.range ops.size).all fun j => sE.getD j true || (match ops[j]? with
    | some o => (o.after.any fun e => Region.binds .any e && !sE.getD e.on false)
    | none => true) || (let R := reachB ops j; (qs ++ gs ++ ls).all fun i => R.getD i false)) &&
  (ls.all fun j => let R := reachB ops j; (qs.all fun i => R.getD i false || !callIn ops i) && gs.all fun i => R.getD i false)

theorem stepsB_append {ops : Array Oper} {fa : Bool} : ∀ (l m : List Nat) (s : Array Bool), stepsB ops fa (l ++ m) s = true → stepsB ops fa l s = true ∧ stepsB ops fa m (doneL l s) = true
  | [], m, s, h => ⟨rfl, h⟩
  | i :: l, m, s, h => by
    simp only [List.cons_append, stepsB, Bool.and_eq_true] at h
    obtain ⟨h1, h2⟩ := stepsB_append l m _ h.2
    exact ⟨by simp only [stepsB, Bool.and_eq_true]; exact ⟨h.1, h1⟩, h2⟩

structure SegSpec (ops : Array Oper) (qs gs ls : List Nat) (s : Array Bool) (T : Nat → Kd) (sE : Array Bool) (gd : Nat → Kd) : Prop where
  seg : Seg ops T sE
  inv : Inv ops T sE s
  steps : stepsB ops (freeAll ops) qs s = true
  stepsG : stepsB ops (freeAll ops) gs (doneL qs s) = true
  readyG : ∀ i, i ∈ gs → i ∈ Region.ready .any ops (doneL qs s)
  seq : seqL ops ls (doneL gs (doneL qs s)) = true
  fin : doneL ls (doneL gs (doneL qs s)) = sE
  nodup : gs.Nodup
  kq : ∀ i, i ∈ qs → QKind ops T i
  kg : ∀ i, i ∈ gs → T i = gd i
  kl : ∀ i, i ∈ ls → T i = .l
  qd : ∀ j, T j = .q0 ∨ T j = .q1 → (doneL qs s).getD j false = true
  closed : Closed ops sE
  size : sE.size = ops.size
  invQ : Inv ops T sE (doneL qs s)

theorem segB_spec {ops : Array Oper} {qs gs ls : List Nat} {s : Array Bool} (h : segB ops qs gs ls s = true) (hc : Closed ops s) (hsz : s.size = ops.size) (gd : Nat → Kd) (hgd : ∀ i, i ∈ gs → ∃ v o, gd i = .g v o) :
    SegSpec ops qs gs ls s (kdOf ops qs gs ls gd) (doneL (qs ++ gs ++ ls) s) gd := by
  simp only [segB, Bool.and_eq_true, decide_eq_true_eq, List.all_eq_true] at h
  obtain ⟨⟨⟨⟨⟨⟨hsel, hst⟩, hsq⟩, hnd⟩, hrg⟩, hout⟩, hlo⟩ := h
  obtain ⟨hst1, hst2⟩ := stepsB_append qs gs s hst
  obtain ⟨hc1, hin1⟩ := stepsB_closed (qs ++ gs) s hst hc
  obtain ⟨hc2, hin2⟩ := seqL_closed ls _ hsq hc1
  have hE : doneL (qs ++ gs ++ ls) s = doneL ls (doneL (qs ++ gs) s) := doneL_append _ _ _
  have hE' : doneL (qs ++ gs) s = doneL gs (doneL qs s) := doneL_append _ _ _
  have hszE : (doneL (qs ++ gs ++ ls) s).size = ops.size := (doneL_size _ _).trans hsz
  have hlt : ∀ i, i ∈ qs ++ gs ++ ls → i < ops.size := fun i hi => by
    rcases List.mem_append.1 hi with hi | hi
    · exact hin1 i hi
    · exact hin2 i hi
  have hnd1 := (List.nodup_append.1 hnd)
  have hnd2 := (List.nodup_append.1 hnd1.1)
  have hqg : ∀ i, i ∈ gs → i ∉ qs := fun i hg hq => hnd2.2.2 i hq i hg rfl
  have hql : ∀ i, i ∈ ls → i ∉ qs := fun i hl hq => hnd1.2.2 i (List.mem_append_left _ hq) i hl rfl
  have hgl : ∀ i, i ∈ ls → i ∉ gs := fun i hl hg => hnd1.2.2 i (List.mem_append_right _ hg) i hl rfl
  have ct : ∀ (l : List Nat) (i : Nat), i ∈ l → l.contains i = true := fun l i hi => by simpa using hi
  have cf : ∀ (l : List Nat) (i : Nat), i ∉ l → l.contains i = false := fun l i hi => by simpa using hi
  have kq : ∀ i, i ∈ qs → QKind ops (kdOf ops qs gs ls gd) i := fun i hi => by
    have hl := hlt i (List.mem_append_left _ (List.mem_append_left _ hi))
    refine ⟨ops[i], by simp [hl], ?_⟩
    unfold kdOf
    rw [ct _ _ hi]
    simp only [Array.getElem?_eq_getElem hl]
  have kg : ∀ i, i ∈ gs → kdOf ops qs gs ls gd i = gd i := fun i hi => by
    unfold kdOf; rw [cf _ _ (hqg i hi), ct _ _ hi]
  have kl : ∀ i, i ∈ ls → kdOf ops qs gs ls gd i = .l := fun i hi => by
    unfold kdOf; rw [cf _ _ (hql i hi), cf _ _ (hgl i hi), ct _ _ hi]
  have ko : ∀ i, i ∉ qs ++ gs ++ ls → kdOf ops qs gs ls gd i = .out := fun i hi => by
    simp only [List.mem_append, not_or] at hi
    unfold kdOf; rw [cf _ _ hi.1.1, cf _ _ hi.1.2, cf _ _ hi.2]
  have ki : ∀ i, kdOf ops qs gs ls gd i ≠ .out → i ∈ qs ++ gs ++ ls := fun i hi => by
    by_cases hm : i ∈ qs ++ gs ++ ls
    · exact hm
    · exact absurd (ko i hm) hi
  have kout : ∀ i, i ∈ qs ++ gs ++ ls → kdOf ops qs gs ls gd i ≠ .out := fun i hi => by
    rcases List.mem_append.1 hi with hi | hi
    · rcases List.mem_append.1 hi with hi | hi
      · obtain ⟨o, _, hT⟩ := kq i hi
        rw [hT]
        cases isVal o <;> exact fun h => (by cases h)
      · rw [kg i hi]
        obtain ⟨v, o, hv⟩ := hgd i hi
        rw [hv]; exact fun h => by cases h
    · rw [kl i hi]; exact fun h => by cases h
  have inn : ∀ j, kdOf ops qs gs ls gd j ≠ .out → (doneL (qs ++ gs ++ ls) s).getD j false = true := fun j hj =>
    doneL_in _ _ _ (ki j hj) (by rw [hsz]; exact hlt j (ki j hj))
  have hinv : Inv ops (kdOf ops qs gs ls gd) (doneL (qs ++ gs ++ ls) s) s :=
    ⟨(doneL_size _ _).symm, doneL_mono _ s, fun j hj hd => by rw [doneL_ne _ _ _ _ (fun hm => kout j hm hj)] at hd; exact hd, hc⟩
  have S : Seg ops (kdOf ops qs gs ls gd) (doneL (qs ++ gs ++ ls) s) := by
    refine ⟨Region.noSelect_spec hsel, inn, fun {t} hi {i j} hu hT hj hTj => ?_, fun {t} hi {i j} hu hT h0 hl hj hTj => ?_⟩
    · obtain ⟨hju, o, ho, hall⟩ := mem_ready.1 hj
      have hjl : j < ops.size := (Array.getElem?_eq_some_iff.1 ho).1
      have hjE : (doneL (qs ++ gs ++ ls) s).getD j false = false := by
        cases hE : (doneL (qs ++ gs ++ ls) s).getD j false with
        | false => rfl
        | true => have := hi.old j hTj hE; rw [getD_both hju] at this; cases this
      have := hout j (List.mem_range.2 hjl)
      simp only [Bool.or_eq_true] at this
      rcases this with (h1 | h1) | h1
      · rw [getD_in (by rw [hszE]; exact hjl) hjE] at h1; cases h1
      · rw [ho] at h1
        obtain ⟨e, he, hb⟩ := Array.any_eq_true'.1 h1
        simp only [Bool.and_eq_true, Bool.not_eq_true'] at hb
        have := hi.sub _ (hall e he hb.1)
        rw [hb.2] at this; cases this
      · simp only [List.all_eq_true] at h1
        rcases reachB_spec hi.closed hj i (h1 i (ki i hT)) with rfl | hd
        · exact hT hTj
        · rw [getD_both hu] at hd; cases hd
    · have hjl : j ∈ ls := by
        have hm := ki j (by rw [hTj]; exact fun h => by cases h)
        rcases List.mem_append.1 hm with hm | hm
        · rcases List.mem_append.1 hm with hm | hm
          · obtain ⟨o, _, hk⟩ := kq j hm
            rw [hTj] at hk
            cases hv : isVal o <;> rw [hv] at hk <;> cases hk
          · have hk := kg j hm
            obtain ⟨v, o, hv⟩ := hgd j hm
            rw [hTj, hv] at hk; cases hk
        · exact hm
      have hh := hlo j hjl
      simp only [Bool.and_eq_true, List.all_eq_true, Bool.or_eq_true, Bool.not_eq_true'] at hh
      have done : (reachB ops j).getD i false = true → False := fun hr => by
        rcases reachB_spec hi.closed hj i hr with rfl | hd
        · exact hl hTj
        · rw [getD_both hu] at hd; cases hd
      have hm := ki i hT
      rcases List.mem_append.1 hm with hm | hm
      · rcases List.mem_append.1 hm with hm | hm
        · rcases hh.1 i hm with hr | hr
          · exact done hr
          · obtain ⟨o, ho, hk⟩ := kq i hm
            unfold callIn at hr
            rw [ho] at hr
            simp only [Bool.not_eq_false'] at hr
            rw [hr] at hk
            exact h0 hk
        · exact done (hh.2 i hm)
      · exact hl (kl i hm)
  refine ⟨S, hinv, hst1, hst2, fun i hi => readyB_spec (hrg i hi), by rw [← hE']; exact hsq, by rw [hE, hE'], hnd2.2.1, kq, kg, kl, ?_, by rw [hE]; exact hc2, hszE, ?_⟩
  · intro j hj
    have hm := ki j (by rcases hj with hj | hj <;> rw [hj] <;> exact fun h => by cases h)
    have hq : j ∈ qs := by
      rcases List.mem_append.1 hm with hm | hm
      · rcases List.mem_append.1 hm with hm | hm
        · exact hm
        · have hk := kg j hm
          obtain ⟨v, o, hv⟩ := hgd j hm
          rw [hv] at hk
          rcases hj with hj | hj <;> rw [hj] at hk <;> cases hk
      · have hk := kl j hm
        rcases hj with hj | hj <;> rw [hj] at hk <;> cases hk
    exact doneL_in _ _ _ hq (by rw [hsz]; exact hlt j (List.mem_append_left _ (List.mem_append_left _ hq)))
  · obtain ⟨hcq, _⟩ := stepsB_closed qs s hst1 hc
    refine ⟨(doneL_size _ _).trans (doneL_size _ _).symm, fun j hj => ?_, fun j hj hd => ?_, hcq⟩
    · rw [hE, hE']; exact doneL_mono _ _ _ (doneL_mono _ _ _ hj)
    · have hn : j ∉ qs ++ gs ++ ls := fun hm => kout j hm hj
      rw [doneL_ne _ _ _ _ hn] at hd
      rw [doneL_ne _ _ _ _ (fun hm => hn (List.mem_append_left _ (List.mem_append_left _ hm)))]
      exact hd

end Go.Sx
