import Derived.Test.YtplfijdonikaoaaSxI
set_option linter.unusedVariables false
set_option linter.unusedSimpArgs false
namespace Go.Sx
open Go Go.RowKit

/-! A stretch of a region that draws its order: operations that leave the world as it is, pure calls, operations that lay one new block, and some stores that do not wait for all of these. Whatever order is drawn, they may be taken in the order of a plan. -/

inductive Kd where
  | out
  | q0
  | q1
  | g (val : Nat → Value) (obj : Obj)
  | l

section
variable {P : Program} {ops : Array Oper} {C : Array Bool → World → Prop} {B1 : Nat} {T : Nat → Kd} {sE : Array Bool} {K : Act → World → Prop}

/-- it yields v in every world of C, and leaves it -/
def Qy0 (P : Program) (ops : Array Oper) (C : World → Prop) (o : Oper) (a : Act) (v : Value) : Prop :=
  (Region.wanted o (yielded ops a.tmps) = true ∧ ∀ w, C w → (execOp a.eval o).run P w = .ok (.value v) w) ∨ (Region.wanted o (yielded ops a.tmps) = false ∧ v = undef)
/-- a call that yields v and lays what is new alone -/
def Qy1 (P : Program) (ops : Array Oper) (C : World → Prop) (o : Oper) (a : Act) (v : Value) : Prop :=
  (Region.wanted o (yielded ops a.tmps) = true ∧ ∃ f args, ∀ w, C w → (execOp a.eval o).run P w = .ok (.enter f args) w ∧ Calls P f args w (fun e w' => e = .returned v ∧ Below w.heap.size w w')) ∨ (Region.wanted o (yielded ops a.tmps) = false ∧ v = undef)
/-- it lays one block -/
def Gy (P : Program) (ops : Array Oper) (C : World → Prop) (o : Oper) (a : Act) (val : Nat → Value) (obj : Obj) : Prop :=
  Region.wanted o (yielded ops a.tmps) = true ∧ ∀ w, C w → (execOp a.eval o).run P w = .ok (.value (val w.heap.size)) (w.alloc obj)
/-- it turns the world: what may stand then -/
def Ly (P : Program) (ops : Array Oper) (o : Oper) (a : Act) (w : World) (R : Value → World → Prop) : Prop :=
  (Region.wanted o (yielded ops a.tmps) = true ∧ ((∃ v w', (execOp a.eval o).run P w = .ok (.value v) w' ∧ R v w') ∨ (∃ w', (execOp a.eval o).run P w = .ok .skip w' ∧ R undef w') ∨
    (∃ f args, (execOp a.eval o).run P w = .ok (.enter f args) w ∧ Calls P f args w (fun e w' => ∃ v, e = .returned v ∧ R v w')))) ∨ (Region.wanted o (yielded ops a.tmps) = false ∧ R undef w)

theorem Qy0.of_same {D : World → Prop} {o : Oper} {v : Value} {a a' : Act} (h : Qy0 P ops D o a v) (he : execOp a'.eval o = execOp a.eval o ∧ Region.wanted o (yielded ops a'.tmps) = Region.wanted o (yielded ops a.tmps)) : Qy0 P ops D o a' v := by
  unfold Qy0 at *; rw [he.1, he.2]; exact h
theorem Qy1.of_same {D : World → Prop} {o : Oper} {v : Value} {a a' : Act} (h : Qy1 P ops D o a v) (he : execOp a'.eval o = execOp a.eval o ∧ Region.wanted o (yielded ops a'.tmps) = Region.wanted o (yielded ops a.tmps)) : Qy1 P ops D o a' v := by
  unfold Qy1 at *; rw [he.1, he.2]; exact h
theorem Gy.of_same {D : World → Prop} {o : Oper} {val : Nat → Value} {obj : Obj} {a a' : Act} (h : Gy P ops D o a val obj) (he : execOp a'.eval o = execOp a.eval o ∧ Region.wanted o (yielded ops a'.tmps) = Region.wanted o (yielded ops a.tmps)) : Gy P ops D o a' val obj := by
  unfold Gy at *; rw [he.1, he.2]; exact h
theorem Ly.of_same {o : Oper} {w : World} {R : Value → World → Prop} {a a' : Act} (h : Ly P ops o a w R) (he : execOp a'.eval o = execOp a.eval o ∧ Region.wanted o (yielded ops a'.tmps) = Region.wanted o (yielded ops a.tmps)) : Ly P ops o a' w R := by
  unfold Ly at *; rw [he.1, he.2]; exact h
theorem Qy0.sub {D D' : World → Prop} {o : Oper} {v : Value} {a : Act} (hd : ∀ w, D w → D' w) (h : Qy0 P ops D' o a v) : Qy0 P ops D o a v :=
  h.imp (fun ⟨h1, h2⟩ => ⟨h1, fun w hw => h2 w (hd w hw)⟩) id
theorem Qy1.sub {D D' : World → Prop} {o : Oper} {v : Value} {a : Act} (hd : ∀ w, D w → D' w) (h : Qy1 P ops D' o a v) : Qy1 P ops D o a v :=
  h.imp (fun ⟨h1, f, args, h2⟩ => ⟨h1, f, args, fun w hw => h2 w (hd w hw)⟩) id
theorem Gy.sub {D D' : World → Prop} {o : Oper} {val : Nat → Value} {obj : Obj} {a : Act} (hd : ∀ w, D w → D' w) (h : Gy P ops D' o a val obj) : Gy P ops D o a val obj :=
  ⟨h.1, fun w hw => h.2 w (hd w hw)⟩
theorem Qy0.det {D : World → Prop} {o : Oper} {v v' : Value} {a : Act} {w : World} (hw : D w) (h : Qy0 P ops D o a v) (h' : Qy0 P ops D o a v') : v = v' := by
  rcases h with ⟨h1, h2⟩ | ⟨h1, h2⟩ <;> rcases h' with ⟨g1, g2⟩ | ⟨g1, g2⟩
  · have := (h2 w hw).symm.trans (g2 w hw)
    simpa using this
  · rw [h1] at g1; cases g1
  · rw [h1] at g1; cases g1
  · rw [h2, g2]

/-- f operations of the stretch, in whatever order; then K. U: blocks that are known by name already. -/
def anyR (P : Program) (ops : Array Oper) (C : Array Bool → World → Prop) (B1 : Nat) (T : Nat → Kd) (sE : Array Bool) (K : Act → World → Prop) : Nat → (Nat → Prop) → Array Bool → Act → World → Prop
  | 0 => fun _ s a w => s = sE ∧ K a w
  | f + 1 => fun U s a w => Region.ready .any ops s ≠ [] ∧ ∀ j, j ∈ Region.ready .any ops s → ∃ oj, ops[j]? = some oj ∧
      match T j with
      | .out => False
      | .q0 => ∃ v, Qy0 P ops (C s) oj a v ∧ anyR P ops C B1 T sE K f U (s.setIfInBounds j true) (a.put oj.dst v) w
      | .q1 => ∃ v, Qy1 P ops (C s) oj a v ∧ ∀ w', Below w.heap.size w w' → anyR P ops C B1 T sE K f U (s.setIfInBounds j true) (a.put oj.dst v) w'
      | .g val obj => Gy P ops (C s) oj a val obj ∧ ∀ r w', Below w.heap.size w w' → B1 ≤ r → ¬ U r → w'.heap[r]? = some obj → anyR P ops C B1 T sE K f (fun x => U x ∨ x = r) (s.setIfInBounds j true) (a.put oj.dst (val r)) w'
      | .l => ∃ R : Value → World → Prop, Ly P ops oj a w R ∧ ∀ v w', R v w' → C (s.setIfInBounds j true) w' ∧ w.heap.size ≤ w'.heap.size ∧ anyR P ops C B1 T sE K f U (s.setIfInBounds j true) (a.put oj.dst v) w'

/-- C holds later, too -/
def Lasts (C : World → Prop) : Prop := ∀ w w', C w → Below w.heap.size w w' → C w'

theorem below_alloc (w : World) (o : Obj) : Below w.heap.size w (w.alloc o) := (Below.refl _ _).alloc (Nat.le_refl _) o
theorem below_thru {w w1 w2 : World} (h : Below w.heap.size w w1) (h' : Below w1.heap.size w1 w2) : Below w.heap.size w w2 := h.trans (h'.mono h.size)

theorem getD_setv_ne {l : Array Bool} {i j : Nat} (v d : Bool) (h : i ≠ j) : (l.setIfInBounds i v).getD j d = l.getD j d := by
  simp [Array.getElem?_setIfInBounds_ne h]

theorem ready_up {s s' : Array Bool} {j : Nat} (hj : j ∈ Region.ready .any ops s) (h : ∀ k, s.getD k false = true → s'.getD k false = true) (hu : s'.getD j true = false) : j ∈ Region.ready .any ops s' := by
  obtain ⟨_, o, ho, hall⟩ := mem_ready.1 hj
  exact mem_ready.2 ⟨hu, o, ho, fun e he hb => h _ (hall e he hb)⟩

theorem lt_of_undone {s : Array Bool} {j : Nat} (h : s.getD j true = false) : j < s.size := by
  rcases Nat.lt_or_ge j s.size with h' | h'
  · exact h'
  · simp [Array.getElem?_eq_none h'] at h

/-- whatever is listed, so is all that it waits for -/
def Closed (ops : Array Oper) (s : Array Bool) : Prop :=
  ∀ j oj, ops[j]? = some oj → s.getD j false = true → ∀ e ∈ oj.after, Region.binds .any e = true → s.getD e.on false = true

theorem Closed.set {s : Array Bool} (h : Closed ops s) {j : Nat} (hj : j ∈ Region.ready .any ops s) : Closed ops (s.setIfInBounds j true) := by
  obtain ⟨_, oj, hoj, hall⟩ := mem_ready.1 hj
  intro m om hm hl e he hb
  by_cases hjm : j = m
  · subst hjm
    have : om = oj := Option.some.inj (hm.symm.trans hoj)
    subst this
    exact getD_set_true (hall e he hb)
  · rw [getD_setv_ne _ _ hjm] at hl
    exact getD_set_true (h m om hm hl e he hb)

/-- where the order stands, in the stretch -/
structure Inv (ops : Array Oper) (T : Nat → Kd) (sE s : Array Bool) : Prop where
  size : s.size = sE.size
  sub : ∀ j, s.getD j false = true → sE.getD j false = true
  old : ∀ j, T j = .out → sE.getD j false = true → s.getD j false = true
  closed : Closed ops s

/-- what is asked of the text -/
structure Seg (ops : Array Oper) (T : Nat → Kd) (sE : Array Bool) : Prop where
  sel : ∀ (j : Nat) (o : Oper) cs b, ops[j]? = some o → o.op ≠ .select cs b
  inn : ∀ j, T j ≠ .out → sE.getD j false = true
  isIn : ∀ {s : Array Bool}, Inv ops T sE s → ∀ {i j : Nat}, s.getD i true = false → T i ≠ .out → j ∈ Region.ready .any ops s → T j ≠ .out
  notLoose : ∀ {s : Array Bool}, Inv ops T sE s → ∀ {i j : Nat}, s.getD i true = false → T i ≠ .out → T i ≠ .q0 → T i ≠ .l → j ∈ Region.ready .any ops s → T j ≠ .l

/-- what holds of the world, by how far the order is: it lasts, it may become less, and it is least once something loose stands -/
structure Cs (ops : Array Oper) (T : Nat → Kd) (sE : Array Bool) (C : Array Bool → World → Prop) : Prop where
  lasts : ∀ s, Lasts (C s)
  up : ∀ (s : Array Bool) (j : Nat) (w : World), C s w → C (s.setIfInBounds j true) w
  loose : ∀ {s : Array Bool} {j : Nat}, Inv ops T sE s → T j = .l → j ∈ Region.ready .any ops s → ∀ s' w, C s' w → C (s.setIfInBounds j true) w

theorem Inv.set {s : Array Bool} (S : Seg ops T sE) (h : Inv ops T sE s) {j : Nat} (hj : T j ≠ .out) (hr : j ∈ Region.ready .any ops s) : Inv ops T sE (s.setIfInBounds j true) := by
  refine ⟨by simp [h.size], fun k hk => ?_, fun k hk hE => getD_set_true (h.old k hk hE), h.closed.set hr⟩
  by_cases e : j = k
  · subst e; exact S.inn _ hj
  · rw [getD_setv_ne _ _ e] at hk; exact h.sub k hk

theorem anyR_run {Q : Exit → Act → World → Prop} {g : Nat} (hC : Cs ops T sE C) (hK : ∀ a w, K a w → wpAny P .any ops Q g sE a w) :
    ∀ (f : Nat) (U : Nat → Prop) (s : Array Bool) (a : Act) (w : World), C s w → B1 ≤ w.heap.size → (∀ r, U r → r < w.heap.size) → anyR P ops C B1 T sE K f U s a w → wpAny P .any ops Q (f + g) s a w := by
  intro f
  induction f with
  | zero => intro U s a w hw _ _ h; rw [Nat.zero_add]; obtain ⟨rfl, h⟩ := h; exact hK a w h
  | succ f ih =>
    intro U s a w hw hB hU h
    rw [Nat.add_right_comm]
    refine ⟨fun e => absurd e h.1, fun j hj => ?_⟩
    obtain ⟨oj, hoj, hstep⟩ := h.2 j hj
    unfold wpOp
    simp only [hoj]
    have later : ∀ w', Below w.heap.size w w' → C (s.setIfInBounds j true) w' ∧ B1 ≤ w'.heap.size ∧ ∀ r, U r → r < w'.heap.size := fun w' hb => ⟨hC.up s j w' (hC.lasts s w w' hw hb), Nat.le_trans hB hb.size, fun r hr => Nat.lt_of_lt_of_le (hU r hr) hb.size⟩
    cases hT : T j with
    | out => simp only [hT] at hstep
    | q0 =>
      simp only [hT] at hstep
      obtain ⟨v, hq, hk⟩ := hstep
      rcases hq with ⟨hwt, hrun⟩ | ⟨hwt, rfl⟩
      · rw [if_pos hwt]
        refine .inl ?_
        unfold Oper.wp
        rw [hrun w hw]
        exact ih U _ _ w (hC.up s j w hw) hB hU hk
      · rw [if_neg (by rw [hwt]; exact Bool.false_ne_true)]
        exact ih U _ _ w (hC.up s j w hw) hB hU hk
    | q1 =>
      simp only [hT] at hstep
      obtain ⟨v, hq, hk⟩ := hstep
      rcases hq with ⟨hwt, f', args, hrun⟩ | ⟨hwt, rfl⟩
      · rw [if_pos hwt]
        refine .inl ?_
        unfold Oper.wp
        rw [(hrun w hw).1]
        refine (hrun w hw).2.mono fun e w' ⟨he, hb⟩ => ?_
        subst he
        obtain ⟨h1, h2, h3⟩ := later w' hb
        exact ih U _ _ w' h1 h2 h3 (hk w' hb)
      · rw [if_neg (by rw [hwt]; exact Bool.false_ne_true)]
        exact ih U _ _ w (hC.up s j w hw) hB hU (hk w (Below.refl _ _))
    | g val obj =>
      simp only [hT] at hstep
      obtain ⟨hg, hk⟩ := hstep
      rw [if_pos hg.1]
      refine .inl ?_
      unfold Oper.wp
      rw [hg.2 w hw]
      have hb := below_alloc w obj
      obtain ⟨h1, h2, _⟩ := later _ hb
      refine ih (fun x => U x ∨ x = w.heap.size) _ _ _ h1 h2 (fun r hr => ?_) (hk w.heap.size _ hb hB (fun hu => Nat.lt_irrefl _ (hU _ hu)) (by show (w.heap.push obj)[w.heap.size]? = _; simp))
      rcases hr with hr | rfl
      · exact Nat.lt_of_lt_of_le (hU r hr) hb.size
      · simp
    | l =>
      simp only [hT] at hstep
      obtain ⟨R, hl, hk⟩ := hstep
      have go : ∀ v w', R v w' → wpAny P .any ops Q (f + g) (s.setIfInBounds j true) (a.put oj.dst v) w' := fun v w' hr => by
        obtain ⟨hw', hsz, hk'⟩ := hk v w' hr
        exact ih U _ _ w' hw' (Nat.le_trans hB hsz) (fun r hr => Nat.lt_of_lt_of_le (hU r hr) hsz) hk'
      rcases hl with ⟨hwt, hrun⟩ | ⟨hwt, hr⟩
      · rw [if_pos hwt]
        refine .inl ?_
        unfold Oper.wp
        rcases hrun with ⟨v, w', hrun, hr⟩ | ⟨w', hrun, hr⟩ | ⟨f', args, hrun, hc⟩
        · rw [hrun]; exact go v w' hr
        · rw [hrun]; exact go undef w' hr
        · rw [hrun]
          refine hc.mono fun e w' ⟨v, he, hr⟩ => ?_
          subst he
          exact go v w' hr
      · rw [if_neg (by rw [hwt]; exact Bool.false_ne_true)]
        exact go undef w hr

theorem anyR_mono : ∀ (f : Nat) (U U' : Nat → Prop) (s : Array Bool) (a : Act) (w : World), (∀ x, U' x → U x) → anyR P ops C B1 T sE K f U' s a w → anyR P ops C B1 T sE K f U s a w := by
  intro f
  induction f with
  | zero => intro U U' s a w _ h'; exact h'
  | succ f ih =>
    intro U U' s a w h h'
    refine ⟨h'.1, fun j hj => ?_⟩
    obtain ⟨oj, hoj, hs⟩ := h'.2 j hj
    refine ⟨oj, hoj, ?_⟩
    cases hT : T j with
    | out => simp only [hT] at hs
    | q0 => simp only [hT] at hs ⊢; obtain ⟨v, hq, hk⟩ := hs; exact ⟨v, hq, ih U U' _ _ _ h hk⟩
    | q1 => simp only [hT] at hs ⊢; obtain ⟨v, hq, hk⟩ := hs; exact ⟨v, hq, fun w' hb => ih U U' _ _ _ h (hk w' hb)⟩
    | g val obj => simp only [hT] at hs ⊢; obtain ⟨hg, hk⟩ := hs; exact ⟨hg, fun r w' hb h1 h2 h3 => ih _ _ _ _ _ (fun x hx => hx.imp (h x) id) (hk r w' hb h1 (fun hu => h2 (h r hu)) h3)⟩
    | l => simp only [hT] at hs ⊢; obtain ⟨R, h1, hk⟩ := hs; exact ⟨R, h1, fun v w' hr => let ⟨h2, h3, h4⟩ := hk v w' hr; ⟨h2, h3, ih U U' _ _ _ h h4⟩⟩

/-- what is asked of operation i against those that are still to come -/
def Free (ops : Array Oper) (s : Array Bool) (i : Nat) (oi : Oper) : Prop :=
  ∀ j oj, ops[j]? = some oj → j ≠ i → s.getD j true = false → (∀ e ∈ oj.after, Region.binds .any e = true → e.on ≠ i) → oi.apart ops oj = true

theorem Free.later {s : Array Bool} {i j : Nat} {oi : Oper} (h : Free ops s i oi) (hj : s.getD j true = false) : Free ops (s.setIfInBounds j true) i oi := by
  intro m om hm hmi hmun hmf
  refine h m om hm hmi ?_ hmf
  by_cases e : j = m
  · exact e ▸ hj
  · rwa [getD_set_ne true e] at hmun

theorem ready_free {s : Array Bool} {i j : Nat} (hi : s.getD i true = false) (hj : j ∈ Region.ready .any ops s) : s.getD j true = false ∧ ∃ oj, ops[j]? = some oj ∧ ∀ e ∈ oj.after, Region.binds .any e = true → e.on ≠ i := by
  obtain ⟨hjun, oj, hoj, hall⟩ := mem_ready.1 hj
  refine ⟨hjun, oj, hoj, fun x hx hb hon => ?_⟩
  have h1 := hall x hx hb
  rw [hon, getD_both hi] at h1
  cases h1

/-- the two operations do not meet in a slot -/
structure Apart (ops : Array Oper) (oi oj : Oper) : Prop where
  ij : ∀ (a : Act) (u : Value), execOp (a.put oi.dst u).eval oj = execOp a.eval oj ∧ Region.wanted oj (yielded ops (a.put oi.dst u).tmps) = Region.wanted oj (yielded ops a.tmps)
  ji : ∀ (a : Act) (u : Value), execOp (a.put oj.dst u).eval oi = execOp a.eval oi ∧ Region.wanted oi (yielded ops (a.put oj.dst u).tmps) = Region.wanted oi (yielded ops a.tmps)
  comm : ∀ (a : Act) (u v : Value), (a.put oi.dst u).put oj.dst v = (a.put oj.dst v).put oi.dst u
theorem Apart.ij' {oi oj : Oper} (h : Apart ops oi oj) (a : Act) (u : Value) : execOp a.eval oj = execOp (a.put oi.dst u).eval oj ∧ Region.wanted oj (yielded ops a.tmps) = Region.wanted oj (yielded ops (a.put oi.dst u).tmps) :=
  ⟨(h.ij a u).1.symm, (h.ij a u).2.symm⟩

theorem Apart.of {oi oj : Oper} (h : oi.apart ops oj = true) (hsi : ∀ cs b, oi.op ≠ .select cs b) (hsj : ∀ cs b, oj.op ≠ .select cs b) : Apart ops oi oj := by
  obtain ⟨h1, h2, h3⟩ := Oper.apart_spec h
  exact ⟨fun a u => ⟨execOp_put oj hsj a oi.dst u h1, wanted_put oj a oi.dst u h1⟩, fun a u => ⟨execOp_put oi hsi a oj.dst u h3, wanted_put oi a oj.dst u h3⟩, fun a u v => Act.put_comm a u v h2⟩

theorem Seg.apart {s : Array Bool} (S : Seg ops T sE) {i : Nat} {oi : Oper} (hi : ops[i]? = some oi) (hr : i ∈ Region.ready .any ops s) (hfree : Free ops s i oi) {j : Nat} (hj : j ∈ Region.ready .any ops s) (e : j ≠ i) :
    s.getD j true = false ∧ ∃ oj, ops[j]? = some oj ∧ Apart ops oi oj := by
  obtain ⟨hjun, oj, hoj, hjf⟩ := ready_free (mem_ready.1 hr).1 hj
  exact ⟨hjun, oj, hoj, Apart.of (hfree j oj hoj e hjun hjf) (fun cs b => S.sel i oi cs b hi) (fun cs b => S.sel j oj cs b hoj)⟩

theorem last_no {s : Array Bool} (S : Seg ops T sE) (hinv : Inv ops T sE s) {i j : Nat} (hT : T i ≠ .out) (hr : i ∈ Region.ready .any ops s) (hj : j ∈ Region.ready .any ops s) (e : j ≠ i) (h : s.setIfInBounds i true = sE) : False := by
  have h1 := S.inn j (S.isIn hinv (mem_ready.1 hr).1 hT hj)
  rw [← h, getD_setv_ne _ _ (Ne.symm e), getD_both (mem_ready.1 hj).1] at h1
  cases h1

theorem anyR_q0 (S : Seg ops T sE) (hC : Cs ops T sE C) {i : Nat} {oi : Oper} {v : Value} (hi : ops[i]? = some oi) (hT : T i = .q0) :
    ∀ (f : Nat) (U : Nat → Prop) (s : Array Bool) (a : Act) (w : World), Inv ops T sE s → i ∈ Region.ready .any ops s → Free ops s i oi → (∀ s', (∀ k, s.getD k false = true → s'.getD k false = true) → s'.getD i true = false → Qy0 P ops (C s') oi a v) → C s w →
      anyR P ops C B1 T sE K f U (s.setIfInBounds i true) (a.put oi.dst v) w → anyR P ops C B1 T sE K (f + 1) U s a w := by
  have hTo : T i ≠ .out := by rw [hT]; exact fun h => by cases h
  intro f
  induction f with
  | zero =>
    intro U s a w hinv hr hfree hy hw h
    refine ⟨fun e => (by rw [e] at hr; cases hr), fun j hj => ?_⟩
    by_cases e : j = i
    · subst e; exact ⟨oi, hi, by simp only [hT]; exact ⟨v, hy s (fun _ h => h) (mem_ready.1 hr).1, h⟩⟩
    · exact (last_no S hinv hTo hr hj e h.1).elim
  | succ f ih =>
    intro U s a w hinv hr hfree hy hw h
    refine ⟨fun e => (by rw [e] at hr; cases hr), fun j hj => ?_⟩
    by_cases e : j = i
    · subst e; exact ⟨oi, hi, by simp only [hT]; exact ⟨v, hy s (fun _ h => h) (mem_ready.1 hr).1, h⟩⟩
    · obtain ⟨hjun, oj, hoj, hap⟩ := S.apart hi hr hfree hj e
      obtain ⟨oj', hoj', hform⟩ := h.2 j (ready_mono hj e)
      have : oj' = oj := Option.some.inj (hoj'.symm.trans hoj)
      subst this
      have hin := S.isIn hinv (mem_ready.1 hr).1 hTo hj
      have hr' := ready_mono hr (Ne.symm e)
      refine ⟨oj', hoj, ?_⟩
      cases hTj : T j with
      | out => exact (hin hTj).elim
      | q0 =>
        simp only [hTj] at hform ⊢
        obtain ⟨u, hq, hk⟩ := hform
        refine ⟨u, (hq.sub (fun w hw => hC.up s i w hw)).of_same (hap.ij' a v), ih U _ _ w (hinv.set S hin hj) hr' (hfree.later hjun) (fun s' hs hu' => (hy s' (fun k hk => hs k (getD_set_true hk)) hu').of_same (hap.ji a u)) (hC.up s j w hw) ?_⟩
        rw [← hap.comm a v u, Array.setIfInBounds_comm _ _ e]
        exact hk
      | q1 =>
        simp only [hTj] at hform ⊢
        obtain ⟨u, hq, hk⟩ := hform
        refine ⟨u, (hq.sub (fun w hw => hC.up s i w hw)).of_same (hap.ij' a v), fun w1 hb1 => ih U _ _ w1 (hinv.set S hin hj) hr' (hfree.later hjun) (fun s' hs hu' => (hy s' (fun k hk => hs k (getD_set_true hk)) hu').of_same (hap.ji a u)) (hC.up s j w1 (hC.lasts s w w1 hw hb1)) ?_⟩
        rw [← hap.comm a v u, Array.setIfInBounds_comm _ _ e]
        exact hk w1 hb1
      | g val obj =>
        simp only [hTj] at hform ⊢
        obtain ⟨hg, hk⟩ := hform
        refine ⟨(hg.sub (fun w hw => hC.up s i w hw)).of_same (hap.ij' a v), fun r w1 hb1 h1 h2 h3 => ih _ _ _ w1 (hinv.set S hin hj) hr' (hfree.later hjun) (fun s' hs hu' => (hy s' (fun k hk => hs k (getD_set_true hk)) hu').of_same (hap.ji a _)) (hC.up s j w1 (hC.lasts s w w1 hw hb1)) ?_⟩
        rw [← hap.comm a v (val r), Array.setIfInBounds_comm _ _ e]
        exact hk r w1 hb1 h1 h2 h3
      | l =>
        simp only [hTj] at hform ⊢
        obtain ⟨R, hl, hk⟩ := hform
        refine ⟨R, hl.of_same (hap.ij' a v), fun u w1 hru => ?_⟩
        obtain ⟨hw1, hsz, hk⟩ := hk u w1 hru
        have hw1' := hC.loose hinv hTj hj _ _ hw1
        refine ⟨hw1', hsz, ih U _ _ w1 (hinv.set S hin hj) hr' (hfree.later hjun) (fun s' hs hu' => (hy s' (fun k hk => hs k (getD_set_true hk)) hu').of_same (hap.ji a u)) hw1' ?_⟩
        rw [← hap.comm a v u, Array.setIfInBounds_comm _ _ e]
        exact hk

theorem anyR_q1 (S : Seg ops T sE) (hC : Cs ops T sE C) {i : Nat} {oi : Oper} {v : Value} (hi : ops[i]? = some oi) (hT : T i = .q1) :
    ∀ (f : Nat) (U : Nat → Prop) (s : Array Bool) (a : Act) (w : World), Inv ops T sE s → i ∈ Region.ready .any ops s → Free ops s i oi → (∀ s', (∀ k, s.getD k false = true → s'.getD k false = true) → s'.getD i true = false → Qy1 P ops (C s') oi a v) → C s w →
      (∀ w', Below w.heap.size w w' → anyR P ops C B1 T sE K f U (s.setIfInBounds i true) (a.put oi.dst v) w') → anyR P ops C B1 T sE K (f + 1) U s a w := by
  have hTo : T i ≠ .out := by rw [hT]; exact fun h => by cases h
  intro f
  induction f with
  | zero =>
    intro U s a w hinv hr hfree hy hw h
    refine ⟨fun e => (by rw [e] at hr; cases hr), fun j hj => ?_⟩
    by_cases e : j = i
    · subst e; exact ⟨oi, hi, by simp only [hT]; exact ⟨v, hy s (fun _ h => h) (mem_ready.1 hr).1, h⟩⟩
    · exact (last_no S hinv hTo hr hj e (h w (Below.refl _ _)).1).elim
  | succ f ih =>
    intro U s a w hinv hr hfree hy hw h
    refine ⟨fun e => (by rw [e] at hr; cases hr), fun j hj => ?_⟩
    by_cases e : j = i
    · subst e; exact ⟨oi, hi, by simp only [hT]; exact ⟨v, hy s (fun _ h => h) (mem_ready.1 hr).1, h⟩⟩
    · obtain ⟨hjun, oj, hoj, hap⟩ := S.apart hi hr hfree hj e
      have hfm : ∀ w', Below w.heap.size w w' → _ := fun w' hb => (h w' hb).2 j (ready_mono hj e)
      have hin := S.isIn hinv (mem_ready.1 hr).1 hTo hj
      have hr' := ready_mono hr (Ne.symm e)
      refine ⟨oj, hoj, ?_⟩
      cases hTj : T j with
      | out => exact (hin hTj).elim
      | q0 =>
        simp only [hTj] at hfm ⊢
        obtain ⟨o1, ho1, u, hq, _⟩ := hfm w (Below.refl _ _)
        have : o1 = oj := Option.some.inj (ho1.symm.trans hoj)
        subst this
        refine ⟨u, (hq.sub (fun w hw => hC.up s i w hw)).of_same (hap.ij' a v), ih U _ _ w (hinv.set S hin hj) hr' (hfree.later hjun) (fun s' hs hu' => (hy s' (fun k hk => hs k (getD_set_true hk)) hu').of_same (hap.ji a u)) (hC.up s j w hw) fun w2 hb2 => ?_⟩
        obtain ⟨o2, ho2, u2, hq2, hk2⟩ := hfm w2 hb2
        have : o2 = o1 := Option.some.inj (ho2.symm.trans hoj)
        subst this
        have := hq.det (hC.up s i w hw) hq2
        subst this
        rw [← hap.comm a v u, Array.setIfInBounds_comm _ _ e]
        exact hk2
      | q1 =>
        simp only [hTj] at hfm ⊢
        obtain ⟨o1, ho1, u, hq, hk⟩ := hfm w (Below.refl _ _)
        have : o1 = oj := Option.some.inj (ho1.symm.trans hoj)
        subst this
        refine ⟨u, (hq.sub (fun w hw => hC.up s i w hw)).of_same (hap.ij' a v), fun w1 hb1 => ih U _ _ w1 (hinv.set S hin hj) hr' (hfree.later hjun) (fun s' hs hu' => (hy s' (fun k hk => hs k (getD_set_true hk)) hu').of_same (hap.ji a u)) (hC.up s j w1 (hC.lasts s w w1 hw hb1)) fun w2 hb2 => ?_⟩
        rw [← hap.comm a v u, Array.setIfInBounds_comm _ _ e]
        exact hk w2 (below_thru hb1 hb2)
      | g val obj =>
        simp only [hTj] at hfm ⊢
        obtain ⟨o1, ho1, hg, hk⟩ := hfm w (Below.refl _ _)
        have : o1 = oj := Option.some.inj (ho1.symm.trans hoj)
        subst this
        refine ⟨(hg.sub (fun w hw => hC.up s i w hw)).of_same (hap.ij' a v), fun r w1 hb1 h1 h2 h3 => ih _ _ _ w1 (hinv.set S hin hj) hr' (hfree.later hjun) (fun s' hs hu' => (hy s' (fun k hk => hs k (getD_set_true hk)) hu').of_same (hap.ji a _)) (hC.up s j w1 (hC.lasts s w w1 hw hb1)) fun w2 hb2 => ?_⟩
        rw [← hap.comm a v (val r), Array.setIfInBounds_comm _ _ e]
        exact hk r w2 (below_thru hb1 hb2) h1 h2 ((hb2.block r (heap_lt h3)).trans h3)
      | l => exact (S.notLoose hinv (mem_ready.1 hr).1 hTo (by rw [hT]; exact fun h => by cases h) (by rw [hT]; exact fun h => by cases h) hj hTj).elim

theorem anyR_g (S : Seg ops T sE) (hC : Cs ops T sE C) {i : Nat} {oi : Oper} {val : Nat → Value} {obj : Obj} (hi : ops[i]? = some oi) (hT : T i = .g val obj) :
    ∀ (f : Nat) (U : Nat → Prop) (s : Array Bool) (a : Act) (w : World), Inv ops T sE s → (∀ j, T j = .q0 ∨ T j = .q1 → s.getD j false = true) → i ∈ Region.ready .any ops s → Free ops s i oi → (∀ s', (∀ k, s.getD k false = true → s'.getD k false = true) → s'.getD i true = false → Gy P ops (C s') oi a val obj) → C s w → B1 ≤ w.heap.size → (∀ r, U r → r < w.heap.size) →
      (∀ r w', Below w.heap.size w w' → B1 ≤ r → ¬ U r → w'.heap[r]? = some obj → anyR P ops C B1 T sE K f (fun x => U x ∨ x = r) (s.setIfInBounds i true) (a.put oi.dst (val r)) w') → anyR P ops C B1 T sE K (f + 1) U s a w := by
  have hTo : T i ≠ .out := by rw [hT]; exact fun h => by cases h
  intro f
  induction f with
  | zero =>
    intro U s a w hinv hqd hr hfree hy hw hB hU h
    refine ⟨fun e => (by rw [e] at hr; cases hr), fun j hj => ?_⟩
    by_cases e : j = i
    · subst e; exact ⟨oi, hi, by simp only [hT]; exact ⟨hy s (fun _ h => h) (mem_ready.1 hr).1, h⟩⟩
    · have h0 := h w.heap.size (w.alloc obj) (below_alloc w obj) hB (fun hu => Nat.lt_irrefl _ (hU _ hu)) (by show (w.heap.push obj)[w.heap.size]? = _; simp)
      exact (last_no S hinv hTo hr hj e h0.1).elim
  | succ f ih =>
    intro U s a w hinv hqd hr hfree hy hw hB hU h
    refine ⟨fun e => (by rw [e] at hr; cases hr), fun j hj => ?_⟩
    by_cases e : j = i
    · subst e; exact ⟨oi, hi, by simp only [hT]; exact ⟨hy s (fun _ h => h) (mem_ready.1 hr).1, h⟩⟩
    · obtain ⟨hjun, oj, hoj, hap⟩ := S.apart hi hr hfree hj e
      have h0 := h w.heap.size (w.alloc obj) (below_alloc w obj) hB (fun hu => Nat.lt_irrefl _ (hU _ hu)) (by show (w.heap.push obj)[w.heap.size]? = _; simp)
      obtain ⟨oj', hoj', hform⟩ := h0.2 j (ready_mono hj e)
      have : oj' = oj := Option.some.inj (hoj'.symm.trans hoj)
      subst this
      have hin := S.isIn hinv (mem_ready.1 hr).1 hTo hj
      have hr' := ready_mono hr (Ne.symm e)
      refine ⟨oj', hoj, ?_⟩
      cases hTj : T j with
      | out => exact (hin hTj).elim
      | q0 => have := hqd j (.inl hTj); rw [getD_both hjun] at this; cases this
      | q1 => have := hqd j (.inr hTj); rw [getD_both hjun] at this; cases this
      | l => exact (S.notLoose hinv (mem_ready.1 hr).1 hTo (by rw [hT]; exact fun h => by cases h) (by rw [hT]; exact fun h => by cases h) hj hTj).elim
      | g valj objj =>
        simp only [hTj] at hform ⊢
        obtain ⟨hg, _⟩ := hform
        refine ⟨(hg.sub (fun w hw => hC.up s i w hw)).of_same (hap.ij' a _), fun rj w1 hb1 h1 h2 h3 => ?_⟩
        refine ih _ _ _ w1 (hinv.set S hin hj) (fun k hk => getD_set_true (hqd k hk)) hr' (hfree.later hjun) (fun s' hs hu' => (hy s' (fun k hk => hs k (getD_set_true hk)) hu').of_same (hap.ji a _)) (hC.up s j w1 (hC.lasts s w w1 hw hb1)) (Nat.le_trans hB hb1.size) ?_ fun ri w2 hb2 g1 g2 g3 => ?_
        · intro r hr'
          rcases hr' with hr' | rfl
          · exact Nat.lt_of_lt_of_le (hU r hr') hb1.size
          · exact heap_lt h3
        · have hu : ¬ U ri := fun hu => g2 (.inl hu)
          have hne : ri ≠ rj := fun e => g2 (.inr e)
          obtain ⟨oj2, hoj2, hform2⟩ := (h ri w2 (below_thru hb1 hb2) g1 hu g3).2 j (ready_mono hj e)
          have : oj2 = oj' := Option.some.inj (hoj2.symm.trans hoj)
          subst this
          simp only [hTj] at hform2
          obtain ⟨_, hk2⟩ := hform2
          have hr2 : w2.heap[rj]? = some objj := (hb2.block rj (heap_lt h3)).trans h3
          have := hk2 rj w2 (Below.refl _ _) h1 (fun hh => hh.elim h2 (fun e => hne e.symm)) hr2
          rw [← hap.comm a (val ri) (valj rj), Array.setIfInBounds_comm _ _ e]
          exact anyR_mono f _ _ _ _ _ (fun x hx => hx.elim (fun hx => hx.elim (fun hx => .inl (.inl hx)) .inr) (fun hx => .inl (.inr hx))) this

theorem anyR_l {i : Nat} {oi : Oper} {R : Value → World → Prop} (hi : ops[i]? = some oi) (hT : T i = .l) {f : Nat} {U : Nat → Prop} {s : Array Bool} {a : Act} {w : World} (hr : Region.ready .any ops s = [i]) (hl : Ly P ops oi a w R)
    (h : ∀ v w', R v w' → C (s.setIfInBounds i true) w' ∧ w.heap.size ≤ w'.heap.size ∧ anyR P ops C B1 T sE K f U (s.setIfInBounds i true) (a.put oi.dst v) w') : anyR P ops C B1 T sE K (f + 1) U s a w := by
  refine ⟨fun e => (by rw [e] at hr; cases hr), fun j hj => ?_⟩
  rw [hr] at hj
  have : j = i := by simpa using hj
  subst this
  exact ⟨oi, hi, by simp only [hT]; exact ⟨R, hl, h⟩⟩

end
end Go.Sx
