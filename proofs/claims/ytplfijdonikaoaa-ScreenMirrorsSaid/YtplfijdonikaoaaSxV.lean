import Derived.Test.YtplfijdonikaoaaSxK
import Derived.Deep.Quiet
set_option linter.unusedVariables false
set_option linter.unusedSimpArgs false
namespace Go.Sx
open Go Go.RowKit

/-! A stretch of values with guards: where the branches of a guard meet again, they are put together. -/

def mrgA (c : Bool) : AV → AV → AV
  | .lit (.int k a), .lit (.int k' b) => bif decide (k = k') then .lit (.int k (bif c then a else b)) else .bad
  | .lit (.bool a), .lit (.bool b) => .lit (.bool (bif c then a else b))
  | _, _ => .bad
theorem mrgA_t {E : Env} {M : Mem} {x y : AV} {v : Value} (h : RelS E M x v) : RelS E M (mrgA true x y) v := by
  unfold mrgA
  split
  · simp only [cond_eq_ite, decide_eq_true_eq]
    split
    · exact h
    · exact RelS.bad _ _ _
  · exact h
  · exact RelS.bad _ _ _
theorem mrgA_f {E : Env} {M : Mem} {x y : AV} {v : Value} (h : RelS E M y v) : RelS E M (mrgA false x y) v := by
  unfold mrgA
  split
  · simp only [cond_eq_ite, decide_eq_true_eq]
    split
    · rename_i e; subst e; exact h
    · exact RelS.bad _ _ _
  · exact h
  · exact RelS.bad _ _ _

def mrgL (c : Bool) (tT tF : List AV) : List Tmp → List AV → List AV
  | [], tm => tm
  | d :: ds, tm => mrgL c tT tF ds (tm.set d (mrgA c (tT.getD d .bad) (tF.getD d .bad)))
theorem mrgL_len (c : Bool) (tT tF : List AV) : ∀ (ds : List Tmp) (tm : List AV), (mrgL c tT tF ds tm).length = tm.length
  | [], _ => rfl
  | d :: ds, tm => by unfold mrgL; rw [mrgL_len c tT tF ds]; simp
theorem mrgL_get (c : Bool) (tT tF : List AV) : ∀ (ds : List Tmp) (tm : List AV) (i : Nat) (x : AV), (mrgL c tT tF ds tm)[i]? = some x → x = mrgA c (tT.getD i .bad) (tF.getD i .bad) ∨ (i ∉ ds ∧ tm[i]? = some x)
  | [], tm, i, x, h => .inr ⟨List.not_mem_nil, h⟩
  | d :: ds, tm, i, x, h => by
    unfold mrgL at h
    rcases mrgL_get c tT tF ds _ i x h with h | ⟨h1, h2⟩
    · exact .inl h
    · rw [List.getElem?_set] at h2
      split at h2
      · rename_i e
        subst e
        split at h2
        · simp only [Option.some.injEq] at h2; exact .inl h2.symm
        · cases h2
      · rename_i e
        exact .inr ⟨by simp only [List.mem_cons, not_or]; exact ⟨fun hh => e hh.symm, h1⟩, h2⟩

def dstL (l : List Oper) : List Tmp := l.filterMap (·.dst)

def pickAt (d : Tmp) : List Oper → Nat → Option Nat
  | [], _ => none
  | o :: l, n => match o.op with
    | .pick (.tmp d') _ _ => bif decide (d' = d) then some (n + 1) else pickAt d l (n + 1)
    | _ => pickAt d l (n + 1)
/-- a guarded stretch: its guard's slot, and how many operations it has, up to the one that picks -/
def grpB (ops : Array Oper) (ks : List Tmp) (o : Oper) (l : List Oper) : Option (Tmp × Nat) :=
  match o.guard with
  | none => none
  | some (j, _) => match (ops[j]?).bind (·.dst) with
    | none => none
    | some d => bif ks.contains d then none else match pickAt d l 1 with
      | some n => some (d, n)
      | none => none

def valsK {R : Type} (P : Program) (ops : Array Oper) : Nat → List Tmp → List Oper → List AV → Mem → (List AV → Option R) → Option R
  | 0, _, _, _, _, _ => none
  | _ + 1, _, [], tm, _, k => k tm
  | f + 1, ks, o :: l, tm, M, k =>
    match grpB ops ks o l with
    | some (d, n) => match tm.getD d .bad with
      | .lit (.bool t) =>
        valsK P ops f (d :: ks) ((o :: l).take n) (tm.set d (.lit (.bool true))) M fun tT =>
        valsK P ops f (d :: ks) ((o :: l).take n) (tm.set d (.lit (.bool false))) M fun tF =>
        valsK P ops f ks ((o :: l).drop n) (mrgL t tT tF (dstL ((o :: l).take n)) tm) M k
      | _ => guardK ops tm o (fun tm => bif isVal o && !isSl o then valK P tm M o (fun z _ => valsK P ops f ks l (putT tm o.dst z) M k) else none) (fun tm => valsK P ops f ks l (putT tm o.dst (.lit undef)) M k)
    | none => guardK ops tm o (fun tm => bif isVal o && !isSl o then valK P tm M o (fun z _ => valsK P ops f ks l (putT tm o.dst z) M k) else none) (fun tm => valsK P ops f ks l (putT tm o.dst (.lit undef)) M k)

def ValsOk (P : Program) (ops : Array Oper) (l : List Oper) (tm : List AV) (M : Mem) (tm' : List AV) : Prop :=
  ∀ E w0 (a : Act) (D : World → Prop), (∃ w, D w) → (∀ w, D w → RepM E w0 M w) → RelL E M tm a.tmps.toList →
    ∃ E' a', Step E M E' M ∧ (∀ w, D w → RepM E' w0 M w) ∧ RelL E' M tm' a'.tmps.toList ∧ a'.defers = a.defers ∧ (∀ i, i ∉ dstL l → a'.tmps.toList[i]? = a.tmps.toList[i]?) ∧ a'.tmps.toList.length = a.tmps.toList.length ∧
      ∀ (Q : Act → Prop) (rest : List Oper), wpQuiet P ops D Q rest a' → wpQuiet P ops D Q (l ++ rest) a

theorem put_out {a : Act} {dst : Option Tmp} {v : Value} {i : Nat} (h : dst ≠ some i) : (a.put dst v).tmps.toList[i]? = a.tmps.toList[i]? := by
  cases dst with
  | none => rfl
  | some d =>
    simp only [Act.put, Array.toList_setIfInBounds]
    rw [List.getElem?_set_ne (fun e => h (by rw [e]))]

theorem put_len (a : Act) (dst : Option Tmp) (v : Value) : (a.put dst v).tmps.toList.length = a.tmps.toList.length := by cases dst <;> simp [Act.put]

theorem ValsOk.step {P : Program} {ops : Array Oper} {o : Oper} {l : List Oper} {tm : List AV} {M : Mem} {z : AV} {tm' : List AV}
    (hone : ∀ E w0 (a : Act) (D : World → Prop), (∃ w, D w) → (∀ w, D w → RepM E w0 M w) → RelL E M tm a.tmps.toList → ∃ E1 v, Step E M E1 M ∧ (∀ w, D w → RepM E1 w0 M w) ∧ RelS E1 M z v ∧
      ((Region.wanted o (yielded ops a.tmps) = true ∧ ∀ w, D w → (execOp a.eval o).run P w = .ok (.value v) w) ∨ (Region.wanted o (yielded ops a.tmps) = false ∧ v = undef)))
    (h : ValsOk P ops l (putT tm o.dst z) M tm') : ValsOk P ops (o :: l) tm M tm' := by
  intro E w0 a D hex hR hT
  obtain ⟨E1, v, hs1, hR1, hv, hq⟩ := hone E w0 a D hex hR hT
  obtain ⟨E', a', hs', hR', hT', hd', hout, hlen, hQ⟩ := h E1 w0 (a.put o.dst v) D hex hR1 ((hT.step hs1).put o.dst hv)
  refine ⟨E', a', hs1.trans hs', hR', hT', hd'.trans (put_defers _ _ _), fun i hi => ?_, hlen.trans (put_len _ _ _), fun Q rest hr => ?_⟩
  · have h1 : o.dst ≠ some i := fun e => hi (by simp [dstL, e])
    have h2 : i ∉ dstL l := fun e => hi (by
      simp only [dstL, List.filterMap_cons]
      split
      · exact e
      · exact List.mem_cons_of_mem _ e)
    rw [hout i h2, put_out h1]
  · rw [List.cons_append]
    refine wpQuiet_step fun K hK => ?_
    rcases hq with ⟨hw, hrun⟩ | ⟨hw, rfl⟩
    · rw [if_pos hw]
      refine ⟨v, fun w hw' => ?_, hK _ (hQ Q rest hr)⟩
      unfold Oper.quietAt
      rw [hrun w hw']
      exact ⟨rfl, rfl⟩
    · rw [if_neg (by rw [hw]; exact Bool.false_ne_true)]
      exact hK _ (hQ Q rest hr)

theorem valsK_sound {R : Type} {P : Program} {ops : Array Oper} : ∀ (f : Nat) (ks : List Tmp) (l : List Oper) (tm : List AV) (M : Mem) (k : List AV → Option R) (r : R), valsK P ops f ks l tm M k = some r →
    ∃ tm', k tm' = some r ∧ ValsOk P ops l tm M tm'
  | 0, _, _, _, _, _, _, h => by simp [valsK] at h
  | f + 1, ks, [], tm, M, k, r, h => by
    simp only [valsK] at h
    exact ⟨tm, h, fun E w0 a D hex hR hT => ⟨E, a, Step.refl _ _, hR, hT, rfl, fun _ _ => rfl, rfl, fun Q rest hr => hr⟩⟩
  | f + 1, ks, o :: l, tm, M, k, r, h => by
    have plain : guardK ops tm o (fun tm => bif isVal o && !isSl o then valK P tm M o (fun z _ => valsK P ops f ks l (putT tm o.dst z) M k) else none) (fun tm => valsK P ops f ks l (putT tm o.dst (.lit undef)) M k) = some r →
        ∃ tm', k tm' = some r ∧ ValsOk P ops (o :: l) tm M tm' := by
      intro h
      rcases guardK_sound h with ⟨h, hw⟩ | ⟨h, hw⟩
      · simp only [cond_eq_ite, Bool.and_eq_true, Bool.not_eq_true'] at h
        split at h
        · rename_i hc
          obtain ⟨z, M', h1, _, hsame, hv⟩ := valK_sound h
          have hM := hsame hc.2
          subst hM
          obtain ⟨tm', hk, hV⟩ := valsK_sound f ks l _ _ _ _ h1
          refine ⟨tm', hk, ValsOk.step (fun E w0 a D hex hR hT => ?_) hV⟩
          obtain ⟨E1, v, hs, hrun⟩ := hv E a hT
          obtain ⟨we, hwe⟩ := hex
          exact ⟨E1, v, hs, fun w hw => (hrun w0 w (hR w hw)).2.1, (hrun w0 we (hR we hwe)).1, .inl ⟨hw E M' a hT, fun w hw => (hrun w0 w (hR w hw)).2.2⟩⟩
        · cases h
      · obtain ⟨tm', hk, hV⟩ := valsK_sound f ks l _ _ _ _ h
        exact ⟨tm', hk, ValsOk.step (fun E w0 a D hex hR hT => ⟨E, undef, Step.refl _ _, hR, RelS.lit _ _ _, .inr ⟨hw E M a hT, rfl⟩⟩) hV⟩
    simp only [valsK] at h
    split at h
    · rename_i d n hg
      split at h
      · rename_i t ht
        obtain ⟨tT, h1, hT1⟩ := valsK_sound f _ _ _ _ _ _ h
        obtain ⟨tF, h2, hF1⟩ := valsK_sound f _ _ _ _ _ _ h1
        obtain ⟨tm', hk, hR1⟩ := valsK_sound f _ _ _ _ _ _ h2
        refine ⟨tm', hk, fun E w0 a D hex hR hT => ?_⟩
        have hb : ∃ E1 a1, Step E M E1 M ∧ (∀ w, D w → RepM E1 w0 M w) ∧ RelL E1 M (mrgL t tT tF (dstL ((o :: l).take n)) tm) a1.tmps.toList ∧ a1.defers = a.defers ∧ (∀ i, i ∉ dstL ((o :: l).take n) → a1.tmps.toList[i]? = a.tmps.toList[i]?) ∧ a1.tmps.toList.length = a.tmps.toList.length ∧
            ∀ (Q : Act → Prop) (rest : List Oper), wpQuiet P ops D Q rest a1 → wpQuiet P ops D Q ((o :: l).take n ++ rest) a := by
          have rel : ∀ {E1 : Env} {a1 : Act}, Step E M E1 M → (∀ i, i ∉ dstL ((o :: l).take n) → a1.tmps.toList[i]? = a.tmps.toList[i]?) → tm.length = a1.tmps.toList.length →
              (∀ i v, a1.tmps.toList[i]? = some v → RelS E1 M (mrgA t (tT.getD i .bad) (tF.getD i .bad)) v) → RelL E1 M (mrgL t tT tF (dstL ((o :: l).take n)) tm) a1.tmps.toList := by
            intro E1 a1 hs hout hlen hm
            refine ⟨by rw [mrgL_len, hlen], fun i x v hx hv => ?_⟩
            rcases mrgL_get t tT tF _ _ i x hx with rfl | ⟨hni, hx⟩
            · exact hm i v hv
            · rw [hout i hni] at hv
              exact (hT.at_ i x v hx hv).step hs
          have getR : ∀ {E1 : Env} {tX : List AV} {a1 : Act}, RelL E1 M tX a1.tmps.toList → ∀ i v, a1.tmps.toList[i]? = some v → RelS E1 M (tX.getD i .bad) v := by
            intro E1 tX a1 hX i v hv
            have hi : i < tX.length := by rw [hX.len]; exact lt_of_get hv
            have := hX.at_ i tX[i] v (List.getElem?_eq_getElem hi) hv
            simpa [List.getD, List.getElem?_eq_getElem hi] using this
          cases t with
          | true =>
            have hT2 : RelL E M (tm.set d (.lit (.bool true))) a.tmps.toList := by rw [set_self ht (by simp)]; exact hT
            obtain ⟨E1, a1, g1, g2, g3, g4, g5, gl, g6⟩ := hT1 E w0 a D hex hR hT2
            exact ⟨E1, a1, g1, g2, rel g1 g5 (hT.len.trans gl.symm) (fun i v hv => mrgA_t (getR g3 i v hv)), g4, g5, gl, g6⟩
          | false =>
            have hT2 : RelL E M (tm.set d (.lit (.bool false))) a.tmps.toList := by rw [set_self ht (by simp)]; exact hT
            obtain ⟨E1, a1, g1, g2, g3, g4, g5, gl, g6⟩ := hF1 E w0 a D hex hR hT2
            exact ⟨E1, a1, g1, g2, rel g1 g5 (hT.len.trans gl.symm) (fun i v hv => mrgA_f (getR g3 i v hv)), g4, g5, gl, g6⟩
        obtain ⟨E1, a1, g1, g2, g3, g4, g5, gl, g6⟩ := hb
        obtain ⟨E2, a2, k1, k2, k3, k4, k5, kl, k6⟩ := hR1 E1 w0 a1 D hex g2 g3
        have hsplit : dstL (o :: l) = dstL ((o :: l).take n) ++ dstL ((o :: l).drop n) := by
          unfold dstL
          rw [← List.filterMap_append, List.take_append_drop]
        refine ⟨E2, a2, g1.trans k1, k2, k3, k4.trans g4, fun i hi => ?_, kl.trans gl, fun Q rest hr => ?_⟩
        · rw [hsplit, List.mem_append, not_or] at hi
          rw [k5 i hi.2, g5 i hi.1]
        · have := g6 Q ((o :: l).drop n ++ rest) (k6 Q rest hr)
          rwa [← List.append_assoc, List.take_append_drop] at this
      · exact plain h
    · exact plain h

/-- the guards of a region put together: all of it leaves the world as it is -/
def allVals : List Oper → Bool
  | [] => true
  | o :: l => isVal o && !isSl o && allVals l

theorem wpList_of_quiet {P : Program} {ops : Array Oper} {D : World → Prop} {Qq : Act → Prop} {Q : Exit → Act → World → Prop} (hQ : ∀ a w, D w → Qq a → Q .normal a w) : ∀ (l : List Oper) (a : Act) (w : World), D w → wpQuiet P ops D Qq l a → wpList P ops Q l a w
  | [], a, w, hw, h => hQ a w hw h
  | o :: l, a, w, hw, h => by
    refine wpList_step fun K hK => ?_
    unfold wpQuiet at h
    split
    · rename_i hwt
      rw [if_pos hwt] at h
      exact Oper.wp_of_quiet hw (fun a' w' hw' h' => hK a' w' (wpList_of_quiet hQ l a' w' hw' h')) h
    · rename_i hwt
      rw [if_neg hwt] at h
      exact hK _ _ (wpList_of_quiet hQ l _ w hw h)

end Go.Sx
