import Derived.Test.YtcfdnilakjgeoaaSxK
set_option linter.unusedVariables false
set_option linter.unusedSimpArgs false
namespace Go.Sx
open Go Go.RowKit

/-! a region that draws its order -/
def drawK {R : Type} (C : CallSem) (P : Program) (ops : List Oper) : Nat → List Oper → List AV → Mem → (List AV → Mem → Option R) → Option R
  | _, [], tm, M, k => bif Region.lexB .any ops.toArray then k tm M else none
  | i, o :: rest, tm, M, k =>
    guardK ops.toArray tm o
      (fun tm =>
        bif isVal o then valK P tm M o fun z M' => drawK C P ops (i + 1) rest (putT tm o.dst z) M' k
        else match tgt tm o with
          | some (f, args) =>
            bif C.isPure f && (scL 0 0 args && lvL (fun _ => false) args) then (bif lvL M.live args then C.pure f args fun z => drawK C P ops (i + 1) rest (putT tm o.dst z) M k else none)
            else bif Region.lexTailB .any ops.toArray i then seqK C P ops.toArray (o :: rest) tm M k else none
          | none => bif Region.lexTailB .any ops.toArray i then seqK C P ops.toArray (o :: rest) tm M k else none)
      (fun tm => drawK C P ops (i + 1) rest (putT tm o.dst (.lit undef)) M k)

/-- the quiet part of a walk: from (tm, M) to (tm', M') over the operations l -/
def QuietOk (P : Program) (ops : Array Oper) (l : List Oper) (tm : List AV) (M : Mem) (tm' : List AV) (M' : Mem) : Prop :=
  ∀ E0 M0 w0 E (a : Act), (∃ w1, RepM E0 w0 M0 w1) → (∀ w, RepM E0 w0 M0 w → RepM E w0 M w) → RelL E M tm a.tmps.toList → a.defers = [] → ∀ Q : Act → Prop,
    (∀ E' a', Step E M E' M' → (∀ w, RepM E0 w0 M0 w → RepM E' w0 M' w) → RelL E' M' tm' a'.tmps.toList → a'.defers = [] → Q a') → wpQuiet P ops (RepM E0 w0 M0) Q l a

theorem QuietOk.nil (P : Program) (ops : Array Oper) (tm : List AV) (M : Mem) : QuietOk P ops [] tm M tm M :=
  fun _ _ _ E a _ hC hT hd _ hQ => wpQuiet_nil (hQ E a (Step.refl E M) hC hT hd)

theorem QuietOk.skip {P : Program} {ops : Array Oper} {o : Oper} {l : List Oper} {tm : List AV} {M : Mem} {tm' : List AV} {M' : Mem}
    (hw : ∀ E M (a : Act), RelL E M tm a.tmps.toList → Region.wanted o (yielded ops a.tmps) = false) (h : QuietOk P ops l (putT tm o.dst (.lit undef)) M tm' M') : QuietOk P ops (o :: l) tm M tm' M' :=
  fun E0 M0 w0 E a h1 hC hT hd Q hQ => wpQuiet_step fun K hK => by
    rw [if_neg (by rw [hw E M a hT]; exact Bool.false_ne_true)]
    exact hK _ (h E0 M0 w0 E _ h1 hC (hT.put o.dst (RelS.lit _ _ _)) (by rw [put_defers]; exact hd) Q hQ)

theorem QuietOk.val {P : Program} {ops : Array Oper} {o : Oper} {l : List Oper} {tm : List AV} {M : Mem} {z : AV} {M1 : Mem} {tm' : List AV} {M' : Mem}
    (hw : ∀ E M (a : Act), RelL E M tm a.tmps.toList → Region.wanted o (yielded ops a.tmps) = true) (hv : ValOk P tm M o z M1) (h : QuietOk P ops l (putT tm o.dst z) M1 tm' M') : QuietOk P ops (o :: l) tm M tm' M' :=
  fun E0 M0 w0 E a h1 hC hT hd Q hQ => wpQuiet_step fun K hK => by
    rw [if_pos (hw E M a hT)]
    obtain ⟨E1, v, hs, hrun⟩ := hv E a hT
    obtain ⟨w1, hw1⟩ := h1
    have hrel := (hrun w0 w1 (hC w1 hw1)).1
    refine ⟨v, fun w hw' => ?_, hK _ ?_⟩
    · unfold Oper.quietAt
      rw [(hrun w0 w (hC w hw')).2.2]
      exact ⟨rfl, rfl⟩
    · exact h E0 M0 w0 E1 _ ⟨w1, hw1⟩ (fun w hw' => (hrun w0 w (hC w hw')).2.1) ((hT.step hs).put o.dst hrel) (by rw [put_defers]; exact hd) Q
        fun E' a' hs' => hQ E' a' (hs.trans hs')

theorem closed_conc {z : AV} (E E' : Env) (h : z.sc 0 0 = true) : z.conc E = z.conc E' :=
  (conc_le (E := E') (E' := E) (n := 0) (m := 0) ⟨fun _ hb => absurd hb (by omega), fun _ hb => absurd hb (by omega)⟩ z h)

theorem QuietOk.pure {P : Program} {ops : Array Oper} {o : Oper} {l : List Oper} {tm : List AV} {M : Mem} {f : FuncId} {args : List AV} {z : AV} {tm' : List AV} {M' : Mem}
    (hw : ∀ E M (a : Act), RelL E M tm a.tmps.toList → Region.wanted o (yielded ops a.tmps) = true) (ht : tgt tm o = some (f, args)) (hl : lvL M.live args = true) (hv : PureOk P f args z)
    (h : QuietOk P ops l (putT tm o.dst z) M tm' M') : QuietOk P ops (o :: l) tm M tm' M' :=
  fun E0 M0 w0 E a h1 hC hT hd Q hQ => wpQuiet_step fun K hK => by
    rw [if_pos (hw E M a hT)]
    refine ⟨z.conc E, fun w hw' => ?_, hK _ ?_⟩
    · obtain ⟨hsc, hrun⟩ := tgt_run (P := P) ht hl hT w
      obtain ⟨hr, hcall⟩ := hv.2.2 E w
      unfold Oper.quietAt
      rw [hrun, hr]
      exact ⟨rfl, hcall.mono fun e w'' ⟨he, hb⟩ => ⟨he, hw'.later hb⟩⟩
    · exact h E0 M0 w0 E _ h1 hC (hT.put o.dst ⟨sc_mono (Nat.zero_le _) (Nat.zero_le _) z hv.1, fun _ => rfl⟩) (by rw [put_defers]; exact hd) Q hQ

theorem drawK_sound {R : Type} {C : CallSem} {P : Program} (hC : C.Sound P) {ops : List Oper} : ∀ (l : List Oper) (i : Nat) (tm : List AV) (M : Mem) (k : List AV → Mem → Option R) (r : R), drawK C P ops i l tm M k = some r →
    (∃ tm' M', Region.lexB .any ops.toArray = true ∧ k tm' M' = some r ∧ QuietOk P ops.toArray l tm M tm' M') ∨
    (∃ n tm1 M1 tm' M', Region.lexTailB .any ops.toArray (i + n) = true ∧ k tm' M' = some r ∧ QuietOk P ops.toArray (l.take n) tm M tm1 M1 ∧ SeqOk P ops.toArray (l.drop n) tm1 M1 tm' M')
  | [], i, tm, M, k, r, h => by
    simp only [drawK, cond_eq_ite] at h
    split at h
    · rename_i hB
      exact .inl ⟨tm, M, hB, h, QuietOk.nil _ _ _ _⟩
    · cases h
  | o :: rest, i, tm, M, k, r, h => by
    simp only [drawK] at h
    have shift : ∀ {tm2 : List AV} {M2 : Mem}, (∀ {tm1 : List AV} {M1 : Mem} {l : List Oper}, QuietOk P ops.toArray l tm2 M2 tm1 M1 → QuietOk P ops.toArray (o :: l) tm M tm1 M1) →
        drawK C P ops (i + 1) rest tm2 M2 k = some r →
        (∃ tm' M', Region.lexB .any ops.toArray = true ∧ k tm' M' = some r ∧ QuietOk P ops.toArray (o :: rest) tm M tm' M') ∨
        (∃ n tm1 M1 tm' M', Region.lexTailB .any ops.toArray (i + n) = true ∧ k tm' M' = some r ∧ QuietOk P ops.toArray ((o :: rest).take n) tm M tm1 M1 ∧ SeqOk P ops.toArray ((o :: rest).drop n) tm1 M1 tm' M') := by
      intro tm2 M2 hq hd
      rcases drawK_sound hC rest (i + 1) _ _ _ _ hd with ⟨tm', M', hB, hk, hqq⟩ | ⟨n, tm1, M1, tm', M', hB, hk, hqq, hs⟩
      · exact .inl ⟨tm', M', hB, hk, hq hqq⟩
      · exact .inr ⟨n + 1, tm1, M1, tm', M', by rw [show i + (n + 1) = i + 1 + n from by omega]; exact hB, hk, hq hqq, hs⟩
    have tail : (bif Region.lexTailB .any ops.toArray i then seqK C P ops.toArray (o :: rest) tm M k else none) = some r →
        (∃ tm' M', Region.lexB .any ops.toArray = true ∧ k tm' M' = some r ∧ QuietOk P ops.toArray (o :: rest) tm M tm' M') ∨
        (∃ n tm1 M1 tm' M', Region.lexTailB .any ops.toArray (i + n) = true ∧ k tm' M' = some r ∧ QuietOk P ops.toArray ((o :: rest).take n) tm M tm1 M1 ∧ SeqOk P ops.toArray ((o :: rest).drop n) tm1 M1 tm' M') := by
      intro h
      simp only [cond_eq_ite] at h
      split at h
      · rename_i hB
        obtain ⟨tm', M', hk, hs⟩ := seqK_sound hC _ _ _ _ _ h
        exact .inr ⟨0, tm, M, tm', M', hB, hk, QuietOk.nil _ _ _ _, hs⟩
      · cases h
    rcases guardK_sound h with ⟨h, hw⟩ | ⟨h, hw⟩
    · simp only [cond_eq_ite] at h
      split at h
      · obtain ⟨z, M1, h1, hv⟩ := valK_sound h
        exact shift (fun hq => QuietOk.val hw hv hq) h1
      · split at h
        · rename_i f args ht
          split at h
          · split at h
            · rename_i hl
              obtain ⟨z, h1, hp⟩ := hC.pure h
              exact shift (fun hq => QuietOk.pure hw ht hl hp hq) h1
            · cases h
          · exact tail (by simpa only [cond_eq_ite] using h)
        · exact tail (by simpa only [cond_eq_ite] using h)
    · exact shift (fun hq => QuietOk.skip hw hq) h

/-! code -/
def iterK {R : Type} (body : St → (Exit → St → Option R) → Option R) : Nat → St → (Exit → St → Option R) → Option R
  | 0, _, _ => none
  | n + 1, st, k => body st fun e st' => match e with
    | .normal => iterK body n st' k
    | e => k e st'

def exK {R : Type} (C : CallSem) (P : Program) (n : Nat) : Code → St → (Exit → St → Option R) → Option R
  | .skip, st, k => k .normal st
  | .label _, st, k => k .normal st
  | .region _ ops draw, st, k =>
    match draw with
    | true => drawK C P ops.toList 0 ops.toList st.tm st.M fun tm M => k .normal ⟨tm, M⟩
    | false => seqK C P ops ops.toList st.tm st.M fun tm M => k .normal ⟨tm, M⟩
  | .seq a b, st, k => exK C P n a st fun e st' => match e with
    | .normal => exK C P n b st' k
    | e => k e st'
  | .cond c a b, st, k =>
    match c with
    | .tmp d => match st.tm.getD d .bad with
      | .lit (.bool t) => match t with
        | true => exK C P n a ⟨st.tm.set d (.lit (.bool true)), st.M⟩ k
        | false => exK C P n b ⟨st.tm.set d (.lit (.bool false)), st.M⟩ k
      | _ => none
    | .const (.bool t) => match t with
      | true => exK C P n a st k
      | false => exK C P n b st k
    | _ => none
  | .block id c, st, k => exK C P n c st fun e st' => match e with
    | .exit id' => bif decide (id' = id) then k .normal st' else k (.exit id') st'
    | e => k e st'
  | .loop c, st, k => iterK (exK C P n c) n st k
  | .exit id, st, k => k (.exit id) st
  | .ret, st, k => k .ret st
  | _, _, _ => none

def CodeOk (P : Program) (c : Code) (st : St) (e : Exit) (st' : St) : Prop :=
  ∀ E w0 (a : Act) w, Rep E w0 st a w → ∀ Q : Exit → Act → World → Prop, (∀ E' a' w', Step E st.M E' st'.M → Rep E' w0 st' a' w' → Q e a' w') → c.wp P Q a w

theorem exK_sound {R : Type} {C : CallSem} {P : Program} (hC : C.Sound P) (hm : P.follows .mixedOrders = true) (n : Nat) : ∀ (c : Code) (st : St) (k : Exit → St → Option R) (r : R), exK C P n c st k = some r →
    ∃ e st', k e st' = some r ∧ CodeOk P c st e st' := by
  intro c
  induction c with
  | skip => intro st k r h; exact ⟨_, _, h, fun E w0 a w hR Q hQ => wp_skip (hQ E a w (Step.refl _ _) hR)⟩
  | label l => intro st k r h; exact ⟨_, _, h, fun E w0 a w hR Q hQ => wp_label (hQ E a w (Step.refl _ _) hR)⟩
  | region id ops draw =>
    intro st k r h
    cases draw with
    | false =>
      simp only [exK] at h
      obtain ⟨tm', M', hk, hs⟩ := seqK_sound hC _ _ _ _ _ h
      refine ⟨_, _, hk, fun E w0 a w hR Q hQ => wp_region_list ?_⟩
      exact hs E a w0 w hR.tm hR.defers hR.mem Q fun E' a' w' hst hT hd hR' => hQ E' a' w' hst ⟨hR', hT, hd⟩
    | true =>
      simp only [exK] at h
      have hops : ops = ops.toList.toArray := by simp
      rcases drawK_sound hC _ _ _ _ _ _ h with ⟨tm', M', hB, hk, hq⟩ | ⟨q, tm1, M1, tm', M', hB, hk, hq, hs⟩
      · refine ⟨_, _, hk, fun E w0 a w hR Q hQ => ?_⟩
        rw [hops]
        refine wp_region_quiet (C := RepM E w0 st.M) hm hB hR.mem.drew ?_
        exact hq E st.M w0 E a ⟨w, hR.mem⟩ (fun _ h => h) hR.tm hR.defers _ fun E' a' hst hC' hT hd w' hw' => hQ E' a' w' hst ⟨hC' w' hw', hT, hd⟩
      · refine ⟨_, _, hk, fun E w0 a w hR Q hQ => ?_⟩
        rw [hops]
        refine wp_region_quiet_tail (C := RepM E w0 st.M) (0 + q) hm hB hR.mem.drew ?_
        rw [Nat.zero_add]
        refine hq E st.M w0 E a ⟨w, hR.mem⟩ (fun _ h => h) hR.tm hR.defers _ fun E' a' hst hC' hT hd w' hw' => ?_
        exact hs E' a' w0 w' hT hd (hC' w' hw') Q fun E'' a'' w'' hst' hT' hd' hR' => hQ E'' a'' w'' (hst.trans hst') ⟨hR', hT', hd'⟩
  | seq x y ihx ihy =>
    intro st k r h
    simp only [exK] at h
    obtain ⟨e, st1, hk, hx⟩ := ihx _ _ _ h
    cases e with
    | normal =>
      simp only at hk
      obtain ⟨e2, st2, hk2, hy⟩ := ihy _ _ _ hk
      refine ⟨e2, st2, hk2, fun E w0 a w hR Q hQ => wp_seq (hx E w0 a w hR _ fun E' a' w' hst hR' => ?_)⟩
      exact hy E' w0 a' w' hR' Q fun E'' a'' w'' hst' hR'' => hQ E'' a'' w'' (hst.trans hst') hR''
    | exit id => exact ⟨_, st1, hk, fun E w0 a w hR Q hQ => wp_seq (hx E w0 a w hR _ fun E' a' w' hst hR' => hQ E' a' w' hst hR')⟩
    | goto l => exact ⟨_, st1, hk, fun E w0 a w hR Q hQ => wp_seq (hx E w0 a w hR _ fun E' a' w' hst hR' => hQ E' a' w' hst hR')⟩
    | ret => exact ⟨_, st1, hk, fun E w0 a w hR Q hQ => wp_seq (hx E w0 a w hR _ fun E' a' w' hst hR' => hQ E' a' w' hst hR')⟩
    | panic ch => exact ⟨_, st1, hk, fun E w0 a w hR Q hQ => wp_seq (hx E w0 a w hR _ fun E' a' w' hst hR' => hQ E' a' w' hst hR')⟩
    | outgrown => exact ⟨_, st1, hk, fun E w0 a w hR Q hQ => wp_seq (hx E w0 a w hR _ fun E' a' w' hst hR' => hQ E' a' w' hst hR')⟩
  | cond c x y ihx ihy =>
    intro st k r h
    simp only [exK] at h
    split at h
    · rename_i d
      split at h
      · rename_i t ht
        split at h
        · rw [set_self ht (by simp)] at h
          obtain ⟨e, st', hk, hx⟩ := ihx _ _ _ h
          refine ⟨e, st', hk, fun E w0 a w hR Q hQ => wp_cond_true ?_ (hx E w0 a w hR Q hQ)⟩
          simp [Act.eval, Array.getD_eq_getD_getElem?, slot_val hR.tm ht]
        · rw [set_self ht (by simp)] at h
          obtain ⟨e, st', hk, hy⟩ := ihy _ _ _ h
          refine ⟨e, st', hk, fun E w0 a w hR Q hQ => wp_cond_false ?_ (hy E w0 a w hR Q hQ)⟩
          simp [Act.eval, Array.getD_eq_getD_getElem?, slot_val hR.tm ht]
      · cases h
    · rename_i t
      split at h
      · obtain ⟨e, st', hk, hx⟩ := ihx _ _ _ h
        exact ⟨e, st', hk, fun E w0 a w hR Q hQ => wp_cond_true rfl (hx E w0 a w hR Q hQ)⟩
      · obtain ⟨e, st', hk, hy⟩ := ihy _ _ _ h
        exact ⟨e, st', hk, fun E w0 a w hR Q hQ => wp_cond_false rfl (hy E w0 a w hR Q hQ)⟩
    · cases h
  | block id c ih =>
    intro st k r h
    simp only [exK] at h
    obtain ⟨e, st', hk, hc⟩ := ih _ _ _ h
    cases e with
    | exit id' =>
      simp only [cond_eq_ite, decide_eq_true_eq] at hk
      split at hk
      · rename_i he
        exact ⟨_, st', hk, fun E w0 a w hR Q hQ => wp_block (hc E w0 a w hR _ fun E' a' w' hst hR' => by simp only [Exit.inBlock, he, if_true]; exact hQ E' a' w' hst hR')⟩
      · rename_i he
        exact ⟨_, st', hk, fun E w0 a w hR Q hQ => wp_block (hc E w0 a w hR _ fun E' a' w' hst hR' => by simp only [Exit.inBlock, he, if_false]; exact hQ E' a' w' hst hR')⟩
    | normal => exact ⟨_, st', hk, fun E w0 a w hR Q hQ => wp_block (hc E w0 a w hR _ fun E' a' w' hst hR' => hQ E' a' w' hst hR')⟩
    | goto l => exact ⟨_, st', hk, fun E w0 a w hR Q hQ => wp_block (hc E w0 a w hR _ fun E' a' w' hst hR' => hQ E' a' w' hst hR')⟩
    | ret => exact ⟨_, st', hk, fun E w0 a w hR Q hQ => wp_block (hc E w0 a w hR _ fun E' a' w' hst hR' => hQ E' a' w' hst hR')⟩
    | panic ch => exact ⟨_, st', hk, fun E w0 a w hR Q hQ => wp_block (hc E w0 a w hR _ fun E' a' w' hst hR' => hQ E' a' w' hst hR')⟩
    | outgrown => exact ⟨_, st', hk, fun E w0 a w hR Q hQ => wp_block (hc E w0 a w hR _ fun E' a' w' hst hR' => hQ E' a' w' hst hR')⟩
  | loop c ih =>
    intro st k r h
    simp only [exK] at h
    have key : ∀ (q : Nat) (st : St) (k : Exit → St → Option R) (r : R), iterK (exK C P n c) q st k = some r →
        ∃ e st', k e st' = some r ∧ ∀ E w0 (a : Act) w, Rep E w0 st a w → ∀ Q : Exit → Act → World → Prop, (∀ E' a' w', Step E st.M E' st'.M → Rep E' w0 st' a' w' → Q e a' w') → Code.rounds P c Q q a w := by
      intro q
      induction q with
      | zero => intro st k r h; simp [iterK] at h
      | succ q ihq =>
        intro st k r h
        simp only [iterK] at h
        obtain ⟨e, st1, hk, hc⟩ := ih _ _ _ h
        cases e with
        | normal =>
          simp only at hk
          obtain ⟨e2, st2, hk2, h2⟩ := ihq _ _ _ hk
          refine ⟨e2, st2, hk2, fun E w0 a w hR Q hQ => ?_⟩
          rw [rounds_succ]
          exact hc E w0 a w hR _ fun E' a' w' hst hR' => h2 E' w0 a' w' hR' Q fun E'' a'' w'' hst' hR'' => hQ E'' a'' w'' (hst.trans hst') hR''
        | exit id => exact ⟨_, st1, hk, fun E w0 a w hR Q hQ => by rw [rounds_succ]; exact hc E w0 a w hR _ fun E' a' w' hst hR' => hQ E' a' w' hst hR'⟩
        | goto l => exact ⟨_, st1, hk, fun E w0 a w hR Q hQ => by rw [rounds_succ]; exact hc E w0 a w hR _ fun E' a' w' hst hR' => hQ E' a' w' hst hR'⟩
        | ret => exact ⟨_, st1, hk, fun E w0 a w hR Q hQ => by rw [rounds_succ]; exact hc E w0 a w hR _ fun E' a' w' hst hR' => hQ E' a' w' hst hR'⟩
        | panic ch => exact ⟨_, st1, hk, fun E w0 a w hR Q hQ => by rw [rounds_succ]; exact hc E w0 a w hR _ fun E' a' w' hst hR' => hQ E' a' w' hst hR'⟩
        | outgrown => exact ⟨_, st1, hk, fun E w0 a w hR Q hQ => by rw [rounds_succ]; exact hc E w0 a w hR _ fun E' a' w' hst hR' => hQ E' a' w' hst hR'⟩
    obtain ⟨e, st', hk, hc⟩ := key _ _ _ _ h
    exact ⟨e, st', hk, fun E w0 a w hR Q hQ => wp_loop_rounds n (hc E w0 a w hR Q hQ)⟩
  | exit id => intro st k r h; exact ⟨_, _, h, fun E w0 a w hR Q hQ => wp_exit (hQ E a w (Step.refl _ _) hR)⟩
  | ret => intro st k r h; exact ⟨_, _, h, fun E w0 a w hR Q hQ => wp_ret (hQ E a w (Step.refl _ _) hR)⟩
  | scope c => intro st k r h; simp [exK] at h
  | goto l => intro st k r h; simp [exK] at h
  | refuse why => intro st k r h; simp [exK] at h
  | rangeFunc f ps a b => intro st k r h; simp [exK] at h

end Go.Sx
