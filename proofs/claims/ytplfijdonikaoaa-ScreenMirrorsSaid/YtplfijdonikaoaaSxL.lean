import Derived.Test.YtplfijdonikaoaaSxFk
import Derived.Test.YtplfijdonikaoaaSxV
set_option linter.unusedVariables false
set_option linter.unusedSimpArgs false
namespace Go.Sx
open Go Go.RowKit

/-! A region, in the order of its plan. -/

inductive Segm where
  | front (qs gs ls : List Nat)
  | one (r : Nat)
  | mix (is : List Nat)
  | fork (is keep : List Nat)

/-- stores, and appends to a row: what may be loose -/
def isLoose (o : Oper) : Bool := match o.guard with
  | some _ => false
  | none => match o.op with
    | .store _ _ _ => true
    | .call ⟨.builtin .append, _, _⟩ => true
    | _ => false
def readyP (ops : Array Oper) (s : Array Bool) (p : Oper → Bool) : Option Nat :=
  (List.range ops.size).find? fun i => readyB ops s i && (match ops[i]? with
    | some o => p o
    | none => false)
/-- all that may be taken, in one pass through the text -/
def collect (ops : Array Oper) (p : Oper → Bool) : List Nat → Array Bool → List Nat
  | [], _ => []
  | i :: l, s => bif readyB ops s i && (match ops[i]? with
      | some o => p o
      | none => false) then i :: collect ops p l (s.setIfInBounds i true) else collect ops p l s

def isNew (o : Oper) : Bool := match o.guard with
  | some _ => false
  | none => match o.op with
    | .box _ _ | .alloc _ | .buildSlice _ _ _ => true
    | _ => false
def isNewG (o : Oper) : Bool := match o.op with
  | .box _ _ | .alloc _ | .buildSlice _ _ _ => true
  | _ => false
def isStore (o : Oper) : Bool := match o.guard with
  | some _ => false
  | none => match o.op with
    | .store _ _ _ => true
    | _ => false

def calleeA (ops : List Oper) (tm : List AV) : Nat → Operand → AV
  | 0, _ => .bad
  | f + 1, .tmp t => match ops.find? (fun o => o.dst == some t) with
    | some o => match o.op with
      | .move x => calleeA ops tm f x
      | .nilCheck x => calleeA ops tm f x
      | _ => .bad
    | none => tm.getD t .bad
  | _ + 1, x => ev tm x
def quietB (C : CallSem) (ops : List Oper) (tm : List AV) (o : Oper) : Bool :=
  isVal o || (match o.op with
    | .call c => match c.callee with
      | .value g => match calleeA ops tm 4 g with
        | .lit (.func (.func f) _ _) => C.isPure f
        | .fn f _ => C.isPure f
        | _ => false
      | _ => false
    | _ => false)

def isRdC (C : CallSem) (ops : List Oper) (tm : List AV) (o : Oper) : Bool :=
  (match o.op with
    | .call c => match c.callee with
      | .value g => match calleeA ops tm 4 g with
        | .lit (.func (.func f) _ _) => C.isRead f
        | .fn f _ => C.isRead f
        | _ => false
      | _ => false
    | _ => false)
def looseL (ops : Array Oper) (q : Oper → Bool) (F : List Nat) : Nat → Array Bool → List Nat
  | 0, _ => []
  | f + 1, s => match readyP ops s q with
    | some r => (let R := reachB ops r; bif F.all fun i => R.getD i false then [] else r :: looseL ops q F f (s.setIfInBounds r true))
    | none => []

def mixL (ops : Array Oper) (rd : Oper → Bool) : Nat → Array Bool → List Nat
  | 0, _ => []
  | f + 1, s => match collect ops (fun o => isVal o && !isSl o) (List.range ops.size) s with
    | [] => match readyP ops s rd with
      | some r => bif decide (Region.ready .any ops s = [r]) then r :: mixL ops rd f (s.setIfInBounds r true) else []
      | none => []
    | i :: l => (i :: l) ++ mixL ops rd f (doneL (i :: l) s)
def hasRd (ops : Array Oper) (rd : Oper → Bool) : List Nat → Bool
  | [] => false
  | i :: l => (match ops[i]? with
    | some o => rd o
    | none => false) || hasRd ops rd l
/-- what is ready and a 'pick' -/
def isPick (o : Oper) : Bool := match o.op with
  | .pick _ _ _ => true
  | _ => false
def tmpsOf (l : List Operand) : List Nat := match l with
  | [] => []
  | .tmp t :: l => t :: tmpsOf l
  | _ :: l => tmpsOf l
def dstIn (ops : Array Oper) (t : Nat) : List Nat → Bool
  | [] => false
  | i :: l => (match ops[i]? with
    | some o => match o.dst with
      | some d => Nat.beq d t
      | none => false
    | none => false) || dstIn ops t l
/-- from here to the 'pick' that ends a group in which several operations that make memory were ready at once -/
def forkL (ops : Array Oper) (rd : Oper → Bool) (is0 : List Nat) : Nat → Array Bool → List Nat → Bool → Option (List Nat × List Nat × Option Nat)
  | 0, _, _, _ => none
  | f + 1, s, acc, multi =>
    match multi, readyP ops s isPick with
    | true, some p => match ops[p]? with
      | some o => match o.op with
        | .pick x c y => some (acc.reverse, (tmpsOf [x, c, y]).filter fun t => dstIn ops t (is0 ++ acc), none)
        | _ => none
      | none => none
    | _, _ => match readyP ops s (fun o => isVal o && !isSl o) with
      | some i => forkL ops rd is0 f (s.setIfInBounds i true) (i :: acc) multi
      | none => match Region.ready .any ops s with
        | [] => none
        | [i] => (match ops[i]? with
          | some o => bif rd o || isNewG o then forkL ops rd is0 f (s.setIfInBounds i true) (i :: acc) multi else none
          | none => none)
        | i :: _ => (match ops[i]? with
          | some o => bif rd o || isNewG o then forkL ops rd is0 f (s.setIfInBounds i true) (i :: acc) true else none
          | none => none)
def guardOf (ops : Array Oper) : List Nat → Option Nat
  | [] => none
  | i :: l => match ops[i]? with
    | some o => bif isNewG o then (match o.guard with
      | some (g, _) => some g
      | none => guardOf ops l) else guardOf ops l
    | none => guardOf ops l
/-- the values that a fork does not need stand ahead of it -/
def forkPre (ops : Array Oper) (rd tr : Oper → Bool) (qs : List Nat) (s : Array Bool) : Option (List Nat × List Nat × List Nat) :=
  bif hasRd ops tr (List.range ops.size) then
    match forkL ops rd qs (ops.size + 1) (doneL qs s) [] false with
    | some (is, keep, _) => bif hasRd ops tr is then (match guardOf ops is with
      | some g => some (qs.filter (fun i => Nat.ble i g), qs.filter (fun i => !Nat.ble i g) ++ is, keep)
      | none => some ([], qs ++ is, keep)) else none
    | none => none
  else none
/-- those for which all that is loose waits -/
def ancB (ops : Array Oper) (ls : List Nat) (i : Nat) : Bool := ls.all fun j => (reachB ops j).getD i false
def reord (ops : Array Oper) (ls qs : List Nat) : List Nat := match ls with
  | [] => qs
  | _ => qs.filter (ancB ops ls) ++ qs.filter fun i => !ancB ops ls i
def ancQ (ops : Array Oper) (ls qs : List Nat) : List Nat := match ls with
  | [] => qs
  | _ => qs.takeWhile (ancB ops ls)
def restQ (ops : Array Oper) (ls qs : List Nat) : List Nat := match ls with
  | [] => []
  | _ => qs.dropWhile (ancB ops ls)
theorem ancQ_rest (ops : Array Oper) (ls qs : List Nat) : ancQ ops ls qs ++ restQ ops ls qs = qs := by
  unfold ancQ restQ; split
  · simp
  · exact List.takeWhile_append_dropWhile
theorem mem_takeW {p : Nat → Bool} : ∀ {l : List Nat} {i : Nat}, i ∈ l.takeWhile p → p i = true
  | [], _, h => by cases h
  | a :: l, i, h => by
    simp only [List.takeWhile] at h
    split at h
    · rename_i ha
      rcases List.mem_cons.1 h with rfl | h
      · exact ha
      · exact mem_takeW h
    · cases h
theorem ancQ_spec {ops : Array Oper} {ls qs : List Nat} {i j : Nat} (hi : i ∈ ancQ ops ls qs) (hj : j ∈ ls) : (reachB ops j).getD i false = true := by
  unfold ancQ at hi
  split at hi
  · cases hj
  · have := mem_takeW hi
    simp only [ancB, List.all_eq_true] at this
    exact this j hj
theorem inv_steps {ops : Array Oper} {fa : Bool} {T : Nat → Kd} {sE : Array Bool} (S : Seg ops T sE) : ∀ (l : List Nat) (s : Array Bool), (∀ i, i ∈ l → QKind ops T i) → stepsB ops fa l s = true → Inv ops T sE s → Inv ops T sE (doneL l s)
  | [], _, _, _, h => h
  | i :: l, s, hq, hs, h => by
    simp only [stepsB, Bool.and_eq_true] at hs
    obtain ⟨o, _, hT⟩ := hq i List.mem_cons_self
    exact inv_steps S l _ (fun j hj => hq j (List.mem_cons_of_mem _ hj)) hs.2 (h.set S (by rw [hT]; cases isVal o <;> exact fun h => by cases h) (readyB_spec hs.1.1))
theorem glKd_ne_l {E : Env} : ∀ {l : List GEl} {i : Nat}, glKd E l i ≠ .l
  | [], _ => fun h => by cases h
  | g :: l, i => by
    unfold glKd
    split
    · exact fun h => by cases h
    · exact glKd_ne_l
theorem kdOf_l {ops : Array Oper} {qs gs ls : List Nat} {gd : Nat → Kd} (hg : ∀ i, gd i ≠ .l) {j : Nat} (h : kdOf ops qs gs ls gd j = .l) : j ∈ ls := by
  unfold kdOf at h
  split at h
  · split at h
    · rename_i o _
      cases hv : isVal o <;> rw [hv] at h <;> cases h
    · cases h
  · split at h
    · exact absurd h (hg j)
    · split at h
      · rename_i hc; simpa using hc
      · cases h

def planK (ops : Array Oper) (q ql rd tr : Oper → Bool) : Nat → Array Bool → List Segm
  | 0, _ => []
  | f + 1, s =>
    match (bif hasRd ops tr (List.range ops.size) then mixL ops rd (ops.size + 1) s else []) with
    | is => bif hasRd ops tr is && mixB ops is s then .mix is :: planK ops q ql rd tr f (doneL is s) else
    match collect ops q (List.range ops.size) s with
    | qs =>
      match forkPre ops rd tr qs s with
      | some (pre, is, keep) => (match pre with
        | [] => .fork is keep :: planK ops q ql rd tr f (doneL is s)
        | _ => .front pre [] [] :: .fork is keep :: planK ops q ql rd tr f (doneL is (doneL pre s)))
      | none =>
      match (List.range ops.size).filter (fun i => readyB ops (doneL qs s) i && (match ops[i]? with
        | some o => isNew o
        | none => false)) with
      | gs => bif qs.isEmpty && gs.isEmpty then (match readyP ops s (fun _ => true) with
          | some r => .one r :: planK ops q ql rd tr f (s.setIfInBounds r true)
          | none => [])
        else match (match looseL ops ql (qs ++ gs) ops.size (doneL (qs ++ gs) s) with
            | ls => bif segB ops qs gs ls s then ls else looseL ops isLoose (qs ++ gs) ops.size (doneL (qs ++ gs) s)) with
          | ls => .front (reord ops ls qs) gs ls :: planK ops q ql rd tr f (doneL (qs ++ gs ++ ls) s)

def baseB (ops : List Oper) (tm : List AV) : Nat → Operand → List Nat
  | 0, _ => []
  | f + 1, .tmp t => match ops.find? (fun o => o.dst == some t) with
    | some o => match o.op with
      | .move x => baseB ops tm f x
      | .nilCheck x => baseB ops tm f x
      | .fieldAddr _ x _ => baseB ops tm f x
      | .indexAddr _ x _ => baseB ops tm f x
      | _ => []
    | none => match tm.getD t .bad with
      | .ptr b _ => [b]
      | .sl b _ _ _ => [b]
      | _ => []
  | _ + 1, _ => []
def wOf (ops : Array Oper) (tm : List AV) : List Nat → List Nat
  | [] => []
  | i :: l => (match ops[i]? with
    | some o => match o.op with
      | .store _ x _ => baseB ops.toList tm 8 x
      | _ => []
    | none => []) ++ wOf ops tm l

def segsK {R : Type} (C : CallSem) (P : Program) (ops : Array Oper) : List Segm → Array Bool → List AV → Mem → (List AV → Mem → Option R) → Option R
  | [], s, tm, M, k => bif (Region.ready .any ops s).isEmpty then k tm M else none
  | .one r :: l, s, tm, M, k => bif decide (Region.ready .any ops s = [r]) then (match ops[r]? with
      | some o => guardK ops tm o (fun tm => opK C P tm M o fun z M' => segsK C P ops l (s.setIfInBounds r true) (putT tm o.dst z) M' k) (fun tm => segsK C P ops l (s.setIfInBounds r true) (putT tm o.dst (.lit undef)) M k)
      | none => none) else none
  | .mix is :: l, s, tm, M, k => bif mixB ops is s then mixK C P ops is tm M fun tm1 M1 => segsK C P ops l (doneL is s) tm1 M1 k else none
  | .fork is keep :: l, s, tm, M, k => bif forkB ops is s then match forkOf C P ops is keep s tm M with
    | some tm1 => segsK C P ops l (doneL is s) tm1 M k
    | none => none
    else none
  | .front qs gs ls :: l, s, tm, M, k => bif segB ops qs gs ls s then
      frontK C P ops (ancQ ops ls qs) tm M fun tmA MA => frontK C P ops (restQ ops ls qs) tmA (blurs MA (wOf ops tm ls)) fun tm1 Mq => match fills MA (wOf ops tm ls) Mq with
        | some M1 => newsK P ops tm1 Mq gs tm1 M1 fun tm2 M2 => looseK C P ops (wOf ops tm ls) MA.blks.length ls tm2 M2 fun tm3 M3 => segsK C P ops l (doneL (qs ++ gs ++ ls) s) tm3 M3 k
        | none => none
    else none

def cnt : List Segm → Nat
  | [] => 0
  | .one _ :: l => cnt l + 1
  | .mix is :: l => cnt l + is.length
  | .fork is _ :: l => cnt l + is.length
  | .front qs gs ls :: l => cnt l + (ls.length + gs.length + qs.length)

def SegsOk (P : Program) (ops : Array Oper) (segs : List Segm) (s : Array Bool) (tm : List AV) (M : Mem) (tm' : List AV) (M' : Mem) : Prop :=
  ∀ E (a : Act) w0 w, RelL E M tm a.tmps.toList → a.defers = [] → RepM E w0 M w → ∀ (Q : Exit → Act → World → Prop) (g : Nat),
    (∀ E' a' w', Step E M E' M' → RelL E' M' tm' a'.tmps.toList → a'.defers = [] → RepM E' w0 M' w' → Q .normal a' w') → wpAny P .any ops Q (cnt segs + g) s a w

theorem wpAny_end {P : Program} {ops : Array Oper} {Q : Exit → Act → World → Prop} {s : Array Bool} {a : Act} {w : World} (h : Region.ready .any ops s = []) (hQ : Q .normal a w) : ∀ g, wpAny P .any ops Q g s a w
  | 0 => ⟨h, hQ⟩
  | g + 1 => ⟨fun _ => hQ, fun i hi => (by rw [h] at hi; cases hi)⟩

theorem concL_rel {E : Env} {M : Mem} {cs : List AV} (hs : scL M.blks.length M.vecs.length cs = true) : RelL E M cs (concL E cs) :=
  ⟨by simp [concL_eq], fun i a v ha hv => by
    simp only [concL_eq, List.getElem?_map, ha, Option.map_some, Option.some.injEq] at hv
    exact ⟨scL_at hs ha, fun _ => hv.symm⟩⟩

theorem segsK_sound {R : Type} {C : CallSem} {P : Program} (hC : C.Sound P) {ops : Array Oper} : ∀ (segs : List Segm) (s : Array Bool) (tm : List AV) (M : Mem) (k : List AV → Mem → Option R) (r : R), Closed ops s → s.size = ops.size → segsK C P ops segs s tm M k = some r →
    ∃ tm' M', k tm' M' = some r ∧ SegsOk P ops segs s tm M tm' M'
  | [], s, tm, M, k, r, hc, hsz, h => by
    simp only [segsK, cond_eq_ite] at h
    split at h
    · rename_i he
      exact ⟨tm, M, h, fun E a w0 w hT hd hR Q g hQ => wpAny_end (by simpa using he) (hQ E a w (Step.refl _ _) hT hd hR) _⟩
    · cases h
  | .one i :: l, s, tm, M, k, r, hc, hsz, h => by
    simp only [segsK, cond_eq_ite, decide_eq_true_eq] at h
    split at h
    · rename_i hr
      split at h
      · rename_i o ho
        have hri : i ∈ Region.ready .any ops s := by rw [hr]; simp
        have hc' := hc.set hri
        have glue : ∀ {z : AV} {M1 : Mem} {tm' : List AV} {M' : Mem}, (∀ E (a : Act) w0 w, RelL E M tm a.tmps.toList → RepM E w0 M w → ∀ (K : Act → World → Prop) (Q : Exit → Act → World → Prop), (∀ E' v w', Step E M E' M1 → RelS E' M1 z v → RepM E' w0 M1 w' → K (a.put o.dst v) w') → wpOp P ops Q i K a w) →
            SegsOk P ops l (s.setIfInBounds i true) (putT tm o.dst z) M1 tm' M' → SegsOk P ops (.one i :: l) s tm M tm' M' := by
          intro z M1 tm' M' hone hrest E a w0 w hT hd hR Q g hQ
          show wpAny P .any ops Q (cnt l + 1 + g) s a w
          rw [Nat.add_right_comm]
          refine ⟨fun e => (by rw [e] at hr; cases hr), fun j hj => ?_⟩
          rw [hr] at hj
          have : j = i := by simpa using hj
          subst this
          refine hone E a w0 w hT hR _ Q fun E' v w' hst hv hR' => ?_
          exact hrest E' _ w0 w' ((hT.step hst).put o.dst hv) (by rw [put_defers]; exact hd) hR' Q g fun E'' a' w'' hst' => hQ E'' a' w'' (hst.trans hst')
        rcases guardK_sound h with ⟨h, hw⟩ | ⟨h, hw⟩
        · obtain ⟨z, M1, h1, hop⟩ := opK_sound hC h
          obtain ⟨tm', M', hk, hs⟩ := segsK_sound hC l _ _ _ _ _ hc' (by simpa using hsz) h1
          refine ⟨tm', M', hk, glue (fun E a w0 w hT hR K Q hK => ?_) hs⟩
          unfold wpOp
          simp only [ho]
          rw [if_pos (hw E M a hT)]
          exact .inl (hop E a w0 w hT hR K Q hK)
        · obtain ⟨tm', M', hk, hs⟩ := segsK_sound hC l _ _ _ _ _ hc' (by simpa using hsz) h
          refine ⟨tm', M', hk, glue (fun E a w0 w hT hR K Q hK => ?_) hs⟩
          unfold wpOp
          simp only [ho]
          rw [if_neg (by rw [hw E M a hT]; exact Bool.false_ne_true)]
          exact hK E undef w (Step.refl _ _) (RelS.lit _ _ _) hR
      · cases h
    · cases h
  | .mix is :: l, s, tm, M, k, r, hc, hsz, h => by
    simp only [segsK, cond_eq_ite] at h
    split at h
    · rename_i hB
      have hS := mixB_spec hB hc hsz
      obtain ⟨tm1, M1, h1, hM⟩ := mixK_sound (fa := freeAll ops) hC id _ _ _ _ _ h
      obtain ⟨tm', M', hk, hrest⟩ := segsK_sound hC l _ _ _ _ _ hS.closed hS.size h1
      refine ⟨tm', M', hk, fun E a w0 w hT hd hR Q g hQ => ?_⟩
      show wpAny P .any ops Q (cnt l + is.length + g) s a w
      rw [show cnt l + is.length + g = is.length + (cnt l + g) from by omega]
      refine anyB_run (T := mixT ops is) (sE := doneL is s) (K := fun a w => wpAny P .any ops Q (cnt l + g) (doneL is s) a w) (fun a w h => h) _ _ _ _ ?_
      refine hM _ _ _ E w0 a w s hS.seg hS.inv (fun i hi => ?_) hS.steps rfl hT hd hR fun E' a' w' hst hT' hd' hR' => ?_
      · unfold mixT
        have : is.contains i = true := by simpa using hi
        rw [this]
      · exact hrest E' a' w0 w' hT' hd' hR' Q g fun E'' a'' w'' hst' => hQ E'' a'' w'' (hst.trans hst')
    · cases h
  | .fork is keep :: l, s, tm, M, k, r, hc, hsz, h => by
    simp only [segsK, cond_eq_ite] at h
    split at h
    · rename_i hB
      split at h
      · rename_i tm1 hf
        have hS := forkB_spec hB hc hsz
        obtain ⟨tm', M', hk, hrest⟩ := segsK_sound hC l _ _ _ _ _ hS.closed hS.size h
        refine ⟨tm', M', hk, fun E a w0 w hT hd hR Q g hQ => ?_⟩
        show wpAny P .any ops Q (cnt l + is.length + g) s a w
        rw [show cnt l + is.length + g = is.length + (cnt l + g) from by omega]
        refine anyB_run (T := mixT ops is) (sE := doneL is s) (K := fun a w => wpAny P .any ops Q (cnt l + g) (doneL is s) a w) (fun a w h => h) _ _ _ _ ?_
        exact forkOf_sound hC hS hf _ E w0 a w hT hd hR fun a' w' hT' hd' hR' => hrest E a' w0 w' hT' hd' hR' Q g hQ
      · cases h
    · cases h
  | .front qs gs ls :: l, s, tm, M, k, r, hc, hsz, h => by
    simp only [segsK, cond_eq_ite] at h
    split at h
    · rename_i hB
      obtain ⟨tmA, MA, hA1, hgrA, hFA⟩ := frontK_sound (fa := freeAll ops) hC id _ _ _ _ _ h
      obtain ⟨tm1, Mq, h1, hgr, hF⟩ := frontK_sound (fa := freeAll ops) hC id _ _ _ _ _ hA1
      split at h1
      · rename_i M1 hfill
        obtain ⟨gl, hgl, hgok, h2⟩ := newsK_sound _ _ _ _ _ h1
        obtain ⟨hs1, hs2, hs3⟩ := blurs_same (wOf ops tm ls) MA
        have hbad : ∀ b, b ∈ wOf ops tm ls → ∀ x, (blurs MA (wOf ops tm ls)).blks[b]? = some (some x) → ∀ c, c ∈ x.cells → c = .bad := fun b hb => blurs_bad _ MA b (.inl hb)
        obtain ⟨hf1, hf2, hf3, hf4, hf5⟩ := fills_sound (N := blurs MA (wOf ops tm ls)) _ hfill hbad
        have hcovq : Cov (blurs MA (wOf ops tm ls)) Mq := (Cov.refl _).grow hgr
        have hcov2 : Cov (blurs MA (wOf ops tm ls)) (gMem gl M1) := gMem_cov gl (hf4 hcovq)
        have hlen : ∀ (gl : List GEl) (M : Mem), M.blks.length ≤ (gMem gl M).blks.length := by
          intro gl
          induction gl with
          | nil => intro M; exact Nat.le_refl _
          | cons g gl ih => intro M; exact Nat.le_trans (by simp [Mem.addB]) (ih _)
        have hnb : (blurs MA (wOf ops tm ls)).blks.length ≤ (gMem gl M1).blks.length := by
          refine Nat.le_trans ?_ (hlen gl M1)
          rw [hf1, hgr.blk]; exact Nat.le_refl _
        have hnh : (blurs MA (wOf ops tm ls)).vecs.length ≤ (gMem gl M1).vecs.length := by
          rw [gMem_same, hf2]; exact hgr.nh
        obtain ⟨tm3, M3, h3, hL⟩ := looseK_sound hC hs1 hbad _ _ _ _ _ hcov2 hnb hnh h2
        -- the kinds are known once the values are
        have hspec0 := segB_spec hB hc hsz (fun _ => .g (fun _ => undef) (.cells #[] 0)) (fun _ _ => ⟨_, _, rfl⟩)
        obtain ⟨tm', M', hk, hrest⟩ := segsK_sound hC l _ _ _ _ _ hspec0.closed hspec0.size h3
        refine ⟨tm', M', hk, fun E a w0 w hT hd hR Q g hQ => ?_⟩
        have hDs : Lasts fun w => RepM E w0 M w := fun w w' h hb => h.later hb
        obtain ⟨EA, aA, hstA, hRA, hTA, hdA, hanyA⟩ := hFA E w0 a (fun w => RepM E w0 M w) ⟨w, hR⟩ hDs (fun _ h => h) hT hd
        have hRN : RepM EA w0 (blurs MA (wOf ops tm ls)) w := blurs_rep _ (hRA w hR)
        have hD : Lasts fun w => RepM EA w0 (blurs MA (wOf ops tm ls)) w := fun w w' h hb => h.later hb
        obtain ⟨E1, a1, hst1, hR1, hT1, hd1, hany⟩ := hF EA w0 aA (fun w => RepM EA w0 (blurs MA (wOf ops tm ls)) w) ⟨w, hRN⟩ hD (fun _ h => h) (relL_live hs1 hs2 hs3 hTA) hdA
        have hSpec := segB_spec hB hc hsz (glKd E1 gl) (fun i hi => glKd_isG (by rw [hgl]; exact hi))
        have hstM : Step EA MA E1 Mq := step_live hs1.symm hs2.symm hs3.symm rfl rfl rfl hst1
        have hstM1 : Step EA MA E1 M1 := step_live rfl rfl rfl hf1 hf2 hf3 hstM
        have hkq1 : ∀ i, i ∈ ancQ ops ls qs → QKind ops (kdOf ops qs gs ls (glKd E1 gl)) i := fun i hi => hSpec.kq i (by rw [← ancQ_rest ops ls qs]; exact List.mem_append_left _ hi)
        have hkq2 : ∀ i, i ∈ restQ ops ls qs → QKind ops (kdOf ops qs gs ls (glKd E1 gl)) i := fun i hi => hSpec.kq i (by rw [← ancQ_rest ops ls qs]; exact List.mem_append_right _ hi)
        have hstq : stepsB ops (freeAll ops) (ancQ ops ls qs ++ restQ ops ls qs) s = true := by rw [ancQ_rest]; exact hSpec.steps
        obtain ⟨hst_1, hst_2⟩ := stepsB_append _ _ _ hstq
        have hdn : doneL (restQ ops ls qs) (doneL (ancQ ops ls qs) s) = doneL qs s := by rw [← doneL_append, ancQ_rest]
        have hinv1 := inv_steps hSpec.seg _ _ hkq1 hst_1 hSpec.inv
        let CC : Array Bool → World → Prop := fun s' w => RepM EA w0 (blurs MA (wOf ops tm ls)) w ∧ ((∃ i, i ∈ ancQ ops ls qs ∧ s'.getD i true = false) → RepM E w0 M w)
        have weak : ∀ w, RepM E w0 M w → RepM EA w0 (blurs MA (wOf ops tm ls)) w := fun w h => blurs_rep _ (hRA w h)
        have hCs : Cs ops (kdOf ops qs gs ls (glKd E1 gl)) (doneL (qs ++ gs ++ ls) s) CC := by
          refine ⟨fun s' w w' h hb => ⟨h.1.later hb, fun he => (h.2 he).later hb⟩, fun s' j w h => ⟨h.1, fun ⟨i, hi, hu⟩ => h.2 ⟨i, hi, ?_⟩⟩, fun {s'} {j} hi hTj hj s'' w h => ⟨h.1, fun ⟨i, hiq, hu⟩ => ?_⟩⟩
          · by_cases e : j = i
            · subst e
              exfalso
              rcases Nat.lt_or_ge j s'.size with hl | hl
              · simp [hl] at hu
              · simp [Array.getElem?_eq_none hl, Array.setIfInBounds, Nat.not_lt.2 hl] at hu
            · rw [getD_setv_ne _ _ e] at hu; exact hu
          · exfalso
            have hjl := kdOf_l (fun _ => glKd_ne_l) hTj
            rcases reachB_spec hi.closed hj i (ancQ_spec hiq hjl) with rfl | hd
            · obtain ⟨o, _, hk⟩ := hkq1 _ hiq
              rw [hTj] at hk
              cases hv : isVal o <;> rw [hv] at hk <;> cases hk
            · have : (s'.setIfInBounds j true).getD i false = true := getD_set_true hd
              rw [getD_both hu] at this; cases this
        have hDC : ∀ s', (∀ j, kdOf ops qs gs ls (glKd E1 gl) j = .q0 ∨ kdOf ops qs gs ls (glKd E1 gl) j = .q1 → s'.getD j false = true) → ∀ w, RepM EA w0 (blurs MA (wOf ops tm ls)) w → CC s' w := fun s' hq w h => ⟨h, fun ⟨i, hiq, hu⟩ => by
          exfalso
          obtain ⟨o, _, hk⟩ := hkq1 _ hiq
          have := hq i (by rw [hk]; cases isVal o <;> simp [qkd])
          rw [getD_both hu] at this; cases this⟩
        show wpAny P .any ops Q (cnt l + (ls.length + gs.length + qs.length) + g) s a w
        have hql : qs.length = (restQ ops ls qs).length + (ancQ ops ls qs).length := by
          have := congrArg List.length (ancQ_rest ops ls qs)
          rw [List.length_append] at this; omega
        rw [show cnt l + (ls.length + gs.length + qs.length) + g = (ls.length + gs.length + (restQ ops ls qs).length + (ancQ ops ls qs).length) + (cnt l + g) from by omega]
        refine anyR_run (C := CC) (B1 := w0.w0.heap.size) (T := kdOf ops qs gs ls (glKd E1 gl)) (sE := doneL (qs ++ gs ++ ls) s) (K := fun a w => wpAny P .any ops Q (cnt l + g) (doneL (qs ++ gs ++ ls) s) a w) hCs (fun _ _ h => h) _ (fun r => r < w.heap.size) s a w ⟨hRN, fun _ => hR⟩ hR.below.size (fun _ h => h) ?_
        refine hanyA CC _ _ _ _ _ _ s w hCs (fun s' i hi hu w h => h.2 ⟨i, hi, hu⟩) hSpec.seg hkq1 hSpec.inv hst_1 hR ⟨hRN, fun _ => hR⟩ fun wA hwA hCA hbA => ?_
        refine hany CC _ _ _ _ _ _ _ wA hCs (fun s' i _ _ w h => h.1) hSpec.seg hkq2 hinv1 hst_2 (weak wA hwA) hCA fun w1 hw1 _ hbA1 => ?_
        have hb1 := below_thru hbA hbA1
        rw [hdn]
        have hRM1 : RepM E1 w0 M1 w1 := hf5 EA E1 w0 w1 (hRA w1 (hR.later hb1)) hstM (hR1 w1 hw1)
        have hT1' : RelL E1 M1 tm1 a1.tmps.toList := relL_live hf1 hf2 hf3 hT1
        have hgl' : gs.length = gl.length := by rw [← hgl]; simp
        rw [hgl']
        have hkn : Known (fun r => r < w.heap.size) E1 M1 := by
          refine ⟨fun b x hx => ?_, fun i e he ho => ?_⟩
          · have hbl : b < MA.blks.length := by
              have := lt_of_get hx
              rw [hf1, hgr.blk, hs1] at this; exact this
            have ha : aliveB MA b = true := by
              have : aliveB M1 b = true := by unfold aliveB; rw [hx]
              exact hstM1.mem.liveB b hbl this
            unfold aliveB at ha
            split at ha
            · rename_i y hy
              rw [hstM1.env.ρ b hbl]
              exact (hRA w hR).lt hy
            · cases ha
          · intro g hg
            obtain ⟨we, hwe⟩ : ∃ we, we = w := ⟨w, rfl⟩
            have hRw : RepM E1 w0 M1 w := hf5 EA E1 w0 w (hRA w hR) hstM (hR1 w hRN)
            exact hRw.known.vec i e he ho g hg
        refine news_chain (fa := freeAll ops) id hSpec.seg hD hCs (fun s w h => h.1) hDC (E1 := E1) (M1 := M1) gl E1 M1 tm1 a1 _ _ w1 ls.length (Step.refl _ _) hT1' hd1 hRM1 hw1 (fun r hr => Nat.lt_of_lt_of_le hr hb1.size) hkn hSpec.invQ hSpec.qd (by rw [hgl]; exact hSpec.nodup) (by rw [hgl]; exact hSpec.stepsG)
          (fun g hg => hSpec.readyG g.i (by rw [← hgl]; exact List.mem_map_of_mem hg)) (fun g hg => ?_) fun E2 a2 U2 w2 hst2 hT2 hd2 hR2 hw2 => ?_
        · obtain ⟨o, ho, hgu, hlv, hn⟩ := hgok g hg
          obtain ⟨hsc, hrun⟩ := hn E1 a1 hT1
          refine ⟨o, ho, ?_, ⟨by simp [Region.wanted, hgu], fun w hw => hrun w0 w (hR1 w hw)⟩, concL_rel (by rw [hf1, hf2]; exact hsc)⟩
          rw [hSpec.kg g.i (by rw [← hgl]; exact List.mem_map_of_mem hg)]
          exact glKd_eq (by rw [hgl]; exact hSpec.nodup) g hg
        · have hle : Env.le (blurs MA (wOf ops tm ls)).blks.length (blurs MA (wOf ops tm ls)).vecs.length EA E2 := by
            rw [hs1, hs2]
            exact (hstM1.trans hst2).env
          refine hL EA w w0 E2 a2 w2 _ _ _ _ U2 CC _ (fun s' hs w h => hDC s' (fun j hj => hs j (doneL_mono _ _ _ (hSpec.qd j hj))) w h) hRN hle hT2 hd2 hR2 hSpec.kl (by rw [hgl]; exact hSpec.seq) (by rw [hgl]; exact hSpec.fin) fun E3 a3 w3 hst3 hT3 hd3 hR3 => ?_
          exact hrest E3 a3 w0 w3 hT3 hd3 hR3 Q g fun E4 a4 w4 hst4 => hQ E4 a4 w4 (((hstA.trans (hstM1.trans hst2)).trans hst3).trans hst4)
      · cases h1
    · cases h

def hasClos (ops : List Oper) : Bool := ops.any fun o => match o.op with
  | .call c => match c.callee with
    | .value (.tmp _) => true
    | _ => false
  | _ => false
def quietS (C : CallSem) (o : Oper) : Bool :=
  isVal o || (match o.op with
    | .call c => match c.callee with
      | .value (.func f) => C.isPure f
      | _ => false
    | _ => false)
/-- the plan hangs on the text alone, but for closures -/
def planOf (C : CallSem) (ops : Array Oper) (tm : List AV) : List Segm :=
  match hasClos ops.toList with
  | true => planK ops (quietB C ops.toList tm) isStore (isRdC C ops.toList tm) (fun o => isRdC C ops.toList tm o && !quietB C ops.toList tm o) (ops.size + 1) (Array.replicate ops.size false)
  | false => planK ops (quietS C) isStore (isRdC C [] []) (fun o => isRdC C [] [] o && !quietS C o) (ops.size + 1) (Array.replicate ops.size false)
def drawK {R : Type} (C : CallSem) (P : Program) (ops : Array Oper) (tm : List AV) (M : Mem) (k : List AV → Mem → Option R) : Option R :=
  match planOf C ops tm with
  | segs => bif decide (cnt segs ≤ ops.size) then segsK C P ops segs (Array.replicate ops.size false) tm M k else none

theorem closed_start (ops : Array Oper) : Closed ops (Array.replicate ops.size false) := fun j oj _ hd => by rw [getD_replicate_false] at hd; cases hd

def DrawOk (P : Program) (ops : Array Oper) (tm : List AV) (M : Mem) (tm' : List AV) (M' : Mem) : Prop :=
  ∀ E (a : Act) w0 w, RelL E M tm a.tmps.toList → a.defers = [] → RepM E w0 M w → ∀ (Q : Exit → Act → World → Prop),
    (∀ E' a' w', Step E M E' M' → RelL E' M' tm' a'.tmps.toList → a'.defers = [] → RepM E' w0 M' w' → Q .normal a' w') → wpAny P .any ops Q ops.size (Array.replicate ops.size false) a w

theorem drawK_sound {R : Type} {C : CallSem} {P : Program} (hC : C.Sound P) {ops : Array Oper} {tm : List AV} {M : Mem} {k : List AV → Mem → Option R} {r : R} (h : drawK C P ops tm M k = some r) :
    ∃ tm' M', k tm' M' = some r ∧ DrawOk P ops tm M tm' M' := by
  simp only [drawK, cond_eq_ite, decide_eq_true_eq] at h
  split at h
  · rename_i hle
    obtain ⟨tm', M', hk, hs⟩ := segsK_sound hC _ _ _ _ _ _ (closed_start ops) (by simp) h
    refine ⟨tm', M', hk, fun E a w0 w hT hd hR Q hQ => ?_⟩
    have := hs E a w0 w hT hd hR Q (ops.size - cnt (planOf C ops tm)) hQ
    rwa [Nat.add_sub_cancel' hle] at this
  · cases h

theorem closed_conc {z : AV} (E E' : Env) (h : z.sc 0 0 = true) : z.conc E = z.conc E' :=
  (conc_le (E := E') (E' := E) (n := 0) (m := 0) ⟨fun _ hb => absurd hb (by omega), fun _ hb => absurd hb (by omega)⟩ z h)

/-! code -/
def iterK {R : Type} (body : St → (Exit → St → Option R) → Option R) : Nat → St → (Exit → St → Option R) → Option R
  | 0, _, _ => none
  | n + 1, st, k => body st fun e st' => match e with
    | .normal => iterK body n st' k
    | e => k e st'

def exK {R : Type} (C : CallSem) (P : Program) (n : Nat) : Code → St → (Exit → St → Option R) → Option R
  | .skip, st, k => k .normal st
  | .label _, st, k => k .normal st
  | .region _ ops draw, st, k =>
    match C.join && allVals ops.toList with
    | true => bif !draw || Region.lexB .any ops then valsK P ops 400 [] ops.toList st.tm st.M fun tm => k .normal ⟨tm, st.M⟩ else none
    | false => match draw with
      | true => drawK C P ops st.tm st.M fun tm M => k .normal ⟨tm, M⟩
      | false => seqK C P ops ops.toList st.tm st.M fun tm M => k .normal ⟨tm, M⟩
  | .seq a b, st, k => exK C P n a st fun e st' => match e with
    | .normal => exK C P n b st' k
    | e => k e st'
  | .cond c a b, st, k =>
    match c with
    | .tmp d => match st.tm.getD d .bad with
      | .lit (.bool t) => match t with
        | true => exK C P n a ⟨st.tm.set d (.lit (.bool true)), st.M⟩ k
        | false => exK C P n b ⟨st.tm.set d (.lit (.bool false)), st.M⟩ k
      | _ => none
    | .const (.bool t) => match t with
      | true => exK C P n a st k
      | false => exK C P n b st k
    | _ => none
  | .block id c, st, k => exK C P n c st fun e st' => match e with
    | .exit id' => bif decide (id' = id) then k .normal st' else k (.exit id') st'
    | e => k e st'
  | .loop c, st, k => match nodeL C.loops (.loop c) with
    | some L => frameLoop L st k
    | none => iterK (exK C P n c) n st k
  | .exit id, st, k => k (.exit id) st
  | .ret, st, k => k .ret st
  | _, _, _ => none

theorem exK_sound {R : Type} {C : CallSem} {P : Program} (hC : C.Sound P) (hm : P.follows .mixedOrders = true) (n : Nat) : ∀ (c : Code) (st : St) (k : Exit → St → Option R) (r : R), LoopsOk P C.loops c → exK C P n c st k = some r →
    ∃ e st', k e st' = some r ∧ CodeOk P c st e st' := by
  intro c
  induction c with
  | skip => intro st k r _ h; exact ⟨_, _, h, fun E w0 a w hR Q hQ => wp_skip (hQ E a w (Step.refl _ _) hR)⟩
  | label l => intro st k r _ h; exact ⟨_, _, h, fun E w0 a w hR Q hQ => wp_label (hQ E a w (Step.refl _ _) hR)⟩
  | region id ops draw =>
    intro st k r _ h
    simp only [exK] at h
    split at h
    · simp only [cond_eq_ite, Bool.or_eq_true, Bool.not_eq_true'] at h
      split at h
      · rename_i hB
        obtain ⟨tm', hk, hV⟩ := valsK_sound _ _ _ _ _ _ _ h
        refine ⟨_, _, hk, fun E w0 a w hR Q hQ => ?_⟩
        have go : ∀ w1, RepM E w0 st.M w1 → ∃ E' a', Step E st.M E' st.M ∧ (∀ w, RepM E w0 st.M w → RepM E' w0 st.M w) ∧ RelL E' st.M tm' a'.tmps.toList ∧ a'.defers = [] ∧ ∀ (Qq : Act → Prop), Qq a' → wpQuiet P ops (RepM E w0 st.M) Qq ops.toList a := by
          intro w1 hw1
          obtain ⟨E', a', g1, g2, g3, g4, _, _, g6⟩ := hV E w0 a (RepM E w0 st.M) ⟨w1, hw1⟩ (fun _ h => h) hR.tm
          exact ⟨E', a', g1, g2, g3, g4.trans hR.defers, fun Qq hq => by have := g6 Qq [] (wpQuiet_nil hq); rwa [List.append_nil] at this⟩
        obtain ⟨E', a', g1, g2, g3, g4, g5⟩ := go w hR.mem
        cases draw with
        | true =>
          have hlex : Region.lexB .any ops = true := by simpa using hB
          refine wp_region_quiet (C := RepM E w0 st.M) hm hlex hR.mem.drew (g5 _ fun w' hw' => ?_)
          exact hQ E' a' w' g1 ⟨g2 w' hw', g3, g4⟩
        | false =>
          refine wp_region_list (wpList_of_quiet (D := RepM E w0 st.M) (Qq := fun x => x = a') (fun x w' hw' hx => ?_) _ _ _ hR.mem (g5 _ rfl))
          subst hx
          exact hQ E' x w' g1 ⟨g2 w' hw', g3, g4⟩
      · cases h
    · cases draw with
      | false =>
        obtain ⟨tm', M', hk, hs⟩ := seqK_sound hC _ _ _ _ _ h
        refine ⟨_, _, hk, fun E w0 a w hR Q hQ => wp_region_list ?_⟩
        exact hs E a w0 w hR.tm hR.defers hR.mem Q fun E' a' w' hst hT hd hR' => hQ E' a' w' hst ⟨hR', hT, hd⟩
      | true =>
        obtain ⟨tm', M', hk, hs⟩ := drawK_sound hC h
        refine ⟨_, _, hk, fun E w0 a w hR Q hQ => wp_region_any hm ?_⟩
        exact hs E a w0 _ hR.tm hR.defers hR.mem.drew Q fun E' a' w' hst hT hd hR' => hQ E' a' w' hst ⟨hR', hT, hd⟩
  | seq x y ihx ihy =>
    intro st k r hls h
    have hlx : LoopsOk P C.loops x := fun z hz => hls z (List.mem_append_left _ hz)
    have hly : LoopsOk P C.loops y := fun z hz => hls z (List.mem_append_right _ hz)
    simp only [exK] at h
    obtain ⟨e, st1, hk, hx⟩ := ihx _ _ _ hlx h
    cases e with
    | normal =>
      simp only at hk
      obtain ⟨e2, st2, hk2, hy⟩ := ihy _ _ _ hly hk
      refine ⟨e2, st2, hk2, fun E w0 a w hR Q hQ => wp_seq (hx E w0 a w hR _ fun E' a' w' hst hR' => ?_)⟩
      exact hy E' w0 a' w' hR' Q fun E'' a'' w'' hst' hR'' => hQ E'' a'' w'' (hst.trans hst') hR''
    | exit id => exact ⟨_, st1, hk, fun E w0 a w hR Q hQ => wp_seq (hx E w0 a w hR _ fun E' a' w' hst hR' => hQ E' a' w' hst hR')⟩
    | goto l => exact ⟨_, st1, hk, fun E w0 a w hR Q hQ => wp_seq (hx E w0 a w hR _ fun E' a' w' hst hR' => hQ E' a' w' hst hR')⟩
    | ret => exact ⟨_, st1, hk, fun E w0 a w hR Q hQ => wp_seq (hx E w0 a w hR _ fun E' a' w' hst hR' => hQ E' a' w' hst hR')⟩
    | panic ch => exact ⟨_, st1, hk, fun E w0 a w hR Q hQ => wp_seq (hx E w0 a w hR _ fun E' a' w' hst hR' => hQ E' a' w' hst hR')⟩
    | outgrown => exact ⟨_, st1, hk, fun E w0 a w hR Q hQ => wp_seq (hx E w0 a w hR _ fun E' a' w' hst hR' => hQ E' a' w' hst hR')⟩
  | cond c x y ihx ihy =>
    intro st k r hls h
    have hlx : LoopsOk P C.loops x := fun z hz => hls z (List.mem_append_left _ hz)
    have hly : LoopsOk P C.loops y := fun z hz => hls z (List.mem_append_right _ hz)
    simp only [exK] at h
    split at h
    · rename_i d
      split at h
      · rename_i t ht
        split at h
        · rw [set_self ht (by simp)] at h
          obtain ⟨e, st', hk, hx⟩ := ihx _ _ _ hlx h
          refine ⟨e, st', hk, fun E w0 a w hR Q hQ => wp_cond_true ?_ (hx E w0 a w hR Q hQ)⟩
          simp [Act.eval, Array.getD_eq_getD_getElem?, slot_val hR.tm ht]
        · rw [set_self ht (by simp)] at h
          obtain ⟨e, st', hk, hy⟩ := ihy _ _ _ hly h
          refine ⟨e, st', hk, fun E w0 a w hR Q hQ => wp_cond_false ?_ (hy E w0 a w hR Q hQ)⟩
          simp [Act.eval, Array.getD_eq_getD_getElem?, slot_val hR.tm ht]
      · cases h
    · rename_i t
      split at h
      · obtain ⟨e, st', hk, hx⟩ := ihx _ _ _ hlx h
        exact ⟨e, st', hk, fun E w0 a w hR Q hQ => wp_cond_true rfl (hx E w0 a w hR Q hQ)⟩
      · obtain ⟨e, st', hk, hy⟩ := ihy _ _ _ hly h
        exact ⟨e, st', hk, fun E w0 a w hR Q hQ => wp_cond_false rfl (hy E w0 a w hR Q hQ)⟩
    · cases h
  | block id c ih =>
    intro st k r hls h
    simp only [exK] at h
    obtain ⟨e, st', hk, hc⟩ := ih _ _ _ hls h
    cases e with
    | exit id' =>
      simp only [cond_eq_ite, decide_eq_true_eq] at hk
      split at hk
      · rename_i he
        exact ⟨_, st', hk, fun E w0 a w hR Q hQ => wp_block (hc E w0 a w hR _ fun E' a' w' hst hR' => by simp only [Exit.inBlock, he, if_true]; exact hQ E' a' w' hst hR')⟩
      · rename_i he
        exact ⟨_, st', hk, fun E w0 a w hR Q hQ => wp_block (hc E w0 a w hR _ fun E' a' w' hst hR' => by simp only [Exit.inBlock, he, if_false]; exact hQ E' a' w' hst hR')⟩
    | normal => exact ⟨_, st', hk, fun E w0 a w hR Q hQ => wp_block (hc E w0 a w hR _ fun E' a' w' hst hR' => hQ E' a' w' hst hR')⟩
    | goto l => exact ⟨_, st', hk, fun E w0 a w hR Q hQ => wp_block (hc E w0 a w hR _ fun E' a' w' hst hR' => hQ E' a' w' hst hR')⟩
    | ret => exact ⟨_, st', hk, fun E w0 a w hR Q hQ => wp_block (hc E w0 a w hR _ fun E' a' w' hst hR' => hQ E' a' w' hst hR')⟩
    | panic ch => exact ⟨_, st', hk, fun E w0 a w hR Q hQ => wp_block (hc E w0 a w hR _ fun E' a' w' hst hR' => hQ E' a' w' hst hR')⟩
    | outgrown => exact ⟨_, st', hk, fun E w0 a w hR Q hQ => wp_block (hc E w0 a w hR _ fun E' a' w' hst hR' => hQ E' a' w' hst hR')⟩
  | loop c ih =>
    intro st k r hls h
    have hlc : LoopsOk P C.loops c := fun z hz => hls z (List.mem_cons_of_mem _ hz)
    simp only [exK] at h
    split at h
    · rename_i L hL
      exact frameLoop_sound (hls _ List.mem_cons_self L hL) h
    have key : ∀ (q : Nat) (st : St) (k : Exit → St → Option R) (r : R), iterK (exK C P n c) q st k = some r →
        ∃ e st', k e st' = some r ∧ ∀ E w0 (a : Act) w, Rep E w0 st a w → ∀ Q : Exit → Act → World → Prop, (∀ E' a' w', Step E st.M E' st'.M → Rep E' w0 st' a' w' → Q e a' w') → Code.rounds P c Q q a w := by
      intro q
      induction q with
      | zero => intro st k r h; simp [iterK] at h
      | succ q ihq =>
        intro st k r h
        simp only [iterK] at h
        obtain ⟨e, st1, hk, hc⟩ := ih _ _ _ hlc h
        cases e with
        | normal =>
          simp only at hk
          obtain ⟨e2, st2, hk2, h2⟩ := ihq _ _ _ hk
          refine ⟨e2, st2, hk2, fun E w0 a w hR Q hQ => ?_⟩
          rw [rounds_succ]
          exact hc E w0 a w hR _ fun E' a' w' hst hR' => h2 E' w0 a' w' hR' Q fun E'' a'' w'' hst' hR'' => hQ E'' a'' w'' (hst.trans hst') hR''
        | exit id => exact ⟨_, st1, hk, fun E w0 a w hR Q hQ => by rw [rounds_succ]; exact hc E w0 a w hR _ fun E' a' w' hst hR' => hQ E' a' w' hst hR'⟩
        | goto l => exact ⟨_, st1, hk, fun E w0 a w hR Q hQ => by rw [rounds_succ]; exact hc E w0 a w hR _ fun E' a' w' hst hR' => hQ E' a' w' hst hR'⟩
        | ret => exact ⟨_, st1, hk, fun E w0 a w hR Q hQ => by rw [rounds_succ]; exact hc E w0 a w hR _ fun E' a' w' hst hR' => hQ E' a' w' hst hR'⟩
        | panic ch => exact ⟨_, st1, hk, fun E w0 a w hR Q hQ => by rw [rounds_succ]; exact hc E w0 a w hR _ fun E' a' w' hst hR' => hQ E' a' w' hst hR'⟩
        | outgrown => exact ⟨_, st1, hk, fun E w0 a w hR Q hQ => by rw [rounds_succ]; exact hc E w0 a w hR _ fun E' a' w' hst hR' => hQ E' a' w' hst hR'⟩
    obtain ⟨e, st', hk, hc⟩ := key _ _ _ _ h
    exact ⟨e, st', hk, fun E w0 a w hR Q hQ => wp_loop_rounds n (hc E w0 a w hR Q hQ)⟩
  | exit id => intro st k r _ h; exact ⟨_, _, h, fun E w0 a w hR Q hQ => wp_exit (hQ E a w (Step.refl _ _) hR)⟩
  | ret => intro st k r _ h; exact ⟨_, _, h, fun E w0 a w hR Q hQ => wp_ret (hQ E a w (Step.refl _ _) hR)⟩
  | scope c => intro st k r _ h; simp [exK] at h
  | goto l => intro st k r _ h; simp [exK] at h
  | refuse why => intro st k r _ h; simp [exK] at h
  | rangeFunc f ps a b => intro st k r _ h; simp [exK] at h

end Go.Sx
