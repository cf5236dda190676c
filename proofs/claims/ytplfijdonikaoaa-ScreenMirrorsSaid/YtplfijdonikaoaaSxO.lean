import Derived.Test.YtplfijdonikaoaaSxQ
set_option linter.unusedVariables false
set_option linter.unusedSimpArgs false
namespace Go.Sx
open Go Go.RowKit

/-! What a callee, or a loop, is lent: all that can be reached from what it is given. -/

mutual
def AV.names : AV → List Nat
  | .ptr b _ => [2 * b]
  | .sl b _ _ _ => [2 * b]
  | .vec h => [2 * h + 1]
  | .vptr h _ _ _ => [2 * h + 1]
  | .agg cs => namesL cs
  | .tup cs => namesL cs
  | .fn _ cs => namesL cs
  | _ => []
def namesL : List AV → List Nat
  | [] => []
  | a :: l => a.names ++ namesL l
end
def memB : List Nat → Nat → Bool
  | [], _ => false
  | y :: l, x => decide (y = x) || memB l x
def reach (M : Mem) : Nat → List Nat → List Nat → List Nat → List Nat × List Nat
  | 0, _, pb, pv => (pb, pv)
  | _ + 1, [], pb, pv => (pb, pv)
  | f + 1, x :: todo, pb, pv => match x % 2 with
    | 0 => bif memB pb (x / 2) then reach M f todo pb pv else match M.blks[x / 2]? with
      | some (some X) => reach M f (todo ++ namesL X.cells) (pb ++ [x / 2]) pv
      | _ => reach M f todo pb pv
    | _ => bif memB pv (x / 2) then reach M f todo pb pv else match M.vecs[x / 2]? with
      | some (some e) => reach M f (bif noAny e.sh then todo else todo ++ namesL e.cont) pb (pv ++ [x / 2])
      | _ => reach M f todo pb pv
def hits (M : Mem) (t : Nat) : List Nat → Bool
  | [] => false
  | h :: l => (match M.vecs[h]? with
    | some (some e) => decide (e.terr = t) && e.own
    | _ => false) || hits M t l
def killF (M : Mem) (pv : List Nat) (h : Nat) (x : Option Ent) : Option Ent := match x with
  | some e => match invF pv h 0 with
    | some _ => some e
    | none => bif hits M e.terr pv && e.own then none else some e
  | none => none
/-- other names for what is lent are forgotten -/
def killA (M : Mem) (pv : List Nat) : Mem := ⟨M.blks, updL (killF M pv) 0 M.vecs⟩

theorem RepM.sub {M M' : Mem} (hb : M'.blks = M.blks) (hl : M'.vecs.length = M.vecs.length) (hv : ∀ (h : Nat) (e : Ent), M'.vecs[h]? = some (some e) → M.vecs[h]? = some (some e)) {E : Env} : Step E M E M' ∧ ∀ {w0 : Bs} {w : World}, RepM E w0 M w → RepM E w0 M' w := by
  have hst : Step E M E M' := by
    refine ⟨⟨by rw [hb]; exact Nat.le_refl _, by rw [hl]; exact Nat.le_refl _, fun i hi h => ?_, fun i hi h => ?_⟩, Env.le.refl _ _ _⟩
    · unfold aliveB at *; rw [hb] at h; exact h
    · unfold aliveV at h
      split at h
      · rename_i e he
        unfold aliveV
        rw [hv _ _ he]
      · cases h
  refine ⟨hst, fun {w0 w} h => ⟨h.below, fun b x hx => ?_, fun b b' x x' hx hx' => ?_, fun i e he => ?_, fun i i' e e' he he' => ?_⟩⟩
  · rw [hb] at hx
    obtain ⟨h1, cs, h2, h3⟩ := h.blk b x hx
    exact ⟨h1, cs, h2, h3.step hst⟩
  · rw [hb] at hx hx'
    exact h.inj b b' x x' hx hx'
  · rcases h.vec i e (hv _ _ he) with hz | ⟨a, cap, cs, fz, hV⟩
    · exact .inl hz
    refine .inr ⟨a, cap, cs, fz, { hV with cell := ?_, mine := ?_ }⟩
    · intro j y hy k c hc
      obtain ⟨u, h1, h2⟩ := hV.cell j y hy k c hc
      exact ⟨u, h1, h2.step hst⟩
    · intro ho
      obtain ⟨h1, h2, h3⟩ := hV.mine ho
      exact ⟨h1, h2, fun b x hx => h3 b x (by rw [hb] at hx; exact hx)⟩
  · exact h.terr i i' e e' (hv _ _ he) (hv _ _ he')
theorem killA_sub (M : Mem) (pv : List Nat) {E : Env} : Step E M E (killA M pv) ∧ ∀ {w0 : Bs} {w : World}, RepM E w0 M w → RepM E w0 (killA M pv) w := by
  refine RepM.sub (M := M) (M' := killA M pv) rfl (by simp [killA, updL_len]) fun h e he => ?_
  simp only [killA, updL_get, Nat.zero_add] at he
  cases hx : M.vecs[h]? with
  | none => rw [hx] at he; cases he
  | some o =>
    rw [hx] at he
    simp only [Option.map_some, Option.some.injEq] at he
    cases o with
    | none => cases he
    | some e' =>
      simp only [killF] at he
      split at he
      · exact congrArg some he
      · simp only [cond_eq_ite] at he
        split at he
        · cases he
        · exact congrArg some he

def CallOk (P : Program) (f : FuncId) (args : List AV) (M : Mem) (z : AV) (M' : Mem) : Prop :=
  ∀ E w0 w, RepM E w0 M w → scL M.blks.length M.vecs.length args = true → lvL M.live args = true →
    (callFunc f (concL E args).toArray).run P w = .ok (.enter f (concL E args).toArray) w ∧
    Calls P f (concL E args).toArray w (fun e w' => ∃ E' v, e = .returned v ∧ Step E M E' M' ∧ RelS E' M' z v ∧ RepM E' w0 M' w')

theorem framed_of {E : Env} {w0 : Bs} {w w' : World} {M MS : Mem} {pb pv : List Nat} {ES : Env} (hR : RepM E w0 M w) (hok : okPick M pb pv = true) (hst : Step (pickE E pb pv) (pickM M pb pv) ES MS) (hR' : RepM ES (lend (pickE E pb pv) (pickM M pb pv) w) MS w') : Framed E w0 M w pb pv ES MS w' := by
  simp only [okPick, Bool.and_eq_true] at hok
  exact ⟨hR, nodupB_spec hok.1.1.1.1, nodupB_spec hok.1.1.1.2, hok.1.1.2, hok.1.2, hok.2, hst, hR'⟩
theorem okPick_nodup {M : Mem} {pb pv : List Nat} (hok : okPick M pb pv = true) : pb.Nodup := by
  simp only [okPick, Bool.and_eq_true] at hok
  exact nodupB_spec hok.1.1.1.1

theorem CallOk.frame {P : Program} {f : FuncId} {args : List AV} {M MS : Mem} {z : AV} {pb pv : List Nat} (hok : okPick (killA M pv) pb pv = true) (hlv : lvL (pickM (killA M pv) pb pv).live (renL (invB pb) (invB pv) args) = true)
    (h : CallOk P f (renL (invB pb) (invB pv) args) (pickM (killA M pv) pb pv) z MS) :
    CallOk P f args M (z.ren (bkN pb (killA M pv).blks.length MS.blks.length) (bkN pv (killA M pv).vecs.length MS.vecs.length)) (outM (killA M pv) MS pb pv) := by
  intro E w0 w hR hs hl
  obtain ⟨hst0, hsub⟩ := killA_sub M pv (E := E)
  have hR1 := hsub hR
  have hp := hR1.pick pv (okPick_nodup hok)
  have r := Ren.pick E (killA M pv) pb pv
  obtain ⟨h1, h2⟩ := h _ _ w hp.rebase (r.scL args) hlv
  rw [(r.concL args hlv).2] at h1 h2
  refine ⟨h1, h2.mono fun e w' ⟨ES, v, he, hst, hv, hR'⟩ => ?_⟩
  have F := framed_of hR1 hok hst hR'
  exact ⟨_, v, he, hst0.trans F.step, hv.ren F.ren, F.repM⟩

/-! nil, told as a row of nothing -/
structure NilT where
  slot : Nat
  elem : TypeId
  isAgg : Bool
  sh : List CK
def nilAt (t : NilT) (l : List AV) (M : Mem) : List AV × Mem := match l.getD t.slot .bad with
  | .lit (.slice none 0 0) => (l.set t.slot (.vec M.vecs.length), M.addV ⟨t.elem, t.isAgg, t.sh, M.vecs.length, true, true, []⟩)
  | _ => (l, M)
def nilify : List NilT → List AV → Mem → List AV × Mem
  | [], l, M => (l, M)
  | t :: ts, l, M => match nilAt t l M with
    | (l', M') => nilify ts l' M'
theorem RelL.set_same {E : Env} {M : Mem} {l : List AV} {vs : List Value} (h : RelL E M l vs) (i : Nat) {a : AV} (hr : ∀ v, vs[i]? = some v → RelS E M a v) : RelL E M (l.set i a) vs := by
  refine ⟨by rw [List.length_set]; exact h.len, fun j x v hx hv => ?_⟩
  rw [List.getElem?_set] at hx
  split at hx
  · rename_i e
    subst e
    split at hx
    · simp only [Option.some.injEq] at hx; subst hx; exact hr v hv
    · cases hx
  · exact h.at_ j x v hx hv
theorem nilAt_sound {E : Env} {w0 : Bs} {w : World} {M : Mem} (t : NilT) (l : List AV) (vs : List Value) (hR : RepM E w0 M w) (hT : RelL E M l vs) :
    ∃ E', Step E M E' (nilAt t l M).2 ∧ RepM E' w0 (nilAt t l M).2 w ∧ RelL E' (nilAt t l M).2 (nilAt t l M).1 vs := by
  unfold nilAt
  split
  · rename_i hn
    have hst := Step.addV E M ⟨t.elem, t.isAgg, t.sh, M.vecs.length, true, true, []⟩ nilV
    refine ⟨_, hst, hR.addV _ nilV (.inl ⟨rfl, rfl⟩) (fun _ _ _ _ _ g hg => by rw [bk_nil (by simp [Env.addV])] at hg; cases hg), (hT.step hst).set_same _ fun v hv => ⟨by simp [AV.sc, Mem.addV], fun _ => ?_⟩⟩
    have hi : t.slot < l.length := by rw [hT.len]; exact lt_of_get hv
    have h1 : l[t.slot]? = some (.lit (.slice none 0 0)) := by
      rw [List.getElem?_eq_getElem hi]
      simpa [List.getD, List.getElem?_eq_getElem hi] using hn
    have := (hT.at_ _ _ v h1 hv).2 rfl
    rw [this]
    simp [AV.conc, Env.addV, nilV]
  · exact ⟨E, Step.refl E M, hR, hT⟩
theorem nilAt_len (t : NilT) (l : List AV) (M : Mem) : (nilAt t l M).1.length = l.length := by
  unfold nilAt
  split <;> simp
theorem nilify_len : ∀ (ts : List NilT) (l : List AV) (M : Mem), (nilify ts l M).1.length = l.length
  | [], _, _ => rfl
  | t :: ts, l, M => by
    simp only [nilify]
    rw [nilify_len, nilAt_len]
theorem nilify_sound : ∀ (ts : List NilT) {E : Env} {w0 : Bs} {w : World} {M : Mem} (l : List AV) (vs : List Value), RepM E w0 M w → RelL E M l vs →
    ∃ E', Step E M E' (nilify ts l M).2 ∧ RepM E' w0 (nilify ts l M).2 w ∧ RelL E' (nilify ts l M).2 (nilify ts l M).1 vs
  | [], E, w0, w, M, l, vs, hR, hT => ⟨E, Step.refl E M, hR, hT⟩
  | t :: ts, E, w0, w, M, l, vs, hR, hT => by
    obtain ⟨E1, h1, h2, h3⟩ := nilAt_sound t l vs hR hT
    obtain ⟨E2, g1, g2, g3⟩ := nilify_sound ts _ vs h2 h3
    exact ⟨E2, h1.trans g1, g2, g3⟩

/-- the same, and nothing that was there has turned -/
def CallOkR (P : Program) (f : FuncId) (args : List AV) (M : Mem) (z : AV) (M' : Mem) : Prop :=
  ∀ E w0 w, RepM E w0 M w → scL M.blks.length M.vecs.length args = true → lvL M.live args = true →
    (callFunc f (concL E args).toArray).run P w = .ok (.enter f (concL E args).toArray) w ∧
    Calls P f (concL E args).toArray w (fun e w' => ∃ E' v, e = .returned v ∧ Step E M E' M' ∧ RelS E' M' z v ∧ RepM E' w0 M' w' ∧ Below w.heap.size w w')
theorem CallOkR.call {P : Program} {f : FuncId} {args : List AV} {M : Mem} {z : AV} {M' : Mem} (h : CallOkR P f args M z M') : CallOk P f args M z M' :=
  fun E w0 w hR hs hl => let ⟨h1, h2⟩ := h E w0 w hR hs hl; ⟨h1, h2.mono fun e w' ⟨E', v, g1, g2, g3, g4, _⟩ => ⟨E', v, g1, g2, g3, g4⟩⟩
/-- a function that may read and turn memory, told of the little that it is lent -/
structure MSpec where
  nils : List NilT
  run : {R : Type} → List AV → Mem → (AV → Mem → Option R) → Option R
def MSpec.Ok (P : Program) (f : FuncId) (s : MSpec) : Prop := ∀ {R : Type} {args : List AV} {M : Mem} {k : AV → Mem → Option R} {r : R}, s.run args M k = some r → ∃ z M', k z M' = some r ∧ CallOk P f args M z M'
def frameP {R : Type} (M : Mem) (vs : List AV) (k : List Nat → List Nat → Mem → Option R) : Option R :=
  match reach M 200 (namesL vs) [] [] with
  | (pb, pv) => match killA M pv with
    | M1 => bif okPick M1 pb pv then k pb pv M1 else none
theorem frameP_sound {R : Type} {M : Mem} {vs : List AV} {k : List Nat → List Nat → Mem → Option R} {r : R} (h : frameP M vs k = some r) : ∃ pb pv, okPick (killA M pv) pb pv = true ∧ k pb pv (killA M pv) = some r := by
  unfold frameP at h
  simp only [cond_eq_ite] at h
  split at h
  · exact ⟨_, _, by assumption, h⟩
  · cases h
def frameCall {R : Type} (s : MSpec) (args : List AV) (M : Mem) (k : AV → Mem → Option R) : Option R :=
  match nilify s.nils args M with
  | (args, M) => frameP M args fun pb pv M1 => match renL (invB pb) (invB pv) args with
    | aS => bif lvL (pickM M1 pb pv).live aS then s.run aS (pickM M1 pb pv) fun z MS =>
        k (z.ren (bkN pb M1.blks.length MS.blks.length) (bkN pv M1.vecs.length MS.vecs.length)) (outM M1 MS pb pv) else none
theorem concL_rel' {E : Env} {M : Mem} : ∀ {l : List AV} {vs : List Value}, RelL E M l vs → lvL M.live l = true → vs = concL E l
  | [], vs, h, _ => List.eq_nil_of_length_eq_zero h.len.symm
  | a :: l, [], h, _ => by have := h.len; simp at this
  | a :: l, v :: vs, h, hl => by
    simp only [lvL, Bool.and_eq_true] at hl
    simp only [concL]
    rw [← concL_rel' (l := l) (vs := vs) ⟨by have := h.len; simpa using this, fun i x y hx hy => h.at_ (i + 1) x y (by simpa using hx) (by simpa using hy)⟩ hl.2, ← (h.at_ 0 a v rfl rfl).2 hl.1]
theorem scL_rel' {E : Env} {M : Mem} : ∀ {l : List AV} {vs : List Value}, RelL E M l vs → scL M.blks.length M.vecs.length l = true
  | [], _, _ => rfl
  | a :: l, [], h => by have := h.len; simp at this
  | a :: l, v :: vs, h => by
    simp only [scL, Bool.and_eq_true]
    exact ⟨(h.at_ 0 a v rfl rfl).1, scL_rel' (l := l) (vs := vs) ⟨by have := h.len; simpa using this, fun i x y hx hy => h.at_ (i + 1) x y (by simpa using hx) (by simpa using hy)⟩⟩
theorem relL_conc {E : Env} {M : Mem} : ∀ {l : List AV}, scL M.blks.length M.vecs.length l = true → RelL E M l (concL E l)
  | [], _ => ⟨rfl, fun i a v h => by simp at h⟩
  | a :: l, h => by
    simp only [scL, Bool.and_eq_true] at h
    have := relL_conc (E := E) h.2
    refine ⟨by simp [concL, this.len], fun i x v hx hv => ?_⟩
    cases i with
    | zero => simp [concL] at hx hv; subst hx; subst hv; exact ⟨h.1, fun _ => rfl⟩
    | succ i => exact this.at_ i x v (by simpa using hx) (by simpa [concL] using hv)
theorem lvL_nilify : True := trivial
theorem frameCall_sound {R : Type} {P : Program} {f : FuncId} {s : MSpec} (hs : s.Ok P f) {args : List AV} {M : Mem} {k : AV → Mem → Option R} {r : R} (h : frameCall s args M k = some r) : ∃ z M', k z M' = some r ∧ CallOk P f args M z M' := by
  unfold frameCall at h
  split at h
  rename_i args1 M1 hnil
  obtain ⟨pb, pv, hok, h⟩ := frameP_sound h
  simp only [cond_eq_ite] at h
  split at h
  · rename_i hlv
    obtain ⟨z, MS, hk, hc⟩ := hs h
    refine ⟨_, _, hk, ?_⟩
    intro E w0 w hR hsc hl
    obtain ⟨E1, h1, h2, h3⟩ := nilify_sound s.nils args (concL E args) hR (relL_conc hsc)
    rw [hnil] at h1 h2 h3
    simp only at h1 h2 h3
    have hlk : lvL M1.live args1 = true := by
      have r := Ren.pick E1 (killA M1 pv) pb pv
      have := (r.concL args1 hlv).1
      obtain ⟨hst0, _⟩ := killA_sub M1 pv (E := E1)
      exact lvL_of fun i a ha => lv_mono hst0.mem.live.1 hst0.mem.live.2 a ((scL_at (scL_rel' h3) ha)) (lvL_at this ha)
    have he := concL_rel' h3 hlk
    obtain ⟨g1, g2⟩ := hc.frame hok hlv E1 w0 w h2 (scL_rel' h3) hlk
    rw [← he] at g1 g2
    refine ⟨g1, g2.mono fun e w' ⟨E', v, q1, q2, q3, q4⟩ => ⟨E', v, q1, h1.trans q2, q3, q4⟩⟩
  · cases h

/-! readers: all is lent for reading alone -/
def Blk.ro (x : Blk) : Blk := { x with own := false }
def Ent.ro (e : Ent) : Ent := { e with own := false }
def Mem.ro (M : Mem) : Mem := ⟨M.blks.map fun o => o.map Blk.ro, M.vecs.map fun o => o.map Ent.ro⟩
theorem ro_blk {M : Mem} {b : Nat} {x : Blk} (h : M.ro.blks[b]? = some (some x)) : ∃ y, M.blks[b]? = some (some y) ∧ x = y.ro := by
  simp only [Mem.ro, List.getElem?_map] at h
  cases hb : M.blks[b]? with
  | none => rw [hb] at h; cases h
  | some o =>
    rw [hb] at h
    cases o with
    | none => simp at h
    | some y => simp at h; exact ⟨y, rfl, h.symm⟩
theorem ro_vec {M : Mem} {b : Nat} {x : Ent} (h : M.ro.vecs[b]? = some (some x)) : ∃ y, M.vecs[b]? = some (some y) ∧ x = y.ro := by
  simp only [Mem.ro, List.getElem?_map] at h
  cases hb : M.vecs[b]? with
  | none => rw [hb] at h; cases h
  | some o =>
    rw [hb] at h
    cases o with
    | none => simp at h
    | some y => simp at h; exact ⟨y, rfl, h.symm⟩
theorem ro_live (M : Mem) : M.ro.live = M.live := by
  have hB : ∀ b, aliveB M.ro b = aliveB M b := fun b => by
    unfold aliveB Mem.ro
    simp only [List.getElem?_map]
    cases M.blks[b]? with
    | none => rfl
    | some o => cases o <;> rfl
  have hV : ∀ b, aliveV M.ro b = aliveV M b := fun b => by
    unfold aliveV Mem.ro
    simp only [List.getElem?_map]
    cases M.vecs[b]? with
    | none => rfl
    | some o => cases o <;> rfl
  funext i
  unfold Mem.live
  simp only [hB, hV]
theorem ro_nb (M : Mem) : M.ro.blks.length = M.blks.length := by simp [Mem.ro]
theorem ro_nh (M : Mem) : M.ro.vecs.length = M.vecs.length := by simp [Mem.ro]
theorem RelS.ro {E : Env} {M : Mem} {a : AV} {v : Value} (h : RelS E M a v) : RelS E M.ro a v := by
  unfold RelS at *
  rw [ro_nb, ro_nh, ro_live]; exact h
theorem RelL.ro {E : Env} {M : Mem} {a : List AV} {v : List Value} (h : RelL E M a v) : RelL E M.ro a v := ⟨h.len, fun i x y hx hy => (h.at_ i x y hx hy).ro⟩
theorem RepM.ro {E : Env} {w0 : Bs} {M : Mem} {w : World} (h : RepM E w0 M w) : RepM E (Bs.of w) M.ro w := by
  refine ⟨Keeps.refl _, fun b x hx => ?_, fun b b' x x' hx hx' he => ?_, fun i e he => ?_, fun i i' e e' he he' ho => ?_⟩
  · obtain ⟨y, hy, rfl⟩ := ro_blk hx
    obtain ⟨_, cs, h2, h3⟩ := h.blk b y hy
    exact ⟨⟨fun e => (by cases e), fun _ hw => Nat.lt_irrefl _ (Nat.lt_of_lt_of_le (h.lt hy) hw)⟩, cs, h2, h3.ro⟩
  · obtain ⟨y, hy, _⟩ := ro_blk hx
    obtain ⟨y', hy', _⟩ := ro_blk hx'
    exact h.inj b b' y y' hy hy' he
  · obtain ⟨y, hy, rfl⟩ := ro_vec he
    rcases h.vec i y hy with hz | ⟨a, cap, cs, fz, hv⟩
    · exact .inl hz
    exact .inr ⟨a, cap, cs, fz, { val := hv.val, spot := hv.spot, le := hv.le, blk := hv.blk, room := hv.room, shape := hv.shape, cell := fun i x hx j c hc => let ⟨u, h1, h2⟩ := hv.cell i x hx j c hc; ⟨u, h1, h2.ro⟩, old := fun _ hw => Nat.lt_irrefl _ (Nat.lt_of_lt_of_le (heap_lt hv.blk) hw), head := hv.head, mine := fun e => (by cases e) }⟩
  · obtain ⟨y, _, rfl⟩ := ro_vec he
    cases ho

def gainL {α : Type} (p : List Nat) (g : α → α) (kp : α → Bool) (L LS : List (Option α)) : List (Option α) :=
  L ++ (LS.drop p.length).map fun o => match o with
    | some y => bif kp y then some (g y) else none
    | none => none
section
variable {α : Type} {p : List Nat} {g : α → α} {kp : α → Bool} {L LS : List (Option α)}
theorem gainL_len : (gainL p g kp L LS).length = L.length + (LS.length - p.length) := by simp [gainL]
theorem gainL_cases {b : Nat} {x : α} (h : (gainL p g kp L LS)[b]? = some (some x)) :
    (b < L.length ∧ L[b]? = some (some x)) ∨ ∃ i y, bkN p L.length LS.length i = some b ∧ p.length ≤ i ∧ L.length ≤ b ∧ LS[i]? = some (some y) ∧ x = g y ∧ kp y = true := by
  unfold gainL at h
  rcases Nat.lt_or_ge b L.length with hb | hb
  · rw [List.getElem?_append_left hb] at h
    exact .inl ⟨hb, h⟩
  · rw [List.getElem?_append_right hb, List.getElem?_map, List.getElem?_drop] at h
    cases hy : LS[p.length + (b - L.length)]? with
    | none => rw [hy] at h; cases h
    | some o =>
      rw [hy] at h
      cases o with
      | none => cases h
      | some y =>
        simp only [Option.map_some, Option.some.injEq] at h
        cases hk : kp y with
        | false => rw [hk] at h; cases h
        | true =>
          rw [hk] at h
          simp only [cond_true, Option.some.injEq] at h
          refine .inr ⟨p.length + (b - L.length), y, ?_, by omega, hb, hy, h.symm, hk⟩
          have hl := lt_of_get hy
          simp only [bkN]
          rw [List.getElem?_eq_none (by omega)]
          simp only [hl, decide_true, cond_true, Option.some.injEq]
          omega
theorem gainL_at {q i : Nat} (h : bkN p L.length LS.length q = some i) (hq : p.length ≤ q) {x : α} (hx : (gainL p g kp L LS)[i]? = some (some x)) : ∃ y, LS[q]? = some (some y) := by
  unfold bkN at h
  rw [List.getElem?_eq_none hq] at h
  simp only [cond_eq_ite, decide_eq_true_eq] at h
  split at h
  · simp only [Option.some.injEq] at h
    subst h
    unfold gainL at hx
    rw [List.getElem?_append_right (by omega), List.getElem?_map, List.getElem?_drop, show p.length + (L.length + (q - p.length) - L.length) = q by omega] at hx
    cases hy : LS[q]? with
    | none => rw [hy] at hx; cases hx
    | some o => cases o with
      | none => rw [hy] at hx; cases hx
      | some y => exact ⟨y, rfl⟩
  · cases h
theorem bkN_lt' (hr : allLt L.length p = true) (hl : p.length ≤ LS.length) {q i : Nat} (h : bkN p L.length LS.length q = some i) : i < (gainL p g kp L LS).length := by
  have := bkN_lt (g := g) (kp := kp) hr hl h
  rw [gainL_len]; rwa [outL_len] at this
end
def gkB (M MS : Mem) (pb : List Nat) (q : Nat) : Option Nat := bif aliveB MS q then bkN pb M.blks.length MS.blks.length q else none
def gkV (M MS : Mem) (pv : List Nat) (q : Nat) : Option Nat := bif aliveV MS q then bkN pv M.vecs.length MS.vecs.length q else none
def gainM (M MS : Mem) (pb pv : List Nat) : Mem :=
  ⟨gainL pb (Blk.ren (gkB M MS pb) (gkV M MS pv)) Blk.own M.blks MS.blks,
   gainL pv (Ent.ren (gkB M MS pb) (gkV M MS pv) (fun t => M.vecs.length + (t - pv.length))) Ent.own M.vecs MS.vecs⟩
structure Readed (E : Env) (w0 : Bs) (M : Mem) (w : World) (pb pv : List Nat) (ES : Env) (MS : Mem) (w' : World) : Prop where
  rep : RepM E w0 M w
  lb : allLt M.blks.length pb = true
  lv : allLt M.vecs.length pv = true
  st : Step (pickE E pb pv) (pickM M.ro pb pv) ES MS
  rep' : RepM ES (Bs.of w) MS w'
section
variable {E : Env} {w0 : Bs} {w w' : World} {M MS : Mem} {pb pv : List Nat} {ES : Env}
theorem Readed.ρ (h : Readed E w0 M w pb pv ES MS w') {i q : Nat} (hq : pb[i]? = some q) : ES.ρ i = E.ρ q := by
  rw [h.st.env.ρ i (by simpa [pickM] using lt_of_get hq)]
  simp [pickE, List.getD, hq]
theorem Readed.σ (h : Readed E w0 M w pb pv ES MS w') {i q : Nat} (hq : pv[i]? = some q) : ES.σ i = E.σ q := by
  rw [h.st.env.σ i (by simpa [pickM] using lt_of_get hq)]
  simp [pickE, List.getD, hq]
theorem Readed.lenB (h : Readed E w0 M w pb pv ES MS w') : pb.length ≤ MS.blks.length := by simpa [pickM] using h.st.mem.nb
theorem Readed.lenV (h : Readed E w0 M w pb pv ES MS w') : pv.length ≤ MS.vecs.length := by simpa [pickM] using h.st.mem.nh
theorem Readed.below (h : Readed E w0 M w pb pv ES MS w') : Below w.heap.size w w' := h.rep'.below.toBelow
theorem gkB_some {q i : Nat} (h : gkB M MS pb q = some i) : aliveB MS q = true ∧ bkN pb M.blks.length MS.blks.length q = some i := by
  unfold gkB at h
  cases ha : aliveB MS q with
  | false => rw [ha] at h; cases h
  | true => rw [ha] at h; exact ⟨rfl, h⟩
theorem gkV_some {q i : Nat} (h : gkV M MS pv q = some i) : aliveV MS q = true ∧ bkN pv M.vecs.length MS.vecs.length q = some i := by
  unfold gkV at h
  cases ha : aliveV MS q with
  | false => rw [ha] at h; cases h
  | true => rw [ha] at h; exact ⟨rfl, h⟩
theorem Readed.ren (h : Readed E w0 M w pb pv ES MS w') : Ren ES MS (gkB M MS pb) (gkV M MS pv) (outE E ES M pb pv) (gainM M MS pb pv) :=
  ⟨fun i q hq => bkN_lt' h.lb h.lenB (gkB_some hq).2, fun i q hq => bkN_lt' h.lv h.lenV (gkV_some hq).2, fun i q hq => outF_bk (fun i q => h.ρ) h.lb (gkB_some hq).2, fun i q hq => outF_bk (fun i q => h.σ) h.lv (gkV_some hq).2, fun i q hq _ => (gkB_some hq).1, fun i q hq _ => (gkV_some hq).1⟩
theorem Readed.step (h : Readed E w0 M w pb pv ES MS w') : Step E M (outE E ES M pb pv) (gainM M MS pb pv) := by
  refine ⟨⟨by simp [gainM, gainL_len], by simp [gainM, gainL_len], fun i hi ha => ?_, fun i hi ha => ?_⟩, ⟨fun b hb => by simp [outE, outF, hb], fun b hb => by simp [outE, outF, hb]⟩⟩
  · unfold aliveB at ha
    split at ha
    · rename_i x hx
      rcases gainL_cases hx with ⟨_, hy⟩ | ⟨j, y, _, _, hb, _⟩
      · unfold aliveB; rw [hy]
      · omega
    · cases ha
  · unfold aliveV at ha
    split at ha
    · rename_i x hx
      rcases gainL_cases hx with ⟨_, hy⟩ | ⟨j, y, _, _, hb, _⟩
      · unfold aliveV; rw [hy]
      · omega
    · cases ha
theorem Readed.repM (h : Readed E w0 M w pb pv ES MS w') : RepM (outE E ES M pb pv) w0 (gainM M MS pb pv) w' := by
  have hst := h.step
  have r := h.ren
  have hL := h.rep.later h.below
  have oρ : ∀ {b : Nat}, b < M.blks.length → (outE E ES M pb pv).ρ b = E.ρ b := fun hb => by simp [outE, outF, hb]
  have oσ : ∀ {b : Nat}, b < M.vecs.length → (outE E ES M pb pv).σ b = E.σ b := fun hb => by simp [outE, outF, hb]
  have obk : ∀ {b : Nat}, b < M.vecs.length → (outE E ES M pb pv).bk b = E.bk b := fun hb => by unfold Env.bk; rw [oσ hb]
  have nρ : ∀ {i b : Nat}, bkN pb M.blks.length MS.blks.length i = some b → (outE E ES M pb pv).ρ b = ES.ρ i := fun hb => outF_bk (fun i q => h.ρ) h.lb hb
  have nσ : ∀ {i b : Nat}, bkN pv M.vecs.length MS.vecs.length i = some b → (outE E ES M pb pv).σ b = ES.σ i := fun hb => outF_bk (fun i q => h.σ) h.lv hb
  have nbk : ∀ {i b : Nat}, bkN pv M.vecs.length MS.vecs.length i = some b → (outE E ES M pb pv).bk b = ES.bk i := fun hb => by unfold Env.bk; rw [nσ hb]
  have newB : ∀ {i : Nat} {y : Blk}, MS.blks[i]? = some (some y) → y.own = true → w.heap.size ≤ ES.ρ i := fun hy ho => (h.rep'.blk _ _ hy).1.1 ho
  have oldV : ∀ {i : Nat} {e : Ent}, M.vecs[i]? = some (some e) → ∀ g, E.bk i = some g → g < w.heap.size := fun he g hg => by
    rcases h.rep.vec _ _ he with ⟨_, hz⟩ | ⟨a, cap, cs, fz, hv⟩
    · rw [bk_nil hz] at hg; cases hg
    · rw [hv.bk] at hg
      simp only [Option.some.injEq] at hg
      rw [← hg]; exact heap_lt hv.blk
  have newV : ∀ {i : Nat} {y : Ent}, MS.vecs[i]? = some (some y) → y.own = true → ∀ g, ES.bk i = some g → w.heap.size ≤ g := fun hy ho g hg => by
    rcases h.rep'.vec _ _ hy with ⟨_, hz⟩ | ⟨a, cap, cs, fz, hv⟩
    · rw [bk_nil hz] at hg; cases hg
    · rw [hv.bk] at hg
      simp only [Option.some.injEq] at hg
      rw [← hg]; exact (hv.mine ho).1
  have up : ∀ {g : Nat}, w.heap.size ≤ g → w0.Wr g := fun hg => w0.up _ (Nat.le_trans h.rep.below.size hg)
  refine ⟨hL.below, fun b x hx => ?_, fun b b' x x' hx hx' he => ?_, fun i e he => ?_, fun i i' e e' he he' ho ho' g hb hb' => ?_⟩
  · rcases gainL_cases hx with ⟨hb, hy⟩ | ⟨j, y, hj, _, _, hy, rfl, hk⟩
    · obtain ⟨g1, cs, g2, g3⟩ := hL.blk b x hy
      rw [oρ hb]
      exact ⟨g1, cs, g2, g3.step hst⟩
    · obtain ⟨g1, cs, g2, g3⟩ := h.rep'.blk j y hy
      rw [nρ hj]
      refine ⟨⟨fun _ => up (newB hy hk), fun ho => ?_⟩, cs, g2, g3.ren r⟩
      have : y.own = false := ho
      rw [hk] at this; cases this
  · rcases gainL_cases hx with ⟨hb, hy⟩ | ⟨j, y, hj, _, _, hy, rfl, hk⟩ <;> rcases gainL_cases hx' with ⟨hb', hy'⟩ | ⟨j', y', hj', _, _, hy', rfl, hk'⟩
    · rw [oρ hb, oρ hb'] at he
      exact h.rep.inj b b' x x' hy hy' he
    · rw [oρ hb, nρ hj'] at he
      have := h.rep.lt hy; have := newB hy' hk'; omega
    · rw [oρ hb', nρ hj] at he
      have := h.rep.lt hy'; have := newB hy hk; omega
    · rw [nρ hj, nρ hj'] at he
      have := h.rep'.inj j j' y y' hy hy' he
      subst this
      rw [hj] at hj'
      simpa using hj'
  · rcases gainL_cases he with ⟨hb, hy⟩ | ⟨j, y, hj, _, _, hy, rfl, hk⟩
    · rcases hL.vec i e hy with ⟨hz, hz'⟩ | ⟨a, cap, cs, fz, hv⟩
      · exact .inl ⟨hz, (oσ hb).trans hz'⟩
      refine .inr ⟨a, cap, cs, fz, { hv with val := ?_, cell := ?_, mine := ?_ }⟩
      · rw [oσ hb]; exact hv.val
      · intro q z hz k c hc
        obtain ⟨u, g1, g2⟩ := hv.cell q z hz k c hc
        exact ⟨u, g1, g2.step hst⟩
      · intro ho
        refine ⟨(hv.mine ho).1, (hv.mine ho).2.1, fun b x hx => ?_⟩
        rcases gainL_cases hx with ⟨hb', hy'⟩ | ⟨j', y', hj', _, _, hy', rfl, hk'⟩
        · rw [oρ hb']; exact (hv.mine ho).2.2 b x hy'
        · rw [nρ hj']
          have h1 := newB hy' hk'
          have h2 := oldV hy a.block (by simp [Env.bk, hv.val])
          omega
    · rcases h.rep'.vec j y hy with ⟨hz, hz'⟩ | ⟨a, cap, cs, fz, hv⟩
      · exact .inl ⟨ren_cont_nil hz, (nσ hj).trans hz'⟩
      have hge := newV hy hk a.block hv.bk
      have hv' : VecOk ES w0.Wr MS w' j y a cap cs fz := { hv with old := fun ho => (by rw [hk] at ho; cases ho), mine := fun ho => ⟨up (hv.mine ho).1, (hv.mine ho).2⟩ }
      refine .inr ⟨a, cap, cs, fz, hv'.ren r (nσ hj) _ fun ho b x hx => ?_⟩
      rcases gainL_cases hx with ⟨hb', hy'⟩ | ⟨j', y', hj', _, _, hy', rfl, hk'⟩
      · rw [oρ hb']
        have := h.rep.lt hy'; omega
      · rw [nρ hj']
        exact (hv.mine ho).2.2 j' y' hy'
  · rcases gainL_cases he with ⟨hq, hy⟩ | ⟨j, y, hj, _, _, hy, rfl, hk⟩ <;> rcases gainL_cases he' with ⟨hq', hy'⟩ | ⟨j', y', hj', _, _, hy', rfl, hk'⟩
    · rw [obk hq] at hb
      rw [obk hq'] at hb'
      exact h.rep.terr i i' e e' hy hy' ho ho' g hb hb'
    · rw [obk hq] at hb
      rw [nbk hj'] at hb'
      have := oldV hy g hb; have := newV hy' hk' g hb'; omega
    · rw [obk hq'] at hb'
      rw [nbk hj] at hb
      have := oldV hy' g hb'; have := newV hy hk g hb; omega
    · rw [nbk hj] at hb
      rw [nbk hj'] at hb'
      show M.vecs.length + (y.terr - pv.length) = M.vecs.length + (y'.terr - pv.length)
      rw [h.rep'.terr j j' y y' hy hy' hk hk' g hb hb']
end

/-- what stood in M stands in M' -/
structure Gains (M M' : Mem) : Prop where
  blk : ∀ (b : Nat) (x : Blk), M.blks[b]? = some (some x) → M'.blks[b]? = some (some x)
  vec : ∀ (b : Nat) (x : Ent), M.vecs[b]? = some (some x) → M'.vecs[b]? = some (some x)
  nb : M.blks.length ≤ M'.blks.length
  nh : M.vecs.length ≤ M'.vecs.length
theorem Gains.refl (M : Mem) : Gains M M := ⟨fun _ _ h => h, fun _ _ h => h, Nat.le_refl _, Nat.le_refl _⟩
theorem Gains.trans {M M' M'' : Mem} (h : Gains M M') (h' : Gains M' M'') : Gains M M'' := ⟨fun b x hx => h'.blk b x (h.blk b x hx), fun b x hx => h'.vec b x (h.vec b x hx), Nat.le_trans h.nb h'.nb, Nat.le_trans h.nh h'.nh⟩
theorem gainL_old {α : Type} {p : List Nat} {g : α → α} {kp : α → Bool} {L LS : List (Option α)} {b : Nat} {x : α} (h : L[b]? = some (some x)) : (gainL p g kp L LS)[b]? = some (some x) := by
  unfold gainL
  rw [List.getElem?_append_left (lt_of_get h)]; exact h
theorem gainM_gains (M MS : Mem) (pb pv : List Nat) : Gains M (gainM M MS pb pv) := ⟨fun b x h => gainL_old h, fun b x h => gainL_old h, by simp [gainM, gainL_len], by simp [gainM, gainL_len]⟩
theorem nilAt_gains (t : NilT) (l : List AV) (M : Mem) : Gains M (nilAt t l M).2 := by
  unfold nilAt
  split
  · refine ⟨fun b x h => h, fun b x h => ?_, Nat.le_refl _, by simp [Mem.addV]⟩
    simp only [Mem.addV]
    rw [List.getElem?_append_left (lt_of_get h)]; exact h
  · exact Gains.refl M
theorem nilify_gains : ∀ (ts : List NilT) (l : List AV) (M : Mem), Gains M (nilify ts l M).2
  | [], _, M => Gains.refl M
  | t :: ts, l, M => (nilAt_gains t l M).trans (nilify_gains ts _ _)

def frameRead {R : Type} (s : MSpec) (args : List AV) (M : Mem) (k : AV → Mem → Option R) : Option R :=
  match nilify s.nils args M with
  | (args, M) => match reach M 200 (namesL args) [] [] with
    | (pb, pv) => bif nodupB pb && allLt M.blks.length pb && allLt M.vecs.length pv then
        match renL (invB pb) (invB pv) args with
        | aS => bif lvL (pickM M.ro pb pv).live aS then s.run aS (pickM M.ro pb pv) fun z MS =>
            k (z.ren (gkB M MS pb) (gkV M MS pv)) (gainM M MS pb pv) else none
      else none
theorem frameRead_sound {R : Type} {P : Program} {f : FuncId} {s : MSpec} (hs : s.Ok P f) {args : List AV} {M : Mem} {k : AV → Mem → Option R} {r : R} (h : frameRead s args M k = some r) : ∃ z M', k z M' = some r ∧ Gains M M' ∧ CallOkR P f args M z M' := by
  unfold frameRead at h
  split at h
  rename_i args1 M1 hnil
  split at h
  rename_i pb pv _
  simp only [cond_eq_ite, Bool.and_eq_true] at h
  split at h
  · rename_i hc
    obtain ⟨⟨hn, hlb⟩, hlv0⟩ := hc
    split at h
    · rename_i hlv
      obtain ⟨z, MS, hk, hcall⟩ := hs h
      have hg := nilify_gains s.nils args M
      rw [hnil] at hg
      refine ⟨_, _, hk, hg.trans (gainM_gains M1 MS pb pv), ?_⟩
      intro E w0 w hR hsc hl
      obtain ⟨E1, h1, h2, h3⟩ := nilify_sound s.nils args (concL E args) hR (relL_conc hsc)
      rw [hnil] at h1 h2 h3
      simp only at h1 h2 h3
      have hp := h2.ro.pick pv (nodupB_spec hn)
      have r := Ren.pick E1 M1.ro pb pv
      have hcc := r.concL args1 hlv
      have hlk : lvL M1.live args1 = true := by have := hcc.1; rwa [ro_live] at this
      have he := concL_rel' h3 hlk
      obtain ⟨g1, g2⟩ := hcall _ _ w hp (r.scL args1) hlv
      rw [hcc.2, ← he] at g1 g2
      refine ⟨g1, g2.mono fun e w' ⟨ES, v, q1, q2, q3, q4⟩ => ?_⟩
      have F : Readed E1 w0 M1 w pb pv ES MS w' := ⟨h2, hlb, hlv0, q2, q4⟩
      exact ⟨_, v, q1, h1.trans F.step, q3.ren F.ren, F.repM, F.below⟩
    · cases h
  · cases h

/-! loops -/
def CodeOk (P : Program) (c : Code) (st : St) (e : Exit) (st' : St) : Prop :=
  ∀ E w0 (a : Act) w, Rep E w0 st a w → ∀ Q : Exit → Act → World → Prop, (∀ E' a' w', Step E st.M E' st'.M → Rep E' w0 st' a' w' → Q e a' w') → c.wp P Q a w

structure LSpec where
  n : Nat
  nils : List NilT
  keep : List Nat
  touch : List Nat
  run : {R : Type} → List AV → Mem → (Exit → List AV → Mem → Option R) → Option R
def slotK (keep touch : List Nat) (kv : List AV) (x : AV) (i : Nat) : AV := match invF keep i 0 with
  | some j => kv.getD j .bad
  | none => bif memB touch i then .bad else x
def tmF (keep touch : List Nat) (kv : List AV) (f : Nat → Value) : Nat → Nat → List AV
  | 0, _ => []
  | n + 1, i => slotK keep touch kv (.lit (f i)) i :: tmF keep touch kv f n (i + 1)
def tmM (keep touch : List Nat) (kv : List AV) : List AV → Nat → List AV
  | [], _ => []
  | x :: l, i => slotK keep touch kv x i :: tmM keep touch kv l (i + 1)
theorem tmF_len (keep touch : List Nat) (kv : List AV) (f : Nat → Value) : ∀ (n i : Nat), (tmF keep touch kv f n i).length = n
  | 0, _ => rfl
  | n + 1, i => by simp [tmF, tmF_len]
theorem tmM_len (keep touch : List Nat) (kv : List AV) : ∀ (l : List AV) (i : Nat), (tmM keep touch kv l i).length = l.length
  | [], _ => rfl
  | x :: l, i => by simp [tmM, tmM_len]
theorem tmF_get (keep touch : List Nat) (kv : List AV) (f : Nat → Value) : ∀ (n i j : Nat), j < n → (tmF keep touch kv f n i)[j]? = some (slotK keep touch kv (.lit (f (i + j))) (i + j))
  | 0, _, _, h => by omega
  | n + 1, i, 0, _ => rfl
  | n + 1, i, j + 1, h => by
    simp only [tmF, List.getElem?_cons_succ]
    rw [tmF_get keep touch kv f n (i + 1) j (by omega), show i + 1 + j = i + (j + 1) by omega]
theorem tmM_get (keep touch : List Nat) (kv : List AV) : ∀ (l : List AV) (i j : Nat), (tmM keep touch kv l i)[j]? = (l[j]?).map fun x => slotK keep touch kv x (i + j)
  | [], _, _ => by simp [tmM]
  | x :: l, i, 0 => by simp [tmM]
  | x :: l, i, j + 1 => by
    simp only [tmM, List.getElem?_cons_succ]
    rw [tmM_get keep touch kv l (i + 1) j, show i + 1 + j = i + (j + 1) by omega]
def LSpec.Ok (P : Program) (c : Code) (L : LSpec) : Prop := ∀ {R : Type} {kv : List AV} {M : Mem} {k : Exit → List AV → Mem → Option R} {r : R}, L.run kv M k = some r →
  ∃ e kv' M', k e kv' M' = some r ∧ ∀ f, CodeOk P c ⟨tmF L.keep L.touch kv f L.n 0, M⟩ e ⟨tmF L.keep L.touch kv' f L.n 0, M'⟩

def frameLoop1 {R : Type} (L : LSpec) (st : St) (k : Exit → St → Option R) : Option R :=
  bif decide (st.tm.length = L.n) then
    match L.keep.map fun i => st.tm.getD i .bad with
    | kv => frameP st.M kv fun pb pv M1 => L.run (renL (invB pb) (invB pv) kv) (pickM M1 pb pv) fun e kvS MS =>
        k e ⟨tmM L.keep L.touch (renL (bkN pb M1.blks.length MS.blks.length) (bkN pv M1.vecs.length MS.vecs.length) kvS) st.tm 0, outM M1 MS pb pv⟩
  else none
def frameLoop {R : Type} (L : LSpec) (st : St) (k : Exit → St → Option R) : Option R :=
  match nilify L.nils st.tm st.M with
  | (tm, M) => frameLoop1 L ⟨tm, M⟩ k
theorem renL_getD (fb fv : Nat → Option Nat) (l : List AV) (j : Nat) : (renL fb fv l).getD j .bad = (l.getD j .bad).ren fb fv := by
  rw [renL_eq]
  simp only [List.getD, List.getElem?_map]
  cases l[j]? <;> rfl
theorem frameLoop1_sound {R : Type} {P : Program} {c : Code} {L : LSpec} (hs : L.Ok P c) {st : St} {k : Exit → St → Option R} {r : R} (h : frameLoop1 L st k = some r) : ∃ e st', k e st' = some r ∧ CodeOk P c st e st' := by
  simp only [frameLoop1, cond_eq_ite, decide_eq_true_eq] at h
  split at h
  · rename_i hn
    obtain ⟨pb, pv, hok, h⟩ := frameP_sound h
    obtain ⟨e, kvS, MS, hk, hc⟩ := hs h
    refine ⟨e, _, hk, fun E w0 a w hR Q hQ => ?_⟩
    obtain ⟨hst0, hsub⟩ := killA_sub st.M pv (E := E)
    have hR1 := hsub hR.mem
    have hp := hR1.pick pv (okPick_nodup hok)
    have r := Ren.pick E (killA st.M pv) pb pv
    have hal : a.tmps.toList.length = L.n := by rw [← hR.tm.len, hn]
    let f : Nat → Value := fun i => a.tmps.toList.getD i undef
    refine hc f _ _ a w ⟨hp.rebase, ⟨by rw [tmF_len, hal], fun i x v hx hv => ?_⟩, hR.defers⟩ Q fun ES a' w' hst hR' => ?_
    · have hi : i < L.n := by rw [← hal]; exact lt_of_get hv
      rw [tmF_get _ _ _ _ _ _ _ hi, Nat.zero_add] at hx
      simp only [Option.some.injEq] at hx
      subst hx
      have hti : i < st.tm.length := by omega
      have hrel := (hR.tm.at_ i _ v (List.getElem?_eq_getElem hti) hv).step hst0
      unfold slotK
      split
      · rename_i j hj
        have hkj := invF_some hj
        rw [renL_getD]
        have : (L.keep.map fun i => st.tm.getD i .bad).getD j .bad = st.tm[i] := by
          simp [List.getD, List.getElem?_map, hkj, List.getElem?_eq_getElem hti]
        rw [this]
        exact hrel.ren r
      · cases memB L.touch i with
        | true => exact RelS.bad _ _ _
        | false =>
          have : f i = v := by show (a.tmps.toList[i]?).getD undef = v; rw [hv]; rfl
          simp only [cond_false]
          rw [this]; exact RelS.lit _ _ _
    · have F := framed_of hR1 hok hst hR'.mem
      refine hQ _ a' w' (hst0.trans F.step) ⟨F.repM, ⟨?_, fun i x v hx hv => ?_⟩, hR'.defers⟩
      · simp only [tmM_len]
        rw [hn, ← hR'.tm.len, tmF_len]
      · simp only [tmM_get, Nat.zero_add] at hx
        cases hti : st.tm[i]? with
        | none => rw [hti] at hx; cases hx
        | some y =>
          rw [hti] at hx
          simp only [Option.map_some, Option.some.injEq] at hx
          subst hx
          have hil := lt_of_get hti
          have hs1 := hR'.tm.at_ i _ v (tmF_get _ _ _ _ _ _ _ (by omega)) hv
          rw [Nat.zero_add] at hs1
          unfold slotK at *
          split
          · rename_i j hj
            rw [hj] at hs1
            rw [renL_getD]
            exact hs1.ren F.ren
          · rename_i hj
            rw [hj] at hs1
            cases hm : memB L.touch i with
            | true => exact RelS.bad _ _ _
            | false =>
              rw [hm] at hs1
              simp only [cond_false] at *
              have hv0 : a.tmps.toList[i]? = some (f i) := by
                have : i < a.tmps.toList.length := by omega
                show _ = some ((a.tmps.toList[i]?).getD undef); rw [List.getElem?_eq_getElem this]; rfl
              have e1 : v = f i := hs1.2 rfl
              have := hR.tm.at_ i y (f i) hti hv0
              rw [e1]
              exact this.step (hst0.trans F.step)
  · cases h

theorem frameLoop_sound {R : Type} {P : Program} {c : Code} {L : LSpec} (hs : L.Ok P c) {st : St} {k : Exit → St → Option R} {r : R} (h : frameLoop L st k = some r) : ∃ e st', k e st' = some r ∧ CodeOk P c st e st' := by
  unfold frameLoop at h
  split at h
  rename_i tm1 M1 hnil
  obtain ⟨e, st', hk, hc⟩ := frameLoop1_sound hs h
  refine ⟨e, st', hk, fun E w0 a w hR Q hQ => ?_⟩
  obtain ⟨E1, h1, h2, h3⟩ := nilify_sound L.nils st.tm a.tmps.toList hR.mem hR.tm
  rw [hnil] at h1 h2 h3
  exact hc E1 w0 a w ⟨h2, h3, hR.defers⟩ Q fun E' a' w' hst hR' => hQ E' a' w' (h1.trans hst) hR'

/-! the loops of a code -/
def headId : Code → Option Nat
  | .region id _ _ => some id
  | .seq a b => match headId a with
    | some i => some i
    | none => headId b
  | .cond _ a b => match headId a with
    | some i => some i
    | none => headId b
  | .block _ c => headId c
  | .loop c => headId c
  | .rangeFunc _ _ a c => match headId a with
    | some i => some i
    | none => headId c
  | .scope c => headId c
  | _ => none
def nodeL (ls : Nat → Option LSpec) (c : Code) : Option LSpec := match headId c with
  | some i => ls i
  | none => none
def nodes : Code → List Code
  | .seq a b => nodes a ++ nodes b
  | .cond _ a b => nodes a ++ nodes b
  | .block _ c => nodes c
  | .loop c => .loop c :: nodes c
  | .rangeFunc g ps a c => .rangeFunc g ps a c :: (nodes a ++ nodes c)
  | .scope c => nodes c
  | _ => []
def LoopsOk (P : Program) (ls : Nat → Option LSpec) (c : Code) : Prop := ∀ x, x ∈ nodes c → ∀ L, nodeL ls x = some L → L.Ok P x
def noLoops : Nat → Option LSpec := fun _ => none
theorem LoopsOk.no (P : Program) (c : Code) : LoopsOk P noLoops c := fun x _ L h => by
  unfold nodeL noLoops at h
  split at h <;> cases h
end Go.Sx
