import Derived.Test.YtplfijdonikaoaaSxM
set_option linter.unusedVariables false
set_option linter.unusedSimpArgs false
namespace Go.Sx
open Go Go.RowKit

/-! Loops: what stands at the loop's head, turn after turn, told by few names. -/

def iota : Nat → Nat → List Nat
  | 0, _ => []
  | n + 1, i => i :: iota n (i + 1)
def iotaB : Nat → Nat → List Nat → Bool
  | 0, _, _ => true
  | n + 1, i, x :: l => decide (x = i) && iotaB n (i + 1) l
  | _ + 1, _, [] => false
theorem iotaB_get : ∀ {n i : Nat} {l : List Nat} {j : Nat}, iotaB n i l = true → j < n → l[j]? = some (i + j)
  | 0, _, _, _, _, h => by omega
  | n + 1, i, [], _, h, _ => by cases h
  | n + 1, i, x :: l, 0, h, _ => by
    simp only [iotaB, Bool.and_eq_true, decide_eq_true_eq] at h
    simp [h.1]
  | n + 1, i, x :: l, j + 1, h, hj => by
    simp only [iotaB, Bool.and_eq_true, decide_eq_true_eq] at h
    rw [List.getElem?_cons_succ, iotaB_get h.2 (by omega), show i + 1 + j = i + (j + 1) by omega]

def CodeOkN (nb mv : Nat) (P : Program) (c : Code) (st : St) (e : Exit) (st' : St) : Prop :=
  ∀ E w0 (a : Act) w, Rep E w0 st a w → ∀ Q : Exit → Act → World → Prop, (∀ E' a' w', Env.le nb mv E E' → Rep E' w0 st' a' w' → Q e a' w') → c.wp P Q a w

def namesB : Nat → List (Option Blk) → List Nat
  | 0, _ => []
  | _ + 1, [] => []
  | n + 1, some x :: l => namesL x.cells ++ namesB n l
  | n + 1, none :: l => namesB n l
def namesV : Nat → List (Option Ent) → List Nat
  | 0, _ => []
  | _ + 1, [] => []
  | n + 1, some e :: l => bif noAny e.sh then namesV n l else namesL e.cont ++ namesV n l
  | n + 1, none :: l => namesV n l
def slotN (keep touch : List Nat) (fb fv : Nat → Option Nat) (x : AV) (i : Nat) : AV := match invF keep i 0 with
  | some _ => x.ren fb fv
  | none => bif memB touch i then .bad else x
def tmN (keep touch : List Nat) (fb fv : Nat → Option Nat) : List AV → Nat → List AV
  | [], _ => []
  | x :: l, i => slotN keep touch fb fv x i :: tmN keep touch fb fv l (i + 1)
theorem tmN_get (keep touch : List Nat) (fb fv : Nat → Option Nat) : ∀ (l : List AV) (i j : Nat), (tmN keep touch fb fv l i)[j]? = (l[j]?).map fun x => slotN keep touch fb fv x (i + j)
  | [], _, _ => by simp [tmN]
  | x :: l, i, 0 => by simp [tmN]
  | x :: l, i, j + 1 => by
    simp only [tmN, List.getElem?_cons_succ]
    rw [tmN_get keep touch fb fv l (i + 1) j, show i + 1 + j = i + (j + 1) by omega]
theorem tmN_len (keep touch : List Nat) (fb fv : Nat → Option Nat) : ∀ (l : List AV) (i : Nat), (tmN keep touch fb fv l i).length = l.length
  | [], _ => rfl
  | x :: l, i => by simp [tmN, tmN_len]

def normK {R : Type} (keep touch : List Nat) (nb mv : Nat) (st : St) (k : St → Option R) : Option R :=
  match reach st.M 200 (namesL (keep.map fun i => st.tm.getD i .bad) ++ (namesB nb st.M.blks ++ namesV mv st.M.vecs)) (iota nb 0) (iota mv 0) with
  | (pb, pv) => bif nodupB pb && iotaB nb 0 pb && iotaB mv 0 pv then k ⟨tmN keep touch (invB pb) (invB pv) st.tm 0, pickM st.M pb pv⟩ else none

/-- one turn, as a reckoning: which way it ends, and what stands then -/
def turnK (C : CallSem) (P : Program) (n : Nat) (c : Code) (keep touch : List Nat) (nb mv : Nat) (st : St) : Option (Exit × St) :=
  exK C P n c st fun e st1 => normK keep touch nb mv st1 fun st2 => some (e, st2)
theorem turn_ok {C : CallSem} {P : Program} (hC : C.Sound P) (hm : P.follows .mixedOrders = true) {n : Nat} {c : Code} (hls : LoopsOk P C.loops c) {st : St} {e : Exit} {keep touch : List Nat} {nb mv : Nat} {kv' : List AV} {f : Nat → Value} {N : Nat} {M' : Mem}
    (hnb : Nat.ble nb st.M.blks.length = true) (hmv : Nat.ble mv st.M.vecs.length = true)
    (h : turnK C P n c keep touch nb mv st = some (e, ⟨tmF keep touch kv' f N 0, M'⟩)) :
    CodeOkN nb mv P c st e ⟨tmF keep touch kv' f N 0, M'⟩ := by
  obtain ⟨e1, st1, hk, hcode⟩ := exK_sound hC hm n c st _ _ hls h
  unfold normK at hk
  split at hk
  rename_i pb pv _
  simp only [cond_eq_ite, Bool.and_eq_true] at hk
  split at hk
  · rename_i hc
    obtain ⟨⟨hn, hib⟩, hiv⟩ := hc
    simp only [Option.some.injEq, Prod.mk.injEq] at hk
    obtain ⟨rfl, hst2⟩ := hk
    have htm := congrArg St.tm hst2
    have hM := congrArg St.M hst2
    simp only at htm hM
    rw [← hM]
    have hnb := Nat.le_of_ble_eq_true hnb
    have hmv := Nat.le_of_ble_eq_true hmv
    intro E w0 a w hR Q hQ
    refine hcode E w0 a w hR Q fun E1 a1 w1 hst hR1 => hQ (pickE E1 pb pv) a1 w1 ⟨fun b hb => ?_, fun b hb => ?_⟩ ⟨hR1.mem.pick pv (nodupB_spec hn), ⟨?_, fun i x v hx hv => ?_⟩, hR1.defers⟩
    · have := iotaB_get hib hb
      rw [Nat.zero_add] at this
      simp only [pickE, List.getD, this, Option.getD_some]
      exact hst.env.ρ b (by omega)
    · have := iotaB_get hiv hb
      rw [Nat.zero_add] at this
      simp only [pickE, List.getD, this, Option.getD_some]
      exact hst.env.σ b (by omega)
    · rw [← htm, tmN_len]; exact hR1.tm.len
    · have hlen : st1.tm.length = N := by rw [← tmN_len keep touch (invB pb) (invB pv) st1.tm 0, htm, tmF_len]
      have hi : i < st1.tm.length := by have := lt_of_get hx; rw [tmF_len] at this; omega
      have h1 : (tmN keep touch (invB pb) (invB pv) st1.tm 0)[i]? = some x := by rw [htm]; exact hx
      rw [tmN_get, List.getElem?_eq_getElem hi, Option.map_some, Nat.zero_add] at h1
      simp only [Option.some.injEq] at h1
      have hrel := hR1.tm.at_ i _ v (List.getElem?_eq_getElem hi) hv
      have h2 := hx
      simp only at h2
      rw [tmF_get _ _ _ _ _ _ _ (by omega), Nat.zero_add] at h2
      simp only [Option.some.injEq] at h2
      unfold slotN at h1
      unfold slotK at h2
      cases hk : invF keep i 0 with
      | some j =>
        rw [hk] at h1
        simp only at h1
        rw [← h1]
        exact hrel.ren (Ren.pick E1 st1.M pb pv)
      | none =>
        rw [hk] at h1 h2
        simp only at h1 h2
        cases ht : memB touch i with
        | true => rw [ht] at h1; simp only [cond_true] at h1; rw [← h1]; exact RelS.bad _ _ _
        | false =>
          rw [ht] at h1 h2
          simp only [cond_false] at h1 h2
          rw [h1, ← h2] at hrel
          rw [← h2]
          exact hrel.closed
  · cases hk

/-- turn after turn, on to the last one -/
theorem loop_ok {σ : Type} {P : Program} {c : Code} {nb mv : Nat} (S : σ → St) (fin : σ → Exit × St) (next : σ → Option σ) (μ : σ → Nat) (inv : σ → Prop)
    (h0 : ∀ s, inv s → next s = none → (fin s).1 ≠ .normal ∧ CodeOkN nb mv P c (S s) (fin s).1 (fin s).2)
    (h1 : ∀ s s', inv s → next s = some s' → inv s' ∧ μ s' < μ s ∧ fin s' = fin s ∧ CodeOkN nb mv P c (S s) .normal (S s')) :
    ∀ s, inv s → CodeOkN nb mv P (.loop c) (S s) (fin s).1 (fin s).2 := by
  have key : ∀ (n : Nat) (s : σ), μ s < n → inv s → ∀ E w0 (a : Act) w, Rep E w0 (S s) a w → ∀ Q : Exit → Act → World → Prop, (∀ E' a' w', Env.le nb mv E E' → Rep E' w0 (fin s).2 a' w' → Q (fin s).1 a' w') → Code.rounds P c Q n a w := by
    intro n
    induction n with
    | zero => intro s hs; omega
    | succ n ih =>
      intro s hs hi E w0 a w hR Q hQ
      rw [rounds_succ]
      cases hn : next s with
      | none =>
        obtain ⟨hne, hc⟩ := h0 s hi hn
        refine hc E w0 a w hR _ fun E' a' w' hle hR' => ?_
        have := hQ E' a' w' hle hR'
        cases he : (fin s).1 with
        | normal => exact absurd he hne
        | exit i => rw [he] at this; exact this
        | goto l => rw [he] at this; exact this
        | ret => rw [he] at this; exact this
        | panic x => rw [he] at this; exact this
        | outgrown => rw [he] at this; exact this
      | some s' =>
        obtain ⟨hi', hμ, hf, hc⟩ := h1 s s' hi hn
        refine hc E w0 a w hR _ fun E' a' w' hle hR' => ?_
        refine ih s' (by omega) hi' E' w0 a' w' hR' Q fun E'' a'' w'' hle' hR'' => ?_
        rw [hf] at hR'' ⊢
        exact hQ E'' a'' w'' (hle.trans hle' (Nat.le_refl _) (Nat.le_refl _)) hR''
  intro s hi E w0 a w hR Q hQ
  exact wp_loop_rounds (μ s + 1) (key (μ s + 1) s (by omega) hi E w0 a w hR Q hQ)

def liveLe {α : Type} : List (Option α) → List (Option α) → Bool
  | [], _ => true
  | _ :: _, [] => false
  | some _ :: l, _ :: l' => liveLe l l'
  | none :: l, none :: l' => liveLe l l'
  | none :: _, some _ :: _ => false
theorem liveLe_len {α : Type} : ∀ {l l' : List (Option α)}, liveLe l l' = true → l.length ≤ l'.length
  | [], _, _ => Nat.zero_le _
  | _ :: _, [], h => by cases h
  | some _ :: l, _ :: l', h => Nat.succ_le_succ (liveLe_len (l := l) (l' := l') h)
  | none :: l, none :: l', h => Nat.succ_le_succ (liveLe_len (l := l) (l' := l') h)
  | none :: _, some _ :: _, h => by cases h
theorem liveLe_at {α : Type} : ∀ {l l' : List (Option α)} {i : Nat} {x : α}, liveLe l l' = true → i < l.length → l'[i]? = some (some x) → ∃ y, l[i]? = some (some y)
  | [], _, _, _, _, h, _ => absurd h (Nat.not_lt_zero _)
  | _ :: _, [], _, _, h, _, _ => by cases h
  | some y :: l, _ :: l', 0, _, _, _, _ => ⟨y, rfl⟩
  | some y :: l, z :: l', i + 1, x, h, hi, hx => by
    obtain ⟨u, hu⟩ := liveLe_at (l := l) (l' := l') (i := i) h (by simpa using hi) (by simpa using hx)
    exact ⟨u, by simpa using hu⟩
  | none :: l, none :: l', 0, x, _, _, hx => by cases hx
  | none :: l, none :: l', i + 1, x, h, hi, hx => by
    obtain ⟨u, hu⟩ := liveLe_at (l := l) (l' := l') (i := i) h (by simpa using hi) (by simpa using hx)
    exact ⟨u, by simpa using hu⟩
  | none :: _, some _ :: _, _, _, h, _, _ => by cases h
def memLe (M M' : Mem) : Bool := liveLe M.blks M'.blks && liveLe M.vecs M'.vecs
theorem memLe_spec {M M' : Mem} (h : memLe M M' = true) : Mem.le M M' := by
  simp only [memLe, Bool.and_eq_true] at h
  refine ⟨liveLe_len h.1, liveLe_len h.2, fun i hi ha => ?_, fun i hi ha => ?_⟩
  · unfold aliveB at ha
    split at ha
    · rename_i x hx
      obtain ⟨y, hy⟩ := liveLe_at h.1 hi hx
      unfold aliveB; rw [hy]
    · cases ha
  · unfold aliveV at ha
    split at ha
    · rename_i x hx
      obtain ⟨y, hy⟩ := liveLe_at h.2 hi hx
      unfold aliveV; rw [hy]
    · cases ha
theorem CodeOkN.full {P : Program} {c : Code} {st : St} {e : Exit} {st' : St} (h : CodeOkN st.M.blks.length st.M.vecs.length P c st e st') (hm : memLe st.M st'.M = true) : CodeOk P c st e st' :=
  fun E w0 a w hR Q hQ => h E w0 a w hR Q fun E' a' w' hle hR' => hQ E' a' w' ⟨memLe_spec hm, hle⟩ hR'

/-! at the loop's door: rows that turn from turn to turn get a second name; the first one is forgotten, if it may be written -/
def aliasAt (st : St) (i : Nat) (wr : Bool) : St := match st.tm.getD i .bad with
  | .vec h => match st.M.vecs[h]? with
    | some (some e) => match wr with
      | true => match e.own with
        | true => ⟨st.tm.set i (.vec st.M.vecs.length), (killT st.M (some e.terr)).addV { e with terr := st.M.vecs.length }⟩
        | false => st
      | false => ⟨st.tm.set i (.vec st.M.vecs.length), st.M.addV { e with head := false }⟩
    | _ => st
  | _ => st
def aliases : List (Nat × Bool) → St → St
  | [], st => st
  | p :: l, st => aliases l (aliasAt st p.1 p.2)
theorem aliasAt_sound {E : Env} {w0 : Bs} {st : St} {a : Act} {w : World} (i : Nat) (wr : Bool) (h : Rep E w0 st a w) : ∃ E', Step E st.M E' (aliasAt st i wr).M ∧ Rep E' w0 (aliasAt st i wr) a w := by
  unfold aliasAt
  split
  · rename_i q hq
    split
    · rename_i e he
      have hslot : ∀ v, a.tmps.toList[i]? = some v → v = E.σ q := fun v hv => by
        have hi : i < st.tm.length := by rw [h.tm.len]; exact lt_of_get hv
        have h1 : st.tm[i]? = some (.vec q) := by
          rw [List.getElem?_eq_getElem hi]
          simpa [List.getD, List.getElem?_eq_getElem hi] using hq
        exact (h.tm.at_ _ _ v h1 hv).2 (by simp only [AV.lv, live_odd]; unfold aliveV; rw [he])
      have hqn : q < st.M.vecs.length := lt_of_get he
      split
      · split
        · rename_i ho
          have hst0 : Step E st.M E (killT st.M (some e.terr)) := ⟨killT_le st.M _, Env.le.refl _ _ _⟩
          have hR := h.mem.killT (some e.terr)
          have hln := killT_len st.M (some e.terr)
          have hst := Step.addV E (killT st.M (some e.terr)) { e with terr := st.M.vecs.length } (E.σ q)
          refine ⟨_, hst0.trans hst, ⟨hR.addV _ _ ?_ ?_, ((h.tm.step hst0).step hst).set_same i fun v hv => ⟨by simp [AV.sc, Mem.addV, hln], fun _ => ?_⟩, h.defers⟩⟩
          · rcases h.mem.vec q e he with hz | ⟨ad, cap, cs, fz, hv⟩
            · exact .inl hz
            refine .inr ⟨ad, cap, cs, fz, { val := ?_, spot := hv.spot, le := hv.le, blk := hv.blk, room := hv.room, shape := hv.shape, cell := fun j x hx k c hc => ?_, old := hv.old, head := hv.head, mine := fun ho => ?_ }⟩
            · simp only [Env.addV, if_true]; exact hv.val
            · obtain ⟨u, g1, g2⟩ := hv.cell j x hx k c hc
              exact ⟨u, g1, (g2.step hst0).step hst⟩
            · obtain ⟨g1, g2, g3⟩ := hv.mine ho
              exact ⟨g1, g2, fun b x hx => g3 b x (by simpa [Mem.addV, killT_blks] using hx)⟩
          · intro _ h' e' he' ho' g hg hg'
            exfalso
            obtain ⟨f1, f2⟩ := killT_get he'
            have : (E.addV (killT st.M (some e.terr)).vecs.length (E.σ q)).bk (killT st.M (some e.terr)).vecs.length = E.bk q := by simp [Env.bk, Env.addV]
            rw [this] at hg
            exact f2 _ rfl ho' (h.mem.terr h' q e' e f1 he ho' ho g hg' hg)
          · rw [hslot v hv]; simp [AV.conc, Env.addV, hln]
        · exact ⟨E, Step.refl _ _, h⟩
      · have hst := Step.addV E st.M { e with head := false } (E.σ q)
        refine ⟨_, hst, ⟨h.mem.addV _ _ ?_ (fun ho h' e' he' ho' g hg hg' => ?_), (h.tm.step hst).set_same i fun v hv => ⟨by simp [AV.sc, Mem.addV], fun _ => ?_⟩, h.defers⟩⟩
        · rcases h.mem.vec q e he with hz | ⟨ad, cap, cs, fz, hv⟩
          · exact .inl hz
          refine .inr ⟨ad, cap, cs, fz, { val := ?_, spot := hv.spot, le := hv.le, blk := hv.blk, room := hv.room, shape := hv.shape, cell := fun j x hx k c hc => ?_, old := hv.old, head := fun hh => (by cases hh), mine := hv.mine }⟩
          · simp only [Env.addV, if_true]; exact hv.val
          · obtain ⟨u, g1, g2⟩ := hv.cell j x hx k c hc
            exact ⟨u, g1, g2.step hst⟩
        · have : (E.addV st.M.vecs.length (E.σ q)).bk st.M.vecs.length = E.bk q := by simp [Env.bk, Env.addV]
          rw [this] at hg
          exact (h.mem.terr h' q e' e he' he ho' ho g hg' hg).symm
        · rw [hslot v hv]; simp [AV.conc, Env.addV]
    · exact ⟨E, Step.refl _ _, h⟩
  · exact ⟨E, Step.refl _ _, h⟩
theorem aliases_sound : ∀ (l : List (Nat × Bool)) {E : Env} {w0 : Bs} {st : St} {a : Act} {w : World}, Rep E w0 st a w → ∃ E', Step E st.M E' (aliases l st).M ∧ Rep E' w0 (aliases l st) a w
  | [], E, _, _, _, _, h => ⟨E, Step.refl _ _, h⟩
  | p :: l, E, w0, st, a, w, h => by
    obtain ⟨E1, h1, h2⟩ := aliasAt_sound p.1 p.2 h
    obtain ⟨E2, g1, g2⟩ := aliases_sound l h2
    exact ⟨E2, h1.trans g1, g2⟩
/-- a loop, from its door on -/
theorem CodeOkN.enter {P : Program} {c : Code} {st st1 : St} {e : Exit} {st' : St} {nb mv : Nat} (al : List (Nat × Bool)) (ha : aliases al st = st1) (hb : Nat.ble nb st.M.blks.length = true) (hv : Nat.ble mv st.M.vecs.length = true) (h : CodeOkN nb mv P c st1 e st') : CodeOkN nb mv P c st e st' := by
  intro E w0 a w hR Q hQ
  obtain ⟨E1, h1, h2⟩ := aliases_sound al hR
  rw [ha] at h2
  have hb := Nat.le_of_ble_eq_true hb
  have hv := Nat.le_of_ble_eq_true hv
  exact h E1 w0 a w h2 Q fun E' a' w' hle hR' => hQ E' a' w' ⟨fun b hb' => (hle.ρ b hb').trans (h1.env.ρ b (by omega)), fun b hb' => (hle.σ b hb').trans (h1.env.σ b (by omega))⟩ hR'

/-! what a memory says of itself: rows of numbers are rows of numbers -/
theorem Rep.vec {E : Env} {w0 : Bs} {st : St} {a : Act} {w : World} (h : Rep E w0 st a w) {i : Nat} {e : Ent} (he : st.M.vecs[i]? = some (some e)) : ∀ x, x ∈ e.cont → x.shape e.isAgg e.sh = true := by
  intro x hx
  obtain ⟨j, hj⟩ := List.mem_iff_getElem?.1 hx
  exact h.mem.shape he hj
theorem CodeOk.of_rep {P : Program} {c : Code} {st : St} {e : Exit} {st' : St} (h : (∃ E w0 a w, Rep E w0 st a w) → CodeOk P c st e st') : CodeOk P c st e st' :=
  fun E w0 a w hR => h ⟨E, w0, a, w, hR⟩ E w0 a w hR
end Go.Sx
