import Derived.Test.YtplfijdonikaoaaSxD
set_option linter.unusedVariables false
set_option linter.unusedSimpArgs false
namespace Go.Sx
open Go Go.RowKit

def boundA {R : Type} (v : Option AV) (d y : Nat) (k : Nat → Option R) : Option R :=
  match v with
  | none => k d
  | some (.lit (.int _ i)) => if 0 ≤ i ∧ i ≤ (y : Int) then k i.toNat else none
  | _ => none

theorem boundA_sound {R : Type} {v : Option AV} {d y : Nat} {k : Nat → Option R} {r : R} (h : boundA v d y k = some r) :
    ∃ n, k n = some r ∧ ((v = none ∧ n = d) ∨ ∃ x, v = some x ∧ n ≤ y ∧ ∀ (P : Program) (E : Env) (code : BoundsCode) (w : World), (Instr.sliceBound (x.conc E) y code).run P w = .ok n w) := by
  unfold boundA at h
  split at h
  · exact ⟨_, h, .inl ⟨rfl, rfl⟩⟩
  · rename_i kk i
    split at h
    · rename_i hi
      refine ⟨_, h, .inr ⟨_, rfl, by omega, fun P E code w => ?_⟩⟩
      simp only [Instr.sliceBound, AV.conc, asIntOf, Sem.run_bind, Sem.run_pure, Result.andThen_ok, if_pos hi]
    · cases h
  · cases h

theorem run_sliceBounds {P : Program} {E : Env} (isSlice : Bool) (len cap : Nat) (lo hi : Option AV) (l hh : Nat) (w : World)
    (hhi : (hi = none ∧ hh = len) ∨ ∃ x, hi = some x ∧ ∀ code w, (Instr.sliceBound (x.conc E) cap code).run P w = .ok hh w)
    (hlo : (lo = none ∧ l = 0) ∨ ∃ x, lo = some x ∧ ∀ code w, (Instr.sliceBound (x.conc E) hh code).run P w = .ok l w) :
    (Instr.sliceBounds isSlice len cap (lo.map (AV.conc E)) (hi.map (AV.conc E)) none).run P w = .ok (l, hh, cap) w := by
  unfold Instr.sliceBounds
  rcases hhi with ⟨rfl, rfl⟩ | ⟨x, rfl, hx⟩ <;> rcases hlo with ⟨rfl, rfl⟩ | ⟨y, rfl, hy⟩ <;>
    simp only [Option.map_none, Option.map_some, Option.isSome_none, Sem.run_bind, Sem.run_pure, Result.andThen_ok] <;> simp [*]

theorem sliceBound_le {P : Program} {x : Value} {y y' n : Nat} {c : BoundsCode} {w : World} (h : (Instr.sliceBound x y c).run P w = .ok n w) (hy : y ≤ y') : (Instr.sliceBound x y' c).run P w = .ok n w := by
  unfold Instr.sliceBound at h ⊢
  cases x with
  | int kk i =>
    simp only [asIntOf, Sem.run_bind, Sem.run_pure, Result.andThen_ok, Sem.run_ite] at h ⊢
    split at h
    · rename_i hi
      rw [if_pos (by omega)]; exact h
    · exfalso
      obtain ⟨s, w2, hbp⟩ := run_boundsPanic (P := P) (α := Nat) (w := w) kk i y c
      rw [hbp] at h
      unfold boundsValue at h
      cases h
  | pointer a => cases a <;> simp [asIntOf] at h
  | _ => simp [asIntOf] at h

def sliceV (s : Value) (l hh n : Nat) : Value :=
  match s with
  | .slice (some a) _ cap => .slice (some (if cap = l then a else a.add (l * n))) (hh - l) (cap - l)
  | v => v

def cutC (hi : Option AV) (hh l : Nat) (c : List AV) : List AV := match hi with
  | none => c.drop l
  | some _ => (c.take hh).drop l
theorem cutC_eq {hi : Option AV} {hh l : Nat} {c : List AV} (h : hi = none → hh = c.length) : cutC hi hh l c = (c.take hh).drop l := by
  cases hi with
  | none => rw [h rfl, List.take_length]; rfl
  | some _ => rfl

def sliceA {R : Type} (P : Program) (M : Mem) (t : TypeId) (x : AV) (lo hi : Option AV) (k : AV → Mem → Option R) : Option R :=
  match P.underlying t with
  | some (.array len el) =>
    match sizeT P el with
    | some n =>
      match x with
      | .ptr b off => boundA hi len len fun hh => boundA lo 0 hh fun l => k (.sl b (bif decide (len = l) then off else off + l * n) (hh - l) (len - l)) M
      | _ => none
    | none => none
  | some (.slice el) =>
    match sizeT P el with
    | some n =>
      match x with
      | .sl b off len cap => boundA hi len cap fun hh => boundA lo 0 hh fun l => k (.sl b (bif decide (cap = l) then off else off + l * n) (hh - l) (cap - l)) M
      | .vec h =>
        match M.vecs[h]? with
        | some (some e) =>
          bif decide (n = e.sh.length) then
            boundA hi e.cont.length e.cont.length fun hh => boundA lo 0 hh fun l => k (.vec M.vecs.length) (M.addV { e with head := decide (l = 0) && e.head, cont := cutC hi hh l e.cont })
          else none
        | _ => none
      | .lit (.slice none 0 0) => boundA hi 0 0 fun hh => boundA lo 0 hh fun l => k (.lit (.slice none 0 0)) M
      | _ => none
    | none => none
  | _ => none

theorem sliceA_sound {R : Type} {P : Program} {M : Mem} {t : TypeId} {x : AV} {lo hi : Option AV} {k : AV → Mem → Option R} {r : R} (h : sliceA P M t x lo hi k = some r) :
    ∃ z M', k z M' = some r ∧ Grow M M' ∧ ∀ E, ∃ E', Step E M E' M' ∧ (x.sc M.blks.length M.vecs.length = true → z.sc M'.blks.length M'.vecs.length = true) ∧
      ∀ w0 w, RepM E w0 M w → RepM E' w0 M' w ∧ (Instr.sliceAt t (x.conc E) (lo.map (AV.conc E)) (hi.map (AV.conc E)) none).run P w = .ok (z.conc E') w := by
  unfold sliceA at h
  split at h
  · rename_i len el hu
    split at h
    · rename_i n hn
      split at h
      · rename_i b off
        obtain ⟨hh, h, hhi⟩ := boundA_sound h
        obtain ⟨l, h, hlo⟩ := boundA_sound h
        refine ⟨_, _, h, Grow.refl _, fun E => ⟨E, Step.refl E M, fun hs => hs, fun w0 w hR => ⟨hR, ?_⟩⟩⟩
        have hb := run_sliceBounds (P := P) (E := E) false len len lo hi l hh w (hhi.imp id fun ⟨x, hx, _, hr⟩ => ⟨x, hx, fun c w => hr P E c w⟩) (hlo.imp id fun ⟨x, hx, _, hr⟩ => ⟨x, hx, fun c w => hr P E c w⟩)
        simp only [Instr.sliceAt, AV.conc, Sem.run_bind, run_underlying hu, Result.andThen_ok, Instr.sureAddr, Sem.run_pure, hb, run_sizeOf hn]
        congr 2
        by_cases e : len = l <;> simp [e, addr_add]
      · cases h
    · cases h
  · rename_i el hu
    split at h
    · rename_i n hn
      split at h
      · rename_i b off len cap
        obtain ⟨hh, h, hhi⟩ := boundA_sound h
        obtain ⟨l, h, hlo⟩ := boundA_sound h
        refine ⟨_, _, h, Grow.refl _, fun E => ⟨E, Step.refl E M, fun hs => hs, fun w0 w hR => ⟨hR, ?_⟩⟩⟩
        have hb := run_sliceBounds (P := P) (E := E) true len cap lo hi l hh w (hhi.imp id fun ⟨x, hx, _, hr⟩ => ⟨x, hx, fun c w => hr P E c w⟩) (hlo.imp id fun ⟨x, hx, _, hr⟩ => ⟨x, hx, fun c w => hr P E c w⟩)
        simp only [Instr.sliceAt, Instr.slice, AV.conc, Sem.run_bind, run_underlying hu, Result.andThen_ok, Sem.run_pure, hb, run_sizeOf hn]
        congr 2
        by_cases e : cap = l <;> simp [e, addr_add]
      · rename_i q
        split at h
        · rename_i e he
          simp only [cond_eq_ite, decide_eq_true_eq] at h
          split at h
          · rename_i hne
            subst hne
            obtain ⟨hh, h, hhi⟩ := boundA_sound h
            obtain ⟨l, h, hlo⟩ := boundA_sound h
            rw [cutC_eq (hi := hi) (hh := hh) (l := l) (c := e.cont) (by
              rcases hhi with ⟨_, h1⟩ | ⟨x, h1, _⟩
              · exact fun _ => h1
              · exact fun h2 => by rw [h2] at h1; cases h1)] at h
            have hhl : hh ≤ e.cont.length := by
              rcases hhi with ⟨_, rfl⟩ | ⟨_, _, hl, _⟩
              · exact Nat.le_refl _
              · exact hl
            have hlh : l ≤ hh := by
              rcases hlo with ⟨_, rfl⟩ | ⟨_, _, hl, _⟩
              · exact Nat.zero_le _
              · exact hl
            refine ⟨_, _, h, Grow.addV _ _, fun E => ⟨E.addV M.vecs.length (sliceV (E.σ q) l hh e.sh.length), Step.addV E M _ _, fun _ => by simp [AV.sc, Mem.addV], fun w0 w hR => ?_⟩⟩
            rcases hR.vec q e he with ⟨hz, hz'⟩ | ⟨a, cap, cs, fz, hv⟩
            · have hc0 : e.cont.length = 0 := by rw [hz]; rfl
              have hl0 : l = 0 := by omega
              have hh0 : hh = 0 := by omega
              subst hl0; subst hh0
              have hsv : sliceV (E.σ q) 0 0 e.sh.length = nilV := by rw [hz']; rfl
              refine ⟨hR.addV _ _ (.inl ⟨by simp, hsv⟩) (fun _ h' e' _ _ g hg => ?_), ?_⟩
              · rw [bk_nil (by simp [Env.addV, hsv])] at hg; cases hg
              · have hb := run_sliceBounds (P := P) (E := E) true 0 0 lo hi 0 0 w (hhi.imp (fun ⟨h1, h2⟩ => ⟨h1, rfl⟩) fun ⟨x, hx, _, hr⟩ => ⟨x, hx, fun c w => by have := hr P E c w; rw [hc0] at this; exact this⟩) (hlo.imp id fun ⟨x, hx, _, hr⟩ => ⟨x, hx, fun c w => hr P E c w⟩)
                simp only [Instr.sliceAt, Instr.slice, AV.conc, Sem.run_bind, run_underlying hu, Result.andThen_ok, hz', nilV, Sem.run_pure, hb, run_sizeOf hn, Env.addV, if_true, sliceV]
            have hva : E.va q = a := by simp [Env.va, hv.val]
            have hq : q < M.vecs.length := lt_of_get he
            have hs := Step.addV E M { e with head := decide (l = 0) && e.head, cont := (e.cont.take hh).drop l } (sliceV (E.σ q) l hh e.sh.length)
            have hsv : sliceV (E.σ q) l hh e.sh.length = .slice (some (if cap = l then a else a.add (l * e.sh.length))) (hh - l) (cap - l) := by rw [hv.val]; rfl
            have hclen : ((e.cont.take hh).drop l).length = hh - l := by simp; omega
            have hle := hv.le
            have hblock : (if cap = l then a else a.add (l * e.sh.length)).block = a.block := by
              split
              · rfl
              · unfold Addr.add; split <;> rfl
            have hspot : (if cap = l then a else a.add (l * e.sh.length)).spot = none := by
              split
              · exact hv.spot
              · unfold Addr.add; split
                · exact hv.spot
                · rfl
            have hoff : (if cap = l then a else a.add (l * e.sh.length)).off = if cap = l then a.off else a.off + l * e.sh.length := by
              split
              · rfl
              · unfold Addr.add; split
                · rename_i h0; rw [h0]; rfl
                · rfl
            have helem : ∀ (i : Nat) (y : AV), ((e.cont.take hh).drop l)[i]? = some y → e.cont[l + i]? = some y ∧ i < hh - l := by
              intro i y hy
              have hi := lt_of_get hy
              rw [hclen] at hi
              rw [List.getElem?_drop, List.getElem?_take] at hy
              split at hy
              · exact ⟨hy, hi⟩
              · cases hy
            refine ⟨hR.addV _ _ (.inr ⟨if cap = l then a else a.add (l * e.sh.length), cap - l, cs, fz, ?_⟩) ?_, ?_⟩
            · exact
                { val := by simp only [Env.addV, if_true, hsv, hclen]
                  spot := hspot
                  le := by rw [hclen]; omega
                  blk := by rw [hblock]; exact hv.blk
                  room := by
                    rw [hclen]
                    rcases Nat.eq_zero_or_pos (hh - l) with h0 | h0
                    · exact .inl h0
                    · refine .inr ?_
                      rcases hv.room with hr | hr
                      · omega
                      · have h1 := Nat.mul_le_mul_right e.sh.length (show l + (hh - l) ≤ e.cont.length by omega)
                        rw [Nat.add_mul] at h1
                        rw [hoff, if_neg (by omega)]
                        show a.off + l * e.sh.length + (hh - l) * e.sh.length ≤ cs.size
                        omega
                  shape := fun i y hy => hv.shape _ y (helem i y hy).1
                  cell := fun i y hy j c hc => by
                    obtain ⟨hy1, hi⟩ := helem i y hy
                    obtain ⟨u, h1, h2⟩ := hv.cell _ y hy1 j c hc
                    refine ⟨u, ?_, h2.step hs⟩
                    rw [hoff, if_neg (by omega)]
                    rw [← h1, Nat.add_mul]
                    congr 1
                    simp only
                    omega
                  old := fun ho => by rw [hblock]; exact hv.old ho
                  head := fun ho => by
                    simp only [Bool.and_eq_true, decide_eq_true_eq] at ho
                    obtain ⟨rfl, ho1⟩ := ho
                    obtain ⟨h1, h2, h3⟩ := hv.head ho1
                    rw [hoff]
                    refine ⟨by split <;> simp [h1], by rw [Nat.sub_zero]; exact h2, by omega⟩
                  mine := fun ho => by
                    obtain ⟨h1, h2, h3⟩ := hv.mine ho
                    rw [hblock]
                    exact ⟨h1, h2, h3⟩ }
            · intro ho h' e' he' ho' g hg hb'
              have : (E.addV M.vecs.length (sliceV (E.σ q) l hh e.sh.length)).bk M.vecs.length = E.bk q := by
                rw [hv.bk]
                simp only [Env.bk, Env.addV, if_true, hsv]
                rw [hblock]
              rw [this] at hg
              exact hR.terr q h' e e' he he' ho ho' g hg hb'
            · have hb := run_sliceBounds (P := P) (E := E) true e.cont.length cap lo hi l hh w (hhi.imp id fun ⟨x, hx, _, hr⟩ => ⟨x, hx, fun c w => sliceBound_le (hr P E c w) hv.le⟩) (hlo.imp id fun ⟨x, hx, _, hr⟩ => ⟨x, hx, fun c w => hr P E c w⟩)
              simp only [Instr.sliceAt, Instr.slice, AV.conc, Sem.run_bind, run_underlying hu, Result.andThen_ok, hv.val, Sem.run_pure, hb, run_sizeOf hn, Env.addV, if_true, sliceV]
              congr 2
              by_cases e1 : cap = l <;> simp [e1]
          · cases h
        · cases h
      · obtain ⟨hh, g1, hhi⟩ := boundA_sound h
        obtain ⟨l, g2, hlo⟩ := boundA_sound g1
        have h0 : hh = 0 := by
          rcases hhi with ⟨_, rfl⟩ | ⟨_, _, hl, _⟩ <;> omega
        have h1 : l = 0 := by
          rcases hlo with ⟨_, rfl⟩ | ⟨_, _, hl, _⟩ <;> omega
        subst h0; subst h1
        refine ⟨_, _, g2, Grow.refl _, fun E => ⟨E, Step.refl E M, fun hs => hs, fun w0 w hR => ⟨hR, ?_⟩⟩⟩
        have hb := run_sliceBounds (P := P) (E := E) true 0 0 lo hi 0 0 w (hhi.imp id fun ⟨x, hx, _, hr⟩ => ⟨x, hx, fun c w => hr P E c w⟩) (hlo.imp id fun ⟨x, hx, _, hr⟩ => ⟨x, hx, fun c w => hr P E c w⟩)
        simp only [Instr.sliceAt, Instr.slice, AV.conc, Sem.run_bind, run_underlying hu, Result.andThen_ok, Sem.run_pure, hb, run_sizeOf hn]
        simp
      · cases h
    · cases h
  · cases h

end Go.Sx
