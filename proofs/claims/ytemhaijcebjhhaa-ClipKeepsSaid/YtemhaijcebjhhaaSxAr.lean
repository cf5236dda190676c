import Derived.Test.YtemhaijcebjhhaaSxN
import Derived.Test.YtemhaijcebjhhaaSxX
import Derived.ChangeSlices
set_option linter.unusedVariables false
set_option linter.unusedSimpArgs false
namespace Go.Sx
open Go Go.RowKit

/-! A slice that came as an argument: a row that is held for reading alone. -/

def cellOk : CK → Value → Prop
  | .int k, v => ∃ n, v = .int k n ∧ k.min ≤ n ∧ n ≤ k.max
  | .bool, v => ∃ b, v = .bool b
  | _, _ => False
def cellsOk : List CK → List Value → Prop
  | [], [] => True
  | k :: ks, v :: vs => cellOk k v ∧ cellsOk ks vs
  | _, _ => False
theorem cellsOk_append : ∀ {ks ks' : List CK} {vs vs' : List Value}, cellsOk ks vs → cellsOk ks' vs' → cellsOk (ks ++ ks') (vs ++ vs')
  | [], _, [], _, _, h => h
  | [], _, _ :: _, _, h, _ => h.elim
  | _ :: _, _, [], _, h, _ => h.elim
  | k :: ks, ks', v :: vs, vs', h, h' => ⟨h.1, cellsOk_append h.2 h'⟩
theorem cellsOk_len : ∀ {ks : List CK} {vs : List Value}, cellsOk ks vs → vs.length = ks.length
  | [], [], _ => rfl
  | [], _ :: _, h => h.elim
  | _ :: _, [], h => h.elim
  | k :: ks, v :: vs, h => by simp [cellsOk_len h.2]
theorem cellsOk_fits : ∀ {ks : List CK} {vs : List Value}, cellsOk ks vs → fitsAll ks (vs.map AV.lit) = true
  | [], [], _ => rfl
  | [], _ :: _, h => h.elim
  | _ :: _, [], h => h.elim
  | k :: ks, v :: vs, h => by
    simp only [List.map_cons, fitsAll, Bool.and_eq_true]
    refine ⟨?_, cellsOk_fits h.2⟩
    have := h.1
    cases k with
    | int k => obtain ⟨n, rfl, _⟩ := this; simp [CK.fits]
    | bool => obtain ⟨b, rfl⟩ := this; rfl
    | str => exact this.elim
    | any => exact this.elim

def kindsF (P : Program) (g : TypeId → Option (List CK)) : List Field → Nat → Option (List CK)
  | [], _ => some []
  | f :: fs, o => match g f.type with
    | some ks => bif decide (f.offset = o) && decide (P.cellsOf f.type = ks.length) then (match kindsF P g fs (o + ks.length) with
      | some r => some (ks ++ r)
      | none => none) else none
    | none => none
/-- the kinds of a type's cells, if these are numbers and truth values alone -/
def kindsT (P : Program) : Nat → TypeId → Option (List CK)
  | 0, _ => none
  | d + 1, t => match P.underlying t with
    | some .bool => some [.bool]
    | some (.int k) => some [.int k]
    | some (.struct fs) => kindsF P (kindsT P d) fs.toList 0
    | some (.array n e) => match kindsT P d e with
      | some ks => bif decide (P.cellsOf e = ks.length) then some (List.replicate n ks).flatten else none
      | none => none
    | _ => none

section
variable {H : Type} {enc : TypeId × Value → H} {P : Program} {w : World} {base : Nat} {spare : Nat → Bool} {held : Bool}

theorem cut_app {cs : List Value} {o n : Nat} (h : o + n ≤ cs.length) : cs.drop o = (cs.drop o).take n ++ cs.drop (o + n) := by
  rw [show cs.drop (o + n) = (cs.drop o).drop n by rw [List.drop_drop]]
  exact (List.take_append_drop n _).symm
theorem kindsF_ok {g : TypeId → Option (List CK)} {n : Nat} {cs : List Value} : ∀ (fs : List Field) (o : Nat) (ks : List CK), kindsF P g fs o = some ks → o + ks.length = cs.length →
    (∀ f, f ∈ fs → ∀ kf, g f.type = some kf → cellsOk kf ((cs.drop f.offset).take (P.cellsOf f.type))) → cellsOk ks (cs.drop o)
  | [], o, ks, h, hl, _ => by
    simp only [kindsF, Option.some.injEq] at h
    subst h
    rw [List.drop_eq_nil_of_le (by simp at hl; omega)]
    trivial
  | f :: fs, o, ks, h, hl, hf => by
    simp only [kindsF] at h
    split at h
    · rename_i kf hkf
      simp only [cond_eq_ite, Bool.and_eq_true, decide_eq_true_eq] at h
      split at h
      · rename_i hc
        obtain ⟨rfl, hcf⟩ := hc
        split at h
        · rename_i r hr
          simp only [Option.some.injEq] at h
          subst h
          rw [List.length_append] at hl
          have h1 := hf f List.mem_cons_self kf hkf
          rw [hcf] at h1
          rw [cut_app (o := f.offset) (n := kf.length) (by omega)]
          exact cellsOk_append h1 (kindsF_ok (n := n) fs _ r hr (by omega) fun f' hm => hf f' (List.mem_cons_of_mem _ hm))
        · cases h
      · cases h
    · cases h
theorem cellsOk_rep {ks : List CK} {cs : List Value} : ∀ (n o : Nat), o * ks.length + n * ks.length = cs.length → (∀ i, i < n → cellsOk ks ((cs.drop ((o + i) * ks.length)).take ks.length)) → cellsOk (List.replicate n ks).flatten (cs.drop (o * ks.length))
  | 0, o, hl, _ => by
    rw [List.drop_eq_nil_of_le (by omega)]
    trivial
  | n + 1, o, hl, h => by
    rw [Nat.add_mul] at hl
    rw [cut_app (o := o * ks.length) (n := ks.length) (by omega)]
    simp only [List.replicate_succ, List.flatten_cons]
    have h0 := h 0 (by omega)
    rw [Nat.add_zero] at h0
    have h1 := cellsOk_rep (ks := ks) (cs := cs) n (o + 1) (by rw [Nat.add_mul]; omega) fun i hi => by
      have := h (i + 1) (by omega)
      rw [show o + 1 + i = o + (i + 1) by omega]; exact this
    rw [Nat.add_mul, Nat.one_mul] at h1
    exact cellsOk_append h0 h1
theorem trod_array {t e : TypeId} {n fuel : Nat} {cs : List Value} {x : DataW H × List MemPlace} (ht : P.underlying t = some (.array n e)) (h : DataW.trod enc P w base spare held fuel t cs = some x) :
    ∃ m, fuel = m + 1 ∧ cs.length = P.cellsOf t ∧ ∀ i, i < n → ∃ y, DataW.trod enc P w base spare held m e ((cs.drop (i * P.cellsOf e)).take (P.cellsOf e)) = some y := by
  cases fuel with
  | zero => simp [DataW.trod] at h
  | succ m =>
    unfold DataW.trod at h
    rw [ht] at h
    split at h <;> simp_all
    obtain ⟨hl, xs, hp, hd⟩ := h
    intro i hi
    have h1 := mapM_some_get hp i i (by simp [hi])
    have hxl := mapM_some_length hp
    simp at hxl
    rw [List.getElem?_eq_getElem (by omega)] at h1
    exact ⟨_, _, h1⟩
theorem trod_cells : ∀ (d fuel : Nat) (t : TypeId) (cs : List Value) (x : DataW H × List MemPlace) (ks : List CK), DataW.trod enc P w base spare held fuel t cs = some x → kindsT P d t = some ks → (P.cellsOf t = ks.length) → cellsOk ks cs := by
  intro d
  induction d with
  | zero => intro fuel t cs x ks _ h; cases h
  | succ d ih =>
    intro fuel t cs x ks h hk hc
    simp only [kindsT] at hk
    split at hk
    · rename_i hu
      simp only [Option.some.injEq] at hk
      subst hk
      obtain ⟨b, rfl, _⟩ := DataW.trod_bool hu h
      exact ⟨⟨b, rfl⟩, trivial⟩
    · rename_i k hu
      simp only [Option.some.injEq] at hk
      subst hk
      obtain ⟨n, rfl, _, hw⟩ := DataW.trod_int hu h
      simp only [Lit.wf, Bool.and_eq_true, decide_eq_true_eq] at hw
      exact ⟨⟨n, rfl, hw.1, hw.2⟩, trivial⟩
    · rename_i fs hu
      obtain ⟨xs, n, rfl, _, hlen, hxs, hall⟩ := DataW.trod_struct hu h
      have := kindsF_ok (P := P) (g := kindsT P d) (n := n) (cs := cs) fs.toList 0 ks hk (by omega) fun f hm kf hkf => ?_
      · simpa using this
      · obtain ⟨i, hi⟩ := List.mem_iff_getElem?.1 hm
        have hi' : fs[i]? = some f := by simpa using hi
        have h1 := hall i f hi'
        have hil : i < xs.length := by rw [hxs]; exact (Array.getElem?_eq_some_iff.1 hi').1
        rw [List.getElem?_eq_getElem hil] at h1
        -- the field's own count
        have hcf : P.cellsOf f.type = kf.length := by
          have key : ∀ (fs : List Field) (o : Nat) (ks : List CK), kindsF P (kindsT P d) fs o = some ks → ∀ f, f ∈ fs → ∀ kf, kindsT P d f.type = some kf → P.cellsOf f.type = kf.length := by
            intro fs
            induction fs with
            | nil => intro o ks _ f hf; cases hf
            | cons a l ihl =>
              intro o ks hk f hf kf hkf
              simp only [kindsF] at hk
              split at hk
              · rename_i ka hka
                simp only [cond_eq_ite, Bool.and_eq_true, decide_eq_true_eq] at hk
                split at hk
                · rename_i hc
                  split at hk
                  · rename_i r hr
                    rcases List.mem_cons.1 hf with rfl | hf
                    · rw [hka] at hkf; cases hkf; exact hc.2
                    · exact ihl _ r hr f hf kf hkf
                  · cases hk
                · cases hk
              · cases hk
          exact key _ _ _ hk f hm kf hkf
        exact ih n f.type _ _ kf h1 hkf hcf
    · rename_i n e hu
      split at hk
      · rename_i ke hke
        simp only [cond_eq_ite, decide_eq_true_eq] at hk
        split at hk
        · rename_i hce
          simp only [Option.some.injEq] at hk
          subst hk
          obtain ⟨m, rfl, hl, hall⟩ := trod_array hu h
          have := cellsOk_rep (ks := ke) (cs := cs) n 0 (by rw [hl, hc]; simp) fun i hi => by
            obtain ⟨y, hy⟩ := hall i hi
            rw [hce] at hy
            rw [Nat.zero_add]
            exact ih m e _ _ ke hy hke hce
          simpa using this
        · cases hk
      · cases hk
    · cases hk

/-- an element that was read as an argument's -/
def elemOk (ia : Bool) (ks : List CK) (x : AV) : Prop := match ia with
  | true => ∃ cs, x = .agg (cs.map AV.lit) ∧ cellsOk ks cs
  | false => ∃ c, x = .lit c ∧ cellsOk ks [c]
def mkElem (ia : Bool) (cs : List Value) : AV := match ia with
  | true => .agg (cs.map AV.lit)
  | false => .lit (cs.getD 0 undef)
theorem mkElem_ok {ia : Bool} {ks : List CK} {cs : List Value} (h : cellsOk ks cs) (h1 : ia = false → ks.length = 1) : elemOk ia ks (mkElem ia cs) ∧ (mkElem ia cs).shape ia ks = true := by
  cases ia with
  | true => exact ⟨⟨cs, rfl, h⟩, cellsOk_fits h⟩
  | false =>
    have hl := cellsOk_len h
    rw [h1 rfl] at hl
    obtain ⟨c, rfl⟩ := List.length_eq_one_iff.1 hl
    refine ⟨⟨c, rfl, h⟩, ?_⟩
    have := cellsOk_fits h
    simpa [AV.shape, mkElem] using this

/-- what a slice that came as an argument is known by -/
def SliceArg (w : World) (ia : Bool) (ks : List CK) (v : Value) : Prop :=
  ∃ (el : TypeId) (L : List AV), (∀ x, x ∈ L → elemOk ia ks x) ∧ ∀ E M, RepM E (Bs.of w) M w → RepM (E.addV M.vecs.length v) (Bs.of w) (M.addV ⟨el, ia, ks, M.vecs.length, false, false, L⟩) w
theorem arg_slice {t e : TypeId} {v : Value} {ds : DataW H} {ps : List MemPlace} {ks : List CK} {d : Nat} (ia : Bool) (hu : P.underlying t = some (.slice e)) (hk : kindsT P d e = some ks) (hc : P.cellsOf e = ks.length) (hz : 0 < ks.length) (hia : ia = false → ks.length = 1)

    {b0 : Nat} (hval : Value.okWide P w .any b0 t v) (hd : DataW.Trod enc P w base spare held t v ds ps) :
    SliceArg w ia ks v := by
  obtain ⟨fuel, hd⟩ := hd
  have hvs : ∃ p l c, v = .slice p l c := WideShapes.okWide_slice hu hval
  obtain ⟨p, l, c, rfl⟩ := hvs
  rcases DataW.trod_slice hu hd with ⟨h0, _⟩ | ⟨a, len, cap, elems, rest, n, _, h0, _, hb, hl, hm, hlen, hel, _, _⟩
  · simp [Value.cells] at h0
    obtain ⟨rfl, rfl, rfl⟩ := h0
    exact ⟨e, [], fun x hx => (by cases hx), fun E M hR => hR.addV _ _ (.inl ⟨rfl, rfl⟩) (fun ho => by cases ho)⟩
  · simp [Value.cells] at h0
    obtain ⟨rfl, e1, e2⟩ := h0
    have e1' := e1.symm
    have e2' := e2.symm
    clear e1 e2
    subst e1'
    subst e2'
    have hcell : Cell.ok P w .any b0 t (.slice (some a) len cap) := by
      unfold Value.okWide at hval
      rw [hu] at hval
      unfold Cell.okWide at hval
      rw [hu] at hval
      exact hval
    unfold Cell.ok at hcell
    rw [hu] at hcell
    obtain ⟨_, _, _, hsp, row, cells, hshape, _⟩ := hcell
    obtain ⟨cs, fz, hblk⟩ : ∃ cs fz, w.heap[a.block]? = some (.cells cs row fz) := by
      unfold World.shape? at hshape
      split at hshape
      · rename_i c0 el0 f0 hh
        simp only [Option.some.injEq, Prod.mk.injEq] at hshape
        obtain ⟨rfl, rfl⟩ := hshape
        exact ⟨c0, f0, hh⟩
      · cases hshape
    have each : ∀ i, i < len → ∃ ci, w.cells? base (a.add (i * P.cellsOf e)) (P.cellsOf e) = some ci ∧ cellsOk ks ci ∧ ∀ j, j < ks.length → cs[a.off + (i * ks.length + j)]? = ci[j]? := by
      intro i hi
      have h1 := hel i hi
      rw [List.getElem?_eq_getElem (by omega)] at h1
      rw [Option.bind_eq_some_iff] at h1
      obtain ⟨ci, h2, h3⟩ := h1
      obtain ⟨_, h5, h6⟩ := World.cells?_some h2
      have hok := trod_cells d n e ci _ ks h3 hk hc
      refine ⟨ci, h2, hok, fun j hj => ?_⟩
      have h7 := h6 j (by omega)
      rw [Addr.add_none a hsp, Addr.add_none _ rfl, hc] at h7
      have hlt : j < ci.length := by rw [cellsOk_len hok]; exact hj
      rw [List.getElem?_eq_getElem hlt] at h7 ⊢
      simp only [World.cell?, hblk] at h7
      rw [Nat.add_assoc] at h7
      simpa using h7
    have hchoose : ∃ g : Nat → List Value, ∀ i, i < len → cellsOk ks (g i) ∧ ∀ j, j < ks.length → cs[a.off + (i * ks.length + j)]? = (g i)[j]? := by
      refine ⟨fun i => (w.cells? base (a.add (i * P.cellsOf e)) (P.cellsOf e)).getD [], fun i hi => ?_⟩
      obtain ⟨ci, h1, h2, h3⟩ := each i hi
      simp only [h1, Option.getD_some]
      exact ⟨h2, h3⟩
    obtain ⟨g, hg⟩ := hchoose
    refine ⟨row, (List.range len).map fun i => mkElem ia (g i), fun x hx => ?_, fun E M hR => hR.addV _ _ (.inr ⟨a, cap, cs, fz, ?_⟩) (fun ho => by cases ho)⟩
    · obtain ⟨i, hi, rfl⟩ := List.mem_map.1 hx
      exact (mkElem_ok (hg i (List.mem_range.1 hi)).1 hia).1
    · have hcl : ((List.range len).map fun i => mkElem ia (g i)).length = len := by simp
      have hget : ∀ (i : Nat) (x : AV), ((List.range len).map fun i => mkElem ia (g i))[i]? = some x → i < len ∧ x = mkElem ia (g i) := by
        intro i x hx
        have hi := lt_of_get hx
        rw [hcl] at hi
        rw [List.getElem?_map, List.getElem?_range hi] at hx
        simp only [Option.map_some, Option.some.injEq] at hx
        exact ⟨hi, hx.symm⟩
      exact
        { val := by simp only [Env.addV, if_true, hcl]
          spot := hsp
          le := by rw [hcl]; exact hl
          blk := hblk
          room := by
            rw [hcl]
            rcases Nat.eq_zero_or_pos len with h0 | h0
            · exact .inl h0
            · refine .inr ?_
              have h1 := (hg (len - 1) (by omega))
              have h2 := h1.2 (ks.length - 1) (by omega)
              rw [List.getElem?_eq_getElem (by rw [cellsOk_len h1.1]; omega)] at h2
              have h3 := (Array.getElem?_eq_some_iff.1 h2).1
              have h4 : (len - 1) * ks.length + ks.length = len * ks.length := by
                rw [← Nat.succ_mul]; congr 1; omega
              show a.off + len * ks.length ≤ cs.size
              omega
          shape := fun i x hx => by
            obtain ⟨hi, rfl⟩ := hget i x hx
            exact (mkElem_ok (hg i hi).1 hia).2
          cell := fun i x hx j c hcj => by
            obtain ⟨hi, rfl⟩ := hget i x hx
            have hlen' := cellsOk_len (hg i hi).1
            have hcs : ((mkElem ia (g i)).cells)[j]? = (g i)[j]?.map AV.lit := by
              cases ia with
              | true => simp [mkElem, AV.cells]
              | false =>
                have h1 := hia rfl
                rw [h1] at hlen'
                obtain ⟨c0, hc0⟩ := List.length_eq_one_iff.1 hlen'
                have h2 := (hg i hi).1
                rw [hc0] at h2 ⊢
                have : ∃ k, ks = [k] := List.length_eq_one_iff.1 h1
                obtain ⟨k, rfl⟩ := this
                have hk0 := h2.1
                cases k with
                | int k => obtain ⟨n, rfl, _⟩ := hk0; simp [mkElem, AV.cells]; cases j <;> simp
                | bool => obtain ⟨b, rfl⟩ := hk0; simp [mkElem, AV.cells]; cases j <;> simp
                | str => exact hk0.elim
                | any => exact hk0.elim
            rw [hcs] at hcj
            cases hj : (g i)[j]? with
            | none => rw [hj] at hcj; cases hcj
            | some u =>
              rw [hj] at hcj
              simp only [Option.map_some, Option.some.injEq] at hcj
              subst hcj
              have hjl := lt_of_get hj
              exact ⟨u, ((hg i hi).2 j (by omega)).trans hj, RelS.lit _ _ _⟩
          old := fun _ hw => by
            have := heap_lt hblk
            exact Nat.lt_irrefl _ (Nat.lt_of_lt_of_le this hw)
          head := fun hh => by cases hh
          mine := fun hh => by cases hh }
/-- a row of numbers -/
theorem ints_of_elems {k : IntKind} {L : List AV} (h : ∀ x, x ∈ L → elemOk false [.int k] x) : ∃ l : List Int, L = l.map (fun n => AV.lit (.int k n)) ∧ ∀ n, n ∈ l → k.min ≤ n ∧ n ≤ k.max := by
  induction L with
  | nil => exact ⟨[], rfl, fun n hn => by cases hn⟩
  | cons a L ih =>
    obtain ⟨l, rfl, hl⟩ := ih fun x hx => h x (List.mem_cons_of_mem _ hx)
    obtain ⟨c, rfl, ⟨n, rfl, hn⟩, _⟩ := h a List.mem_cons_self
    refine ⟨n :: l, rfl, fun m hm => ?_⟩
    rcases List.mem_cons.1 hm with rfl | hm
    · exact hn
    · exact hl m hm
end
end Go.Sx
