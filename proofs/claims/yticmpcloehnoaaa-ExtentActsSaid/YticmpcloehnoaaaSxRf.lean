import Derived.Test.YticmpcloehnoaaaSxThree
import Derived.Laws.AppendOwn
set_option linter.unusedVariables false
set_option linter.unusedSimpArgs false
namespace Go.Sx
open Go Go.RowKit

/-! A row that a function proved by hand hands back. -/

def litC (c : AV) : Bool := match c with
  | .lit _ => true
  | _ => false
def litV (c : AV) : Value := match c with
  | .lit v => v
  | _ => undef
def rowV (xs : List AV) : List Value := xs.flatMap fun x => x.cells.map litV
theorem rowV_len {isAgg : Bool} {sh : List CK} : ∀ {xs : List AV}, (∀ x, x ∈ xs → x.cells.length = sh.length) → (rowV xs).length = xs.length * sh.length
  | [], _ => by simp [rowV]
  | x :: xs, h => by
    have := rowV_len (isAgg := isAgg) (xs := xs) (fun y hy => h y (List.mem_cons_of_mem _ hy))
    simp only [rowV, List.flatMap_cons, List.length_append, List.length_map] at *
    rw [this, h x (List.mem_cons_self ..), List.length_cons, Nat.add_mul]
    omega
theorem rowV_at {n : Nat} : ∀ {xs : List AV} (i : Nat) (x : AV) (j : Nat) (c : AV), (∀ x, x ∈ xs → x.cells.length = n) → xs[i]? = some x → x.cells[j]? = some c → (rowV xs)[i * n + j]? = some (litV c)
  | [], i, x, j, c, _, hx, _ => by simp at hx
  | y :: xs, i, x, j, c, h, hx, hc => by
    have hy := h y (List.mem_cons_self ..)
    simp only [rowV, List.flatMap_cons]
    cases i with
    | zero =>
      simp at hx
      subst hx
      have hj : j < y.cells.length := lt_of_get hc
      rw [Nat.zero_mul, Nat.zero_add, List.getElem?_append_left (by simpa using hj), List.getElem?_map, hc]
      rfl
    | succ i =>
      have e : (i + 1) * n + j = (y.cells.map litV).length + (i * n + j) := by rw [List.length_map, hy, Nat.add_mul]; omega
      rw [e, List.getElem?_append_right (by omega), Nat.add_sub_cancel_left]
      exact rowV_at i x j c (fun z hz => h z (List.mem_cons_of_mem _ hz)) (by simpa using hx) hc

/-- the row's name: of all that stands, none is of its territory -/
theorem RepM.gain {E : Env} {w0 : Bs} {M : Mem} {w w' : World} (hR : RepM E w0 M w) (hb : Below w.heap.size w w') {e : TypeId} {isAgg : Bool} {sh : List CK} {xs : List AV} {v : Value}
    (ho : w'.ownsRow w.heap.size e sh.length v xs.length (rowV xs)) (hx : ∀ x, x ∈ xs → x.shape isAgg sh = true ∧ x.cells.length = sh.length ∧ ∀ c, c ∈ x.cells → litC c = true) :
    RepM (E.addV M.vecs.length v) w0 (M.addV ⟨e, isAgg, sh, M.vecs.length, true, true, xs⟩) w' := by
  have hR' := hR.later hb
  refine hR'.addV _ v ?_ ?_
  · rcases ho.2 with ⟨rfl, hn⟩ | ⟨g, cap, cur, rfl, hbg, hg, hle, hcap, hcs, hcur⟩
    · exact .inl ⟨List.eq_nil_of_length_eq_zero hn, rfl⟩
    · refine .inr ⟨⟨g, 0, none⟩, cap, cur, (0, 0), ?_⟩
      have hwr : w0.Wr g := w0.up g (Nat.le_trans hR.below.size hbg)
      exact {
        val := by simp [Env.addV]
        spot := rfl
        le := hle
        blk := hg
        room := .inr (by
          simp only [Nat.zero_add]; rw [hcs]; exact Nat.mul_le_mul_right _ hle)
        shape := fun i x hi => (hx x (List.mem_of_getElem? hi)).1
        cell := fun i x hi j c hc => by
          have hm := hx x (List.mem_of_getElem? hi)
          have hl := hm.2.2 c (List.mem_of_getElem? hc)
          have h1 := rowV_at (n := sh.length) i x j c (fun y hy => (hx y hy).2.1) hi hc
          rw [← hcur] at h1
          have hj : j < sh.length := by have := lt_of_get hc; omega
          have hi' : i < xs.length := lt_of_get hi
          have hlt : i * sh.length + j < xs.length * sh.length := by
            have : (i + 1) * sh.length ≤ xs.length * sh.length := Nat.mul_le_mul_right _ hi'
            rw [Nat.add_mul] at this; omega
          rw [List.getElem?_take, if_pos hlt, Array.getElem?_toList] at h1
          refine ⟨_, by simpa using h1, ?_⟩
          cases c with
          | lit u => exact ⟨rfl, fun _ => rfl⟩
          | _ => simp [litC] at hl
        old := fun h => by cases h
        head := fun _ => ⟨rfl, hcs, hcap⟩
        mine := fun _ => ⟨hwr, rfl, fun b x hxb hc => by
          have hb' := hR.lt hxb
          simp only [Env.addV] at hc
          omega⟩ }
  · intro _ h' e' he' ho' g hg hg'
    rcases ho.2 with ⟨rfl, hn⟩ | ⟨g0, cap, cur, rfl, hbg, _⟩
    · rw [bk_nil (by simp [Env.addV, nilV])] at hg; cases hg
    · simp [Env.bk, Env.addV] at hg
      subst hg
      rcases hR.vec h' e' he' with ⟨_, hz⟩ | ⟨a, cp, cs, fz, hv⟩
      · rw [bk_nil hz] at hg'; cases hg'
      · rw [hv.bk] at hg'
        simp only [Option.some.injEq] at hg'
        have := (Array.getElem?_eq_some_iff.1 hv.blk).1
        omega
theorem relS_new {E : Env} {M : Mem} {e : Ent} {v : Value} : RelS (E.addV M.vecs.length v) (M.addV e) (.vec M.vecs.length) v :=
  ⟨by simp [AV.sc, Mem.addV], fun _ => by simp [AV.conc, Env.addV]⟩
/-- a function that reads, and hands back a new row -/
theorem CallOkR.ofRow {P : Program} {f : FuncId} {fn : Func} (hf : Enters P f fn) {args : List AV} {M : Mem} {e : TypeId} {isAgg : Bool} {sh : List CK} {xs : List AV}
    (hx : ∀ x, x ∈ xs → x.shape isAgg sh = true ∧ x.cells.length = sh.length ∧ ∀ c, c ∈ x.cells → litC c = true)
    (h : ∀ E w0 w, RepM E w0 M w → Calls P f (concL E args).toArray w fun r w' => ∃ v, r = .returned v ∧ w'.ownsRow w.heap.size e sh.length v xs.length (rowV xs) ∧ Below w.heap.size w w') :
    CallOkR P f args M (.vec M.vecs.length) (M.addV ⟨e, isAgg, sh, M.vecs.length, true, true, xs⟩) := by
  intro E w0 w hR hs hl
  refine ⟨hf.run _ w, (h E w0 w hR).mono fun r w' ⟨v, hr, ho, hb⟩ => ⟨_, v, hr, Step.addV E M _ v, relS_new, hR.gain hb ho hx, hb⟩⟩
end Go.Sx
