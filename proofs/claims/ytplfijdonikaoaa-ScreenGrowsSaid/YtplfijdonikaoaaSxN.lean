import Derived.Test.YtplfijdonikaoaaSxM
import Derived.ProofKit
import Derived.OpenShut
import Derived.Carry
set_option linter.unusedVariables false
set_option linter.unusedSimpArgs false
namespace Go.Sx
open Go Go.RowKit Go.WideShapes Go.ChangeShapes Go.ChangeAt

section
variable {H : Type} {enc : TypeId × Value → H} {P : Program}

/-- all arguments, read again where nothing old has turned -/
theorem trodAll_later (hl : laidOutB P = true) {W W' : World} {sp : Nat → Bool} (hb : Below W.heap.size W W') : ∀ {ts : List TypeId} {vs : List Value} {ds : List (DataW H)} {ps : List MemPlace},
    (ts.all fun t => P.readableRec t && decide (t < P.types.size)) = true → DataW.TrodAll enc P W 0 (fun _ => true) true ts vs ds ps → (∀ p ∈ ps, p.block < W.heap.size) → (∀ p ∈ ps, sp p.block = true) →
    DataW.TrodAll enc P W' 0 sp true ts vs ds ps := by
  intro ts
  induction ts with
  | nil =>
    intro vs ds ps _ h _ _
    cases vs <;> cases ds <;> first | exact h | exact h.elim
  | cons t ts ih =>
    intro vs ds ps hT h hlt hsp
    cases vs with
    | nil => exact h.elim
    | cons v vs =>
      cases ds with
      | nil => exact h.elim
      | cons d ds =>
        obtain ⟨p, q, h1, h2, rfl⟩ := h
        simp only [List.all_cons, Bool.and_eq_true, decide_eq_true_eq] at hT
        exact ⟨p, q, WideElems.Trod_stays hl hT.1.1 hT.1.2 h1 (fun x hx => hb.same (hlt x (List.mem_append_left _ hx))) (fun x hx => hsp x (List.mem_append_left _ hx)),
          ih (by simpa using hT.2) h2 (fun x hx => hlt x (List.mem_append_right _ hx)) (fun x hx => hsp x (List.mem_append_right _ hx)), rfl⟩

theorem trodVars_nil {W : World} {sp : Nat → Bool} {gs : List (DataW H)} {ps : List MemPlace} (h : DataW.TrodVars enc P W sp [] gs ps) : gs = [] ∧ ps = [] := trodVars_none h

/-- a law's end: it has told true; whatever was there is as it was -/
theorem law_post {f : Func} {s : ChangeSpec} {apart fresh handsOn again : Bool} {W W' : World} {args : Array Value} {ds gs : List (DataW H)} {before : List MemPlace} {tb : TypeId}
    (hW : DataW.Whole enc P f.params.toList s.vars apart W args.toList ds gs before) (hv : s.vars = []) (hf : s.fn H ds = { results := [.lit (.bool true)], args := ds }) (hl : laidOutB P = true)
    (hread : (f.params.toList.all fun t => P.readableRec t && decide (t < P.types.size)) = true) (hr : f.resultTypes = #[tb]) (hu : P.underlying tb = some .bool) (hb : Below W.heap.size W W') :
    s.post enc P f apart fresh handsOn again W args (.bool true) W' := by
  have hlt : ∀ p ∈ before, p.block < W.heap.size := fun p hp => hW.lt p hp
  have hW0 := hW
  obtain ⟨p, q, hA, hV, rfl, hz, hn⟩ := hW
  rw [hv] at hV
  obtain ⟨rfl, rfl⟩ := trodVars_nil hV
  have hf' : s.fn H (ds ++ []) = { results := [.lit (.bool true)], args := ds } := by rw [List.append_nil]; exact hf
  have hargs : ∀ sp : Nat → Bool, (∀ x ∈ p, sp x.block = true) → DataW.TrodAll enc P W' 0 sp true f.params.toList args.toList ds p :=
    fun sp hsp => trodAll_later hl hb hread hA (fun x hx => hlt x (by simpa using hx)) hsp
  have hres : ∀ (b : Nat) (sp : Nat → Bool) (hd : Bool), DataW.TrodAll enc P W' b sp hd f.resultTypes.toList ((Value.bool true).resultList f.resultTypes.size) [.lit (.bool true)] [] := by
    intro b sp hd
    rw [hr]
    exact trodAll_cons_mk (shut_bool hu true) trodAll_mk0
  refine ⟨ds, [], p ++ [], [], p, [], hW0, ?_, ?_, ?_, World.keptBut_mono (fun x hx => ⟨hx, .inr (.inl (by simpa using hx))⟩) (hb.frame (· ∈ p ++ [])), fun _ => ⟨?_, ds.cons (.lit (.bool true)), [], p ++ [], ⟨p, [], ?_, ?_, rfl, ?_, ?_⟩, fun x hx _ => hx⟩⟩
  · rw [hf']; exact hres _ _ _
  · rw [hf']; exact hargs _ fun x hx => by simpa using hlt x (by simpa using hx)
  · rw [hf', hv]; exact (rfl : ([] : List MemPlace) = [])
  · exact ok_one hr rfl (okWide_bool_mk hu true)
  · rw [hr]
    exact trodAll_cons_mk (shut_bool hu true) (hargs _ fun _ _ => rfl)
  · rw [hv]; exact (rfl : ([] : List MemPlace) = [])
  · intro b off hp
    rw [hb.frozen (hlt _ hp)]
    exact hz b off hp
  · intro ha; exact hn ha

/-! what an argument's value is -/
theorem ok_int {W : World} {base : Nat} {t : TypeId} {k : IntKind} {v : Value} (hu : P.underlying t = some (.int k)) (h : Value.okWide P W .any base t v) : ∃ n, v = .int k n ∧ k.min ≤ n ∧ n ≤ k.max := by
  simp only [Value.okWide, hu, Cell.okWide] at h
  cases v <;> simp_all [Cell.ok]
  exact h.2

theorem ok_bool {W : World} {base : Nat} {t : TypeId} {v : Value} (hu : P.underlying t = some .bool) (h : Value.okWide P W .any base t v) : ∃ b, v = .bool b := okWide_bool hu h

theorem cell_int {W : World} {base : Nat} {t : TypeId} {k : IntKind} {v : Value} (hu : P.underlying t = some (.int k)) (h : Cell.okWide P W .any base t v) : ∃ n, v = .int k n ∧ k.min ≤ n ∧ n ≤ k.max := by
  simp only [hu, Cell.okWide] at h
  cases v <;> simp_all [Cell.ok]
  exact h.2

theorem cell_bool {W : World} {base : Nat} {t : TypeId} {v : Value} (hu : P.underlying t = some .bool) (h : Cell.okWide P W .any base t v) : ∃ b, v = .bool b := by
  simp only [hu, Cell.okWide] at h
  cases v <;> simp_all [Cell.ok]

/-- an aggregate: its cells, each of its type -/
theorem ok_agg {W : World} {base : Nat} {t : TypeId} {v : Value} {ts : List TypeId} (ha : aggT P t = some true) (hts : P.cellTypes P.depth t = some ts) (hn : P.cellsOf t = ts.length) (h : Value.okWide P W .any base t v) :
    ∃ cs : List Value, v = .agg cs.toArray ∧ cs.length = ts.length ∧ ∀ (i : Nat) (u : TypeId) (c : Value), ts[i]? = some u → cs[i]? = some c → Cell.okWide P W .any base u c := by
  have key : ∃ cs : Array Value, v = .agg cs ∧ cs.size = P.cellsOf t ∧ Row.okWide P W .any base t cs := by
    unfold aggT at ha
    unfold Value.okWide at h
    split at ha <;> first | (rename_i hu; rw [hu] at h; exact h) | cases ha
  obtain ⟨cs, rfl, hs, ts', h1, _, h3⟩ := key
  rw [hts] at h1
  cases h1
  refine ⟨cs.toList, by simp, by simp [hs, hn], fun i u c hu hc => ?_⟩
  have hi : i < ts.length := by
    rcases Nat.lt_or_ge i ts.length with hl | hl
    · exact hl
    · rw [List.getElem?_eq_none hl] at hu; cases hu
  obtain ⟨u', hu', hok⟩ := h3 i c (by simpa using hc)
  rw [Nat.mod_eq_of_lt hi, hu] at hu'
  cases hu'
  exact hok

end
end Go.Sx

namespace Go.Sx
theorem pureOk_of {C : CallSem} {P : Program} (hC : C.Sound P) (hm : P.follows .mixedOrders = true) {n : Nat} {f : FuncId} {fn : Func} (hf : Enters P f fn) {args : List AV} {z : AV} (h : pureK C P n fn args some = some z) (hls : ∀ c, fn.body = some c → LoopsOk P C.loops c := by exact fun _ _ => LoopsOk.no _ _) : PureOk P f args z := by
  obtain ⟨z', h1, h2⟩ := pureK_sound hC hm hf hls h
  simp only [Option.some.injEq] at h1
  exact h1 ▸ h2
end Go.Sx
