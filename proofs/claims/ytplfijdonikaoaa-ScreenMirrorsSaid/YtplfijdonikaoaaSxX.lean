import Derived.Test.YtplfijdonikaoaaSxW
set_option linter.unusedVariables false
set_option linter.unusedSimpArgs false
namespace Go.Sx
open Go Go.RowKit

/-! What a function hands back, told by few names. -/

def nilZ (ts : List NilT) (z : AV) (M : Mem) : AV × Mem := match z with
  | .tup vs => match nilify ts vs M with
    | (vs', M') => (.tup vs', M')
  | z => match nilify ts [z] M with
    | ([z'], M') => (z', M')
    | _ => (z, M)
theorem nilZ_sound (ts : List NilT) {E : Env} {w0 : Bs} {w : World} {M : Mem} {z : AV} (hR : RepM E w0 M w) (hs : z.sc M.blks.length M.vecs.length = true) (hl : z.lv M.live = true) :
    ∃ E', Step E M E' (nilZ ts z M).2 ∧ RepM E' w0 (nilZ ts z M).2 w ∧ RelS E' (nilZ ts z M).2 (nilZ ts z M).1 (z.conc E) := by
  have one : ∃ E', Step E M E' (nilify ts [z] M).2 ∧ RepM E' w0 (nilify ts [z] M).2 w ∧ RelL E' (nilify ts [z] M).2 (nilify ts [z] M).1 [z.conc E] :=
    nilify_sound ts [z] [z.conc E] hR (relL_conc (l := [z]) (by simp [scL, hs]))
  have fin : ∀ z, (∃ E', Step E M E' (nilify ts [z] M).2 ∧ RepM E' w0 (nilify ts [z] M).2 w ∧ RelL E' (nilify ts [z] M).2 (nilify ts [z] M).1 [z.conc E]) → z.sc M.blks.length M.vecs.length = true → z.lv M.live = true →
      ∃ E', Step E M E' (match nilify ts [z] M with
    | ([z'], M') => (z', M')
    | _ => (z, M)).2 ∧ RepM E' w0 (match nilify ts [z] M with
    | ([z'], M') => (z', M')
    | _ => (z, M)).2 w ∧ RelS E' (match nilify ts [z] M with
    | ([z'], M') => (z', M')
    | _ => (z, M)).2 (match nilify ts [z] M with
    | ([z'], M') => (z', M')
    | _ => (z, M)).1 (z.conc E) := by
    intro z hz hs hl
    obtain ⟨E', h1, h2, h3⟩ := hz
    split
    · rename_i z' M' he
      rw [he] at h1 h2 h3
      exact ⟨E', h1, h2, h3.at_ 0 z' _ rfl rfl⟩
    · exact ⟨E, Step.refl E M, hR, hs, fun _ => rfl⟩
  cases z with
  | tup vs =>
    simp only [nilZ]
    simp only [AV.sc] at hs
    obtain ⟨E', h1, h2, h3⟩ := nilify_sound ts vs (concL E vs) hR (relL_conc hs)
    refine ⟨E', h1, h2, ?_, fun hlv => ?_⟩
    · simp only [AV.sc]; exact scL_rel' h3
    · simp only [AV.lv] at hlv
      simp only [AV.conc]
      rw [concL_rel' h3 hlv]
  | lit v => exact fin _ one hs hl
  | agg v => exact fin _ one hs hl
  | ptr b o => exact fin _ one hs hl
  | sl b o l c => exact fin _ one hs hl
  | fn f c => exact fin _ one hs hl
  | vec h => exact fin _ one hs hl
  | vptr h i z j => exact fin _ one hs hl
  | bad => exact fin _ one hs hl

def normC {R : Type} (nb mv : Nat) (ts : List NilT) (z : AV) (M : Mem) (k : AV → Mem → Option R) : Option R :=
  match nilZ ts z M with
  | (z1, M1) => match reach M1 200 (z1.names ++ (namesB nb M1.blks ++ namesV mv M1.vecs)) (iota nb 0) (iota mv 0) with
    | (pb, pv) => bif nodupB pb && iotaB nb 0 pb && iotaB mv 0 pv then k (z1.ren (invB pb) (invB pv)) (pickM M1 pb pv) else none
/-- a function's reckoning: what it hands back, and what stands then -/
def fnK (C : CallSem) (P : Program) (n : Nat) (fn : Func) (args : List AV) (M : Mem) (ts : List NilT) : Option (AV × Mem) :=
  bodyK C P n fn args M fun z M1 => normC M.blks.length M.vecs.length ts z M1 fun z' M' => some (z', M')

theorem fn_ok {C : CallSem} {P : Program} (hC : C.Sound P) (hm : P.follows .mixedOrders = true) {n : Nat} {f : FuncId} {fn : Func} (hf : Enters P f fn) (hls : ∀ c, fn.body = some c → LoopsOk P C.loops c) {args : List AV} {M : Mem} {ts : List NilT} {z' : AV} {M' : Mem}
    (h : fnK C P n fn args M ts = some (z', M')) (hle : memLe M M' = true) : CallOk P f args M z' M' := by
  obtain ⟨z, M1, hk, hlz, hc⟩ := bodyK_sound hC hm hf hls h
  unfold normC at hk
  split at hk
  rename_i z1 M2 hnil
  split at hk
  rename_i pb pv _
  simp only [cond_eq_ite, Bool.and_eq_true] at hk
  split at hk
  · rename_i hcc
    obtain ⟨⟨hn, hib⟩, hiv⟩ := hcc
    simp only [Option.some.injEq, Prod.mk.injEq] at hk
    obtain ⟨rfl, rfl⟩ := hk
    intro E w0 w hR hs hl
    obtain ⟨g1, g2⟩ := hc E w0 w hR hs hl
    refine ⟨g1, g2.mono fun e w' ⟨E1, v, q1, q2, q3, q4⟩ => ?_⟩
    obtain ⟨E2, s1, s2, s3⟩ := nilZ_sound ts q4 q3.1 hlz
    rw [hnil] at s1 s2 s3
    simp only at s1 s2 s3
    rw [← q3.2 hlz] at s3
    have hst := q2.trans s1
    refine ⟨pickE E2 pb pv, v, q1, ⟨memLe_spec hle, fun b hb => ?_, fun b hb => ?_⟩, s3.ren (Ren.pick E2 M2 pb pv), s2.pick pv (nodupB_spec hn)⟩
    · have := iotaB_get hib hb
      rw [Nat.zero_add] at this
      simp only [pickE, List.getD, this, Option.getD_some]
      exact hst.env.ρ b hb
    · have := iotaB_get hiv hb
      rw [Nat.zero_add] at this
      simp only [pickE, List.getD, this, Option.getD_some]
      exact hst.env.σ b hb
  · cases hk
/-- what holds where the memory stands holds -/
theorem CallOk.of_rep {P : Program} {f : FuncId} {args : List AV} {M : Mem} {z : AV} {M' : Mem} (h : (∃ E w0 w, RepM E w0 M w) → CallOk P f args M z M') : CallOk P f args M z M' :=
  fun E w0 w hR => h ⟨E, w0, w, hR⟩ E w0 w hR
theorem RepM.shapes_ {E : Env} {w0 : Bs} {M : Mem} {w : World} (h : RepM E w0 M w) {i : Nat} {e : Ent} (he : M.vecs[i]? = some (some e)) : ∀ x, x ∈ e.cont → x.shape e.isAgg e.sh = true := by
  intro x hx
  obtain ⟨j, hj⟩ := List.mem_iff_getElem?.1 hx
  exact h.shape he hj
/-- a reader, walked where it is called -/
def bodyM (C : CallSem) (P : Program) (n : Nat) (fn : Func) (ts : List NilT) : MSpec :=
  ⟨[], fun args M k => match fnK C P n fn args M ts with
    | some (z, M') => bif memLe M M' then k z M' else none
    | none => none⟩
theorem bodyM_ok {C : CallSem} {P : Program} (hC : C.Sound P) (hm : P.follows .mixedOrders = true) (n : Nat) {f : FuncId} {fn : Func} (hf : Enters P f fn) (ts : List NilT) (hls : ∀ c, fn.body = some c → LoopsOk P C.loops c := by exact fun _ _ => LoopsOk.no _ _) : (bodyM C P n fn ts).Ok P f := by
  intro R args M k r h
  unfold bodyM at h
  simp only at h
  split at h
  · rename_i z M' hz
    simp only [cond_eq_ite] at h
    split at h
    · rename_i hle
      exact ⟨z, M', h, fn_ok hC hm hf hls hz hle⟩
    · cases h
  · cases h
end Go.Sx
