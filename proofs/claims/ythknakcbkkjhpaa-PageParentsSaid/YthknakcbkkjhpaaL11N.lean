/- PageParents: a turn of its loop (chapter 11). -/
import Derived.Test.YthknakcbkkjhpaaL11M
set_option linter.unusedVariables false
set_option linter.unusedSimpArgs false
namespace Go.Proofs.Ythknakcbkkjhpaa
open Go Go.Sx Go.Fx
set_option maxRecDepth 100000
set_option linter.unusedVariables false
set_option linter.unusedSimpArgs false
noncomputable def LP : Code := unl (lpOf Try.f4 0)
theorem nodesP : nodes (Try.f4.body.getD .skip) = [.loop LP] := by kernel_rfl
abbrev kP : List Nat := [4, 5, 6, 8, 9, 10]
abbrev tP : List Nat := [11, 12, 13, 14] ++ (List.range 87).map (· + 34)
def SP (n p0 p1 p2 : Int) (el : TypeId) (o h : Bool) (W : List AV) (b : Bool) (f : Nat → Value) (kids i : Int) : St :=
  ⟨tmF kP tP [.lit (.bool b), i64 n, .ptr 0 0, i64 kids, .vec 0, i64 i] f 146 0, ⟨[some ⟨23, true, [i64 p0, i64 p1, i64 p2]⟩], [some ⟨el, true, c3, 0, o, h, W⟩]⟩⟩
def hitP (T : Lt) (n p0 p1 p2 l x y : Int) : Bool :=
  bif T.ub n l x y (wi (l + 1)) then T.ul n l x y (wi (l + 1)) == p0 && (T.ux n l x y (wi (l + 1)) == p1 && (T.uy n l x y (wi (l + 1)) == p2 && true)) else false
def badP (p0 p1 p2 l x y : Int) : Bool := bif (bif l != wi (p0 - 1) then true else wi (x.tdiv 2) != p1) then true else wi (y.tdiv 2) != p2
/-- the turn's end: the root is the last one above -/
def r17 {α : Type} (T : Lt) (n l x y : Int) (W : List AV) (i : Int) (B G : α) : Option α :=
  ix W i (bif !T.ub n l x y n then some B else (bif !(T.ul n l x y n == T.rt n && (T.ux n l x y n == 0 && (T.uy n l x y n == 0 && true))) then some B else some G))
def turnP {α : Type} (T : Lt) (n p0 p1 p2 l x y : Int) (W : List AV) (i : Int) (B0 B1 G0 G1 : α) : Option α :=
  ix W i (ix W i (ix W i (bif T.ub n l x y (wi (l + 1)) != decide (l < n) then some B0 else
    bif hitP T n p0 p1 p2 l x y then ix W i (ix W i (ix W i (bif badP p0 p1 p2 l x y then some B1 else r17 T n l x y W i B1 G1))) else r17 T n l x y W i B0 G0)))
theorem rawP (T : Lt) (n p0 p1 p2 : Int) (el : TypeId) (o h : Bool) (W : List AV) (b : Bool) (f : Nat → Value) (kids i : Int) : turnK (cL0 T).withJoin Try.prog 1 LP kP tP 1 1 (SP n p0 p1 p2 el o h W b f kids i) =
    (bif decide (i < (W.length : Int)) then turnP T n p0 p1 p2 (cI (W.getD i.toNat .bad) 0) (cI (W.getD i.toNat .bad) 1) (cI (W.getD i.toNat .bad) 2) W i
      (.ret, SP n p0 p1 p2 el o h W false f kids i) (.ret, SP n p0 p1 p2 el o h W false f (wi (kids + 1)) i) (.normal, SP n p0 p1 p2 el o h W b f kids (wi (i + 1))) (.normal, SP n p0 p1 p2 el o h W b f (wi (kids + 1)) (wi (i + 1)))
    else some (.exit 0, SP n p0 p1 p2 el o h W b f kids i)) := by kernel_rfl
def okP (T : Lt) (n p0 p1 p2 : Int) (A : AV) : Bool :=
  (T.ub n (cI A 0) (cI A 1) (cI A 2) (wi (cI A 0 + 1)) == decide (cI A 0 < n)) && !(hitP T n p0 p1 p2 (cI A 0) (cI A 1) (cI A 2) && badP p0 p1 p2 (cI A 0) (cI A 1) (cI A 2)) &&
    T.ub n (cI A 0) (cI A 1) (cI A 2) n && (T.ul n (cI A 0) (cI A 1) (cI A 2) n == T.rt n && (T.ux n (cI A 0) (cI A 1) (cI A 2) n == 0 && T.uy n (cI A 0) (cI A 1) (cI A 2) n == 0))
def hitA (T : Lt) (n p0 p1 p2 : Int) (A : AV) : Bool := hitP T n p0 p1 p2 (cI A 0) (cI A 1) (cI A 2)
theorem turnP_ok {α : Type} {T : Lt} {n p0 p1 p2 : Int} {W : List AV} {j : Nat} (hj : j < W.length) (h : okP T n p0 p1 p2 (W.getD j .bad) = true) (B0 B1 G0 G1 : α) :
    turnP T n p0 p1 p2 (cI (W.getD j .bad) 0) (cI (W.getD j .bad) 1) (cI (W.getD j .bad) 2) W j B0 B1 G0 G1 = some (bif hitA T n p0 p1 p2 (W.getD j .bad) then G1 else G0) := by
  unfold okP at h
  simp only [Bool.and_eq_true, beq_iff_eq, Bool.not_eq_true'] at h
  obtain ⟨⟨⟨h1, h2⟩, h3⟩, h4, h5, h6⟩ := h
  unfold turnP r17 hitA
  simp only [ix_in hj]
  rw [h1, h3, h4, h5, h6]
  simp only [bne_self_eq_false, cond_false, Bool.not_true, beq_self_eq_true, Bool.and_self, cond_true]
  cases hh : hitP T n p0 p1 p2 (cI (W.getD j .bad) 0) (cI (W.getD j .bad) 1) (cI (W.getD j .bad) 2)
  · rfl
  · rw [hh, Bool.true_and] at h2
    rw [h2]; rfl
def kidN (T : Lt) (n p0 p1 p2 : Int) (W : List AV) (j : Nat) : Nat := ((W.take j).filter (hitA T n p0 p1 p2)).length
theorem kidN_le (T : Lt) (n p0 p1 p2 : Int) (W : List AV) (j : Nat) : kidN T n p0 p1 p2 W j ≤ W.length := by
  unfold kidN
  refine Nat.le_trans (List.length_filter_le _ _) ?_
  rw [List.length_take]; omega
theorem kidN_succ (T : Lt) (n p0 p1 p2 : Int) (W : List AV) {j : Nat} (h : j < W.length) : kidN T n p0 p1 p2 W (j + 1) = kidN T n p0 p1 p2 W j + (bif hitA T n p0 p1 p2 (W.getD j .bad) then 1 else 0) := by
  unfold kidN
  rw [List.take_succ_eq_append_getElem h, List.filter_append, List.length_append]
  have e : W.getD j .bad = W[j] := by simp [List.getD, h]
  rw [e]
  cases hh : hitA T n p0 p1 p2 W[j] <;> simp [hh]
theorem stepP {T : Lt} {n p0 p1 p2 : Int} (el : TypeId) (o h : Bool) {W : List AV} (hW : W.all (okP T n p0 p1 p2) = true) (hL : W.length ≤ 16384) (b : Bool) (f : Nat → Value) {j : Nat} (hj : j < W.length) :
    turnK (cL0 T).withJoin Try.prog 1 LP kP tP 1 1 (SP n p0 p1 p2 el o h W b f (kidN T n p0 p1 p2 W j : Nat) (j : Nat)) = some (.normal, SP n p0 p1 p2 el o h W b f (kidN T n p0 p1 p2 W (j + 1) : Nat) ((j + 1 : Nat) : Int)) := by
  have hk := kidN_le T n p0 p1 p2 W j
  have e0 : okP T n p0 p1 p2 (W.getD j .bad) = true := by
    rw [List.all_eq_true] at hW
    refine hW _ ?_
    simp [List.getD, hj]
  rw [rawP, decide_eq_true (by omega), cond_true]
  simp only [Int.toNat_natCast]
  rw [turnP_ok hj e0, wi_id (by omega) (by omega), wi_id (by omega) (by omega), kidN_succ T n p0 p1 p2 W hj]
  cases hitA T n p0 p1 p2 (W.getD j .bad)
  · simp only [cond_false, Nat.add_zero]
    rw [show ((j : Nat) : Int) + 1 = ((j + 1 : Nat) : Int) by omega]
  · simp only [cond_true]
    rw [show ((j : Nat) : Int) + 1 = ((j + 1 : Nat) : Int) by omega, show ((kidN T n p0 p1 p2 W j : Nat) : Int) + 1 = ((kidN T n p0 p1 p2 W j + 1 : Nat) : Int) by omega]
theorem loopP {T : Lt} (hC : ((cL0 T).withJoin).Sound Try.prog) {n p0 p1 p2 : Int} (el : TypeId) (o h : Bool) {W : List AV} (hW : W.all (okP T n p0 p1 p2) = true) (hL : W.length ≤ 16384) (b : Bool) (f : Nat → Value) (j : Nat) (hi : j ≤ W.length) :
    CodeOkN 1 1 Try.prog (.loop LP) (SP n p0 p1 p2 el o h W b f (kidN T n p0 p1 p2 W j : Nat) (j : Nat)) (.exit 0) (SP n p0 p1 p2 el o h W b f (kidN T n p0 p1 p2 W W.length : Nat) (W.length : Nat)) := by
  refine loop_ok (fun j : Nat => SP n p0 p1 p2 el o h W b f (kidN T n p0 p1 p2 W j : Nat) (j : Nat)) (fun _ => (.exit 0, SP n p0 p1 p2 el o h W b f (kidN T n p0 p1 p2 W W.length : Nat) (W.length : Nat))) (fun j => if j < W.length then some (j + 1) else none)
    (fun j => W.length - j) (fun j => j ≤ W.length) ?_ ?_ j hi
  · intro j h1 hn
    refine ⟨fun e => (by cases e), ?_⟩
    have hj : j = W.length := by
      by_cases h : j < W.length
      · simp [h] at hn
      · omega
    subst hj
    exact turn_ok hC mixed (LoopsOk.no _ _) rfl rfl (by rw [rawP, decide_eq_false (by omega), cond_false]; rfl)
  · intro j s' h1 hn
    by_cases h2 : j < W.length
    · simp only [h2, if_true, Option.some.injEq] at hn
      subst hn
      exact ⟨by omega, by omega, rfl, turn_ok hC mixed (LoopsOk.no _ _) rfl rfl (stepP el o h hW hL b f h2)⟩
    · simp [h2] at hn
def gP (T : Lt) (n p0 p1 p2 : Int) (W : List AV) : Bool := W.all (okP T n p0 p1 p2) && decide (W.length ≤ 16384)
def cntP (T : Lt) (n p0 p1 p2 : Int) (W : List AV) : Int := ((W.filter (hitA T n p0 p1 p2)).length : Nat)
def LPs (T : Lt) : LSpec where
  n := 146
  nils := []
  keep := kP
  touch := tP
  run kv M k := match kv, M with
    | [.lit (.bool b), .lit (.int .i64 n), .ptr b0 q0, .lit (.int .i64 kids), .vec h0, .lit (.int .i64 i)], ⟨[some ⟨t0, true, [.lit (.int .i64 p0), .lit (.int .i64 p1), .lit (.int .i64 p2)]⟩], [some ⟨el, true, sh, tr, o, h, W⟩]⟩ =>
      bif decide (b0 = 0) && decide (q0 = 0) && decide (h0 = 0) && decide (t0 = 23) && decide (tr = 0) && decide (sh = c3) && decide (kids = 0) && decide (i = 0) && gP T n p0 p1 p2 W then
        k (.exit 0) [.lit (.bool b), i64 n, .ptr 0 0, i64 (cntP T n p0 p1 p2 W), .vec 0, i64 (W.length : Nat)] ⟨[some ⟨23, true, [i64 p0, i64 p1, i64 p2]⟩], [some ⟨el, true, c3, 0, o, h, W⟩]⟩
      else none
    | _, _ => none
theorem LPs_ok {T : Lt} (hC : ((cL0 T).withJoin).Sound Try.prog) : (LPs T).Ok Try.prog (.loop LP) := by
  intro R kv M k r h
  simp only [LPs] at h
  split at h
  · rename_i b n b0 q0 kids h0 i t0 p0 p1 p2 el sh tr o hh W
    simp only [cond_eq_ite, Bool.and_eq_true, decide_eq_true_eq] at h
    split at h
    · rename_i hc
      obtain ⟨⟨⟨⟨⟨⟨⟨⟨rfl, rfl⟩, rfl⟩, rfl⟩, rfl⟩, rfl⟩, rfl⟩, rfl⟩, hg⟩ := hc
      simp only [gP, Bool.and_eq_true, decide_eq_true_eq] at hg
      refine ⟨_, _, _, h, fun f => ?_⟩
      have := loopP hC el o hh hg.1 hg.2 b f 0 (Nat.zero_le _)
      have e0 : ((kidN T n p0 p1 p2 W 0 : Nat) : Int) = 0 := by simp [kidN]
      have e1 : ((kidN T n p0 p1 p2 W W.length : Nat) : Int) = cntP T n p0 p1 p2 W := by simp [kidN, cntP]
      rw [e0, e1] at this
      exact CodeOkN.full this rfl
    · cases h
  · cases h
def cPP (T : Lt) (n0 : Int) (W : List AV) : CallSem := ((((cLT T W).withSpec 16 (i1S fun d => i64 (cn d))).withSpec 10 (roundN T n0)).withLoops (one 8 (LPs T))).withJoin
theorem cPP_sound (n0 : Int) (W : List AV) : (cPP TR n0 W).Sound Try.prog := CallSem.withJoin_sound (CallSem.withLoops_sound (CallSem.withSpec_sound (CallSem.withSpec_sound (cLT_sound W) ok16) (roundN_ok n0)) _)
theorem cPP_loops (n0 : Int) (W : List AV) : ∀ c, Try.f4.body = some c → LoopsOk Try.prog (cPP TR n0 W).loops c := one_ok nodesP (LPs_ok (CallSem.withJoin_sound cL0_sound))
end Go.Proofs.Ythknakcbkkjhpaa
