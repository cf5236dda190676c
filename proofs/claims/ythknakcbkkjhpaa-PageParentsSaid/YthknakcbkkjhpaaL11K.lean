/- PageTells: two of its stretches (chapter 11). -/
import Derived.Test.YthknakcbkkjhpaaL11J
import Derived.Test.YthknakcbkkjhpaaSxThree
set_option linter.unusedVariables false
set_option linter.unusedSimpArgs false
namespace Go.Proofs.Ythknakcbkkjhpaa
open Go Go.Sx Go.Fx
set_option maxRecDepth 100000
set_option linter.unusedVariables false
set_option linter.unusedSimpArgs false
noncomputable def G6 : Code := regOf Try.f3 6
noncomputable def G18 : Code := regOf Try.f3 18
abbrev k6 : List Nat := [3, 13, 14, 15, 20, 77]
abbrev t6 : List Nat := (List.range 22).map (· + 55)
abbrev k18 : List Nat := [0, 7, 12, 13, 16, 17, 18, 19, 21, 22]
abbrev t18 : List Nat := (List.range 56).map (· + 107)
def S6 (key : Int) (ok is : Bool) (z : AV) (x0 x1 x2 : Int) (el : TypeId) (o h : Bool) (W : List AV) (f : Nat → Value) : St :=
  ⟨tmF k6 t6 [i64 key, .vec 0, .ptr 0 0, .lit (.bool ok), .lit (.bool is), z] f 163 0, ⟨[some ⟨23, true, [i64 x0, i64 x1, i64 x2]⟩], [some ⟨el, true, c3, 0, o, h, W⟩]⟩⟩
theorem raw6t (key : Int) (z : AV) (x0 x1 x2 : Int) (el : TypeId) (o h : Bool) (W : List AV) (f : Nat → Value) : turnK CallSem.nil Try.prog 1 G6 k6 t6 1 1 (S6 key true true z x0 x1 x2 el o h W f) =
    ix W key (bif !(x0 == cI (W.getD key.toNat .bad) 0 && (x1 == cI (W.getD key.toNat .bad) 1 && (x2 == cI (W.getD key.toNat .bad) 2 && true))) then some (.normal, S6 key true true (.lit (.bool true)) x0 x1 x2 el o h W f) else some (.normal, S6 key true true (.lit (.bool false)) x0 x1 x2 el o h W f)) := by kernel_rfl
theorem raw6f (key : Int) (z : AV) (x0 x1 x2 : Int) (el : TypeId) (o h : Bool) (W : List AV) (f : Nat → Value) : turnK CallSem.nil Try.prog 1 G6 k6 t6 1 1 (S6 key false false z x0 x1 x2 el o h W f) =
    some (.normal, S6 key false false (.lit (.bool (!(x0 == 0 && (x1 == 0 && (x2 == 0 && true)))))) x0 x1 x2 el o h W f) := by kernel_rfl
def S18 (d : Int) (z : Bool) (ub ub' : Bool) (k x l0 x0 y0 u0 u1 u2 v0 v1 v2 : Int) (el : TypeId) (o h : Bool) (W : List AV) (f : Nat → Value) : St :=
  ⟨tmF k18 t18 [i64 d, .ptr 0 0, .lit (.bool z), .vec 0, .ptr 1 0, .lit (.bool ub), .ptr 2 0, .lit (.bool ub'), i64 k, i64 x] f 163 0, ⟨[some ⟨23, true, [i64 l0, i64 x0, i64 y0]⟩, some ⟨23, true, [i64 u0, i64 u1, i64 u2]⟩, some ⟨23, true, [i64 v0, i64 v1, i64 v2]⟩], [some ⟨el, true, c3, 0, o, h, W⟩]⟩⟩
def e18 {α : Type} (T : Lt) (d : Int) (ub ub' : Bool) (k x l0 x0 y0 u0 u1 u2 v0 v1 v2 : Int) (W : List AV) (A B : α) : Option α :=
  bif T.vb d l0 x0 y0 == T.vb d l0 x0 y0 then (bif T.kv d l0 x0 y0 == x then (bif T.cn d == (W.length : Int) then (
    bif u0 == v0 && (u1 == v1 && (u2 == v2 && true)) then (
    bif ub == ub' then (bif T.rt d == T.rt d && ((0 : Int) == 0 && ((0 : Int) == 0 && true)) then 
  (bif T.al d (-1) W then (bif T.eq W W then (if 0 ≤ k ∧ k ≤ (W.length : Int) then (bif decide (k < 0) then (bif T.al d k W then (bif T.eq W (cutC (some (i64 k)) k.toNat 0 W) then some A else none) else none)
    else (bif T.al d k (W.take k.toNat) then (bif T.eq (W.take k.toNat) (cutC (some (i64 k)) k.toNat 0 W) then some A else none) else none)) else none) else none) else none) else some B) else some B) else some B) else some B) else some B) else some B
theorem raw18 (T : Lt) (d : Int) (z ub ub' : Bool) (k x l0 x0 y0 u0 u1 u2 v0 v1 v2 : Int) (el : TypeId) (o h : Bool) (W : List AV) (f : Nat → Value) : turnK (cL1 T W) Try.prog 1 G18 k18 t18 3 1 (S18 d z ub ub' k x l0 x0 y0 u0 u1 u2 v0 v1 v2 el o h W f) =
    e18 T d ub ub' k x l0 x0 y0 u0 u1 u2 v0 v1 v2 W (.normal, S18 d true ub ub' k x l0 x0 y0 u0 u1 u2 v0 v1 v2 el o h W f) (.normal, S18 d false ub ub' k x l0 x0 y0 u0 u1 u2 v0 v1 v2 el o h W f) := by kernel_rfl
/-! region 6: what At told is what the list says -/
def g6 (key : Int) (ok is : Bool) (x0 x1 x2 : Int) (W : List AV) : Bool :=
  ok == is && (bif is then decide (0 ≤ key) && decide (key < (W.length : Int)) && (x0 == cI (W.getD key.toNat .bad) 0 && (x1 == cI (W.getD key.toNat .bad) 1 && x2 == cI (W.getD key.toNat .bad) 2)) else x0 == 0 && (x1 == 0 && x2 == 0))
theorem turn6 {key : Int} {ok is : Bool} {x0 x1 x2 : Int} {W : List AV} (hg : g6 key ok is x0 x1 x2 W = true) (z : AV) (el : TypeId) (o h : Bool) (f : Nat → Value) : turnK CallSem.nil Try.prog 1 G6 k6 t6 1 1 (S6 key ok is z x0 x1 x2 el o h W f) = some (.normal, S6 key ok is (.lit (.bool false)) x0 x1 x2 el o h W f) := by
  unfold g6 at hg
  simp only [Bool.and_eq_true, beq_iff_eq] at hg
  obtain ⟨rfl, hg⟩ := hg
  cases ok
  · simp only [cond_false, Bool.and_eq_true, beq_iff_eq] at hg
    obtain ⟨rfl, rfl, rfl⟩ := hg
    rw [raw6f]; rfl
  · simp only [cond_true, Bool.and_eq_true, beq_iff_eq, decide_eq_true_eq] at hg
    obtain ⟨⟨h0, h1⟩, rfl, rfl, rfl⟩ := hg
    rw [raw6t]
    unfold ix
    rw [if_pos (by omega), if_pos (by omega)]
    simp
def L6 : LSpec where
  n := 163
  nils := []
  keep := k6
  touch := t6
  run kv M k := match kv, M with
    | [.lit (.int .i64 key), .vec h0, .ptr b0 q0, .lit (.bool ok), .lit (.bool is), .lit z], ⟨[some ⟨t0, true, [.lit (.int .i64 x0), .lit (.int .i64 x1), .lit (.int .i64 x2)]⟩], [some ⟨el, true, sh, tr, o, h, W⟩]⟩ =>
      bif decide (h0 = 0) && decide (b0 = 0) && decide (q0 = 0) && decide (t0 = 23) && decide (tr = 0) && decide (sh = c3) && g6 key ok is x0 x1 x2 W then
        k .normal [i64 key, .vec 0, .ptr 0 0, .lit (.bool ok), .lit (.bool is), .lit (.bool false)] ⟨[some ⟨23, true, [i64 x0, i64 x1, i64 x2]⟩], [some ⟨el, true, c3, 0, o, h, W⟩]⟩
      else none
    | _, _ => none
theorem L6_ok : L6.Ok Try.prog G6 := by
  intro R kv M k r h
  simp only [L6] at h
  split at h
  · rename_i key h0 b0 q0 ok is z t0 x0 x1 x2 el sh tr o hh W
    simp only [cond_eq_ite, Bool.and_eq_true, decide_eq_true_eq] at h
    split at h
    · rename_i hc
      obtain ⟨⟨⟨⟨⟨⟨rfl, rfl⟩, rfl⟩, rfl⟩, rfl⟩, rfl⟩, hg⟩ := hc
      refine ⟨_, _, _, h, fun f => ?_⟩
      exact CodeOkN.full (turn_ok (nb := 1) (mv := 1) nilS mixed (LoopsOk.no _ _) rfl rfl (turn6 hg (.lit z) el o hh f)) rfl
    · cases h
  · cases h
/-! region 18: all that is told -/
def g18 (T : Lt) (d : Int) (ub ub' : Bool) (k x l0 x0 y0 u0 u1 u2 v0 v1 v2 : Int) (W : List AV) : Bool :=
  decide (T.kv d l0 x0 y0 = x) && decide (T.cn d = (W.length : Int)) && decide (u0 = v0) && decide (u1 = v1) && decide (u2 = v2) && decide (ub = ub') && decide (0 ≤ k) && decide (k ≤ (W.length : Int)) && T.al d (-1) W && T.eq W W && T.al d k (W.take k.toNat) && T.eq (W.take k.toNat) (cutC (some (i64 k)) k.toNat 0 W)
theorem turn18 {T : Lt} {d : Int} {ub ub' : Bool} {k x l0 x0 y0 u0 u1 u2 v0 v1 v2 : Int} {W : List AV} (hg : g18 T d ub ub' k x l0 x0 y0 u0 u1 u2 v0 v1 v2 W = true) {α : Type} (A B : α) : e18 T d ub ub' k x l0 x0 y0 u0 u1 u2 v0 v1 v2 W A B = some A := by
  unfold g18 at hg
  simp only [Bool.and_eq_true, decide_eq_true_eq] at hg
  obtain ⟨⟨⟨⟨⟨⟨⟨⟨⟨⟨⟨rfl, h2⟩, rfl⟩, rfl⟩, rfl⟩, rfl⟩, h3⟩, h4⟩, h5⟩, h6⟩, h7⟩, h8⟩ := hg
  unfold e18
  simp only [h2, h5, h6, h7, h8, beq_self_eq_true, Bool.and_self, cond_true, if_pos (And.intro h3 h4), decide_eq_false (show ¬ k < 0 by omega), cond_false]
def L18 (T : Lt) : LSpec where
  n := 163
  nils := []
  keep := k18
  touch := t18
  run kv M k := match kv, M with
    | [.lit (.int .i64 d), .ptr b0 q0, .lit (.bool z), .vec h0, .ptr b1 q1, .lit (.bool ub), .ptr b2 q2, .lit (.bool ub'), .lit (.int .i64 kk), .lit (.int .i64 x)], ⟨[some ⟨t0, true, [.lit (.int .i64 l0), .lit (.int .i64 x0), .lit (.int .i64 y0)]⟩, some ⟨t1, true, [.lit (.int .i64 u0), .lit (.int .i64 u1), .lit (.int .i64 u2)]⟩, some ⟨t2, true, [.lit (.int .i64 v0), .lit (.int .i64 v1), .lit (.int .i64 v2)]⟩], [some ⟨el, true, sh, tr, o, h, W⟩]⟩ =>
      bif decide (b0 = 0) && decide (q0 = 0) && decide (h0 = 0) && decide (b1 = 1) && decide (q1 = 0) && decide (b2 = 2) && decide (q2 = 0) && decide (t0 = 23) && decide (t1 = 23) && decide (t2 = 23) && decide (tr = 0) && decide (sh = c3) && g18 T d ub ub' kk x l0 x0 y0 u0 u1 u2 v0 v1 v2 W then
        k .normal [i64 d, .ptr 0 0, .lit (.bool true), .vec 0, .ptr 1 0, .lit (.bool ub), .ptr 2 0, .lit (.bool ub'), i64 kk, i64 x] ⟨[some ⟨23, true, [i64 l0, i64 x0, i64 y0]⟩, some ⟨23, true, [i64 u0, i64 u1, i64 u2]⟩, some ⟨23, true, [i64 v0, i64 v1, i64 v2]⟩], [some ⟨el, true, c3, 0, o, h, W⟩]⟩
      else none
    | _, _ => none
theorem L18_ok : (L18 TR).Ok Try.prog G18 := by
  intro R kv M k r h
  simp only [L18] at h
  split at h
  · rename_i d b0 q0 z h0 b1 q1 ub b2 q2 ub' kk x t0 l0 x0 y0 t1 u0 u1 u2 t2 v0 v1 v2 el sh tr o hh W
    simp only [cond_eq_ite, Bool.and_eq_true, decide_eq_true_eq] at h
    split at h
    · rename_i hc
      obtain ⟨⟨⟨⟨⟨⟨⟨⟨⟨⟨⟨⟨rfl, rfl⟩, rfl⟩, rfl⟩, rfl⟩, rfl⟩, rfl⟩, rfl⟩, rfl⟩, rfl⟩, rfl⟩, rfl⟩, hg⟩ := hc
      refine ⟨_, _, _, h, fun f => ?_⟩
      exact CodeOkN.full (turn_ok (nb := 3) (mv := 1) (cL1_sound W) mixed (LoopsOk.no _ _) rfl rfl ((raw18 TR d z ub ub' kk x l0 x0 y0 u0 u1 u2 v0 v1 v2 el o hh W f).trans (turn18 hg _ _))) rfl
    · cases h
  · cases h
/-- At, whatever the number -/
def atJ (T : Lt) : FSpec := ⟨fun args k => match args with
  | [.lit (.int .i64 d), .lit (.int .i64 key)] => k (.tup [.agg [i64 (bif T.rg d key then T.aL d key else 0), i64 (bif T.rg d key then T.aX d key else 0), i64 (bif T.rg d key then T.aY d key else 0)], .lit (.bool (T.rg d key))])
  | _ => none⟩
theorem atJ_ok : (atJ TR).Ok Try.prog 7 := by
  intro R args k r e
  simp only [atJ, TR] at e
  split at e
  · rename_i d key
    have h := at_ok d key
    simp only [atA, atL, atX, atY] at h
    exact ⟨_, e, h⟩
  · cases e
def tabT (T : Lt) : List (Nat × LSpec) := [(1000006, L6), (1000018, L18 T)]
theorem tabT_ok : ∀ c, Try.f3.body = some c → LoopsOk Try.prog (tabL (tabT TR)) c :=
  tab_ok (cs := [G6, G18]) (by kernel_rfl) (by kernel_rfl) ⟨⟨by kernel_rfl, L6_ok⟩, ⟨by kernel_rfl, L18_ok⟩, trivial⟩
def cLP (T : Lt) (W : List AV) : CallSem := (((cL1 T W).withSpec 7 (atJ T)).withLoops (tabL (tabT T))).withJoin
theorem cLP_sound (W : List AV) : (cLP TR W).Sound Try.prog := CallSem.withJoin_sound (CallSem.withLoops_sound (CallSem.withSpec_sound (cL1_sound W) atJ_ok) _)
theorem cLP_loops (W : List AV) : ∀ c, Try.f3.body = some c → LoopsOk Try.prog (cLP TR W).loops c := tabT_ok
end Go.Proofs.Ythknakcbkkjhpaa
