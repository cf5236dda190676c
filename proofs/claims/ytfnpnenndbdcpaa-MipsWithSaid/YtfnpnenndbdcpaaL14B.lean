/- Paint (chapter 14). -/
import Derived.Test.YtfnpnenndbdcpaaL14A
set_option linter.unusedVariables false
set_option linter.unusedSimpArgs false
namespace Go.Proofs.Ytfnpnenndbdcpaa
open Go Go.Sx Go.Fx
set_option maxRecDepth 100000
set_option linter.unusedVariables false
set_option linter.unusedSimpArgs false
theorem s7 : Sx.Enters Try.prog 7 Try.f7 := ⟨Try.func7, by kernel_rfl, by kernel_rfl⟩
noncomputable def L7 : Code := unl (lpOf Try.f7 0)
theorem nodes7 : nodes (Try.f7.body.getD .skip) = [.loop L7] := by kernel_rfl
abbrev k7 : List Nat := [2, 7, 8, 9, 10]
abbrev t7 : List Nat := [11, 12] ++ (List.range 63).map (· + 22)
abbrev eH (t : Nat) (hd : Bool) (L : List AV) : Option Ent := some ⟨39, true, c4, t, true, hd, L⟩
abbrev eN (el : TypeId) (o2 hd : Bool) (L : List AV) : Option Ent := some ⟨el, false, cN, 0, o2, hd, L⟩
def S7 (el : TypeId) (o2 hd : Bool) (L : List AV) (D : Int) (wr : Bool) (n kind : Int) (f : Nat → Value) (i : Int) (acc : List AV) : St :=
  ⟨tmF k7 t7 [.vec 0, .ptr 0 0, i64 n, i64 kind, i64 i] f 86 0, ⟨[some ⟨24, true, [i64 D, bv wr, .vec 1]⟩], [eN el o2 hd L, eH 1 true acc]⟩⟩
def S70 (el : TypeId) (o2 hd : Bool) (L : List AV) (D : Int) (wr : Bool) (n kind : Int) (f : Nat → Value) : St :=
  ⟨tmF k7 t7 [.vec 0, .ptr 0 0, i64 n, i64 kind, i64 0] f 86 0, ⟨[some ⟨24, true, [i64 D, bv wr, .lit nilV]⟩], [eN el o2 hd L]⟩⟩
theorem raw7 (el : TypeId) (o2 hd : Bool) (L : List AV) (D : Int) (wr : Bool) (n kind : Int) (f : Nat → Value) (i : Int) (acc : List AV) : turnK cP Try.prog 1 L7 k7 t7 1 1 (S7 el o2 hd L D wr n kind f i acc) =
    bif decide (i < wi (n * n)) then (if n = 0 then none else if n = 0 then none else
      bif kind == 0 then (bif gN i 1000 then (bif decide (acc.length + 1 ≤ 65536) && true && true && true && true then some (.normal, S7 el o2 hd L D wr n kind f (wi (i + 1)) (acc ++ [shA (atZ L i 1000)])) else none) else none) else
      bif kind == 1 then (bif decide (acc.length + 1 ≤ 65536) && true && true && true && true then some (.normal, S7 el o2 hd L D wr n kind f (wi (i + 1)) (acc ++ [shA ((wi (wi ((i.tmod n).tdiv 3) + wi ((wi (i.tdiv n)).tdiv 2))).tmod 5)])) else none) else
      bif kind == 2 then (bif decide (acc.length + 1 ≤ 65536) && true && true && true && true then some (.normal, S7 el o2 hd L D wr n kind f (wi (i + 1)) (acc ++ [col (wb (wi (i.tmod n * 8))) (wb (wi (wi (i.tdiv n) * 8))) (wb (xr (i.tmod n) (wi (i.tdiv n)))) 255])) else none) else
      (bif decide (acc.length + 1 ≤ 65536) && true && true && true && true then some (.normal, S7 el o2 hd L D wr n kind f (wi (i + 1)) (acc ++ [shA 7])) else none)) else some (.exit 0, S7 el o2 hd L D wr n kind f i acc) := by kernel_rfl
theorem raw70 (el : TypeId) (o2 hd : Bool) (L : List AV) (D : Int) (wr : Bool) (n kind : Int) (f : Nat → Value) : turnK cP Try.prog 1 L7 k7 t7 1 1 (S70 el o2 hd L D wr n kind f) =
    bif decide (0 < wi (n * n)) then (if n = 0 then none else if n = 0 then none else
      bif kind == 0 then some (.normal, S7 el o2 hd L D wr n kind f 1 ([shA (atZ L 0 1000)])) else
      bif kind == 1 then some (.normal, S7 el o2 hd L D wr n kind f 1 ([shA ((wi (wi (((0:Int).tmod n).tdiv 3) + wi ((wi ((0:Int).tdiv n)).tdiv 2))).tmod 5)])) else
      bif kind == 2 then some (.normal, S7 el o2 hd L D wr n kind f 1 ([col (wb (wi ((0:Int).tmod n * 8))) (wb (wi (wi ((0:Int).tdiv n) * 8))) (wb (xr ((0:Int).tmod n) (wi ((0:Int).tdiv n)))) 255])) else
      some (.normal, S7 el o2 hd L D wr n kind f 1 ([shA 7]))) else some (.exit 0, S70 el o2 hd L D wr n kind f) := by kernel_rfl
theorem turn70 (el : TypeId) (o2 hd : Bool) (L : List AV) (D : Int) (wr : Bool) (n kind : Int) (f : Nat → Value) (h1 : 1 ≤ n) (h2 : n ≤ 32) : turnK cP Try.prog 1 L7 k7 t7 1 1 (S70 el o2 hd L D wr n kind f) =
    some (.normal, S7 el o2 hd L D wr n kind f ((0 + 1 : Nat) : Int) (paintL n kind L (0 + 1))) := by
  have hb : 1 ≤ n * n ∧ n * n ≤ 32 * 32 := ⟨by have := Int.mul_le_mul h1 h1 (by omega) (by omega); omega, Int.mul_le_mul h2 h2 (by omega) (by omega)⟩
  rw [raw70, wi_id (n := n * n) (by omega) (by omega), decide_eq_true (by omega), cond_true, if_neg (by omega), if_neg (by omega), paintL_succ]
  unfold pix
  show _ = some (Exit.normal, S7 el o2 hd L D wr n kind f 1 ([] ++ [_]))
  cases kind == 0
  · cases kind == 1
    · cases kind == 2 <;> rfl
    · rfl
  · rfl
theorem turn7 (el : TypeId) (o2 hd : Bool) (L : List AV) (D : Int) (wr : Bool) (n kind : Int) (f : Nat → Value) (j : Nat) (h1 : 1 ≤ n) (h2 : n ≤ 32) (hj : (j : Int) < n * n) : turnK cP Try.prog 1 L7 k7 t7 1 1 (S7 el o2 hd L D wr n kind f (j : Nat) (paintL n kind L j)) =
    some (.normal, S7 el o2 hd L D wr n kind f ((j + 1 : Nat) : Int) (paintL n kind L (j + 1))) := by
  have hb : n * n ≤ 32 * 32 := Int.mul_le_mul h2 h2 (by omega) (by omega)
  rw [raw7, wi_id (n := n * n) (by omega) (by omega), decide_eq_true hj, cond_true, if_neg (by omega), if_neg (by omega), paintL_succ, paintL_len, decide_eq_true (show j + 1 ≤ 65536 by omega), wi_id (n := (j : Int) + 1) (by omega) (by omega), show gN ((j : Nat) : Int) 1000 = true by simp [gN]]
  unfold pix
  simp only [Bool.and_self, cond_true]
  cases kind == 0
  · cases kind == 1
    · cases kind == 2 <;> rfl
    · rfl
  · rfl
theorem end7 (el : TypeId) (o2 hd : Bool) (L : List AV) (D : Int) (wr : Bool) (n kind : Int) (f : Nat → Value) (acc : List AV) (h1 : 1 ≤ n) (h2 : n ≤ 32) : turnK cP Try.prog 1 L7 k7 t7 1 1 (S7 el o2 hd L D wr n kind f (n * n) acc) = some (.exit 0, S7 el o2 hd L D wr n kind f (n * n) acc) := by
  have hb : 1 ≤ n * n ∧ n * n ≤ 32 * 32 := ⟨by have := Int.mul_le_mul h1 h1 (by omega) (by omega); omega, Int.mul_le_mul h2 h2 (by omega) (by omega)⟩
  rw [raw7, wi_id (n := n * n) (by omega) (by omega), decide_eq_false (by omega), cond_false]
def SY7 (el : TypeId) (o2 hd : Bool) (L : List AV) (D : Int) (wr : Bool) (n kind : Int) (f : Nat → Value) : Nat → St
  | 0 => S70 el o2 hd L D wr n kind f
  | j + 1 => S7 el o2 hd L D wr n kind f ((j + 1 : Nat) : Int) (paintL n kind L (j + 1))
theorem loop7 (el : TypeId) (o2 hd : Bool) (L : List AV) (D : Int) (wr : Bool) (n kind : Int) (f : Nat → Value) (h1 : 1 ≤ n) (h2 : n ≤ 32) (j : Nat) (hj : (j : Int) ≤ n * n) :
    CodeOkN 1 1 Try.prog (.loop L7) (SY7 el o2 hd L D wr n kind f j) (.exit 0) (S7 el o2 hd L D wr n kind f (n * n) (paintL n kind L (n * n).toNat)) := by
  have hb : 1 ≤ n * n ∧ n * n ≤ 32 * 32 := ⟨by have := Int.mul_le_mul h1 h1 (by omega) (by omega); omega, Int.mul_le_mul h2 h2 (by omega) (by omega)⟩
  refine loop_ok (SY7 el o2 hd L D wr n kind f) (fun _ => (.exit 0, S7 el o2 hd L D wr n kind f (n * n) (paintL n kind L (n * n).toNat))) (fun j => if (j : Int) < n * n then some (j + 1) else none) (fun j => (n * n).toNat - j) (fun j => (j : Int) ≤ n * n) ?_ ?_ j hj
  · rintro j h hn
    refine ⟨fun e => (by cases e), ?_⟩
    have hjn : (j : Int) = n * n := by
      by_cases hh : (j : Int) < n * n
      · simp [hh] at hn
      · omega
    cases j with
    | zero => omega
    | succ j =>
      refine turn_ok (C := cP) (n := 1) cP_sound mixed (LoopsOk.no _ _) rfl rfl ?_
      show turnK cP Try.prog 1 L7 k7 t7 1 1 (S7 el o2 hd L D wr n kind f ((j + 1 : Nat) : Int) (paintL n kind L (j + 1))) = _
      rw [show (n * n).toNat = j + 1 by omega, hjn]
      exact end7 el o2 hd L D wr n kind f _ h1 h2
  · rintro j s' h hn
    by_cases hh : (j : Int) < n * n
    · simp only [hh, if_true, Option.some.injEq] at hn
      subst hn
      refine ⟨by omega, by omega, rfl, ?_⟩
      cases j with
      | zero => exact turn_ok (C := cP) (n := 1) cP_sound mixed (LoopsOk.no _ _) rfl rfl (turn70 el o2 hd L D wr n kind f h1 h2)
      | succ j => exact turn_ok (C := cP) (n := 1) cP_sound mixed (LoopsOk.no _ _) rfl rfl (turn7 el o2 hd L D wr n kind f (j + 1) h1 h2 hh)
    · simp [hh] at hn
def gP (n : Int) : Bool := decide (1 ≤ n) && decide (n ≤ 32)
def paint_L : LSpec where
  n := 86
  nils := [⟨2, 3, false, cN⟩]
  keep := k7
  touch := t7
  run kv M k := match kv, M with
    | [.vec h0, .ptr b q, .lit (.int .i64 n), .lit (.int .i64 kind), .lit (.int .i64 i)], ⟨[some ⟨bt, true, [.lit (.int .i64 D), .lit (.bool wr), .lit (.slice none 0 0)]⟩], [some ⟨el, false, sh, tr, o2, hd, L⟩]⟩ =>
      bif decide (h0 = 0) && decide (b = 0) && decide (q = 0) && decide (bt = 24) && decide (sh = cN) && decide (tr = 0) && decide (i = 0) && gP n then
        k (.exit 0) [.vec 0, .ptr 0 0, i64 n, i64 kind, i64 (n * n)] ⟨[some ⟨24, true, [i64 D, bv wr, .vec 1]⟩], [eN el o2 hd L, eH 1 true (paintL n kind L (n * n).toNat)]⟩ else none
    | _, _ => none
theorem paint_Lok : paint_L.Ok Try.prog (.loop L7) := by
  intro R kv M k r h
  simp only [paint_L, gP] at h
  split at h
  · rename_i h0 b q n kind i bt D wr el sh tr o2 hd L
    simp only [cond_eq_ite, Bool.and_eq_true, decide_eq_true_eq] at h
    split at h
    · rename_i hc
      obtain ⟨⟨⟨⟨⟨⟨⟨rfl, rfl⟩, rfl⟩, rfl⟩, rfl⟩, rfl⟩, rfl⟩, h1, h2⟩ := hc
      refine ⟨_, _, _, h, fun f => ?_⟩
      have hb : 1 ≤ n * n := by have := Int.mul_le_mul h1 h1 (by omega) (by omega); omega
      exact CodeOkN.full (loop7 el o2 hd L D wr n kind f h1 h2 0 (by omega)) rfl
    · cases h
  · cases h
noncomputable def C7 : CallSem := cP.withLoops (one 5 paint_L)
theorem C7_sound : C7.Sound Try.prog := CallSem.withLoops_sound cP_sound _
theorem C7_loops : ∀ c, Try.f7.body = some c → LoopsOk Try.prog C7.loops c := one_ok nodes7 paint_Lok
def sz (D : Int) : Int := wi (4 * 2 ^ min D.toNat 64)
theorem paint_raw (el : TypeId) (o2 hd : Bool) (L : List AV) (d : Int) (wr : Bool) : fnK C7 Try.prog 2 Try.f7 [i64 d, bv wr, .vec 0] (rN el o2 hd L) [] =
    if rnd d 4 < 0 then none else bif true && true && true && true && true && true && true && true && gP (sz (rnd d 4)) then
      some (.agg [i64 (rnd d 4), bv wr, .vec 1], ⟨[], [eN el o2 hd L, eH 1 true (paintL (sz (rnd d 4)) (atZ L 0 4) L (sz (rnd d 4) * sz (rnd d 4)).toNat)]⟩) else none := by kernel_rfl
theorem paint_raw1 : fnK C7 Try.prog 2 Try.f7 [i64 1, bv true, .sl 0 0 1 1] (bN true [i64 2]) [] = some (.agg [i64 1, bv true, .vec 0], ⟨[none], [eH 0 true (paintL 8 2 [i64 2] 64)]⟩) := by kernel_rfl
def pnt (N : Nat) (n : Int) (L : List AV) : List AV := paintL n (atZ L 0 4) L N
theorem pnt_len (N : Nat) (n : Int) (L : List AV) : (pnt N n L).length = N := paintL_len _ _ _ _
abbrev mP (el : TypeId) (o2 hd : Bool) (L T : List AV) : Mem := ⟨[], [eN el o2 hd L, eH 1 true T]⟩
def paint_M : MSpec := ⟨[⟨2, 3, false, cN⟩], fun args M k => match args, M with
  | [.lit (.int .i64 d), .lit (.bool wr), .vec h0], ⟨[], [some ⟨el, false, sh, tr, o2, hd, L⟩]⟩ =>
    bif decide (h0 = 0) && decide (sh = cN) && decide (tr = 0) then
      (bif rnd d 4 == 0 then k (.agg [i64 0, bv wr, .vec 1]) (mP el o2 hd L (pnt 16 4 L)) else
       bif rnd d 4 == 1 then k (.agg [i64 1, bv wr, .vec 1]) (mP el o2 hd L (pnt 64 8 L)) else
       bif rnd d 4 == 2 then k (.agg [i64 2, bv wr, .vec 1]) (mP el o2 hd L (pnt 256 16 L)) else
        k (.agg [i64 3, bv wr, .vec 1]) (mP el o2 hd L (pnt 1024 32 L))) else none
  | [.lit (.int .i64 d), .lit (.bool wr), .sl b q ln cp], ⟨[some ⟨bt, true, [.lit (.int .i64 a)]⟩], []⟩ =>
    bif decide (b = 0) && decide (q = 0) && decide (ln = 1) && decide (cp = 1) && decide (bt = 3) && decide (a = 2) && decide (d = 1) && decide (wr = true) then k (.agg [i64 1, bv true, .vec 0]) ⟨[none], [eH 0 true (pnt 64 8 [i64 2])]⟩ else none
  | _, _ => none⟩
theorem paint_Mok : paint_M.Ok Try.prog 7 := by
  intro R args M k r h
  simp only [paint_M] at h
  split at h
  · rename_i d wr h0 el sh tr o2 hd L
    simp only [cond_eq_ite, Bool.and_eq_true, decide_eq_true_eq, beq_iff_eq] at h
    split at h
    · rename_i hc
      obtain ⟨⟨rfl, rfl⟩, rfl⟩ := hc
      have hr : 0 ≤ rnd d 4 ∧ rnd d 4 < 4 := by unfold rnd; omega
      have key : ∀ D : Int, rnd d 4 = D → 0 ≤ D → gP (sz D) = true → CallOk Try.prog 7 [i64 d, bv wr, .vec 0] (rN el o2 hd L) (.agg [i64 D, bv wr, .vec 1]) (mP el o2 hd L (paintL (sz D) (atZ L 0 4) L (sz D * sz D).toNat)) := by
        rintro D rfl h0 hg
        exact fn_ok (C := C7) (n := 2) (ts := []) C7_sound mixed s7 C7_loops ((paint_raw el o2 hd L d wr).trans (by rw [if_neg (by omega), hg]; rfl)) rfl
      split at h
      · exact ⟨_, _, h, key 0 (by assumption) (by omega) (by kernel_rfl)⟩
      · split at h
        · exact ⟨_, _, h, key 1 (by assumption) (by omega) (by kernel_rfl)⟩
        · split at h
          · exact ⟨_, _, h, key 2 (by assumption) (by omega) (by kernel_rfl)⟩
          · exact ⟨_, _, h, key 3 (by omega) (by omega) (by kernel_rfl)⟩
    · cases h
  · rename_i d wr b q ln cp bt a
    simp only [cond_eq_ite, Bool.and_eq_true, decide_eq_true_eq] at h
    split at h
    · rename_i hc
      obtain ⟨⟨⟨⟨⟨⟨⟨rfl, rfl⟩, rfl⟩, rfl⟩, rfl⟩, rfl⟩, rfl⟩, rfl⟩ := hc
      exact ⟨_, _, h, fn_ok (C := C7) (n := 2) (ts := []) C7_sound mixed s7 C7_loops paint_raw1 rfl⟩
    · cases h
  · cases h
end Go.Proofs.Ytfnpnenndbdcpaa
