/- StepOf (chapter 14): an update's step. -/
import Derived.Test.YtfnpnenndbdcpaaL14C
set_option linter.unusedVariables false
set_option linter.unusedSimpArgs false
namespace Go.Proofs.Ytfnpnenndbdcpaa
open Go Go.Sx Go.Fx
set_option maxRecDepth 100000
set_option linter.unusedVariables false
set_option linter.unusedSimpArgs false
theorem s22 : Sx.Enters Try.prog 22 Try.f22 := ⟨Try.func22, by kernel_rfl, by kernel_rfl⟩
noncomputable def L22a : Code := unl (lpOf Try.f22 0)
noncomputable def L22 : Code := unl (lpOf Try.f22 1)
abbrev k22 : List Nat := [1, 3, 12, 13]
abbrev t22 : List Nat := (List.range 23).map (· + 94)
/-- a step's cells -/
abbrev stp (X Y W H : Int) (T : AV) : List AV := i64 4 :: List.replicate 16 (i64 0) ++ [.lit nilV, i64 X, i64 Y, i64 W, i64 H, T, i64 0, i64 0]
def S22 (el : TypeId) (o2 hd : Bool) (L : List AV) (X Y W H : Int) (f : Nat → Value) (i : Int) (acc : List AV) : St :=
  ⟨tmF k22 t22 [.vec 0, i64 0, .ptr 0 0, i64 i] f 137 0, ⟨[some ⟨57, true, stp X Y W H (.vec 1)⟩], [eN el o2 hd L, eH 1 true acc]⟩⟩
def S220 (el : TypeId) (o2 hd : Bool) (L : List AV) (X Y W H : Int) (f : Nat → Value) : St :=
  ⟨tmF k22 t22 [.vec 0, i64 0, .ptr 0 0, i64 0] f 137 0, ⟨[some ⟨57, true, stp X Y W H (.lit nilV)⟩], [eN el o2 hd L]⟩⟩
theorem raw22 (el : TypeId) (o2 hd : Bool) (L : List AV) (X Y W H : Int) (f : Nat → Value) (i : Int) (acc : List AV) : turnK cP Try.prog 1 L22 k22 t22 1 1 (S22 el o2 hd L X Y W H f i acc) =
    bif decide (i < wi (W * H)) then (bif gN (wi (4 + i)) 1000 then (bif decide (acc.length + 1 ≤ 65536) && true && true && true && true then some (.normal, S22 el o2 hd L X Y W H f (wi (i + 1)) (acc ++ [shA (atZ L (wi (4 + i)) 1000)])) else none) else none) else some (.exit 3, S22 el o2 hd L X Y W H f i acc) := by kernel_rfl
theorem raw220 (el : TypeId) (o2 hd : Bool) (L : List AV) (X Y W H : Int) (f : Nat → Value) : turnK cP Try.prog 1 L22 k22 t22 1 1 (S220 el o2 hd L X Y W H f) =
    bif decide (0 < wi (W * H)) then some (.normal, S22 el o2 hd L X Y W H f 1 ([shA (atZ L 4 1000)])) else some (.exit 3, S220 el o2 hd L X Y W H f) := by kernel_rfl
def stepL (L : List AV) (N : Nat) : List AV := (List.range N).map fun k : Nat => shA (atZ L (4 + (k : Int)) 1000)
theorem stepL_len (L : List AV) (N : Nat) : (stepL L N).length = N := by simp [stepL]
theorem stepL_succ (L : List AV) (N : Nat) : stepL L (N + 1) = stepL L N ++ [shA (atZ L (4 + (N : Int)) 1000)] := by simp [stepL, List.range_succ]
theorem turn22 (el : TypeId) (o2 hd : Bool) (L : List AV) (X Y W H : Int) (f : Nat → Value) (j N : Nat) (hN : W * H = (N : Nat)) (h16 : N ≤ 16) (hj : j < N) : turnK cP Try.prog 1 L22 k22 t22 1 1 (S22 el o2 hd L X Y W H f (j : Nat) (stepL L j)) =
    some (.normal, S22 el o2 hd L X Y W H f ((j + 1 : Nat) : Int) (stepL L (j + 1))) := by
  rw [raw22, hN, wi_id (n := ((N : Nat) : Int)) (by omega) (by omega), decide_eq_true (by omega), cond_true, wi_id (n := 4 + (j : Int)) (by omega) (by omega), wi_id (n := (j : Int) + 1) (by omega) (by omega), stepL_len, stepL_succ,
    show gN (4 + (j : Int)) 1000 = true by simp [gN]; omega, decide_eq_true (show j + 1 ≤ 65536 by omega)]
  rfl
def SY22 (el : TypeId) (o2 hd : Bool) (L : List AV) (X Y W H : Int) (f : Nat → Value) : Nat → St
  | 0 => S220 el o2 hd L X Y W H f
  | j + 1 => S22 el o2 hd L X Y W H f ((j + 1 : Nat) : Int) (stepL L (j + 1))
theorem loop22 (el : TypeId) (o2 hd : Bool) (L : List AV) (X Y W H : Int) (f : Nat → Value) (N : Nat) (hN : W * H = (N : Nat)) (h1 : 1 ≤ N) (h16 : N ≤ 16) (j : Nat) (hj : j ≤ N) :
    CodeOkN 1 1 Try.prog (.loop L22) (SY22 el o2 hd L X Y W H f j) (.exit 3) (S22 el o2 hd L X Y W H f (N : Nat) (stepL L N)) := by
  refine loop_ok (SY22 el o2 hd L X Y W H f) (fun _ => (.exit 3, S22 el o2 hd L X Y W H f (N : Nat) (stepL L N))) (fun j => if j < N then some (j + 1) else none) (fun j => N - j) (fun j => j ≤ N) ?_ ?_ j hj
  · rintro j h hn
    refine ⟨fun e => (by cases e), ?_⟩
    have hjn : j = N := by
      by_cases hh : j < N
      · simp [hh] at hn
      · omega
    subst hjn
    cases j with
    | zero => omega
    | succ j =>
      refine turn_ok (C := cP) (n := 1) cP_sound mixed (LoopsOk.no _ _) rfl rfl ?_
      show turnK cP Try.prog 1 L22 k22 t22 1 1 (S22 el o2 hd L X Y W H f ((j + 1 : Nat) : Int) (stepL L (j + 1))) = _
      rw [raw22, hN, wi_id (n := (((j + 1 : Nat)) : Int)) (by omega) (by omega), decide_eq_false (by omega)]
      rfl
  · rintro j s' h hn
    by_cases hh : j < N
    · simp only [hh, if_true, Option.some.injEq] at hn
      subst hn
      refine ⟨by omega, by omega, rfl, ?_⟩
      cases j with
      | zero =>
        refine turn_ok (C := cP) (n := 1) cP_sound mixed (LoopsOk.no _ _) rfl rfl ?_
        show turnK cP Try.prog 1 L22 k22 t22 1 1 (S220 el o2 hd L X Y W H f) = _
        rw [raw220, hN, wi_id (n := ((N : Nat) : Int)) (by omega) (by omega), decide_eq_true (by omega)]
        rfl
      | succ j => exact turn_ok (C := cP) (n := 1) cP_sound mixed (LoopsOk.no _ _) rfl rfl (turn22 el o2 hd L X Y W H f (j + 1) N hN h16 hh)
    · simp [hh] at hn
def gS (W H : Int) : Bool := decide (1 ≤ W) && decide (W ≤ 4) && decide (1 ≤ H) && decide (H ≤ 4)
theorem gS_spec {W H : Int} (h : gS W H = true) : W * H = ((W * H).toNat : Nat) ∧ 1 ≤ (W * H).toNat ∧ (W * H).toNat ≤ 16 := by
  simp only [gS, Bool.and_eq_true, decide_eq_true_eq] at h
  obtain ⟨⟨⟨h1, h2⟩, h3⟩, h4⟩ := h
  have a : 1 * 1 ≤ W * H := Int.mul_le_mul h1 h3 (by omega) (by omega)
  have b : W * H ≤ 4 * 4 := Int.mul_le_mul h2 h4 (by omega) (by omega)
  omega
def step_L : LSpec where
  n := 137
  nils := [⟨1, 3, false, cN⟩]
  keep := k22
  touch := t22
  run kv M k := match kv, M with
    | [.vec h0, .lit (.int .i64 z), .ptr b q, .lit (.int .i64 i)], ⟨[some ⟨bt, true, [.lit (.int .i64 c0), .lit (.int .i64 m0), .lit (.int .i64 m1), .lit (.int .i64 m2), .lit (.int .i64 m3), .lit (.int .i64 m4), .lit (.int .i64 m5), .lit (.int .i64 m6), .lit (.int .i64 m7), .lit (.int .i64 m8), .lit (.int .i64 m9), .lit (.int .i64 ma), .lit (.int .i64 mb), .lit (.int .i64 mc), .lit (.int .i64 md), .lit (.int .i64 me), .lit (.int .i64 mf), .lit (.slice none 0 0), .lit (.int .i64 X), .lit (.int .i64 Y), .lit (.int .i64 W), .lit (.int .i64 H), .lit (.slice none 0 0), .lit (.int .i64 n0), .lit (.int .i64 n1)]⟩], [some ⟨el, false, sh, tr, o2, hd, L⟩]⟩ =>
      bif decide (h0 = 0) && decide (z = 0) && decide (b = 0) && decide (q = 0) && decide (bt = 57) && decide (sh = cN) && decide (tr = 0) && decide (i = 0) && decide ([c0, m0, m1, m2, m3, m4, m5, m6, m7, m8, m9, ma, mb, mc, md, me, mf, n0, n1] = 4 :: List.replicate 18 0) && gS W H then
        k (.exit 3) [.vec 0, i64 0, .ptr 0 0, i64 (W * H)] ⟨[some ⟨57, true, stp X Y W H (.vec 1)⟩], [eN el o2 hd L, eH 1 true (stepL L (W * H).toNat)]⟩ else none
    | _, _ => none
theorem step_Lok : step_L.Ok Try.prog (.loop L22) := by
  intro R kv M k r h
  simp only [step_L] at h
  split at h
  · rename_i h0 z b q i bt c0 m0 m1 m2 m3 m4 m5 m6 m7 m8 m9 ma mb mc md me mf X Y W H n0 n1 el sh tr o2 hd L
    rw [cond_eq_ite] at h
    split at h
    · rename_i hc
      simp only [Bool.and_eq_true, decide_eq_true_eq] at hc
      obtain ⟨⟨⟨⟨⟨⟨⟨⟨⟨rfl, rfl⟩, rfl⟩, rfl⟩, rfl⟩, rfl⟩, rfl⟩, rfl⟩, hl⟩, hg⟩ := hc
      simp only [List.replicate, List.cons.injEq, and_true] at hl
      obtain ⟨rfl, rfl, rfl, rfl, rfl, rfl, rfl, rfl, rfl, rfl, rfl, rfl, rfl, rfl, rfl, rfl, rfl, rfl, rfl⟩ := hl
      obtain ⟨e1, e2, e3⟩ := gS_spec hg
      refine ⟨_, _, _, h, fun f => ?_⟩
      have hl0 := loop22 el o2 hd L X Y W H f _ e1 e2 e3 0 (Nat.zero_le _)
      rw [← e1] at hl0
      exact CodeOkN.full hl0 rfl
    · cases h
  · cases h
noncomputable def C22 : CallSem := cP.withLoops (tabL [(18, step_L)])
theorem C22_sound : C22.Sound Try.prog := CallSem.withLoops_sound cP_sound _
theorem C22_loops : ∀ c, Try.f22.body = some c → LoopsOk Try.prog C22.loops c := tab_ok (cs := [.loop L22]) (by kernel_rfl) (by kernel_rfl) ⟨⟨by kernel_rfl, step_Lok⟩, trivial⟩
def min4 (m : Int) : Int := if m < 4 then m else 4
def stX (L : List AV) (n : Int) : Int := atZ L 0 n
def stY (L : List AV) (n : Int) : Int := atZ L 1 n
def stW (L : List AV) (n : Int) : Int := wi (1 + atZ L 2 (min4 (wi (n - stX L n))))
def stH (L : List AV) (n : Int) : Int := wi (1 + atZ L 3 (min4 (wi (n - stY L n))))
def stT (L : List AV) (n : Int) : List AV := stepL L (stW L n * stH L n).toNat
abbrev l5 (a0 a1 a2 a3 a4 : Int) : List AV := [i64 a0, i64 a1, i64 a2, i64 a3, i64 a4]
abbrev stepV (L : List AV) (n : Int) : AV := .agg (stp (stX L n) (stY L n) (stW L n) (stH L n) (.vec 0))
abbrev stepM (L : List AV) (n : Int) : Mem := ⟨[none], [eH 0 true (stT L n)]⟩
def okS (L : List AV) (n : Int) : Bool := gN 2 (min4 (wi (n - stX L n))) && gN 3 (min4 (wi (n - stY L n))) && gS (stW L n) (stH L n)
theorem step_raw0 (a0 a1 a2 a3 a4 : Int) : fnK C22 Try.prog 9 Try.f22 [i64 0, .sl 0 0 5 5, i64 4, i64 0] ⟨[some ⟨3, true, l5 a0 a1 a2 a3 a4⟩], []⟩ [] =
    bif gN 2 (min4 (wi (4 - stX (l5 a0 a1 a2 a3 a4) 4))) then (bif gN 3 (min4 (wi (4 - stY (l5 a0 a1 a2 a3 a4) 4))) then (bif true && gS (stW (l5 a0 a1 a2 a3 a4) 4) (stH (l5 a0 a1 a2 a3 a4) 4) then some (stepV (l5 a0 a1 a2 a3 a4) 4, stepM (l5 a0 a1 a2 a3 a4) 4) else none) else none) else none := by kernel_rfl
theorem step_raw1 (a0 a1 a2 a3 a4 : Int) : fnK C22 Try.prog 9 Try.f22 [i64 1, .sl 0 0 5 5, i64 4, i64 0] ⟨[some ⟨3, true, l5 a0 a1 a2 a3 a4⟩], []⟩ [] =
    bif gN 2 (min4 (wi (8 - stX (l5 a0 a1 a2 a3 a4) 8))) then (bif gN 3 (min4 (wi (8 - stY (l5 a0 a1 a2 a3 a4) 8))) then (bif true && gS (stW (l5 a0 a1 a2 a3 a4) 8) (stH (l5 a0 a1 a2 a3 a4) 8) then some (stepV (l5 a0 a1 a2 a3 a4) 8, stepM (l5 a0 a1 a2 a3 a4) 8) else none) else none) else none := by kernel_rfl
theorem step_raw2 (a0 a1 a2 a3 a4 : Int) : fnK C22 Try.prog 9 Try.f22 [i64 2, .sl 0 0 5 5, i64 4, i64 0] ⟨[some ⟨3, true, l5 a0 a1 a2 a3 a4⟩], []⟩ [] =
    bif gN 2 (min4 (wi (16 - stX (l5 a0 a1 a2 a3 a4) 16))) then (bif gN 3 (min4 (wi (16 - stY (l5 a0 a1 a2 a3 a4) 16))) then (bif true && gS (stW (l5 a0 a1 a2 a3 a4) 16) (stH (l5 a0 a1 a2 a3 a4) 16) then some (stepV (l5 a0 a1 a2 a3 a4) 16, stepM (l5 a0 a1 a2 a3 a4) 16) else none) else none) else none := by kernel_rfl
theorem step_raw3 (a0 a1 a2 a3 a4 : Int) : fnK C22 Try.prog 9 Try.f22 [i64 3, .sl 0 0 5 5, i64 4, i64 0] ⟨[some ⟨3, true, l5 a0 a1 a2 a3 a4⟩], []⟩ [] =
    bif gN 2 (min4 (wi (32 - stX (l5 a0 a1 a2 a3 a4) 32))) then (bif gN 3 (min4 (wi (32 - stY (l5 a0 a1 a2 a3 a4) 32))) then (bif true && gS (stW (l5 a0 a1 a2 a3 a4) 32) (stH (l5 a0 a1 a2 a3 a4) 32) then some (stepV (l5 a0 a1 a2 a3 a4) 32, stepM (l5 a0 a1 a2 a3 a4) 32) else none) else none) else none := by kernel_rfl
theorem atZ_in (L : List AV) (i : Int) {n : Int} (h : 1 ≤ n) : 0 ≤ atZ L i n ∧ atZ L i n < n := by
  unfold atZ
  cases (L.length : Int) == 0
  · exact ⟨Int.emod_nonneg _ (by omega), Int.emod_lt_of_pos _ (by omega)⟩
  · exact ⟨Int.le_refl _, by rw [cond_true]; omega⟩
theorem min4_in {m : Int} (h : 1 ≤ m) : 1 ≤ min4 m ∧ min4 m ≤ 4 ∧ min4 m ≤ m := by unfold min4; split <;> omega
/-- where a step lies -/
theorem step_in (L : List AV) {n : Int} (h1 : 1 ≤ n) (h32 : n ≤ 32) : (0 ≤ stX L n ∧ stX L n + stW L n ≤ n ∧ 1 ≤ stW L n ∧ stW L n ≤ 4) ∧ (0 ≤ stY L n ∧ stY L n + stH L n ≤ n ∧ 1 ≤ stH L n ∧ stH L n ≤ 4) ∧ okS L n = true := by
  have hx := atZ_in L 0 h1
  have hy := atZ_in L 1 h1
  have ex : wi (n - stX L n) = n - stX L n := wi_id (by unfold stX; omega) (by unfold stX; omega)
  have ey : wi (n - stY L n) = n - stY L n := wi_id (by unfold stY; omega) (by unfold stY; omega)
  have mx := min4_in (m := n - stX L n) (by unfold stX; omega)
  have my := min4_in (m := n - stY L n) (by unfold stY; omega)
  have hw := atZ_in L 2 mx.1
  have hh := atZ_in L 3 my.1
  have ew : stW L n = 1 + atZ L 2 (min4 (n - stX L n)) := by unfold stW; rw [ex, wi_id (by omega) (by omega)]
  have eh : stH L n = 1 + atZ L 3 (min4 (n - stY L n)) := by unfold stH; rw [ey, wi_id (by omega) (by omega)]
  have x0 : 0 ≤ stX L n := hx.1
  have y0 : 0 ≤ stY L n := hy.1
  refine ⟨⟨x0, by omega, by omega, by omega⟩, ⟨y0, by omega, by omega, by omega⟩, ?_⟩
  unfold okS gN gS
  rw [ex, ey, decide_eq_true (show (0 : Int) < min4 (n - stX L n) by omega), decide_eq_true (show (0 : Int) < min4 (n - stY L n) by omega), decide_eq_true (show min4 (n - stX L n) ≤ 4294967296 by omega), decide_eq_true (show min4 (n - stY L n) ≤ 4294967296 by omega), decide_eq_true (show 1 ≤ stW L n by omega), decide_eq_true (show stW L n ≤ 4 by omega), decide_eq_true (show 1 ≤ stH L n by omega), decide_eq_true (show stH L n ≤ 4 by omega)]
  rfl
theorem step_fin {α : Type} {L : List AV} {n : Int} {s : α} (h1 : 1 ≤ n) (h32 : n ≤ 32) : (bif gN 2 (min4 (wi (n - stX L n))) then (bif gN 3 (min4 (wi (n - stY L n))) then (bif true && gS (stW L n) (stH L n) then some s else none) else none) else none) = some s := by
  have h := (step_in L h1 h32).2.2
  simp only [okS, Bool.and_eq_true] at h
  rw [h.1.1, h.1.2, h.2]; rfl
def step_M : MSpec := ⟨[], fun args M k => match args, M with
  | [.lit (.int .i64 D), .sl 0 0 5 5, .lit (.int .i64 kd), .lit (.int .i64 i)], ⟨[some ⟨bt, true, [.lit (.int .i64 a0), .lit (.int .i64 a1), .lit (.int .i64 a2), .lit (.int .i64 a3), .lit (.int .i64 a4)]⟩], []⟩ =>
    bif decide (bt = 3) && decide (kd = 4) && decide (i = 0) then
     (bif D == 0 then k (stepV (l5 a0 a1 a2 a3 a4) 4) (stepM (l5 a0 a1 a2 a3 a4) 4) else
      bif D == 1 then k (stepV (l5 a0 a1 a2 a3 a4) 8) (stepM (l5 a0 a1 a2 a3 a4) 8) else
      bif D == 2 then k (stepV (l5 a0 a1 a2 a3 a4) 16) (stepM (l5 a0 a1 a2 a3 a4) 16) else
      bif D == 3 then k (stepV (l5 a0 a1 a2 a3 a4) 32) (stepM (l5 a0 a1 a2 a3 a4) 32) else none) else none
  | _, _ => none⟩
theorem step_Mok : step_M.Ok Try.prog 22 := by
  intro R args M k r h
  simp only [step_M] at h
  split at h
  · rename_i D kd i bt a0 a1 a2 a3 a4
    simp only [cond_eq_ite, Bool.and_eq_true, decide_eq_true_eq, beq_iff_eq] at h
    split at h
    · rename_i hc
      obtain ⟨⟨rfl, rfl⟩, rfl⟩ := hc
      split at h
      · rename_i hd; subst hd
        exact ⟨_, _, h, fn_ok (C := C22) (n := 9) (ts := []) C22_sound mixed s22 C22_loops ((step_raw0 a0 a1 a2 a3 a4).trans (step_fin (by omega) (by omega))) rfl⟩
      · split at h
        · rename_i hd; subst hd
          exact ⟨_, _, h, fn_ok (C := C22) (n := 9) (ts := []) C22_sound mixed s22 C22_loops ((step_raw1 a0 a1 a2 a3 a4).trans (step_fin (by omega) (by omega))) rfl⟩
        · split at h
          · rename_i hd; subst hd
            exact ⟨_, _, h, fn_ok (C := C22) (n := 9) (ts := []) C22_sound mixed s22 C22_loops ((step_raw2 a0 a1 a2 a3 a4).trans (step_fin (by omega) (by omega))) rfl⟩
          · split at h
            · rename_i hd; subst hd
              exact ⟨_, _, h, fn_ok (C := C22) (n := 9) (ts := []) C22_sound mixed s22 C22_loops ((step_raw3 a0 a1 a2 a3 a4).trans (step_fin (by omega) (by omega))) rfl⟩
            · cases h
    · cases h
  · cases h
end Go.Proofs.Ytfnpnenndbdcpaa
