/- MipsWith's loops (chapter 14): over both pyramids, in four forms of memory. -/
import Derived.Test.YtfnpnenndbdcpaaL14M
import Derived.Test.YtfnpnenndbdcpaaL14Q
set_option linter.unusedVariables false
set_option linter.unusedSimpArgs false
namespace Go.Proofs.Ytfnpnenndbdcpaa
open Go Go.Sx Go.Fx
set_option maxRecDepth 100000
set_option linter.unusedVariables false
set_option linter.unusedSimpArgs false
noncomputable def L5n : Code := unl (lpOf Try.f5 0)
noncomputable def L5y : Code := unl (lpOf Try.f5 1)
noncomputable def L5x : Code := unl (lpOf Try.f5 2)
abbrev k5 : List Nat := [8, 10, 12, 13, 15, 16, 17]
abbrev t5x : List Nat := [18] ++ (List.range 94).map (· + 88)
abbrev k5y : List Nat := [8, 10, 12, 13, 15, 16]
abbrev t5y : List Nat := [17, 18] ++ (List.range 105).map (· + 77)
def shl (x n : Int) : Int := wi (x * 2 ^ min n.toNat 64)
/-- does the texel cover one of them? -/
def inB (n x y X Y W H : Int) : Bool := bif (bif (bif decide (shl x n < wi (X + W)) then decide (shl (wi (x + 1)) n > X) else false) then decide (shl y n < wi (Y + H)) else false) then decide (shl (wi (y + 1)) n > Y) else false
def ixS (x y X Y W : Int) : Int := wi (wi (wi (wi (y - Y) * W) + x) - X)
def goX {α : Type} (ok1 ok2 inn : Bool) (A B A0 : AV) (T : List AV) (I n : Int) (bad good : Option α) : Option α :=
  bif !inn then (bif ok1 then (bif ok2 then (bif !eqc A B then bad else
      bif n == 0 then (bif inn then (if 0 ≤ I ∧ I < (T.length : Int) then (if I.toNat < T.length then (bif ok1 then (bif !eqc A0 (Go.Fx.cA (T.getD I.toNat .bad)) then bad else good) else none) else none) else none) else good) else good) else none) else none) else
   bif n == 0 then (bif inn then (if 0 ≤ I ∧ I < (T.length : Int) then (if I.toNat < T.length then (bif ok1 then (bif !eqc A0 (Go.Fx.cA (T.getD I.toNat .bad)) then bad else good) else none) else none) else none) else good) else good
def fineX (inn : Bool) (A B A0 : AV) (T : List AV) (I n : Int) : Bool :=
  (bif inn then true else eqc A B) && (bif n == 0 then (bif inn then decide (0 ≤ I) && decide (I < (T.length : Int)) && eqc A0 (Go.Fx.cA (T.getD I.toNat .bad)) else true) else true)
theorem goX_fine {α : Type} {inn : Bool} {A B A0 : AV} {T : List AV} {I n : Int} {bad good : Option α} (h : fineX inn A B A0 T I n = true) : goX true true inn A B A0 T I n bad good = good := by
  unfold fineX at h
  unfold goX
  cases inn with
  | false =>
    simp only [cond_false, Bool.and_eq_true] at h
    rw [h.1]
    cases n == 0 <;> rfl
  | true =>
    simp only [cond_true, Bool.true_and] at h
    cases hn : n == 0 with
    | false => rfl
    | true =>
      rw [hn] at h
      simp only [cond_true, Bool.and_eq_true, decide_eq_true_eq] at h
      rw [if_pos ⟨h.1.1, h.1.2⟩, if_pos (by omega), h.2]; rfl
def turnX {α : Type} (s n x : Int) (body ex : Option α) : Option α :=
  bif decide (x < s) then (bif decide (x < 32) then (if n < 0 then none else if n < 0 then none else if n < 0 then none else if n < 0 then none else body) else ex) else ex
theorem turnX_in {α : Type} {s n x : Int} {body ex : Option α} (h : x < s) (h32 : s ≤ 32) (hn : 0 ≤ n) : turnX s n x body ex = body := by
  unfold turnX
  rw [decide_eq_true h, decide_eq_true (show x < 32 by omega), if_neg (by omega), if_neg (by omega), if_neg (by omega), if_neg (by omega)]; rfl
theorem turnX_out {α : Type} {s n x : Int} {body ex : Option α} (h : ¬ x < s) : turnX s n x body ex = ex := by
  unfold turnX; rw [decide_eq_false h]; rfl
noncomputable def cX (ok : Int → List (List AV) → Bool) : CallSem := ((CallSem.nil.withRead 15 size_M).withRead 13 (atV ok)).withJoin
theorem cX_sound {ok : Int → List (List AV) → Bool} (hok : ∀ D Ls, ok D Ls = true → okL D Ls = true) : (cX ok).Sound Try.prog := CallSem.withJoin_sound (CallSem.withRead_sound (CallSem.withRead_sound nilS size_Mok) (atV_ok hok))
/-- all is well at a texel -/
def fineT (wr : Bool) (D : Int) (Ls Ls' : List (List AV)) (T : List AV) (X Y W H n y x : Int) : Bool := fineX (inB n x y X Y W H) (txl wr D Ls' n x y) (txl wr D Ls n x y) (txl wr D Ls' 0 x y) T (ixS x y X Y W) n
def fineR (wr : Bool) (D : Int) (Ls Ls' : List (List AV)) (T : List AV) (X Y W H n y : Int) : Bool := (List.range (szl D n).toNat).all fun x : Nat => fineT wr D Ls Ls' T X Y W H n y (x : Int)
def fineA (wr : Bool) (D : Int) (Ls Ls' : List (List AV)) (T : List AV) (X Y W H n : Int) : Bool := (List.range (szl D n).toNat).all fun y : Nat => fineR wr D Ls Ls' T X Y W H n (y : Int)
def gX (ok : Int → List (List AV) → Bool) (wr : Bool) (D : Int) (Ls Ls' : List (List AV)) (T : List AV) (X Y W H n y : Int) : Bool := decide (0 ≤ n) && ok D Ls && ok D Ls' && fineR wr D Ls Ls' T X Y W H n y
def gY (ok : Int → List (List AV) → Bool) (wr : Bool) (D : Int) (Ls Ls' : List (List AV)) (T : List AV) (X Y W H n : Int) : Bool := decide (0 ≤ n) && ok D Ls && ok D Ls' && fineA wr D Ls Ls' T X Y W H n
theorem szl_in {D n : Int} (h0 : 0 ≤ D) (h3 : D ≤ 3) (hn : 0 ≤ n) : 0 ≤ szl D n ∧ szl D n ≤ 32 := by
  by_cases h : D < n
  · unfold szl; rw [decide_eq_true h]; cases decide (n < 0) <;> exact ⟨Int.le_refl 0, by show (0 : Int) ≤ 32; decide⟩
  · have h4 : n = 0 ∨ n = 1 ∨ n = 2 ∨ n = 3 := by omega
    have h5 : D = 0 ∨ D = 1 ∨ D = 2 ∨ D = 3 := by omega
    rcases h4 with rfl | rfl | rfl | rfl <;> rcases h5 with rfl | rfl | rfl | rfl <;> decide
def S5x (M : Mem) (b : Bool) (f : Nat → Value) (n y x : Int) : St := ⟨tmF k5 t5x [.lit (.bool b), .ptr 0 0, .ptr 1 0, .ptr 2 0, i64 n, i64 y, i64 x] f 189 0, M⟩
def S5y (M : Mem) (b : Bool) (f : Nat → Value) (n y : Int) : St := ⟨tmF k5y t5y [.lit (.bool b), .ptr 0 0, .ptr 1 0, .ptr 2 0, i64 n, i64 y] f 189 0, M⟩
/-! depth 0 -/
abbrev XM0 (wr : Bool) (X Y W H : Int) (T : List AV) (L0 L0' : List AV) : Mem := ⟨[pyr true 0 wr (.vec 0) (.sl 3 0 1 1), some ⟨57, true, stp X Y W H (.vec 1)⟩, pyr true 0 wr (.vec 2) (.sl 4 0 1 1), some ⟨22, true, [.vec 0]⟩, some ⟨22, true, [.vec 2]⟩], [eH 0 true L0, eH 1 true T, eH 2 true L0']⟩
theorem rawx0 (ok : Int → List (List AV) → Bool) (wr : Bool) (X Y W H : Int) (T : List AV) (L0 L0' : List AV) (b : Bool) (f : Nat → Value) (n y x : Int) : turnK (cX ok) Try.prog 1 L5x k5 t5x 5 3 (S5x (XM0 wr X Y W H T L0 L0') b f n y x) =
    turnX (szl 0 n) n x (goX (ok 0 [L0']) (ok 0 [L0]) (inB n x y X Y W H) (txl wr 0 [L0'] n x y) (txl wr 0 [L0] n x y) (txl wr 0 [L0'] 0 x y) T (ixS x y X Y W) n (some (Exit.ret, S5x (XM0 wr X Y W H T L0 L0') false f n y x)) (some (Exit.normal, S5x (XM0 wr X Y W H T L0 L0') b f n y (wi (x + 1))))) (some (Exit.exit 4, S5x (XM0 wr X Y W H T L0 L0') b f n y x)) := by kernel_rfl
theorem loopx0 {ok : Int → List (List AV) → Bool} (hok : ∀ D Ls, ok D Ls = true → okL D Ls = true) (wr : Bool) (X Y W H : Int) (T : List AV) (L0 L0' : List AV) (b : Bool) (f : Nat → Value) (n y : Int) (hg : gX ok wr 0 [L0] [L0'] T X Y W H n y = true) (j : Nat) (hj : j ≤ (szl 0 n).toNat) :
    CodeOkN 5 3 Try.prog (.loop L5x) (S5x (XM0 wr X Y W H T L0 L0') b f n y (j : Nat)) (.exit 4) (S5x (XM0 wr X Y W H T L0 L0') b f n y (szl 0 n)) := by
  simp only [gX, Bool.and_eq_true, decide_eq_true_eq] at hg
  obtain ⟨⟨⟨hn, hL⟩, hL'⟩, hf⟩ := hg
  obtain ⟨z0, z32⟩ := szl_in (D := 0) (by omega) (by omega) hn
  refine loop_ok (fun j : Nat => S5x (XM0 wr X Y W H T L0 L0') b f n y (j : Nat)) (fun _ => (.exit 4, S5x (XM0 wr X Y W H T L0 L0') b f n y (szl 0 n))) (fun j => if j < (szl 0 n).toNat then some (j + 1) else none) (fun j => (szl 0 n).toNat - j) (fun j => j ≤ (szl 0 n).toNat) ?_ ?_ j hj
  · rintro j h1 hnn
    refine ⟨fun e => (by cases e), ?_⟩
    have hjn : j = (szl 0 n).toNat := by
      by_cases hh : j < (szl 0 n).toNat
      · simp [hh] at hnn
      · omega
    refine turn_ok (C := cX ok) (n := 1) (cX_sound hok) mixed (LoopsOk.no _ _) rfl rfl ?_
    rw [rawx0, turnX_out (by omega), show ((j : Nat) : Int) = szl 0 n by omega]
    rfl
  · rintro j s' h1 hnn
    by_cases hh : j < (szl 0 n).toNat
    · simp only [hh, if_true, Option.some.injEq] at hnn
      subst hnn
      refine ⟨by omega, by omega, rfl, turn_ok (C := cX ok) (n := 1) (cX_sound hok) mixed (LoopsOk.no _ _) rfl rfl ?_⟩
      have hfj : fineT wr 0 [L0] [L0'] T X Y W H n y (j : Nat) = true := by
        unfold fineR at hf
        exact List.all_eq_true.1 hf j (List.mem_range.2 hh)
      rw [rawx0, turnX_in (by omega) z32 hn, hL, hL', goX_fine hfj, wi_id (by omega) (by omega), show ((j : Nat) : Int) + 1 = ((j + 1 : Nat) : Int) by omega]
      rfl
    · simp [hh] at hnn
/-! depth 1 -/
abbrev XM1 (wr : Bool) (X Y W H : Int) (T : List AV) (L0 L1 L0' L1' : List AV) : Mem := ⟨[pyr true 1 wr (.vec 0) (.vec 1), some ⟨57, true, stp X Y W H (.vec 2)⟩, pyr true 1 wr (.vec 3) (.vec 4)], [eH 0 true L0, eLv 1 [.vec 0, .vec 5], eH 2 true T, eH 3 true L0', eLv 4 [.vec 3, .vec 6], eH 5 true L1, eH 6 true L1']⟩
theorem rawx1 (ok : Int → List (List AV) → Bool) (wr : Bool) (X Y W H : Int) (T : List AV) (L0 L1 L0' L1' : List AV) (b : Bool) (f : Nat → Value) (n y x : Int) : turnK (cX ok) Try.prog 1 L5x k5 t5x 3 7 (S5x (XM1 wr X Y W H T L0 L1 L0' L1') b f n y x) =
    turnX (szl 1 n) n x (goX (ok 1 [L0', L1']) (ok 1 [L0, L1]) (inB n x y X Y W H) (txl wr 1 [L0', L1'] n x y) (txl wr 1 [L0, L1] n x y) (txl wr 1 [L0', L1'] 0 x y) T (ixS x y X Y W) n (some (Exit.ret, S5x (XM1 wr X Y W H T L0 L1 L0' L1') false f n y x)) (some (Exit.normal, S5x (XM1 wr X Y W H T L0 L1 L0' L1') b f n y (wi (x + 1))))) (some (Exit.exit 4, S5x (XM1 wr X Y W H T L0 L1 L0' L1') b f n y x)) := by kernel_rfl
theorem loopx1 {ok : Int → List (List AV) → Bool} (hok : ∀ D Ls, ok D Ls = true → okL D Ls = true) (wr : Bool) (X Y W H : Int) (T : List AV) (L0 L1 L0' L1' : List AV) (b : Bool) (f : Nat → Value) (n y : Int) (hg : gX ok wr 1 [L0, L1] [L0', L1'] T X Y W H n y = true) (j : Nat) (hj : j ≤ (szl 1 n).toNat) :
    CodeOkN 3 7 Try.prog (.loop L5x) (S5x (XM1 wr X Y W H T L0 L1 L0' L1') b f n y (j : Nat)) (.exit 4) (S5x (XM1 wr X Y W H T L0 L1 L0' L1') b f n y (szl 1 n)) := by
  simp only [gX, Bool.and_eq_true, decide_eq_true_eq] at hg
  obtain ⟨⟨⟨hn, hL⟩, hL'⟩, hf⟩ := hg
  obtain ⟨z0, z32⟩ := szl_in (D := 1) (by omega) (by omega) hn
  refine loop_ok (fun j : Nat => S5x (XM1 wr X Y W H T L0 L1 L0' L1') b f n y (j : Nat)) (fun _ => (.exit 4, S5x (XM1 wr X Y W H T L0 L1 L0' L1') b f n y (szl 1 n))) (fun j => if j < (szl 1 n).toNat then some (j + 1) else none) (fun j => (szl 1 n).toNat - j) (fun j => j ≤ (szl 1 n).toNat) ?_ ?_ j hj
  · rintro j h1 hnn
    refine ⟨fun e => (by cases e), ?_⟩
    have hjn : j = (szl 1 n).toNat := by
      by_cases hh : j < (szl 1 n).toNat
      · simp [hh] at hnn
      · omega
    refine turn_ok (C := cX ok) (n := 1) (cX_sound hok) mixed (LoopsOk.no _ _) rfl rfl ?_
    rw [rawx1, turnX_out (by omega), show ((j : Nat) : Int) = szl 1 n by omega]
    rfl
  · rintro j s' h1 hnn
    by_cases hh : j < (szl 1 n).toNat
    · simp only [hh, if_true, Option.some.injEq] at hnn
      subst hnn
      refine ⟨by omega, by omega, rfl, turn_ok (C := cX ok) (n := 1) (cX_sound hok) mixed (LoopsOk.no _ _) rfl rfl ?_⟩
      have hfj : fineT wr 1 [L0, L1] [L0', L1'] T X Y W H n y (j : Nat) = true := by
        unfold fineR at hf
        exact List.all_eq_true.1 hf j (List.mem_range.2 hh)
      rw [rawx1, turnX_in (by omega) z32 hn, hL, hL', goX_fine hfj, wi_id (by omega) (by omega), show ((j : Nat) : Int) + 1 = ((j + 1 : Nat) : Int) by omega]
      rfl
    · simp [hh] at hnn
/-! depth 2 -/
abbrev XM2 (wr : Bool) (X Y W H : Int) (T : List AV) (L0 L1 L2 L0' L1' L2' : List AV) : Mem := ⟨[pyr true 2 wr (.vec 0) (.vec 1), some ⟨57, true, stp X Y W H (.vec 2)⟩, pyr true 2 wr (.vec 3) (.vec 4)], [eH 0 true L0, eLv 1 [.vec 0, .vec 5, .vec 6], eH 2 true T, eH 3 true L0', eLv 4 [.vec 3, .vec 7, .vec 8], eH 5 true L1, eH 6 true L2, eH 7 true L1', eH 8 true L2']⟩
theorem rawx2 (ok : Int → List (List AV) → Bool) (wr : Bool) (X Y W H : Int) (T : List AV) (L0 L1 L2 L0' L1' L2' : List AV) (b : Bool) (f : Nat → Value) (n y x : Int) : turnK (cX ok) Try.prog 1 L5x k5 t5x 3 9 (S5x (XM2 wr X Y W H T L0 L1 L2 L0' L1' L2') b f n y x) =
    turnX (szl 2 n) n x (goX (ok 2 [L0', L1', L2']) (ok 2 [L0, L1, L2]) (inB n x y X Y W H) (txl wr 2 [L0', L1', L2'] n x y) (txl wr 2 [L0, L1, L2] n x y) (txl wr 2 [L0', L1', L2'] 0 x y) T (ixS x y X Y W) n (some (Exit.ret, S5x (XM2 wr X Y W H T L0 L1 L2 L0' L1' L2') false f n y x)) (some (Exit.normal, S5x (XM2 wr X Y W H T L0 L1 L2 L0' L1' L2') b f n y (wi (x + 1))))) (some (Exit.exit 4, S5x (XM2 wr X Y W H T L0 L1 L2 L0' L1' L2') b f n y x)) := by kernel_rfl
theorem loopx2 {ok : Int → List (List AV) → Bool} (hok : ∀ D Ls, ok D Ls = true → okL D Ls = true) (wr : Bool) (X Y W H : Int) (T : List AV) (L0 L1 L2 L0' L1' L2' : List AV) (b : Bool) (f : Nat → Value) (n y : Int) (hg : gX ok wr 2 [L0, L1, L2] [L0', L1', L2'] T X Y W H n y = true) (j : Nat) (hj : j ≤ (szl 2 n).toNat) :
    CodeOkN 3 9 Try.prog (.loop L5x) (S5x (XM2 wr X Y W H T L0 L1 L2 L0' L1' L2') b f n y (j : Nat)) (.exit 4) (S5x (XM2 wr X Y W H T L0 L1 L2 L0' L1' L2') b f n y (szl 2 n)) := by
  simp only [gX, Bool.and_eq_true, decide_eq_true_eq] at hg
  obtain ⟨⟨⟨hn, hL⟩, hL'⟩, hf⟩ := hg
  obtain ⟨z0, z32⟩ := szl_in (D := 2) (by omega) (by omega) hn
  refine loop_ok (fun j : Nat => S5x (XM2 wr X Y W H T L0 L1 L2 L0' L1' L2') b f n y (j : Nat)) (fun _ => (.exit 4, S5x (XM2 wr X Y W H T L0 L1 L2 L0' L1' L2') b f n y (szl 2 n))) (fun j => if j < (szl 2 n).toNat then some (j + 1) else none) (fun j => (szl 2 n).toNat - j) (fun j => j ≤ (szl 2 n).toNat) ?_ ?_ j hj
  · rintro j h1 hnn
    refine ⟨fun e => (by cases e), ?_⟩
    have hjn : j = (szl 2 n).toNat := by
      by_cases hh : j < (szl 2 n).toNat
      · simp [hh] at hnn
      · omega
    refine turn_ok (C := cX ok) (n := 1) (cX_sound hok) mixed (LoopsOk.no _ _) rfl rfl ?_
    rw [rawx2, turnX_out (by omega), show ((j : Nat) : Int) = szl 2 n by omega]
    rfl
  · rintro j s' h1 hnn
    by_cases hh : j < (szl 2 n).toNat
    · simp only [hh, if_true, Option.some.injEq] at hnn
      subst hnn
      refine ⟨by omega, by omega, rfl, turn_ok (C := cX ok) (n := 1) (cX_sound hok) mixed (LoopsOk.no _ _) rfl rfl ?_⟩
      have hfj : fineT wr 2 [L0, L1, L2] [L0', L1', L2'] T X Y W H n y (j : Nat) = true := by
        unfold fineR at hf
        exact List.all_eq_true.1 hf j (List.mem_range.2 hh)
      rw [rawx2, turnX_in (by omega) z32 hn, hL, hL', goX_fine hfj, wi_id (by omega) (by omega), show ((j : Nat) : Int) + 1 = ((j + 1 : Nat) : Int) by omega]
      rfl
    · simp [hh] at hnn
/-! depth 3 -/
abbrev XM3 (wr : Bool) (X Y W H : Int) (T : List AV) (L0 L1 L2 L3 L0' L1' L2' L3' : List AV) : Mem := ⟨[pyr true 3 wr (.vec 0) (.vec 1), some ⟨57, true, stp X Y W H (.vec 2)⟩, pyr true 3 wr (.vec 3) (.vec 4)], [eH 0 true L0, eLv 1 [.vec 0, .vec 5, .vec 6, .vec 7], eH 2 true T, eH 3 true L0', eLv 4 [.vec 3, .vec 8, .vec 9, .vec 10], eH 5 true L1, eH 6 true L2, eH 7 true L3, eH 8 true L1', eH 9 true L2', eH 10 true L3']⟩
theorem rawx3 (ok : Int → List (List AV) → Bool) (wr : Bool) (X Y W H : Int) (T : List AV) (L0 L1 L2 L3 L0' L1' L2' L3' : List AV) (b : Bool) (f : Nat → Value) (n y x : Int) : turnK (cX ok) Try.prog 1 L5x k5 t5x 3 11 (S5x (XM3 wr X Y W H T L0 L1 L2 L3 L0' L1' L2' L3') b f n y x) =
    turnX (szl 3 n) n x (goX (ok 3 [L0', L1', L2', L3']) (ok 3 [L0, L1, L2, L3]) (inB n x y X Y W H) (txl wr 3 [L0', L1', L2', L3'] n x y) (txl wr 3 [L0, L1, L2, L3] n x y) (txl wr 3 [L0', L1', L2', L3'] 0 x y) T (ixS x y X Y W) n (some (Exit.ret, S5x (XM3 wr X Y W H T L0 L1 L2 L3 L0' L1' L2' L3') false f n y x)) (some (Exit.normal, S5x (XM3 wr X Y W H T L0 L1 L2 L3 L0' L1' L2' L3') b f n y (wi (x + 1))))) (some (Exit.exit 4, S5x (XM3 wr X Y W H T L0 L1 L2 L3 L0' L1' L2' L3') b f n y x)) := by kernel_rfl
theorem loopx3 {ok : Int → List (List AV) → Bool} (hok : ∀ D Ls, ok D Ls = true → okL D Ls = true) (wr : Bool) (X Y W H : Int) (T : List AV) (L0 L1 L2 L3 L0' L1' L2' L3' : List AV) (b : Bool) (f : Nat → Value) (n y : Int) (hg : gX ok wr 3 [L0, L1, L2, L3] [L0', L1', L2', L3'] T X Y W H n y = true) (j : Nat) (hj : j ≤ (szl 3 n).toNat) :
    CodeOkN 3 11 Try.prog (.loop L5x) (S5x (XM3 wr X Y W H T L0 L1 L2 L3 L0' L1' L2' L3') b f n y (j : Nat)) (.exit 4) (S5x (XM3 wr X Y W H T L0 L1 L2 L3 L0' L1' L2' L3') b f n y (szl 3 n)) := by
  simp only [gX, Bool.and_eq_true, decide_eq_true_eq] at hg
  obtain ⟨⟨⟨hn, hL⟩, hL'⟩, hf⟩ := hg
  obtain ⟨z0, z32⟩ := szl_in (D := 3) (by omega) (by omega) hn
  refine loop_ok (fun j : Nat => S5x (XM3 wr X Y W H T L0 L1 L2 L3 L0' L1' L2' L3') b f n y (j : Nat)) (fun _ => (.exit 4, S5x (XM3 wr X Y W H T L0 L1 L2 L3 L0' L1' L2' L3') b f n y (szl 3 n))) (fun j => if j < (szl 3 n).toNat then some (j + 1) else none) (fun j => (szl 3 n).toNat - j) (fun j => j ≤ (szl 3 n).toNat) ?_ ?_ j hj
  · rintro j h1 hnn
    refine ⟨fun e => (by cases e), ?_⟩
    have hjn : j = (szl 3 n).toNat := by
      by_cases hh : j < (szl 3 n).toNat
      · simp [hh] at hnn
      · omega
    refine turn_ok (C := cX ok) (n := 1) (cX_sound hok) mixed (LoopsOk.no _ _) rfl rfl ?_
    rw [rawx3, turnX_out (by omega), show ((j : Nat) : Int) = szl 3 n by omega]
    rfl
  · rintro j s' h1 hnn
    by_cases hh : j < (szl 3 n).toNat
    · simp only [hh, if_true, Option.some.injEq] at hnn
      subst hnn
      refine ⟨by omega, by omega, rfl, turn_ok (C := cX ok) (n := 1) (cX_sound hok) mixed (LoopsOk.no _ _) rfl rfl ?_⟩
      have hfj : fineT wr 3 [L0, L1, L2, L3] [L0', L1', L2', L3'] T X Y W H n y (j : Nat) = true := by
        unfold fineR at hf
        exact List.all_eq_true.1 hf j (List.mem_range.2 hh)
      rw [rawx3, turnX_in (by omega) z32 hn, hL, hL', goX_fine hfj, wi_id (by omega) (by omega), show ((j : Nat) : Int) + 1 = ((j + 1 : Nat) : Int) by omega]
      rfl
    · simp [hh] at hnn
end Go.Proofs.Ytfnpnenndbdcpaa
