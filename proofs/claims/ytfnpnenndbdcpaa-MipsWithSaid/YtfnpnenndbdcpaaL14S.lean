/- MipsWith's loops as contracts (chapter 14). -/
import Derived.Test.YtfnpnenndbdcpaaL14R
set_option linter.unusedVariables false
set_option linter.unusedSimpArgs false
namespace Go.Proofs.Ytfnpnenndbdcpaa
open Go Go.Sx Go.Fx
set_option maxRecDepth 100000
set_option linter.unusedVariables false
set_option linter.unusedSimpArgs false
/-! what a memory holds -/
def rowE (i : Nat) : Option Ent → Option (List AV)
  | some ⟨el, true, sh, t, true, true, L⟩ => bif decide (el = 39) && decide (sh = c4) && decide (t = i) then some L else none
  | _ => none
theorem rowE_spec {i : Nat} {e : Option Ent} {L : List AV} (h : rowE i e = some L) : e = eH i true L := by
  unfold rowE at h
  split at h
  · simp only [cond_eq_ite, Bool.and_eq_true, decide_eq_true_eq] at h
    split at h
    · rename_i hc
      obtain ⟨⟨rfl, rfl⟩, rfl⟩ := hc
      simp only [Option.some.injEq] at h
      subst h; rfl
    · cases h
  · cases h
def vecsE : List AV → Option (List Nat)
  | [] => some []
  | .vec h :: l => (vecsE l).map (h :: ·)
  | _ => none
theorem vecsE_spec : ∀ {l : List AV} {m : List Nat}, vecsE l = some m → l = m.map .vec
  | [], m, h => by simp only [vecsE, Option.some.injEq] at h; subst h; rfl
  | .vec a :: l, m, h => by
    simp only [vecsE, Option.map_eq_some_iff] at h
    obtain ⟨m', h1, rfl⟩ := h
    rw [vecsE_spec h1]; rfl
  | .lit _ :: _, _, h | .agg _ :: _, _, h | .tup _ :: _, _, h | .ptr _ _ :: _, _, h | .sl _ _ _ _ :: _, _, h | .fn _ _ :: _, _, h | .vptr _ _ _ _ :: _, _, h | .vsl _ _ _ :: _, _, h | .bad :: _, _, h => by cases h
def lvE (i : Nat) (m : List Nat) : Option Ent → Option Unit
  | some ⟨el, false, [.any], t, true, true, c⟩ => (vecsE c).bind fun c => bif decide (el = 22) && decide (t = i) && decide (c = m) then some () else none
  | _ => none
theorem lvE_spec {i : Nat} {m : List Nat} {e : Option Ent} {u : Unit} (h : lvE i m e = some u) : e = eLv i (m.map .vec) := by
  unfold lvE at h
  split at h
  · simp only [Option.bind_eq_some_iff, cond_eq_ite, Bool.and_eq_true, decide_eq_true_eq] at h
    obtain ⟨c, h1, h2⟩ := h
    split at h2
    · rename_i hc
      obtain ⟨⟨rfl, rfl⟩, rfl⟩ := hc
      rw [vecsE_spec h1]
    · cases h2
  · cases h
def pyE (D : Int) (a b : Nat) : Option Blk → Option Bool
  | some ⟨el, true, [.lit (.int .i64 d), .lit (.bool wr), .vec x, .vec y]⟩ => bif decide (el = 65) && decide (d = D) && decide (x = a) && decide (y = b) then some wr else none
  | _ => none
theorem pyE_spec {D : Int} {a b : Nat} {e : Option Blk} {wr : Bool} (h : pyE D a b e = some wr) : e = pyr true D wr (.vec a) (.vec b) := by
  unfold pyE at h
  split at h
  · simp only [cond_eq_ite, Bool.and_eq_true, decide_eq_true_eq] at h
    split at h
    · rename_i hc
      obtain ⟨⟨⟨rfl, rfl⟩, rfl⟩, rfl⟩ := hc
      simp only [Option.some.injEq] at h
      subst h; rfl
    · cases h
  · cases h
def pyE0 (a b : Nat) : Option Blk → Option Bool
  | some ⟨el, true, [.lit (.int .i64 d), .lit (.bool wr), .vec x, .sl y o l c]⟩ => bif decide (el = 65) && decide (d = 0) && decide (x = a) && decide (y = b) && decide (o = 0) && decide (l = 1) && decide (c = 1) then some wr else none
  | _ => none
theorem pyE0_spec {a b : Nat} {e : Option Blk} {wr : Bool} (h : pyE0 a b e = some wr) : e = pyr true 0 wr (.vec a) (.sl b 0 1 1) := by
  unfold pyE0 at h
  split at h
  · simp only [cond_eq_ite, Bool.and_eq_true, decide_eq_true_eq] at h
    split at h
    · rename_i hc
      obtain ⟨⟨⟨⟨⟨⟨rfl, rfl⟩, rfl⟩, rfl⟩, rfl⟩, rfl⟩, rfl⟩ := hc
      simp only [Option.some.injEq] at h
      subst h; rfl
    · cases h
  · cases h
def bE (a : Nat) : Option Blk → Option Unit
  | some ⟨el, true, [.vec x]⟩ => bif decide (el = 22) && decide (x = a) then some () else none
  | _ => none
theorem bE_spec {a : Nat} {e : Option Blk} {u : Unit} (h : bE a e = some u) : e = some ⟨22, true, [.vec a]⟩ := by
  unfold bE at h
  split at h
  · simp only [cond_eq_ite, Bool.and_eq_true, decide_eq_true_eq] at h
    split at h
    · rename_i hc
      obtain ⟨rfl, rfl⟩ := hc
      rfl
    · cases h
  · cases h
def stE (t : Nat) : Option Blk → Option (Int × Int × Int × Int)
  | some ⟨el, true, [.lit (.int .i64 c0), .lit (.int .i64 m0), .lit (.int .i64 m1), .lit (.int .i64 m2), .lit (.int .i64 m3), .lit (.int .i64 m4), .lit (.int .i64 m5), .lit (.int .i64 m6), .lit (.int .i64 m7), .lit (.int .i64 m8), .lit (.int .i64 m9), .lit (.int .i64 ma), .lit (.int .i64 mb), .lit (.int .i64 mc), .lit (.int .i64 md), .lit (.int .i64 me), .lit (.int .i64 mf), .lit (.slice none 0 0), .lit (.int .i64 X), .lit (.int .i64 Y), .lit (.int .i64 W), .lit (.int .i64 H), .vec x, .lit (.int .i64 n0), .lit (.int .i64 n1)]⟩ =>
    bif decide (el = 57) && decide (x = t) && decide ([c0, m0, m1, m2, m3, m4, m5, m6, m7, m8, m9, ma, mb, mc, md, me, mf, n0, n1] = 4 :: List.replicate 18 0) then some (X, Y, W, H) else none
  | _ => none
theorem stE_spec {t : Nat} {e : Option Blk} {X Y W H : Int} (h : stE t e = some (X, Y, W, H)) : e = some ⟨57, true, stp X Y W H (.vec t)⟩ := by
  simp only [stE] at h
  split at h
  · simp only [cond_eq_ite, Bool.and_eq_true, decide_eq_true_eq] at h
    split at h
    · rename_i hc
      obtain ⟨⟨rfl, rfl⟩, hl⟩ := hc
      simp only [List.replicate, List.cons.injEq, and_true] at hl
      obtain ⟨rfl, rfl, rfl, rfl, rfl, rfl, rfl, rfl, rfl, rfl, rfl, rfl, rfl, rfl, rfl, rfl, rfl, rfl, rfl⟩ := hl
      simp only [Option.some.injEq, Prod.mk.injEq] at h
      obtain ⟨rfl, rfl, rfl, rfl⟩ := h
      rfl
    · cases h
  · cases h
def kvX : List AV → Option (Bool × Int × Int × Int)
  | [.lit (.bool b), .ptr 0 0, .ptr 1 0, .ptr 2 0, .lit (.int .i64 n), .lit (.int .i64 y), .lit (.int .i64 x)] => some (b, n, y, x)
  | _ => none
theorem kvX_spec {l : List AV} {b : Bool} {n y x : Int} (h : kvX l = some (b, n, y, x)) : l = [.lit (.bool b), .ptr 0 0, .ptr 1 0, .ptr 2 0, i64 n, i64 y, i64 x] := by
  unfold kvX at h
  split at h
  · simp only [Option.some.injEq, Prod.mk.injEq] at h
    obtain ⟨rfl, rfl, rfl, rfl⟩ := h
    rfl
  · cases h
def kvY : List AV → Option (Bool × Int × Int)
  | [.lit (.bool b), .ptr 0 0, .ptr 1 0, .ptr 2 0, .lit (.int .i64 n), .lit (.int .i64 y)] => some (b, n, y)
  | _ => none
theorem kvY_spec {l : List AV} {b : Bool} {n y : Int} (h : kvY l = some (b, n, y)) : l = [.lit (.bool b), .ptr 0 0, .ptr 1 0, .ptr 2 0, i64 n, i64 y] := by
  unfold kvY at h
  split at h
  · simp only [Option.some.injEq, Prod.mk.injEq] at h
    obtain ⟨rfl, rfl, rfl⟩ := h
    rfl
  · cases h
theorem same_b {a b : Bool} (h : (bif a then b else !b) = true) : a = b := by cases a <;> cases b <;> simp_all
def xm0 (M : Mem) : Option (Bool × Bool × (Int × Int × Int × Int) × List AV × List AV × List AV) := match M.blks, M.vecs with
  | [p, s, q, c1, c2], [v0, v1, v2] => (pyE0 0 3 p).bind fun wr => (stE 1 s).bind fun st => (pyE0 2 4 q).bind fun wr2 => (bE 0 c1).bind fun _ => (bE 2 c2).bind fun _ => (rowE 0 v0).bind fun L0 => (rowE 1 v1).bind fun T => (rowE 2 v2).bind fun L0' => some (wr, wr2, st, T, L0, L0')
  | _, _ => none
theorem xm0_spec {M : Mem} {wr wr2 : Bool} {X Y W H : Int} {T L0 L0' : List AV} (h : xm0 M = some (wr, wr2, (X, Y, W, H), T, L0, L0')) (hw : (bif wr then wr2 else !wr2) = true) : M = (XM0 wr X Y W H T L0 L0') := by
  have hw := same_b hw
  subst hw
  obtain ⟨blks, vecs⟩ := M
  unfold xm0 at h
  dsimp only at h
  split at h
  · simp only [Option.bind_eq_some_iff, Option.some.injEq, Prod.mk.injEq] at h
    obtain ⟨_, g0, ⟨_, _, _, _⟩, g1, _, g2, _, g3, _, g4, _, g5, _, g6, _, g7, rfl, rfl, hst, rfl, rfl, rfl⟩ := h
    simp only [Prod.mk.injEq] at hst
    obtain ⟨rfl, rfl, rfl, rfl⟩ := hst
    rw [pyE0_spec g0, stE_spec g1, pyE0_spec g2, bE_spec g3, bE_spec g4, rowE_spec g5, rowE_spec g6, rowE_spec g7]
    all_goals rfl
  · cases h
def x_L0 (ok : Int → List (List AV) → Bool) : LSpec where
  n := 189
  nils := []
  keep := k5
  touch := t5x
  run kv M k := match kvX kv with
    | some (b, n, y, x) => match xm0 M with
      | some (wr, wr2, (X, Y, W, H), T, L0, L0') => bif decide (x = 0) && (bif wr then wr2 else !wr2) && gX ok wr 0 [L0] [L0'] T X Y W H n y then k (.exit 4) [.lit (.bool b), .ptr 0 0, .ptr 1 0, .ptr 2 0, i64 n, i64 y, i64 (szl 0 n)] (XM0 wr X Y W H T L0 L0') else none
      | none => none
    | none => none
theorem x_Lok0 {ok : Int → List (List AV) → Bool} (hok : ∀ D Ls, ok D Ls = true → okL D Ls = true) : (x_L0 ok).Ok Try.prog (.loop L5x) := by
  intro R kv M k r h
  simp only [x_L0] at h
  split at h
  · rename_i b n y x hkv
    split at h
    · rename_i wr wr2 X Y W H T L0 L0' hM
      rw [cond_eq_ite] at h
      split at h
      · rename_i hc
        rw [Bool.and_eq_true, Bool.and_eq_true] at hc
        obtain ⟨⟨hx, hw⟩, hg⟩ := hc
        have hx := of_decide_eq_true hx
        subst hx
        rw [kvX_spec hkv, xm0_spec hM hw]
        refine ⟨_, _, _, h, fun f => ?_⟩
        exact CodeOkN.full (loopx0 hok wr X Y W H T L0 L0' b f n y hg 0 (Nat.zero_le _)) rfl
      · cases h
    · cases h
  · cases h
noncomputable def cY0 (ok : Int → List (List AV) → Bool) : CallSem := (cX ok).withLoops (tabL [(18, x_L0 ok)])
theorem cY0_sound {ok : Int → List (List AV) → Bool} (hok : ∀ D Ls, ok D Ls = true → okL D Ls = true) : (cY0 ok).Sound Try.prog := CallSem.withLoops_sound (cX_sound hok) _
theorem rawy0 (ok : Int → List (List AV) → Bool) (wr : Bool) (X Y W H : Int) (T : List AV) (L0 L0' : List AV) (b : Bool) (f : Nat → Value) (n y : Int) : turnK (cY0 ok) Try.prog 1 L5y k5y t5y 5 3 (S5y (XM0 wr X Y W H T L0 L0') b f n y) =
    bif decide (y < szl 0 n) then (bif decide (y < 32) then (bif (bif wr then wr else !wr) && gX ok wr 0 [L0] [L0'] T X Y W H n y then some (Exit.normal, S5y (XM0 wr X Y W H T L0 L0') b f n (wi (y + 1))) else none) else some (Exit.exit 2, S5y (XM0 wr X Y W H T L0 L0') b f n y)) else some (Exit.exit 2, S5y (XM0 wr X Y W H T L0 L0') b f n y) := by kernel_rfl
theorem iny0 {ok : Int → List (List AV) → Bool} (hok : ∀ D Ls, ok D Ls = true → okL D Ls = true) : LoopsOk Try.prog (cY0 ok).loops L5y := tab_ok (P := Try.prog) (ts := [(18, x_L0 ok)]) (fn := { Try.f5 with body := some L5y }) (cs := [.loop L5x]) (by kernel_rfl) (by kernel_rfl) ⟨⟨by kernel_rfl, x_Lok0 hok⟩, trivial⟩ L5y rfl
theorem loopy0 {ok : Int → List (List AV) → Bool} (hok : ∀ D Ls, ok D Ls = true → okL D Ls = true) (wr : Bool) (X Y W H : Int) (T : List AV) (L0 L0' : List AV) (b : Bool) (f : Nat → Value) (n : Int) (hg : gY ok wr 0 [L0] [L0'] T X Y W H n = true) (j : Nat) (hj : j ≤ (szl 0 n).toNat) :
    CodeOkN 5 3 Try.prog (.loop L5y) (S5y (XM0 wr X Y W H T L0 L0') b f n (j : Nat)) (.exit 2) (S5y (XM0 wr X Y W H T L0 L0') b f n (szl 0 n)) := by
  simp only [gY, Bool.and_eq_true, decide_eq_true_eq] at hg
  obtain ⟨⟨⟨hn, hL⟩, hL'⟩, hf⟩ := hg
  obtain ⟨z0, z32⟩ := szl_in (D := 0) (by omega) (by omega) hn
  refine loop_ok (fun j : Nat => S5y (XM0 wr X Y W H T L0 L0') b f n (j : Nat)) (fun _ => (.exit 2, S5y (XM0 wr X Y W H T L0 L0') b f n (szl 0 n))) (fun j => if j < (szl 0 n).toNat then some (j + 1) else none) (fun j => (szl 0 n).toNat - j) (fun j => j ≤ (szl 0 n).toNat) ?_ ?_ j hj
  · rintro j h1 hnn
    refine ⟨fun e => (by cases e), ?_⟩
    have hjn : j = (szl 0 n).toNat := by
      by_cases hh : j < (szl 0 n).toNat
      · simp [hh] at hnn
      · omega
    refine turn_ok (C := cY0 ok) (n := 1) (cY0_sound hok) mixed (iny0 hok) rfl rfl ?_
    rw [rawy0, decide_eq_false (by omega), show ((j : Nat) : Int) = szl 0 n by omega]
    rfl
  · rintro j s' h1 hnn
    by_cases hh : j < (szl 0 n).toNat
    · simp only [hh, if_true, Option.some.injEq] at hnn
      subst hnn
      refine ⟨by omega, by omega, rfl, turn_ok (C := cY0 ok) (n := 1) (cY0_sound hok) mixed (iny0 hok) rfl rfl ?_⟩
      have hfj : gX ok wr 0 [L0] [L0'] T X Y W H n (j : Nat) = true := by
        unfold gX
        rw [hL, hL', decide_eq_true hn]
        unfold fineA at hf
        exact List.all_eq_true.1 hf j (List.mem_range.2 hh)
      rw [rawy0, decide_eq_true (by omega), decide_eq_true (by omega), hfj, show (bif wr then wr else !wr) = true by cases wr <;> rfl, wi_id (by omega) (by omega), show ((j : Nat) : Int) + 1 = ((j + 1 : Nat) : Int) by omega]
      rfl
    · simp [hh] at hnn
def y_L0 (ok : Int → List (List AV) → Bool) : LSpec where
  n := 189
  nils := []
  keep := k5y
  touch := t5y
  run kv M k := match kvY kv with
    | some (b, n, y) => match xm0 M with
      | some (wr, wr2, (X, Y, W, H), T, L0, L0') => bif decide (y = 0) && (bif wr then wr2 else !wr2) && gY ok wr 0 [L0] [L0'] T X Y W H n then k (.exit 2) [.lit (.bool b), .ptr 0 0, .ptr 1 0, .ptr 2 0, i64 n, i64 (szl 0 n)] (XM0 wr X Y W H T L0 L0') else none
      | none => none
    | none => none
theorem y_Lok0 {ok : Int → List (List AV) → Bool} (hok : ∀ D Ls, ok D Ls = true → okL D Ls = true) : (y_L0 ok).Ok Try.prog (.loop L5y) := by
  intro R kv M k r h
  simp only [y_L0] at h
  split at h
  · rename_i b n y hkv
    split at h
    · rename_i wr wr2 X Y W H T L0 L0' hM
      rw [cond_eq_ite] at h
      split at h
      · rename_i hc
        rw [Bool.and_eq_true, Bool.and_eq_true] at hc
        obtain ⟨⟨hx, hw⟩, hg⟩ := hc
        have hx := of_decide_eq_true hx
        subst hx
        rw [kvY_spec hkv, xm0_spec hM hw]
        refine ⟨_, _, _, h, fun f => ?_⟩
        exact CodeOkN.full (loopy0 hok wr X Y W H T L0 L0' b f n hg 0 (Nat.zero_le _)) rfl
      · cases h
    · cases h
  · cases h
def xm1 (M : Mem) : Option (Bool × Bool × (Int × Int × Int × Int) × List AV × List AV × List AV × List AV × List AV) := match M.blks, M.vecs with
  | [p, s, q], [v0, v1, v2, v3, v4, v5, v6] => (pyE 1 0 1 p).bind fun wr => (stE 2 s).bind fun st => (pyE 1 3 4 q).bind fun wr2 => (rowE 0 v0).bind fun L0 => (lvE 1 [0, 5] v1).bind fun _ => (rowE 2 v2).bind fun T => (rowE 3 v3).bind fun L0' => (lvE 4 [3, 6] v4).bind fun _ => (rowE 5 v5).bind fun L1 => (rowE 6 v6).bind fun L1' => some (wr, wr2, st, T, L0, L1, L0', L1')
  | _, _ => none
theorem xm1_spec {M : Mem} {wr wr2 : Bool} {X Y W H : Int} {T L0 L1 L0' L1' : List AV} (h : xm1 M = some (wr, wr2, (X, Y, W, H), T, L0, L1, L0', L1')) (hw : (bif wr then wr2 else !wr2) = true) : M = (XM1 wr X Y W H T L0 L1 L0' L1') := by
  have hw := same_b hw
  subst hw
  obtain ⟨blks, vecs⟩ := M
  unfold xm1 at h
  dsimp only at h
  split at h
  · simp only [Option.bind_eq_some_iff, Option.some.injEq, Prod.mk.injEq] at h
    obtain ⟨_, g0, ⟨_, _, _, _⟩, g1, _, g2, _, g3, _, g4, _, g5, _, g6, _, g7, _, g8, _, g9, rfl, rfl, hst, rfl, rfl, rfl, rfl, rfl⟩ := h
    simp only [Prod.mk.injEq] at hst
    obtain ⟨rfl, rfl, rfl, rfl⟩ := hst
    rw [pyE_spec g0, stE_spec g1, pyE_spec g2, rowE_spec g3, lvE_spec g4, rowE_spec g5, rowE_spec g6, lvE_spec g7, rowE_spec g8, rowE_spec g9]
    all_goals rfl
  · cases h
def x_L1 (ok : Int → List (List AV) → Bool) : LSpec where
  n := 189
  nils := []
  keep := k5
  touch := t5x
  run kv M k := match kvX kv with
    | some (b, n, y, x) => match xm1 M with
      | some (wr, wr2, (X, Y, W, H), T, L0, L1, L0', L1') => bif decide (x = 0) && (bif wr then wr2 else !wr2) && gX ok wr 1 [L0, L1] [L0', L1'] T X Y W H n y then k (.exit 4) [.lit (.bool b), .ptr 0 0, .ptr 1 0, .ptr 2 0, i64 n, i64 y, i64 (szl 1 n)] (XM1 wr X Y W H T L0 L1 L0' L1') else none
      | none => none
    | none => none
theorem x_Lok1 {ok : Int → List (List AV) → Bool} (hok : ∀ D Ls, ok D Ls = true → okL D Ls = true) : (x_L1 ok).Ok Try.prog (.loop L5x) := by
  intro R kv M k r h
  simp only [x_L1] at h
  split at h
  · rename_i b n y x hkv
    split at h
    · rename_i wr wr2 X Y W H T L0 L1 L0' L1' hM
      rw [cond_eq_ite] at h
      split at h
      · rename_i hc
        rw [Bool.and_eq_true, Bool.and_eq_true] at hc
        obtain ⟨⟨hx, hw⟩, hg⟩ := hc
        have hx := of_decide_eq_true hx
        subst hx
        rw [kvX_spec hkv, xm1_spec hM hw]
        refine ⟨_, _, _, h, fun f => ?_⟩
        exact CodeOkN.full (loopx1 hok wr X Y W H T L0 L1 L0' L1' b f n y hg 0 (Nat.zero_le _)) rfl
      · cases h
    · cases h
  · cases h
noncomputable def cY1 (ok : Int → List (List AV) → Bool) : CallSem := (cX ok).withLoops (tabL [(18, x_L1 ok)])
theorem cY1_sound {ok : Int → List (List AV) → Bool} (hok : ∀ D Ls, ok D Ls = true → okL D Ls = true) : (cY1 ok).Sound Try.prog := CallSem.withLoops_sound (cX_sound hok) _
theorem rawy1 (ok : Int → List (List AV) → Bool) (wr : Bool) (X Y W H : Int) (T : List AV) (L0 L1 L0' L1' : List AV) (b : Bool) (f : Nat → Value) (n y : Int) : turnK (cY1 ok) Try.prog 1 L5y k5y t5y 3 7 (S5y (XM1 wr X Y W H T L0 L1 L0' L1') b f n y) =
    bif decide (y < szl 1 n) then (bif decide (y < 32) then (bif (bif wr then wr else !wr) && gX ok wr 1 [L0, L1] [L0', L1'] T X Y W H n y then some (Exit.normal, S5y (XM1 wr X Y W H T L0 L1 L0' L1') b f n (wi (y + 1))) else none) else some (Exit.exit 2, S5y (XM1 wr X Y W H T L0 L1 L0' L1') b f n y)) else some (Exit.exit 2, S5y (XM1 wr X Y W H T L0 L1 L0' L1') b f n y) := by kernel_rfl
theorem iny1 {ok : Int → List (List AV) → Bool} (hok : ∀ D Ls, ok D Ls = true → okL D Ls = true) : LoopsOk Try.prog (cY1 ok).loops L5y := tab_ok (P := Try.prog) (ts := [(18, x_L1 ok)]) (fn := { Try.f5 with body := some L5y }) (cs := [.loop L5x]) (by kernel_rfl) (by kernel_rfl) ⟨⟨by kernel_rfl, x_Lok1 hok⟩, trivial⟩ L5y rfl
theorem loopy1 {ok : Int → List (List AV) → Bool} (hok : ∀ D Ls, ok D Ls = true → okL D Ls = true) (wr : Bool) (X Y W H : Int) (T : List AV) (L0 L1 L0' L1' : List AV) (b : Bool) (f : Nat → Value) (n : Int) (hg : gY ok wr 1 [L0, L1] [L0', L1'] T X Y W H n = true) (j : Nat) (hj : j ≤ (szl 1 n).toNat) :
    CodeOkN 3 7 Try.prog (.loop L5y) (S5y (XM1 wr X Y W H T L0 L1 L0' L1') b f n (j : Nat)) (.exit 2) (S5y (XM1 wr X Y W H T L0 L1 L0' L1') b f n (szl 1 n)) := by
  simp only [gY, Bool.and_eq_true, decide_eq_true_eq] at hg
  obtain ⟨⟨⟨hn, hL⟩, hL'⟩, hf⟩ := hg
  obtain ⟨z0, z32⟩ := szl_in (D := 1) (by omega) (by omega) hn
  refine loop_ok (fun j : Nat => S5y (XM1 wr X Y W H T L0 L1 L0' L1') b f n (j : Nat)) (fun _ => (.exit 2, S5y (XM1 wr X Y W H T L0 L1 L0' L1') b f n (szl 1 n))) (fun j => if j < (szl 1 n).toNat then some (j + 1) else none) (fun j => (szl 1 n).toNat - j) (fun j => j ≤ (szl 1 n).toNat) ?_ ?_ j hj
  · rintro j h1 hnn
    refine ⟨fun e => (by cases e), ?_⟩
    have hjn : j = (szl 1 n).toNat := by
      by_cases hh : j < (szl 1 n).toNat
      · simp [hh] at hnn
      · omega
    refine turn_ok (C := cY1 ok) (n := 1) (cY1_sound hok) mixed (iny1 hok) rfl rfl ?_
    rw [rawy1, decide_eq_false (by omega), show ((j : Nat) : Int) = szl 1 n by omega]
    rfl
  · rintro j s' h1 hnn
    by_cases hh : j < (szl 1 n).toNat
    · simp only [hh, if_true, Option.some.injEq] at hnn
      subst hnn
      refine ⟨by omega, by omega, rfl, turn_ok (C := cY1 ok) (n := 1) (cY1_sound hok) mixed (iny1 hok) rfl rfl ?_⟩
      have hfj : gX ok wr 1 [L0, L1] [L0', L1'] T X Y W H n (j : Nat) = true := by
        unfold gX
        rw [hL, hL', decide_eq_true hn]
        unfold fineA at hf
        exact List.all_eq_true.1 hf j (List.mem_range.2 hh)
      rw [rawy1, decide_eq_true (by omega), decide_eq_true (by omega), hfj, show (bif wr then wr else !wr) = true by cases wr <;> rfl, wi_id (by omega) (by omega), show ((j : Nat) : Int) + 1 = ((j + 1 : Nat) : Int) by omega]
      rfl
    · simp [hh] at hnn
def y_L1 (ok : Int → List (List AV) → Bool) : LSpec where
  n := 189
  nils := []
  keep := k5y
  touch := t5y
  run kv M k := match kvY kv with
    | some (b, n, y) => match xm1 M with
      | some (wr, wr2, (X, Y, W, H), T, L0, L1, L0', L1') => bif decide (y = 0) && (bif wr then wr2 else !wr2) && gY ok wr 1 [L0, L1] [L0', L1'] T X Y W H n then k (.exit 2) [.lit (.bool b), .ptr 0 0, .ptr 1 0, .ptr 2 0, i64 n, i64 (szl 1 n)] (XM1 wr X Y W H T L0 L1 L0' L1') else none
      | none => none
    | none => none
theorem y_Lok1 {ok : Int → List (List AV) → Bool} (hok : ∀ D Ls, ok D Ls = true → okL D Ls = true) : (y_L1 ok).Ok Try.prog (.loop L5y) := by
  intro R kv M k r h
  simp only [y_L1] at h
  split at h
  · rename_i b n y hkv
    split at h
    · rename_i wr wr2 X Y W H T L0 L1 L0' L1' hM
      rw [cond_eq_ite] at h
      split at h
      · rename_i hc
        rw [Bool.and_eq_true, Bool.and_eq_true] at hc
        obtain ⟨⟨hx, hw⟩, hg⟩ := hc
        have hx := of_decide_eq_true hx
        subst hx
        rw [kvY_spec hkv, xm1_spec hM hw]
        refine ⟨_, _, _, h, fun f => ?_⟩
        exact CodeOkN.full (loopy1 hok wr X Y W H T L0 L1 L0' L1' b f n hg 0 (Nat.zero_le _)) rfl
      · cases h
    · cases h
  · cases h
def xm2 (M : Mem) : Option (Bool × Bool × (Int × Int × Int × Int) × List AV × List AV × List AV × List AV × List AV × List AV × List AV) := match M.blks, M.vecs with
  | [p, s, q], [v0, v1, v2, v3, v4, v5, v6, v7, v8] => (pyE 2 0 1 p).bind fun wr => (stE 2 s).bind fun st => (pyE 2 3 4 q).bind fun wr2 => (rowE 0 v0).bind fun L0 => (lvE 1 [0, 5, 6] v1).bind fun _ => (rowE 2 v2).bind fun T => (rowE 3 v3).bind fun L0' => (lvE 4 [3, 7, 8] v4).bind fun _ => (rowE 5 v5).bind fun L1 => (rowE 6 v6).bind fun L2 => (rowE 7 v7).bind fun L1' => (rowE 8 v8).bind fun L2' => some (wr, wr2, st, T, L0, L1, L2, L0', L1', L2')
  | _, _ => none
theorem xm2_spec {M : Mem} {wr wr2 : Bool} {X Y W H : Int} {T L0 L1 L2 L0' L1' L2' : List AV} (h : xm2 M = some (wr, wr2, (X, Y, W, H), T, L0, L1, L2, L0', L1', L2')) (hw : (bif wr then wr2 else !wr2) = true) : M = (XM2 wr X Y W H T L0 L1 L2 L0' L1' L2') := by
  have hw := same_b hw
  subst hw
  obtain ⟨blks, vecs⟩ := M
  unfold xm2 at h
  dsimp only at h
  split at h
  · simp only [Option.bind_eq_some_iff, Option.some.injEq, Prod.mk.injEq] at h
    obtain ⟨_, g0, ⟨_, _, _, _⟩, g1, _, g2, _, g3, _, g4, _, g5, _, g6, _, g7, _, g8, _, g9, _, g10, _, g11, rfl, rfl, hst, rfl, rfl, rfl, rfl, rfl, rfl, rfl⟩ := h
    simp only [Prod.mk.injEq] at hst
    obtain ⟨rfl, rfl, rfl, rfl⟩ := hst
    rw [pyE_spec g0, stE_spec g1, pyE_spec g2, rowE_spec g3, lvE_spec g4, rowE_spec g5, rowE_spec g6, lvE_spec g7, rowE_spec g8, rowE_spec g9, rowE_spec g10, rowE_spec g11]
    all_goals rfl
  · cases h
def x_L2 (ok : Int → List (List AV) → Bool) : LSpec where
  n := 189
  nils := []
  keep := k5
  touch := t5x
  run kv M k := match kvX kv with
    | some (b, n, y, x) => match xm2 M with
      | some (wr, wr2, (X, Y, W, H), T, L0, L1, L2, L0', L1', L2') => bif decide (x = 0) && (bif wr then wr2 else !wr2) && gX ok wr 2 [L0, L1, L2] [L0', L1', L2'] T X Y W H n y then k (.exit 4) [.lit (.bool b), .ptr 0 0, .ptr 1 0, .ptr 2 0, i64 n, i64 y, i64 (szl 2 n)] (XM2 wr X Y W H T L0 L1 L2 L0' L1' L2') else none
      | none => none
    | none => none
theorem x_Lok2 {ok : Int → List (List AV) → Bool} (hok : ∀ D Ls, ok D Ls = true → okL D Ls = true) : (x_L2 ok).Ok Try.prog (.loop L5x) := by
  intro R kv M k r h
  simp only [x_L2] at h
  split at h
  · rename_i b n y x hkv
    split at h
    · rename_i wr wr2 X Y W H T L0 L1 L2 L0' L1' L2' hM
      rw [cond_eq_ite] at h
      split at h
      · rename_i hc
        rw [Bool.and_eq_true, Bool.and_eq_true] at hc
        obtain ⟨⟨hx, hw⟩, hg⟩ := hc
        have hx := of_decide_eq_true hx
        subst hx
        rw [kvX_spec hkv, xm2_spec hM hw]
        refine ⟨_, _, _, h, fun f => ?_⟩
        exact CodeOkN.full (loopx2 hok wr X Y W H T L0 L1 L2 L0' L1' L2' b f n y hg 0 (Nat.zero_le _)) rfl
      · cases h
    · cases h
  · cases h
noncomputable def cY2 (ok : Int → List (List AV) → Bool) : CallSem := (cX ok).withLoops (tabL [(18, x_L2 ok)])
theorem cY2_sound {ok : Int → List (List AV) → Bool} (hok : ∀ D Ls, ok D Ls = true → okL D Ls = true) : (cY2 ok).Sound Try.prog := CallSem.withLoops_sound (cX_sound hok) _
theorem rawy2 (ok : Int → List (List AV) → Bool) (wr : Bool) (X Y W H : Int) (T : List AV) (L0 L1 L2 L0' L1' L2' : List AV) (b : Bool) (f : Nat → Value) (n y : Int) : turnK (cY2 ok) Try.prog 1 L5y k5y t5y 3 9 (S5y (XM2 wr X Y W H T L0 L1 L2 L0' L1' L2') b f n y) =
    bif decide (y < szl 2 n) then (bif decide (y < 32) then (bif (bif wr then wr else !wr) && gX ok wr 2 [L0, L1, L2] [L0', L1', L2'] T X Y W H n y then some (Exit.normal, S5y (XM2 wr X Y W H T L0 L1 L2 L0' L1' L2') b f n (wi (y + 1))) else none) else some (Exit.exit 2, S5y (XM2 wr X Y W H T L0 L1 L2 L0' L1' L2') b f n y)) else some (Exit.exit 2, S5y (XM2 wr X Y W H T L0 L1 L2 L0' L1' L2') b f n y) := by kernel_rfl
theorem iny2 {ok : Int → List (List AV) → Bool} (hok : ∀ D Ls, ok D Ls = true → okL D Ls = true) : LoopsOk Try.prog (cY2 ok).loops L5y := tab_ok (P := Try.prog) (ts := [(18, x_L2 ok)]) (fn := { Try.f5 with body := some L5y }) (cs := [.loop L5x]) (by kernel_rfl) (by kernel_rfl) ⟨⟨by kernel_rfl, x_Lok2 hok⟩, trivial⟩ L5y rfl
theorem loopy2 {ok : Int → List (List AV) → Bool} (hok : ∀ D Ls, ok D Ls = true → okL D Ls = true) (wr : Bool) (X Y W H : Int) (T : List AV) (L0 L1 L2 L0' L1' L2' : List AV) (b : Bool) (f : Nat → Value) (n : Int) (hg : gY ok wr 2 [L0, L1, L2] [L0', L1', L2'] T X Y W H n = true) (j : Nat) (hj : j ≤ (szl 2 n).toNat) :
    CodeOkN 3 9 Try.prog (.loop L5y) (S5y (XM2 wr X Y W H T L0 L1 L2 L0' L1' L2') b f n (j : Nat)) (.exit 2) (S5y (XM2 wr X Y W H T L0 L1 L2 L0' L1' L2') b f n (szl 2 n)) := by
  simp only [gY, Bool.and_eq_true, decide_eq_true_eq] at hg
  obtain ⟨⟨⟨hn, hL⟩, hL'⟩, hf⟩ := hg
  obtain ⟨z0, z32⟩ := szl_in (D := 2) (by omega) (by omega) hn
  refine loop_ok (fun j : Nat => S5y (XM2 wr X Y W H T L0 L1 L2 L0' L1' L2') b f n (j : Nat)) (fun _ => (.exit 2, S5y (XM2 wr X Y W H T L0 L1 L2 L0' L1' L2') b f n (szl 2 n))) (fun j => if j < (szl 2 n).toNat then some (j + 1) else none) (fun j => (szl 2 n).toNat - j) (fun j => j ≤ (szl 2 n).toNat) ?_ ?_ j hj
  · rintro j h1 hnn
    refine ⟨fun e => (by cases e), ?_⟩
    have hjn : j = (szl 2 n).toNat := by
      by_cases hh : j < (szl 2 n).toNat
      · simp [hh] at hnn
      · omega
    refine turn_ok (C := cY2 ok) (n := 1) (cY2_sound hok) mixed (iny2 hok) rfl rfl ?_
    rw [rawy2, decide_eq_false (by omega), show ((j : Nat) : Int) = szl 2 n by omega]
    rfl
  · rintro j s' h1 hnn
    by_cases hh : j < (szl 2 n).toNat
    · simp only [hh, if_true, Option.some.injEq] at hnn
      subst hnn
      refine ⟨by omega, by omega, rfl, turn_ok (C := cY2 ok) (n := 1) (cY2_sound hok) mixed (iny2 hok) rfl rfl ?_⟩
      have hfj : gX ok wr 2 [L0, L1, L2] [L0', L1', L2'] T X Y W H n (j : Nat) = true := by
        unfold gX
        rw [hL, hL', decide_eq_true hn]
        unfold fineA at hf
        exact List.all_eq_true.1 hf j (List.mem_range.2 hh)
      rw [rawy2, decide_eq_true (by omega), decide_eq_true (by omega), hfj, show (bif wr then wr else !wr) = true by cases wr <;> rfl, wi_id (by omega) (by omega), show ((j : Nat) : Int) + 1 = ((j + 1 : Nat) : Int) by omega]
      rfl
    · simp [hh] at hnn
def y_L2 (ok : Int → List (List AV) → Bool) : LSpec where
  n := 189
  nils := []
  keep := k5y
  touch := t5y
  run kv M k := match kvY kv with
    | some (b, n, y) => match xm2 M with
      | some (wr, wr2, (X, Y, W, H), T, L0, L1, L2, L0', L1', L2') => bif decide (y = 0) && (bif wr then wr2 else !wr2) && gY ok wr 2 [L0, L1, L2] [L0', L1', L2'] T X Y W H n then k (.exit 2) [.lit (.bool b), .ptr 0 0, .ptr 1 0, .ptr 2 0, i64 n, i64 (szl 2 n)] (XM2 wr X Y W H T L0 L1 L2 L0' L1' L2') else none
      | none => none
    | none => none
theorem y_Lok2 {ok : Int → List (List AV) → Bool} (hok : ∀ D Ls, ok D Ls = true → okL D Ls = true) : (y_L2 ok).Ok Try.prog (.loop L5y) := by
  intro R kv M k r h
  simp only [y_L2] at h
  split at h
  · rename_i b n y hkv
    split at h
    · rename_i wr wr2 X Y W H T L0 L1 L2 L0' L1' L2' hM
      rw [cond_eq_ite] at h
      split at h
      · rename_i hc
        rw [Bool.and_eq_true, Bool.and_eq_true] at hc
        obtain ⟨⟨hx, hw⟩, hg⟩ := hc
        have hx := of_decide_eq_true hx
        subst hx
        rw [kvY_spec hkv, xm2_spec hM hw]
        refine ⟨_, _, _, h, fun f => ?_⟩
        exact CodeOkN.full (loopy2 hok wr X Y W H T L0 L1 L2 L0' L1' L2' b f n hg 0 (Nat.zero_le _)) rfl
      · cases h
    · cases h
  · cases h
def xm3 (M : Mem) : Option (Bool × Bool × (Int × Int × Int × Int) × List AV × List AV × List AV × List AV × List AV × List AV × List AV × List AV × List AV) := match M.blks, M.vecs with
  | [p, s, q], [v0, v1, v2, v3, v4, v5, v6, v7, v8, v9, v10] => (pyE 3 0 1 p).bind fun wr => (stE 2 s).bind fun st => (pyE 3 3 4 q).bind fun wr2 => (rowE 0 v0).bind fun L0 => (lvE 1 [0, 5, 6, 7] v1).bind fun _ => (rowE 2 v2).bind fun T => (rowE 3 v3).bind fun L0' => (lvE 4 [3, 8, 9, 10] v4).bind fun _ => (rowE 5 v5).bind fun L1 => (rowE 6 v6).bind fun L2 => (rowE 7 v7).bind fun L3 => (rowE 8 v8).bind fun L1' => (rowE 9 v9).bind fun L2' => (rowE 10 v10).bind fun L3' => some (wr, wr2, st, T, L0, L1, L2, L3, L0', L1', L2', L3')
  | _, _ => none
theorem xm3_spec {M : Mem} {wr wr2 : Bool} {X Y W H : Int} {T L0 L1 L2 L3 L0' L1' L2' L3' : List AV} (h : xm3 M = some (wr, wr2, (X, Y, W, H), T, L0, L1, L2, L3, L0', L1', L2', L3')) (hw : (bif wr then wr2 else !wr2) = true) : M = (XM3 wr X Y W H T L0 L1 L2 L3 L0' L1' L2' L3') := by
  have hw := same_b hw
  subst hw
  obtain ⟨blks, vecs⟩ := M
  unfold xm3 at h
  dsimp only at h
  split at h
  · simp only [Option.bind_eq_some_iff, Option.some.injEq, Prod.mk.injEq] at h
    obtain ⟨_, g0, ⟨_, _, _, _⟩, g1, _, g2, _, g3, _, g4, _, g5, _, g6, _, g7, _, g8, _, g9, _, g10, _, g11, _, g12, _, g13, rfl, rfl, hst, rfl, rfl, rfl, rfl, rfl, rfl, rfl, rfl, rfl⟩ := h
    simp only [Prod.mk.injEq] at hst
    obtain ⟨rfl, rfl, rfl, rfl⟩ := hst
    rw [pyE_spec g0, stE_spec g1, pyE_spec g2, rowE_spec g3, lvE_spec g4, rowE_spec g5, rowE_spec g6, lvE_spec g7, rowE_spec g8, rowE_spec g9, rowE_spec g10, rowE_spec g11, rowE_spec g12, rowE_spec g13]
    all_goals rfl
  · cases h
def x_L3 (ok : Int → List (List AV) → Bool) : LSpec where
  n := 189
  nils := []
  keep := k5
  touch := t5x
  run kv M k := match kvX kv with
    | some (b, n, y, x) => match xm3 M with
      | some (wr, wr2, (X, Y, W, H), T, L0, L1, L2, L3, L0', L1', L2', L3') => bif decide (x = 0) && (bif wr then wr2 else !wr2) && gX ok wr 3 [L0, L1, L2, L3] [L0', L1', L2', L3'] T X Y W H n y then k (.exit 4) [.lit (.bool b), .ptr 0 0, .ptr 1 0, .ptr 2 0, i64 n, i64 y, i64 (szl 3 n)] (XM3 wr X Y W H T L0 L1 L2 L3 L0' L1' L2' L3') else none
      | none => none
    | none => none
theorem x_Lok3 {ok : Int → List (List AV) → Bool} (hok : ∀ D Ls, ok D Ls = true → okL D Ls = true) : (x_L3 ok).Ok Try.prog (.loop L5x) := by
  intro R kv M k r h
  simp only [x_L3] at h
  split at h
  · rename_i b n y x hkv
    split at h
    · rename_i wr wr2 X Y W H T L0 L1 L2 L3 L0' L1' L2' L3' hM
      rw [cond_eq_ite] at h
      split at h
      · rename_i hc
        rw [Bool.and_eq_true, Bool.and_eq_true] at hc
        obtain ⟨⟨hx, hw⟩, hg⟩ := hc
        have hx := of_decide_eq_true hx
        subst hx
        rw [kvX_spec hkv, xm3_spec hM hw]
        refine ⟨_, _, _, h, fun f => ?_⟩
        exact CodeOkN.full (loopx3 hok wr X Y W H T L0 L1 L2 L3 L0' L1' L2' L3' b f n y hg 0 (Nat.zero_le _)) rfl
      · cases h
    · cases h
  · cases h
noncomputable def cY3 (ok : Int → List (List AV) → Bool) : CallSem := (cX ok).withLoops (tabL [(18, x_L3 ok)])
theorem cY3_sound {ok : Int → List (List AV) → Bool} (hok : ∀ D Ls, ok D Ls = true → okL D Ls = true) : (cY3 ok).Sound Try.prog := CallSem.withLoops_sound (cX_sound hok) _
theorem rawy3 (ok : Int → List (List AV) → Bool) (wr : Bool) (X Y W H : Int) (T : List AV) (L0 L1 L2 L3 L0' L1' L2' L3' : List AV) (b : Bool) (f : Nat → Value) (n y : Int) : turnK (cY3 ok) Try.prog 1 L5y k5y t5y 3 11 (S5y (XM3 wr X Y W H T L0 L1 L2 L3 L0' L1' L2' L3') b f n y) =
    bif decide (y < szl 3 n) then (bif decide (y < 32) then (bif (bif wr then wr else !wr) && gX ok wr 3 [L0, L1, L2, L3] [L0', L1', L2', L3'] T X Y W H n y then some (Exit.normal, S5y (XM3 wr X Y W H T L0 L1 L2 L3 L0' L1' L2' L3') b f n (wi (y + 1))) else none) else some (Exit.exit 2, S5y (XM3 wr X Y W H T L0 L1 L2 L3 L0' L1' L2' L3') b f n y)) else some (Exit.exit 2, S5y (XM3 wr X Y W H T L0 L1 L2 L3 L0' L1' L2' L3') b f n y) := by kernel_rfl
theorem iny3 {ok : Int → List (List AV) → Bool} (hok : ∀ D Ls, ok D Ls = true → okL D Ls = true) : LoopsOk Try.prog (cY3 ok).loops L5y := tab_ok (P := Try.prog) (ts := [(18, x_L3 ok)]) (fn := { Try.f5 with body := some L5y }) (cs := [.loop L5x]) (by kernel_rfl) (by kernel_rfl) ⟨⟨by kernel_rfl, x_Lok3 hok⟩, trivial⟩ L5y rfl
theorem loopy3 {ok : Int → List (List AV) → Bool} (hok : ∀ D Ls, ok D Ls = true → okL D Ls = true) (wr : Bool) (X Y W H : Int) (T : List AV) (L0 L1 L2 L3 L0' L1' L2' L3' : List AV) (b : Bool) (f : Nat → Value) (n : Int) (hg : gY ok wr 3 [L0, L1, L2, L3] [L0', L1', L2', L3'] T X Y W H n = true) (j : Nat) (hj : j ≤ (szl 3 n).toNat) :
    CodeOkN 3 11 Try.prog (.loop L5y) (S5y (XM3 wr X Y W H T L0 L1 L2 L3 L0' L1' L2' L3') b f n (j : Nat)) (.exit 2) (S5y (XM3 wr X Y W H T L0 L1 L2 L3 L0' L1' L2' L3') b f n (szl 3 n)) := by
  simp only [gY, Bool.and_eq_true, decide_eq_true_eq] at hg
  obtain ⟨⟨⟨hn, hL⟩, hL'⟩, hf⟩ := hg
  obtain ⟨z0, z32⟩ := szl_in (D := 3) (by omega) (by omega) hn
  refine loop_ok (fun j : Nat => S5y (XM3 wr X Y W H T L0 L1 L2 L3 L0' L1' L2' L3') b f n (j : Nat)) (fun _ => (.exit 2, S5y (XM3 wr X Y W H T L0 L1 L2 L3 L0' L1' L2' L3') b f n (szl 3 n))) (fun j => if j < (szl 3 n).toNat then some (j + 1) else none) (fun j => (szl 3 n).toNat - j) (fun j => j ≤ (szl 3 n).toNat) ?_ ?_ j hj
  · rintro j h1 hnn
    refine ⟨fun e => (by cases e), ?_⟩
    have hjn : j = (szl 3 n).toNat := by
      by_cases hh : j < (szl 3 n).toNat
      · simp [hh] at hnn
      · omega
    refine turn_ok (C := cY3 ok) (n := 1) (cY3_sound hok) mixed (iny3 hok) rfl rfl ?_
    rw [rawy3, decide_eq_false (by omega), show ((j : Nat) : Int) = szl 3 n by omega]
    rfl
  · rintro j s' h1 hnn
    by_cases hh : j < (szl 3 n).toNat
    · simp only [hh, if_true, Option.some.injEq] at hnn
      subst hnn
      refine ⟨by omega, by omega, rfl, turn_ok (C := cY3 ok) (n := 1) (cY3_sound hok) mixed (iny3 hok) rfl rfl ?_⟩
      have hfj : gX ok wr 3 [L0, L1, L2, L3] [L0', L1', L2', L3'] T X Y W H n (j : Nat) = true := by
        unfold gX
        rw [hL, hL', decide_eq_true hn]
        unfold fineA at hf
        exact List.all_eq_true.1 hf j (List.mem_range.2 hh)
      rw [rawy3, decide_eq_true (by omega), decide_eq_true (by omega), hfj, show (bif wr then wr else !wr) = true by cases wr <;> rfl, wi_id (by omega) (by omega), show ((j : Nat) : Int) + 1 = ((j + 1 : Nat) : Int) by omega]
      rfl
    · simp [hh] at hnn
def y_L3 (ok : Int → List (List AV) → Bool) : LSpec where
  n := 189
  nils := []
  keep := k5y
  touch := t5y
  run kv M k := match kvY kv with
    | some (b, n, y) => match xm3 M with
      | some (wr, wr2, (X, Y, W, H), T, L0, L1, L2, L3, L0', L1', L2', L3') => bif decide (y = 0) && (bif wr then wr2 else !wr2) && gY ok wr 3 [L0, L1, L2, L3] [L0', L1', L2', L3'] T X Y W H n then k (.exit 2) [.lit (.bool b), .ptr 0 0, .ptr 1 0, .ptr 2 0, i64 n, i64 (szl 3 n)] (XM3 wr X Y W H T L0 L1 L2 L3 L0' L1' L2' L3') else none
      | none => none
    | none => none
theorem y_Lok3 {ok : Int → List (List AV) → Bool} (hok : ∀ D Ls, ok D Ls = true → okL D Ls = true) : (y_L3 ok).Ok Try.prog (.loop L5y) := by
  intro R kv M k r h
  simp only [y_L3] at h
  split at h
  · rename_i b n y hkv
    split at h
    · rename_i wr wr2 X Y W H T L0 L1 L2 L3 L0' L1' L2' L3' hM
      rw [cond_eq_ite] at h
      split at h
      · rename_i hc
        rw [Bool.and_eq_true, Bool.and_eq_true] at hc
        obtain ⟨⟨hx, hw⟩, hg⟩ := hc
        have hx := of_decide_eq_true hx
        subst hx
        rw [kvY_spec hkv, xm3_spec hM hw]
        refine ⟨_, _, _, h, fun f => ?_⟩
        exact CodeOkN.full (loopy3 hok wr X Y W H T L0 L1 L2 L3 L0' L1' L2' L3' b f n hg 0 (Nat.zero_le _)) rfl
      · cases h
    · cases h
  · cases h
end Go.Proofs.Ytfnpnenndbdcpaa
