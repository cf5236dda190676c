/- With (chapter 14): over the four forms of memory. -/
import Derived.Test.YtfnpnenndbdcpaaL14H
set_option linter.unusedVariables false
set_option linter.unusedSimpArgs false
namespace Go.Proofs.Ytfnpnenndbdcpaa
open Go Go.Sx Go.Fx
set_option maxRecDepth 100000
set_option linter.unusedVariables false
set_option linter.unusedSimpArgs false
theorem s17 : Sx.Enters Try.prog 17 Try.f17 := ⟨Try.func17, by kernel_rfl, by kernel_rfl⟩
/-! two textures that are alike -/
noncomputable def C17 : CallSem := CallSem.nil.withRead 32 same_M
theorem C17_sound : C17.Sound Try.prog := CallSem.withRead_sound nilS same_Mok
def eqR (A B : List AV) : Bool := decide (A.map c4I = B.map c4I) && decide (A.length ≤ 16384)
theorem stex_raw (D : Int) (wr : Bool) (h0 h1 : Bool) (A B : List AV) : fnK C17 Try.prog 9 Try.f17 [.agg [i64 D, bv wr, .vec 0], .agg [i64 D, bv wr, .vec 1]] ⟨[], [eO 0 h0 A, eO 1 h1 B]⟩ [] =
    bif D == D then (bif wr == wr then (bif true && decide (A.map c4I = B.map c4I) && decide (A.length ≤ 16384) then some (bv true, ⟨[], [eO 0 h0 A, eO 1 h1 B]⟩) else none) else some (bv false, ⟨[], [eO 0 h0 A, eO 1 h1 B]⟩)) else some (bv false, ⟨[], [eO 0 h0 A, eO 1 h1 B]⟩) := by kernel_rfl
def stex_M : MSpec := ⟨[], fun args M k => match args, M with
  | [.agg [.lit (.int .i64 D), .lit (.bool wr), .vec 0], .agg [.lit (.int .i64 D'), .lit (.bool wr'), .vec 1]], ⟨[], [some ⟨39, true, s0, 0, false, h0, A⟩, some ⟨39, true, s1, 1, false, h1, B⟩]⟩ =>
    bif decide (s0 = c4) && decide (s1 = c4) && decide (D = D') && (bif wr then wr' else !wr') && eqR A B then k (bv true) ⟨[], [eO 0 h0 A, eO 1 h1 B]⟩ else none
  | _, _ => none⟩
theorem stex_Mok : stex_M.Ok Try.prog 17 := by
  intro R args M k r h
  simp only [stex_M, eqR] at h
  split at h
  · rename_i D wr D' wr' s0 h0 A s1 h1 B
    rw [cond_eq_ite] at h
    split at h
    · rename_i hc
      simp only [Bool.and_eq_true, decide_eq_true_eq] at hc
      obtain ⟨⟨⟨⟨rfl, rfl⟩, rfl⟩, hw⟩, hm, hl⟩ := hc
      have : wr = wr' := by cases wr <;> cases wr' <;> simp_all
      subst this
      exact ⟨_, _, h, fn_ok (C := C17) (n := 9) (ts := []) C17_sound mixed s17 (fun _ _ => LoopsOk.no _ _) ((stex_raw D wr h0 h1 A B).trans (by rw [decide_eq_true hm, decide_eq_true hl]; simp)) rfl⟩
    · cases h
  · cases h
/-! With -/
def badW (n x y w h : Int) (k : Nat) : Bool := bif (bif (bif (bif (bif (bif (bif (bif decide (w < 1) then true else decide (h < 1)) then true else decide (x < 0)) then true else decide (y < 0)) then true else decide (n < x)) then true else decide (n < y)) then true else decide (wi (n - x) < w)) then true else decide (wi (n - y) < h)) then true else ((k : Int) != wi (w * h))
theorem badW_eq {n x y w h : Int} {k : Nat} (h0 : 0 ≤ n) (h32 : n ≤ 32) : badW n x y w h k = !okW n x y w h k := by
  unfold badW okW
  by_cases c1 : w < 1
  · rw [decide_eq_true c1, decide_eq_false (show ¬ 1 ≤ w by omega)]; rfl
  · rw [decide_eq_false c1, decide_eq_true (show 1 ≤ w by omega), cond_false]
    by_cases c2 : h < 1
    · rw [decide_eq_true c2, decide_eq_false (show ¬ 1 ≤ h by omega)]; rfl
    · rw [decide_eq_false c2, decide_eq_true (show 1 ≤ h by omega), cond_false]
      by_cases c3 : x < 0
      · rw [decide_eq_true c3, decide_eq_false (show ¬ 0 ≤ x by omega)]; rfl
      · rw [decide_eq_false c3, decide_eq_true (show 0 ≤ x by omega), cond_false]
        by_cases c4 : y < 0
        · rw [decide_eq_true c4, decide_eq_false (show ¬ 0 ≤ y by omega)]; rfl
        · rw [decide_eq_false c4, decide_eq_true (show 0 ≤ y by omega), cond_false]
          by_cases c5 : n < x
          · rw [decide_eq_true c5, decide_eq_false (show ¬ x + w ≤ n by omega)]; rfl
          · rw [decide_eq_false c5, cond_false]
            by_cases c6 : n < y
            · rw [decide_eq_true c6, decide_eq_false (show ¬ y + h ≤ n by omega)]; cases decide (x + w ≤ n) <;> rfl
            · rw [decide_eq_false c6, cond_false, wi_id (n := n - x) (by omega) (by omega), wi_id (n := n - y) (by omega) (by omega)]
              by_cases c7 : n - x < w
              · rw [decide_eq_true c7, decide_eq_false (show ¬ x + w ≤ n by omega)]; rfl
              · rw [decide_eq_false c7, decide_eq_true (show x + w ≤ n by omega), cond_false]
                by_cases c8 : n - y < h
                · rw [decide_eq_true c8, decide_eq_false (show ¬ y + h ≤ n by omega)]; rfl
                · have hb : w * h ≤ 32 * 32 := Int.mul_le_mul (by omega) (by omega) (by omega) (by omega)
                  have hb0 : 0 ≤ w * h := Int.mul_nonneg (by omega) (by omega)
                  rw [decide_eq_false c8, decide_eq_true (show y + h ≤ n by omega), cond_false, wi_id (n := w * h) (by omega) (by omega)]
                  by_cases c9 : (k : Int) = w * h
                  · rw [decide_eq_true c9, c9]; simp
                  · rw [decide_eq_false c9]; simp [c9]
abbrev pErr {α : Type} (M : Mem) (k : AV → Mem → α) : α := k (.tup [nilp, i64 1]) M
abbrev WM0 (wr : Bool) (h0 : Bool) (L0 : List AV) (hl : Bool) (l : List AV) (x y w h : Int) : Mem := ⟨(QM0 wr h0 L0 hl l).blks ++ [pyr true 0 wr (.vec 2) (.sl 3 0 1 1), some ⟨22, true, [.vec 2]⟩], (QM0 wr h0 L0 hl l).vecs ++ [eH 2 true (withL 4 x y w h l L0)]⟩
theorem with_raw0 (wr : Bool) (h0 : Bool) (L0 : List AV) (hl : Bool) (l : List AV) (x y w h : Int) : fnK C11 Try.prog 9 Try.f11 [.ptr 0 0, i64 x, i64 y, i64 w, i64 h, .vec 0] (QM0 wr h0 L0 hl l) [] =
    bif badW 4 x y w h l.length then some (.tup [nilp, i64 1], (QM0 wr h0 L0 hl l)) else bif okL 0 [L0] then (bif true && gW 4 x y w h l.length L0.length then (bif mayB 0 (withL 4 x y w h l L0) then some (.tup [.ptr 2 0, i64 0], WM0 wr h0 L0 hl l x y w h) else some (.tup [nilp, i64 1], (QM0 wr h0 L0 hl l))) else none) else none := by kernel_rfl
abbrev WM1 (wr : Bool) (h0 hw h1 : Bool) (L0 L1 : List AV) (hl : Bool) (l : List AV) (x y w h : Int) : Mem := ⟨(QM1 wr h0 hw h1 L0 L1 hl l).blks ++ [pyr true 1 wr (.vec 4) (.vec 5)], (QM1 wr h0 hw h1 L0 L1 hl l).vecs ++ [eH 4 true (withL 8 x y w h l L0), eLv 5 [.vec 4, .vec 6], eH 6 true (coarL (withL 8 x y w h l L0) 8)]⟩
theorem with_raw1 (wr : Bool) (h0 hw h1 : Bool) (L0 L1 : List AV) (hl : Bool) (l : List AV) (x y w h : Int) : fnK C11 Try.prog 9 Try.f11 [.ptr 0 0, i64 x, i64 y, i64 w, i64 h, .vec 0] (QM1 wr h0 hw h1 L0 L1 hl l) [] =
    bif badW 8 x y w h l.length then some (.tup [nilp, i64 1], (QM1 wr h0 hw h1 L0 L1 hl l)) else bif okL 1 [L0, L1] then (bif true && gW 8 x y w h l.length L0.length then (bif mayB 1 (withL 8 x y w h l L0) then some (.tup [.ptr 1 0, i64 0], WM1 wr h0 hw h1 L0 L1 hl l x y w h) else some (.tup [nilp, i64 1], (QM1 wr h0 hw h1 L0 L1 hl l))) else none) else none := by kernel_rfl
abbrev WM2 (wr : Bool) (h0 hw h1 h2 : Bool) (L0 L1 L2 : List AV) (hl : Bool) (l : List AV) (x y w h : Int) : Mem := ⟨(QM2 wr h0 hw h1 h2 L0 L1 L2 hl l).blks ++ [pyr true 2 wr (.vec 5) (.vec 6)], (QM2 wr h0 hw h1 h2 L0 L1 L2 hl l).vecs ++ [eH 5 true (withL 16 x y w h l L0), eLv 6 [.vec 5, .vec 7, .vec 8], eH 7 true (coarL (withL 16 x y w h l L0) 16), eH 8 true (coarL (coarL (withL 16 x y w h l L0) 16) 8)]⟩
theorem with_raw2 (wr : Bool) (h0 hw h1 h2 : Bool) (L0 L1 L2 : List AV) (hl : Bool) (l : List AV) (x y w h : Int) : fnK C11 Try.prog 9 Try.f11 [.ptr 0 0, i64 x, i64 y, i64 w, i64 h, .vec 0] (QM2 wr h0 hw h1 h2 L0 L1 L2 hl l) [] =
    bif badW 16 x y w h l.length then some (.tup [nilp, i64 1], (QM2 wr h0 hw h1 h2 L0 L1 L2 hl l)) else bif okL 2 [L0, L1, L2] then (bif true && gW 16 x y w h l.length L0.length then (bif mayB 2 (withL 16 x y w h l L0) then some (.tup [.ptr 1 0, i64 0], WM2 wr h0 hw h1 h2 L0 L1 L2 hl l x y w h) else some (.tup [nilp, i64 1], (QM2 wr h0 hw h1 h2 L0 L1 L2 hl l))) else none) else none := by kernel_rfl
abbrev WM3 (wr : Bool) (h0 hw h1 h2 h3 : Bool) (L0 L1 L2 L3 : List AV) (hl : Bool) (l : List AV) (x y w h : Int) : Mem := ⟨(QM3 wr h0 hw h1 h2 h3 L0 L1 L2 L3 hl l).blks ++ [pyr true 3 wr (.vec 6) (.vec 7)], (QM3 wr h0 hw h1 h2 h3 L0 L1 L2 L3 hl l).vecs ++ [eH 6 true (withL 32 x y w h l L0), eLv 7 [.vec 6, .vec 8, .vec 9, .vec 10], eH 8 true (coarL (withL 32 x y w h l L0) 32), eH 9 true (coarL (coarL (withL 32 x y w h l L0) 32) 16), eH 10 true (coarL (coarL (coarL (withL 32 x y w h l L0) 32) 16) 8)]⟩
theorem with_raw3 (wr : Bool) (h0 hw h1 h2 h3 : Bool) (L0 L1 L2 L3 : List AV) (hl : Bool) (l : List AV) (x y w h : Int) : fnK C11 Try.prog 9 Try.f11 [.ptr 0 0, i64 x, i64 y, i64 w, i64 h, .vec 0] (QM3 wr h0 hw h1 h2 h3 L0 L1 L2 L3 hl l) [] =
    bif badW 32 x y w h l.length then some (.tup [nilp, i64 1], (QM3 wr h0 hw h1 h2 h3 L0 L1 L2 L3 hl l)) else bif okL 3 [L0, L1, L2, L3] then (bif true && gW 32 x y w h l.length L0.length then (bif mayB 3 (withL 32 x y w h l L0) then some (.tup [.ptr 1 0, i64 0], WM3 wr h0 hw h1 h2 h3 L0 L1 L2 L3 hl l x y w h) else some (.tup [nilp, i64 1], (QM3 wr h0 hw h1 h2 h3 L0 L1 L2 L3 hl l))) else none) else none := by kernel_rfl
theorem withL_len {n x y w h : Int} {l T : List AV} (hk : okW n x y w h l.length = true) (h0 : 0 ≤ n) (hT : (T.length : Int) = n * n) : (withL n x y w h l T).length = T.length := by
  obtain ⟨h1, h2, ⟨ex, ey, ew, eh, en⟩, hx, hy, hl⟩ := okW_nat hk
  have hTn : T.length = n.toNat * n.toNat := by
    have : ((n.toNat * n.toNat : Nat) : Int) = n * n := by rw [Int.natCast_mul, en]
    omega
  unfold withL
  rw [layR_len hTn hl hx hy h.toNat (Nat.le_refl _), hTn]
theorem with_fin {α : Type} {D n x y w h : Int} {l T : List AV} {Ls : List (List AV)} {e e' s : α} (hD : 0 ≤ D ∧ D ≤ 3) (hn : n = sz D) (hs : (sqD D : Int) = n * n) (h32 : 0 ≤ n ∧ n ≤ 32) (hk : okL D (T :: Ls) = true) :
    (bif badW n x y w h l.length then some e else bif okL D (T :: Ls) then (bif true && gW n x y w h l.length T.length then (bif mayB D (withL n x y w h l T) then some s else some e') else none) else none) = some (bif okW n x y w h l.length then s else e) := by
  rw [badW_eq h32.1 h32.2]
  cases ho : okW n x y w h l.length with
  | false => rfl
  | true =>
    have hT := (okL_0 hk).1
    have hTn : (T.length : Int) = n * n := by rw [hT]; exact hs
    have hm : mayB D (withL n x y w h l T) = true := by
      unfold mayB okD
      rw [withL_len ho h32.1 hTn, hT, decide_eq_true hD.1, decide_eq_true hD.2]
      simp
    have hg : gW n x y w h l.length T.length = true := by
      unfold gW
      rw [ho, decide_eq_true h32.1, decide_eq_true h32.2, decide_eq_true hTn]; rfl
    rw [hk, hg, hm]; rfl
def withR_0 : MSpec := ⟨[⟨5, 39, true, c4⟩], fun args M k => match args, M with
  | [.ptr 0 0, .lit (.int .i64 x), .lit (.int .i64 y), .lit (.int .i64 w), .lit (.int .i64 h), .vec 0], ⟨[some ⟨65, false, [.lit (.int .i64 0), .lit (.bool wr), .vec 1, .sl 1 0 1 1]⟩, some ⟨22, false, [.vec 1]⟩], [some ⟨39, true, sl, 0, false, hl, l⟩, some ⟨39, true, s0, 1, false, h0, L0⟩]⟩ => bif decide (sl = c4) && decide (s0 = c4) && okL 0 [L0] then (bif okW 4 x y w h l.length then k (.tup [.ptr 2 0, i64 0]) (WM0 wr h0 L0 hl l x y w h) else k (.tup [nilp, i64 1]) (QM0 wr h0 L0 hl l)) else none
  | _, _ => none⟩
theorem withR_ok0 : (withR_0).Ok Try.prog 11 := by
  intro R args M k r h
  simp only [withR_0] at h
  split at h
  · rename_i x y w hh wr sl hl l s0 h0 L0
    simp only [cond_eq_ite, Bool.and_eq_true, decide_eq_true_eq] at h
    split at h
    · rename_i hc
      obtain ⟨⟨rfl, rfl⟩, hk⟩ := hc
      have key := (with_raw0 wr h0 L0 hl l x y w hh).trans (with_fin (by omega) (by decide) (by decide) (by omega) hk)
      split at h
      · rename_i ho
        exact ⟨_, _, h, fn_ok (C := C11) (n := 9) (ts := []) C11_sound mixed s11 C11_loops (key.trans (by rw [ho]; rfl)) rfl⟩
      · rename_i ho
        exact ⟨_, _, h, fn_ok (C := C11) (n := 9) (ts := []) C11_sound mixed s11 C11_loops (key.trans (by rw [Bool.eq_false_iff.2 ho]; rfl)) rfl⟩
    · cases h
  · cases h
def withR_1 : MSpec := ⟨[⟨5, 39, true, c4⟩], fun args M k => match args, M with
  | [.ptr 0 0, .lit (.int .i64 x), .lit (.int .i64 y), .lit (.int .i64 w), .lit (.int .i64 h), .vec 0], ⟨[some ⟨65, false, [.lit (.int .i64 1), .lit (.bool wr), .vec 1, .vec 2]⟩], [some ⟨39, true, sl, 0, false, hl, l⟩, some ⟨39, true, s0, 1, false, h0, L0⟩, some ⟨22, false, [.any], 2, false, hw, [.vec 1, .vec 3]⟩, some ⟨39, true, s1, 3, false, h1, L1⟩]⟩ => bif decide (sl = c4) && decide (s0 = c4) && decide (s1 = c4) && okL 1 [L0, L1] then (bif okW 8 x y w h l.length then k (.tup [.ptr 1 0, i64 0]) (WM1 wr h0 hw h1 L0 L1 hl l x y w h) else k (.tup [nilp, i64 1]) (QM1 wr h0 hw h1 L0 L1 hl l)) else none
  | _, _ => none⟩
theorem withR_ok1 : (withR_1).Ok Try.prog 11 := by
  intro R args M k r h
  simp only [withR_1] at h
  split at h
  · rename_i x y w hh wr sl hl l s0 h0 L0 hw s1 h1 L1
    simp only [cond_eq_ite, Bool.and_eq_true, decide_eq_true_eq] at h
    split at h
    · rename_i hc
      obtain ⟨⟨⟨rfl, rfl⟩, rfl⟩, hk⟩ := hc
      have key := (with_raw1 wr h0 hw h1 L0 L1 hl l x y w hh).trans (with_fin (by omega) (by decide) (by decide) (by omega) hk)
      split at h
      · rename_i ho
        exact ⟨_, _, h, fn_ok (C := C11) (n := 9) (ts := []) C11_sound mixed s11 C11_loops (key.trans (by rw [ho]; rfl)) rfl⟩
      · rename_i ho
        exact ⟨_, _, h, fn_ok (C := C11) (n := 9) (ts := []) C11_sound mixed s11 C11_loops (key.trans (by rw [Bool.eq_false_iff.2 ho]; rfl)) rfl⟩
    · cases h
  · cases h
def withR_2 : MSpec := ⟨[⟨5, 39, true, c4⟩], fun args M k => match args, M with
  | [.ptr 0 0, .lit (.int .i64 x), .lit (.int .i64 y), .lit (.int .i64 w), .lit (.int .i64 h), .vec 0], ⟨[some ⟨65, false, [.lit (.int .i64 2), .lit (.bool wr), .vec 1, .vec 2]⟩], [some ⟨39, true, sl, 0, false, hl, l⟩, some ⟨39, true, s0, 1, false, h0, L0⟩, some ⟨22, false, [.any], 2, false, hw, [.vec 1, .vec 3, .vec 4]⟩, some ⟨39, true, s1, 3, false, h1, L1⟩, some ⟨39, true, s2, 4, false, h2, L2⟩]⟩ => bif decide (sl = c4) && decide (s0 = c4) && decide (s1 = c4) && decide (s2 = c4) && okL 2 [L0, L1, L2] then (bif okW 16 x y w h l.length then k (.tup [.ptr 1 0, i64 0]) (WM2 wr h0 hw h1 h2 L0 L1 L2 hl l x y w h) else k (.tup [nilp, i64 1]) (QM2 wr h0 hw h1 h2 L0 L1 L2 hl l)) else none
  | _, _ => none⟩
theorem withR_ok2 : (withR_2).Ok Try.prog 11 := by
  intro R args M k r h
  simp only [withR_2] at h
  split at h
  · rename_i x y w hh wr sl hl l s0 h0 L0 hw s1 h1 L1 s2 h2 L2
    simp only [cond_eq_ite, Bool.and_eq_true, decide_eq_true_eq] at h
    split at h
    · rename_i hc
      obtain ⟨⟨⟨⟨rfl, rfl⟩, rfl⟩, rfl⟩, hk⟩ := hc
      have key := (with_raw2 wr h0 hw h1 h2 L0 L1 L2 hl l x y w hh).trans (with_fin (by omega) (by decide) (by decide) (by omega) hk)
      split at h
      · rename_i ho
        exact ⟨_, _, h, fn_ok (C := C11) (n := 9) (ts := []) C11_sound mixed s11 C11_loops (key.trans (by rw [ho]; rfl)) rfl⟩
      · rename_i ho
        exact ⟨_, _, h, fn_ok (C := C11) (n := 9) (ts := []) C11_sound mixed s11 C11_loops (key.trans (by rw [Bool.eq_false_iff.2 ho]; rfl)) rfl⟩
    · cases h
  · cases h
def withR_3 : MSpec := ⟨[⟨5, 39, true, c4⟩], fun args M k => match args, M with
  | [.ptr 0 0, .lit (.int .i64 x), .lit (.int .i64 y), .lit (.int .i64 w), .lit (.int .i64 h), .vec 0], ⟨[some ⟨65, false, [.lit (.int .i64 3), .lit (.bool wr), .vec 1, .vec 2]⟩], [some ⟨39, true, sl, 0, false, hl, l⟩, some ⟨39, true, s0, 1, false, h0, L0⟩, some ⟨22, false, [.any], 2, false, hw, [.vec 1, .vec 3, .vec 4, .vec 5]⟩, some ⟨39, true, s1, 3, false, h1, L1⟩, some ⟨39, true, s2, 4, false, h2, L2⟩, some ⟨39, true, s3, 5, false, h3, L3⟩]⟩ => bif decide (sl = c4) && decide (s0 = c4) && decide (s1 = c4) && decide (s2 = c4) && decide (s3 = c4) && okL 3 [L0, L1, L2, L3] then (bif okW 32 x y w h l.length then k (.tup [.ptr 1 0, i64 0]) (WM3 wr h0 hw h1 h2 h3 L0 L1 L2 L3 hl l x y w h) else k (.tup [nilp, i64 1]) (QM3 wr h0 hw h1 h2 h3 L0 L1 L2 L3 hl l)) else none
  | _, _ => none⟩
theorem withR_ok3 : (withR_3).Ok Try.prog 11 := by
  intro R args M k r h
  simp only [withR_3] at h
  split at h
  · rename_i x y w hh wr sl hl l s0 h0 L0 hw s1 h1 L1 s2 h2 L2 s3 h3 L3
    simp only [cond_eq_ite, Bool.and_eq_true, decide_eq_true_eq] at h
    split at h
    · rename_i hc
      obtain ⟨⟨⟨⟨⟨rfl, rfl⟩, rfl⟩, rfl⟩, rfl⟩, hk⟩ := hc
      have key := (with_raw3 wr h0 hw h1 h2 h3 L0 L1 L2 L3 hl l x y w hh).trans (with_fin (by omega) (by decide) (by decide) (by omega) hk)
      split at h
      · rename_i ho
        exact ⟨_, _, h, fn_ok (C := C11) (n := 9) (ts := []) C11_sound mixed s11 C11_loops (key.trans (by rw [ho]; rfl)) rfl⟩
      · rename_i ho
        exact ⟨_, _, h, fn_ok (C := C11) (n := 9) (ts := []) C11_sound mixed s11 C11_loops (key.trans (by rw [Bool.eq_false_iff.2 ho]; rfl)) rfl⟩
    · cases h
  · cases h
def withR_M : MSpec := ⟨[⟨5, 39, true, c4⟩], fun args M k => match M.vecs with
  | [_, _] => withR_0.run args M k
  | [_, _, _, _] => withR_1.run args M k
  | [_, _, _, _, _] => withR_2.run args M k
  | [_, _, _, _, _, _] => withR_3.run args M k
  | _ => none⟩
theorem withR_Mok : withR_M.Ok Try.prog 11 := by
  intro R args M k r h
  simp only [withR_M] at h
  split at h
  · exact withR_ok0 h
  · exact withR_ok1 h
  · exact withR_ok2 h
  · exact withR_ok3 h
  · cases h
/-! over a literal row of one -/
abbrev PS1 (wr h0 hw h1 : Bool) (L0 L1 : List AV) (a b c d : Int) : Mem := ⟨[pyr true 1 wr (.vec 0) (.vec 1), some ⟨39, true, [u8 a, u8 b, u8 c, u8 d]⟩], [some ⟨39, true, c4, 0, true, h0, L0⟩, some ⟨22, false, [CK.any], 1, true, hw, [.vec 0, .vec 2]⟩, some ⟨39, true, c4, 2, true, h1, L1⟩]⟩
abbrev WS1 (wr h0 hw h1 : Bool) (L0 L1 : List AV) (a b c d x y w h : Int) : Mem := ⟨[pyr true 1 wr (.vec 0) (.vec 1), none, pyr true 1 wr (.vec 3) (.vec 4)], [some ⟨39, true, c4, 0, true, h0, L0⟩, some ⟨22, false, [CK.any], 1, true, hw, [.vec 0, .vec 2]⟩, some ⟨39, true, c4, 2, true, h1, L1⟩] ++ [eH 3 true (withL 8 x y w h [col a b c d] L0), eLv 4 [.vec 3, .vec 5], eH 5 true (coarL (withL 8 x y w h [col a b c d] L0) 8)]⟩
theorem withS_raw (wr h0 hw h1 : Bool) (L0 L1 : List AV) (a b c d x y w h : Int) : fnK C11 Try.prog 9 Try.f11 [.ptr 0 0, i64 x, i64 y, i64 w, i64 h, .sl 1 0 1 1] (PS1 wr h0 hw h1 L0 L1 a b c d) [] =
    bif badW 8 x y w h 1 then some (.tup [nilp, i64 1], PS1 wr h0 hw h1 L0 L1 a b c d) else bif okL 1 [L0, L1] then (bif true && gW 8 x y w h 1 L0.length then (bif mayB 1 (withL 8 x y w h [col a b c d] L0) then some (.tup [.ptr 2 0, i64 0], WS1 wr h0 hw h1 L0 L1 a b c d x y w h) else some (.tup [nilp, i64 1], ⟨[pyr true 1 wr (.vec 0) (.vec 1), none], (PS1 wr h0 hw h1 L0 L1 a b c d).vecs⟩)) else none) else none := by kernel_rfl
def withS_M : MSpec := ⟨[], fun args M k => match args, M with
  | [.ptr 0 0, .lit (.int .i64 x), .lit (.int .i64 y), .lit (.int .i64 w), .lit (.int .i64 h), .sl 1 0 1 1], ⟨[some ⟨65, true, [.lit (.int .i64 1), .lit (.bool wr), .vec 0, .vec 1]⟩, some ⟨39, true, [.lit (.int .u8 a), .lit (.int .u8 b), .lit (.int .u8 c), .lit (.int .u8 d)]⟩], [some ⟨39, true, s0, 0, true, h0, L0⟩, some ⟨22, false, [.any], 1, true, hw, [.vec 0, .vec 2]⟩, some ⟨39, true, s1, 2, true, h1, L1⟩]⟩ =>
    bif decide (s0 = c4) && decide (s1 = c4) && okL 1 [L0, L1] then (bif okW 8 x y w h 1 then k (.tup [.ptr 2 0, i64 0]) (WS1 wr h0 hw h1 L0 L1 a b c d x y w h) else k (.tup [nilp, i64 1]) (PS1 wr h0 hw h1 L0 L1 a b c d)) else none
  | _, _ => none⟩
theorem withS_Mok : withS_M.Ok Try.prog 11 := by
  intro R args M k r h
  simp only [withS_M] at h
  split at h
  · rename_i x y w hh wr a b c d s0 h0 L0 hw s1 h1 L1
    simp only [cond_eq_ite, Bool.and_eq_true, decide_eq_true_eq] at h
    split at h
    · rename_i hc
      obtain ⟨⟨rfl, rfl⟩, hk⟩ := hc
      have key := (withS_raw wr h0 hw h1 L0 L1 a b c d x y w hh).trans (with_fin (l := [col a b c d]) (by omega) (by decide) (by decide) (by omega) hk)
      split at h
      · rename_i ho
        exact ⟨_, _, h, fn_ok (C := C11) (n := 9) (ts := []) C11_sound mixed s11 C11_loops (key.trans (by rw [show okW 8 x y w hh [col a b c d].length = true from ho]; rfl)) rfl⟩
      · rename_i ho
        exact ⟨_, _, h, fn_ok (C := C11) (n := 9) (ts := []) C11_sound mixed s11 C11_loops (key.trans (by rw [show okW 8 x y w hh [col a b c d].length = false from Bool.eq_false_iff.2 ho]; rfl)) rfl⟩
    · cases h
  · cases h
end Go.Proofs.Ytfnpnenndbdcpaa
