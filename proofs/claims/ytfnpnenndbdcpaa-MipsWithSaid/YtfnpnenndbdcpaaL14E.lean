/- A pyramid's texels (chapter 14): over the forms of memory that pyramids of depth 0 to 3 take. -/
import Derived.Test.YtfnpnenndbdcpaaL14D
set_option linter.unusedVariables false
set_option linter.unusedSimpArgs false
namespace Go.Proofs.Ytfnpnenndbdcpaa
open Go Go.Sx Go.Fx
set_option maxRecDepth 100000
set_option linter.unusedVariables false
set_option linter.unusedSimpArgs false
theorem s13 : Sx.Enters Try.prog 13 Try.f13 := ⟨Try.func13, by kernel_rfl, by kernel_rfl⟩
theorem s18 : Sx.Enters Try.prog 18 Try.f18 := ⟨Try.func18, by kernel_rfl, by kernel_rfl⟩
theorem s29 : Sx.Enters Try.prog 29 Try.f29 := ⟨Try.func29, by kernel_rfl, by kernel_rfl⟩
abbrev eO (t : Nat) (hd : Bool) (L : List AV) : Option Ent := some ⟨39, true, c4, t, false, hd, L⟩
abbrev eW (hd : Bool) (c : List AV) : Option Ent := some ⟨22, false, [CK.any], 1, false, hd, c⟩
abbrev PM0 (wr : Bool) (h0 : Bool) (L0 : List AV) : Mem := ⟨[pyr false 0 wr (.vec 0) (.sl 1 0 1 1), some ⟨22, false, [.vec 0]⟩], [eO 0 h0 L0]⟩
abbrev PM1 (wr : Bool) (h0 hw h1 : Bool) (L0 L1 : List AV) : Mem := ⟨[pyr false 1 wr (.vec 0) (.vec 1)], [eO 0 h0 L0, eW hw [.vec 0, .vec 2], eO 2 h1 L1]⟩
abbrev PM2 (wr : Bool) (h0 hw h1 h2 : Bool) (L0 L1 L2 : List AV) : Mem := ⟨[pyr false 2 wr (.vec 0) (.vec 1)], [eO 0 h0 L0, eW hw [.vec 0, .vec 2, .vec 3], eO 2 h1 L1, eO 3 h2 L2]⟩
abbrev PM3 (wr : Bool) (h0 hw h1 h2 h3 : Bool) (L0 L1 L2 L3 : List AV) : Mem := ⟨[pyr false 3 wr (.vec 0) (.vec 1)], [eO 0 h0 L0, eW hw [.vec 0, .vec 2, .vec 3, .vec 4], eO 2 h1 L1, eO 3 h2 L2, eO 4 h3 L3]⟩
def clampV (n x : Int) : Int := if wi (n - 1) < (if 0 > x then 0 else x) then wi (n - 1) else (if 0 > x then 0 else x)
def szl (D l : Int) : Int := bif decide (l < 0) then 0 else bif decide (D < l) then 0 else wi (4 * 2 ^ min (wi (D - l)).toNat 64)
def gA (n : Int) : Bool := decide (0 < n) && decide (n ≤ 4294967296)
theorem adr_raw0 (wr : Bool) (h0 : Bool) (L0 : List AV) (x n : Int) : fnK CallSem.nil Try.prog 9 Try.f29 [.ptr 0 0, i64 x, i64 n] (PM0 wr h0 L0) [] =
    bif wr then (if n = 0 then none else if n = 0 then none else some (i64 ((wi (x.tmod n + n)).tmod n), (PM0 wr h0 L0))) else some (i64 (clampV n x), (PM0 wr h0 L0)) := by kernel_rfl
theorem size_raw0 (wr : Bool) (h0 : Bool) (L0 : List AV) (l : Int) : fnK CallSem.nil Try.prog 9 Try.f15 [.ptr 0 0, i64 l] (PM0 wr h0 L0) [] =
    bif decide (l < 0) then some (i64 0, (PM0 wr h0 L0)) else bif decide (0 < l) then some (i64 0, (PM0 wr h0 L0)) else if wi (0 - l) < 0 then none else some (i64 (wi (4 * 2 ^ min (wi (0 - l)).toNat 64)), (PM0 wr h0 L0)) := by kernel_rfl
theorem adr_raw1 (wr : Bool) (h0 hw h1 : Bool) (L0 L1 : List AV) (x n : Int) : fnK CallSem.nil Try.prog 9 Try.f29 [.ptr 0 0, i64 x, i64 n] (PM1 wr h0 hw h1 L0 L1) [] =
    bif wr then (if n = 0 then none else if n = 0 then none else some (i64 ((wi (x.tmod n + n)).tmod n), (PM1 wr h0 hw h1 L0 L1))) else some (i64 (clampV n x), (PM1 wr h0 hw h1 L0 L1)) := by kernel_rfl
theorem size_raw1 (wr : Bool) (h0 hw h1 : Bool) (L0 L1 : List AV) (l : Int) : fnK CallSem.nil Try.prog 9 Try.f15 [.ptr 0 0, i64 l] (PM1 wr h0 hw h1 L0 L1) [] =
    bif decide (l < 0) then some (i64 0, (PM1 wr h0 hw h1 L0 L1)) else bif decide (1 < l) then some (i64 0, (PM1 wr h0 hw h1 L0 L1)) else if wi (1 - l) < 0 then none else some (i64 (wi (4 * 2 ^ min (wi (1 - l)).toNat 64)), (PM1 wr h0 hw h1 L0 L1)) := by kernel_rfl
theorem adr_raw2 (wr : Bool) (h0 hw h1 h2 : Bool) (L0 L1 L2 : List AV) (x n : Int) : fnK CallSem.nil Try.prog 9 Try.f29 [.ptr 0 0, i64 x, i64 n] (PM2 wr h0 hw h1 h2 L0 L1 L2) [] =
    bif wr then (if n = 0 then none else if n = 0 then none else some (i64 ((wi (x.tmod n + n)).tmod n), (PM2 wr h0 hw h1 h2 L0 L1 L2))) else some (i64 (clampV n x), (PM2 wr h0 hw h1 h2 L0 L1 L2)) := by kernel_rfl
theorem size_raw2 (wr : Bool) (h0 hw h1 h2 : Bool) (L0 L1 L2 : List AV) (l : Int) : fnK CallSem.nil Try.prog 9 Try.f15 [.ptr 0 0, i64 l] (PM2 wr h0 hw h1 h2 L0 L1 L2) [] =
    bif decide (l < 0) then some (i64 0, (PM2 wr h0 hw h1 h2 L0 L1 L2)) else bif decide (2 < l) then some (i64 0, (PM2 wr h0 hw h1 h2 L0 L1 L2)) else if wi (2 - l) < 0 then none else some (i64 (wi (4 * 2 ^ min (wi (2 - l)).toNat 64)), (PM2 wr h0 hw h1 h2 L0 L1 L2)) := by kernel_rfl
theorem adr_raw3 (wr : Bool) (h0 hw h1 h2 h3 : Bool) (L0 L1 L2 L3 : List AV) (x n : Int) : fnK CallSem.nil Try.prog 9 Try.f29 [.ptr 0 0, i64 x, i64 n] (PM3 wr h0 hw h1 h2 h3 L0 L1 L2 L3) [] =
    bif wr then (if n = 0 then none else if n = 0 then none else some (i64 ((wi (x.tmod n + n)).tmod n), (PM3 wr h0 hw h1 h2 h3 L0 L1 L2 L3))) else some (i64 (clampV n x), (PM3 wr h0 hw h1 h2 h3 L0 L1 L2 L3)) := by kernel_rfl
theorem size_raw3 (wr : Bool) (h0 hw h1 h2 h3 : Bool) (L0 L1 L2 L3 : List AV) (l : Int) : fnK CallSem.nil Try.prog 9 Try.f15 [.ptr 0 0, i64 l] (PM3 wr h0 hw h1 h2 h3 L0 L1 L2 L3) [] =
    bif decide (l < 0) then some (i64 0, (PM3 wr h0 hw h1 h2 h3 L0 L1 L2 L3)) else bif decide (3 < l) then some (i64 0, (PM3 wr h0 hw h1 h2 h3 L0 L1 L2 L3)) else if wi (3 - l) < 0 then none else some (i64 (wi (4 * 2 ^ min (wi (3 - l)).toNat 64)), (PM3 wr h0 hw h1 h2 h3 L0 L1 L2 L3)) := by kernel_rfl
theorem size_rawN (l : Int) : fnK CallSem.nil Try.prog 9 Try.f15 [nilp, i64 l] ⟨[], []⟩ [] = some (i64 0, ⟨[], []⟩) := by kernel_rfl
def adr (wr : Bool) (n x : Int) : Int := bif wr then rnd x n else clampV n x
theorem adr_in {wr : Bool} {n x : Int} (h : gA n = true) : 0 ≤ adr wr n x ∧ adr wr n x < n := by
  simp only [gA, Bool.and_eq_true, decide_eq_true_eq] at h
  unfold adr
  cases wr with
  | true => simp only [cond_true, rnd]; exact ⟨Int.emod_nonneg _ (by omega), Int.emod_lt_of_pos _ h.1⟩
  | false =>
    simp only [cond_false, clampV]
    rw [wi_id (n := n - 1) (by omega) (by omega)]
    split <;> split <;> omega
def adr_M : MSpec := ⟨[], fun args M k => match args, M with
  | [.ptr 0 0, .lit (.int .i64 x), .lit (.int .i64 n)], ⟨[some ⟨65, false, [.lit (.int .i64 0), .lit (.bool wr), .vec 0, .sl 1 0 1 1]⟩, some ⟨22, false, [.vec 0]⟩], [some ⟨39, true, s0, 0, false, h0, L0⟩]⟩ => bif decide (s0 = c4) && gA n then k (i64 (adr wr n x)) (PM0 wr h0 L0) else none
  | [.ptr 0 0, .lit (.int .i64 x), .lit (.int .i64 n)], ⟨[some ⟨65, false, [.lit (.int .i64 1), .lit (.bool wr), .vec 0, .vec 1]⟩], [some ⟨39, true, s0, 0, false, h0, L0⟩, some ⟨22, false, [.any], 1, false, hw, [.vec 0, .vec 2]⟩, some ⟨39, true, s1, 2, false, h1, L1⟩]⟩ => bif decide (s0 = c4) && decide (s1 = c4) && gA n then k (i64 (adr wr n x)) (PM1 wr h0 hw h1 L0 L1) else none
  | [.ptr 0 0, .lit (.int .i64 x), .lit (.int .i64 n)], ⟨[some ⟨65, false, [.lit (.int .i64 2), .lit (.bool wr), .vec 0, .vec 1]⟩], [some ⟨39, true, s0, 0, false, h0, L0⟩, some ⟨22, false, [.any], 1, false, hw, [.vec 0, .vec 2, .vec 3]⟩, some ⟨39, true, s1, 2, false, h1, L1⟩, some ⟨39, true, s2, 3, false, h2, L2⟩]⟩ => bif decide (s0 = c4) && decide (s1 = c4) && decide (s2 = c4) && gA n then k (i64 (adr wr n x)) (PM2 wr h0 hw h1 h2 L0 L1 L2) else none
  | [.ptr 0 0, .lit (.int .i64 x), .lit (.int .i64 n)], ⟨[some ⟨65, false, [.lit (.int .i64 3), .lit (.bool wr), .vec 0, .vec 1]⟩], [some ⟨39, true, s0, 0, false, h0, L0⟩, some ⟨22, false, [.any], 1, false, hw, [.vec 0, .vec 2, .vec 3, .vec 4]⟩, some ⟨39, true, s1, 2, false, h1, L1⟩, some ⟨39, true, s2, 3, false, h2, L2⟩, some ⟨39, true, s3, 4, false, h3, L3⟩]⟩ => bif decide (s0 = c4) && decide (s1 = c4) && decide (s2 = c4) && decide (s3 = c4) && gA n then k (i64 (adr wr n x)) (PM3 wr h0 hw h1 h2 h3 L0 L1 L2 L3) else none
  | _, _ => none⟩
theorem adr_fin {wr : Bool} {x n : Int} {M : Mem} (h : gA n = true) : (bif wr then (if n = 0 then none else if n = 0 then none else some (i64 ((wi (x.tmod n + n)).tmod n), M)) else some (i64 (clampV n x), M)) = some (i64 (adr wr n x), M) := by
  simp only [gA, Bool.and_eq_true, decide_eq_true_eq] at h
  unfold adr
  cases wr with
  | true => simp only [cond_true]; rw [if_neg (by omega), if_neg (by omega), round_eq h.1 h.2]
  | false => rfl
theorem adr_Mok : adr_M.Ok Try.prog 29 := by
  intro R args M k r h
  simp only [adr_M] at h
  split at h
  · rename_i x n wr s0 h0 L0
    simp only [cond_eq_ite, Bool.and_eq_true, decide_eq_true_eq] at h
    split at h
    · rename_i hc
      obtain ⟨rfl, hg⟩ := hc
      exact ⟨_, _, h, fn_ok (C := CallSem.nil) (n := 9) (ts := []) nilS mixed s29 (fun _ _ => LoopsOk.no _ _) ((adr_raw0 wr h0 L0 x n).trans (adr_fin hg)) rfl⟩
    · cases h
  · rename_i x n wr s0 h0 L0 hw s1 h1 L1
    simp only [cond_eq_ite, Bool.and_eq_true, decide_eq_true_eq] at h
    split at h
    · rename_i hc
      obtain ⟨⟨rfl, rfl⟩, hg⟩ := hc
      exact ⟨_, _, h, fn_ok (C := CallSem.nil) (n := 9) (ts := []) nilS mixed s29 (fun _ _ => LoopsOk.no _ _) ((adr_raw1 wr h0 hw h1 L0 L1 x n).trans (adr_fin hg)) rfl⟩
    · cases h
  · rename_i x n wr s0 h0 L0 hw s1 h1 L1 s2 h2 L2
    simp only [cond_eq_ite, Bool.and_eq_true, decide_eq_true_eq] at h
    split at h
    · rename_i hc
      obtain ⟨⟨⟨rfl, rfl⟩, rfl⟩, hg⟩ := hc
      exact ⟨_, _, h, fn_ok (C := CallSem.nil) (n := 9) (ts := []) nilS mixed s29 (fun _ _ => LoopsOk.no _ _) ((adr_raw2 wr h0 hw h1 h2 L0 L1 L2 x n).trans (adr_fin hg)) rfl⟩
    · cases h
  · rename_i x n wr s0 h0 L0 hw s1 h1 L1 s2 h2 L2 s3 h3 L3
    simp only [cond_eq_ite, Bool.and_eq_true, decide_eq_true_eq] at h
    split at h
    · rename_i hc
      obtain ⟨⟨⟨⟨rfl, rfl⟩, rfl⟩, rfl⟩, hg⟩ := hc
      exact ⟨_, _, h, fn_ok (C := CallSem.nil) (n := 9) (ts := []) nilS mixed s29 (fun _ _ => LoopsOk.no _ _) ((adr_raw3 wr h0 hw h1 h2 h3 L0 L1 L2 L3 x n).trans (adr_fin hg)) rfl⟩
    · cases h
  · cases h
def size_M : MSpec := ⟨[], fun args M k => match args, M with
  | [.ptr 0 0, .lit (.int .i64 l)], ⟨[some ⟨65, false, [.lit (.int .i64 0), .lit (.bool wr), .vec 0, .sl 1 0 1 1]⟩, some ⟨22, false, [.vec 0]⟩], [some ⟨39, true, s0, 0, false, h0, L0⟩]⟩ => bif decide (s0 = c4) then k (i64 (szl 0 l)) (PM0 wr h0 L0) else none
  | [.ptr 0 0, .lit (.int .i64 l)], ⟨[some ⟨65, false, [.lit (.int .i64 1), .lit (.bool wr), .vec 0, .vec 1]⟩], [some ⟨39, true, s0, 0, false, h0, L0⟩, some ⟨22, false, [.any], 1, false, hw, [.vec 0, .vec 2]⟩, some ⟨39, true, s1, 2, false, h1, L1⟩]⟩ => bif decide (s0 = c4) && decide (s1 = c4) then k (i64 (szl 1 l)) (PM1 wr h0 hw h1 L0 L1) else none
  | [.ptr 0 0, .lit (.int .i64 l)], ⟨[some ⟨65, false, [.lit (.int .i64 2), .lit (.bool wr), .vec 0, .vec 1]⟩], [some ⟨39, true, s0, 0, false, h0, L0⟩, some ⟨22, false, [.any], 1, false, hw, [.vec 0, .vec 2, .vec 3]⟩, some ⟨39, true, s1, 2, false, h1, L1⟩, some ⟨39, true, s2, 3, false, h2, L2⟩]⟩ => bif decide (s0 = c4) && decide (s1 = c4) && decide (s2 = c4) then k (i64 (szl 2 l)) (PM2 wr h0 hw h1 h2 L0 L1 L2) else none
  | [.ptr 0 0, .lit (.int .i64 l)], ⟨[some ⟨65, false, [.lit (.int .i64 3), .lit (.bool wr), .vec 0, .vec 1]⟩], [some ⟨39, true, s0, 0, false, h0, L0⟩, some ⟨22, false, [.any], 1, false, hw, [.vec 0, .vec 2, .vec 3, .vec 4]⟩, some ⟨39, true, s1, 2, false, h1, L1⟩, some ⟨39, true, s2, 3, false, h2, L2⟩, some ⟨39, true, s3, 4, false, h3, L3⟩]⟩ => bif decide (s0 = c4) && decide (s1 = c4) && decide (s2 = c4) && decide (s3 = c4) then k (i64 (szl 3 l)) (PM3 wr h0 hw h1 h2 h3 L0 L1 L2 L3) else none
  | [.lit (.pointer none), .lit (.int .i64 l)], ⟨[], []⟩ => k (i64 0) ⟨[], []⟩
  | _, _ => none⟩
theorem size_fin {D l : Int} {M : Mem} (h : 0 ≤ D) (h3 : D ≤ 3) : (bif decide (l < 0) then some (i64 0, M) else bif decide (D < l) then some (i64 0, M) else if wi (D - l) < 0 then none else some (i64 (wi (4 * 2 ^ min (wi (D - l)).toNat 64)), M)) = some (i64 (szl D l), M) := by
  unfold szl
  by_cases h0 : l < 0
  · rw [decide_eq_true h0]; rfl
  · by_cases h1 : D < l
    · rw [decide_eq_true h1]; cases decide (l < 0) <;> rfl
    · rw [decide_eq_false h0, decide_eq_false h1, cond_false, cond_false, if_neg (by rw [wi_id (by omega) (by omega)]; omega)]
      rfl
theorem size_Mok : size_M.Ok Try.prog 15 := by
  intro R args M k r h
  simp only [size_M] at h
  split at h
  · rename_i l wr s0 h0 L0
    simp only [cond_eq_ite, Bool.and_eq_true, decide_eq_true_eq] at h
    split at h
    · rename_i hc
      obtain rfl := hc
      exact ⟨_, _, h, fn_ok (C := CallSem.nil) (n := 9) (ts := []) nilS mixed s15 (fun _ _ => LoopsOk.no _ _) ((size_raw0 wr h0 L0 l).trans (size_fin (by omega) (by omega))) rfl⟩
    · cases h
  · rename_i l wr s0 h0 L0 hw s1 h1 L1
    simp only [cond_eq_ite, Bool.and_eq_true, decide_eq_true_eq] at h
    split at h
    · rename_i hc
      obtain ⟨rfl, rfl⟩ := hc
      exact ⟨_, _, h, fn_ok (C := CallSem.nil) (n := 9) (ts := []) nilS mixed s15 (fun _ _ => LoopsOk.no _ _) ((size_raw1 wr h0 hw h1 L0 L1 l).trans (size_fin (by omega) (by omega))) rfl⟩
    · cases h
  · rename_i l wr s0 h0 L0 hw s1 h1 L1 s2 h2 L2
    simp only [cond_eq_ite, Bool.and_eq_true, decide_eq_true_eq] at h
    split at h
    · rename_i hc
      obtain ⟨⟨rfl, rfl⟩, rfl⟩ := hc
      exact ⟨_, _, h, fn_ok (C := CallSem.nil) (n := 9) (ts := []) nilS mixed s15 (fun _ _ => LoopsOk.no _ _) ((size_raw2 wr h0 hw h1 h2 L0 L1 L2 l).trans (size_fin (by omega) (by omega))) rfl⟩
    · cases h
  · rename_i l wr s0 h0 L0 hw s1 h1 L1 s2 h2 L2 s3 h3 L3
    simp only [cond_eq_ite, Bool.and_eq_true, decide_eq_true_eq] at h
    split at h
    · rename_i hc
      obtain ⟨⟨⟨rfl, rfl⟩, rfl⟩, rfl⟩ := hc
      exact ⟨_, _, h, fn_ok (C := CallSem.nil) (n := 9) (ts := []) nilS mixed s15 (fun _ _ => LoopsOk.no _ _) ((size_raw3 wr h0 hw h1 h2 h3 L0 L1 L2 L3 l).trans (size_fin (by omega) (by omega))) rfl⟩
    · cases h
  · rename_i l
    exact ⟨_, _, h, fn_ok (C := CallSem.nil) (n := 9) (ts := []) nilS mixed s15 (fun _ _ => LoopsOk.no _ _) (size_rawN l) rfl⟩
  · cases h
noncomputable def cA : CallSem := (CallSem.nil.withRead 15 size_M).withRead 29 adr_M
theorem cA_sound : cA.Sound Try.prog := CallSem.withRead_sound (CallSem.withRead_sound nilS size_Mok) adr_Mok
/-- out of the levels -/
def outB (D l : Int) : Bool := decide (l < 0) || decide (D < l)
def sizeF : MSpec := ⟨[], fun args M k => match args, M with
  | [.ptr 0 0, .lit (.int .i64 l)], ⟨[some ⟨65, false, [.lit (.int .i64 0), .lit (.bool wr), .vec 0, .sl 1 0 1 1]⟩, some ⟨22, false, [.vec 0]⟩], [some ⟨39, true, s0, 0, false, h0, L0⟩]⟩ => bif decide (s0 = c4) && outB 0 l then k (i64 0) (PM0 wr h0 L0) else none
  | [.ptr 0 0, .lit (.int .i64 l)], ⟨[some ⟨65, false, [.lit (.int .i64 1), .lit (.bool wr), .vec 0, .vec 1]⟩], [some ⟨39, true, s0, 0, false, h0, L0⟩, some ⟨22, false, [.any], 1, false, hw, [.vec 0, .vec 2]⟩, some ⟨39, true, s1, 2, false, h1, L1⟩]⟩ => bif decide (s0 = c4) && decide (s1 = c4) && outB 1 l then k (i64 0) (PM1 wr h0 hw h1 L0 L1) else none
  | [.ptr 0 0, .lit (.int .i64 l)], ⟨[some ⟨65, false, [.lit (.int .i64 2), .lit (.bool wr), .vec 0, .vec 1]⟩], [some ⟨39, true, s0, 0, false, h0, L0⟩, some ⟨22, false, [.any], 1, false, hw, [.vec 0, .vec 2, .vec 3]⟩, some ⟨39, true, s1, 2, false, h1, L1⟩, some ⟨39, true, s2, 3, false, h2, L2⟩]⟩ => bif decide (s0 = c4) && decide (s1 = c4) && decide (s2 = c4) && outB 2 l then k (i64 0) (PM2 wr h0 hw h1 h2 L0 L1 L2) else none
  | [.ptr 0 0, .lit (.int .i64 l)], ⟨[some ⟨65, false, [.lit (.int .i64 3), .lit (.bool wr), .vec 0, .vec 1]⟩], [some ⟨39, true, s0, 0, false, h0, L0⟩, some ⟨22, false, [.any], 1, false, hw, [.vec 0, .vec 2, .vec 3, .vec 4]⟩, some ⟨39, true, s1, 2, false, h1, L1⟩, some ⟨39, true, s2, 3, false, h2, L2⟩, some ⟨39, true, s3, 4, false, h3, L3⟩]⟩ => bif decide (s0 = c4) && decide (s1 = c4) && decide (s2 = c4) && decide (s3 = c4) && outB 3 l then k (i64 0) (PM3 wr h0 hw h1 h2 h3 L0 L1 L2 L3) else none
  | _, _ => none⟩
theorem szl_out {D l : Int} (h : outB D l = true) : szl D l = 0 := by
  simp only [outB, Bool.or_eq_true, decide_eq_true_eq] at h
  unfold szl
  rcases h with h | h
  · rw [decide_eq_true h]; rfl
  · rw [decide_eq_true h]; cases decide (l < 0) <;> rfl
theorem sizeF_ok : sizeF.Ok Try.prog 15 := by
  intro R args M k r h
  simp only [sizeF] at h
  split at h
  · rename_i l wr s0 h0 L0
    simp only [cond_eq_ite, Bool.and_eq_true, decide_eq_true_eq] at h
    split at h
    · rename_i hc
      obtain ⟨rfl, ho⟩ := hc
      refine size_Mok (k := k) (M := PM0 wr h0 L0) ?_
      show (bif true then k (i64 (szl 0 l)) (PM0 wr h0 L0) else none) = _
      rw [szl_out ho]; exact h
    · cases h
  · rename_i l wr s0 h0 L0 hw s1 h1 L1
    simp only [cond_eq_ite, Bool.and_eq_true, decide_eq_true_eq] at h
    split at h
    · rename_i hc
      obtain ⟨⟨rfl, rfl⟩, ho⟩ := hc
      refine size_Mok (k := k) (M := PM1 wr h0 hw h1 L0 L1) ?_
      show (bif true then k (i64 (szl 1 l)) (PM1 wr h0 hw h1 L0 L1) else none) = _
      rw [szl_out ho]; exact h
    · cases h
  · rename_i l wr s0 h0 L0 hw s1 h1 L1 s2 h2 L2
    simp only [cond_eq_ite, Bool.and_eq_true, decide_eq_true_eq] at h
    split at h
    · rename_i hc
      obtain ⟨⟨⟨rfl, rfl⟩, rfl⟩, ho⟩ := hc
      refine size_Mok (k := k) (M := PM2 wr h0 hw h1 h2 L0 L1 L2) ?_
      show (bif true then k (i64 (szl 2 l)) (PM2 wr h0 hw h1 h2 L0 L1 L2) else none) = _
      rw [szl_out ho]; exact h
    · cases h
  · rename_i l wr s0 h0 L0 hw s1 h1 L1 s2 h2 L2 s3 h3 L3
    simp only [cond_eq_ite, Bool.and_eq_true, decide_eq_true_eq] at h
    split at h
    · rename_i hc
      obtain ⟨⟨⟨⟨rfl, rfl⟩, rfl⟩, rfl⟩, ho⟩ := hc
      refine size_Mok (k := k) (M := PM3 wr h0 hw h1 h2 h3 L0 L1 L2 L3) ?_
      show (bif true then k (i64 (szl 3 l)) (PM3 wr h0 hw h1 h2 h3 L0 L1 L2 L3) else none) = _
      rw [szl_out ho]; exact h
    · cases h
  · cases h
noncomputable def cAo : CallSem := CallSem.nil.withRead 15 sizeF
theorem cAo_sound : cAo.Sound Try.prog := CallSem.withRead_sound nilS sizeF_ok
def idx (wr : Bool) (n x y : Int) : Int := wi (wi (adr wr n y * n) + adr wr n x)
def txl (wr : Bool) (D : Int) (Ls : List (List AV)) (l x y : Int) : AV := Go.Fx.cA (bif outB D l then col 0 0 0 0 else (Ls.getD l.toNat []).getD (idx wr (szl D l) x y).toNat .bad)
def okL : Int → List (List AV) → Bool
  | _, [] => true
  | D, L :: l => (L.length == sqD D) && okL (D - 1) l
theorem at_out0 (wr : Bool) (h0 : Bool) (L0 : List AV) (l x y : Int) : fnK cAo Try.prog 9 Try.f13 [.ptr 0 0, i64 l, i64 x, i64 y] (PM0 wr h0 L0) [] = bif true && outB 0 l then some (col 0 0 0 0, (PM0 wr h0 L0)) else none := by kernel_rfl
theorem at_lev00 (wr : Bool) (h0 : Bool) (L0 : List AV) (x y : Int) : fnK cA Try.prog 9 Try.f13 [.ptr 0 0, i64 0, i64 x, i64 y] (PM0 wr h0 L0) [] = ix L0 (idx wr 4 x y) (some (Go.Fx.atC L0 (idx wr 4 x y), (PM0 wr h0 L0))) := by kernel_rfl
theorem at_out1 (wr : Bool) (h0 hw h1 : Bool) (L0 L1 : List AV) (l x y : Int) : fnK cAo Try.prog 9 Try.f13 [.ptr 0 0, i64 l, i64 x, i64 y] (PM1 wr h0 hw h1 L0 L1) [] = bif true && outB 1 l then some (col 0 0 0 0, (PM1 wr h0 hw h1 L0 L1)) else none := by kernel_rfl
theorem at_lev10 (wr : Bool) (h0 hw h1 : Bool) (L0 L1 : List AV) (x y : Int) : fnK cA Try.prog 9 Try.f13 [.ptr 0 0, i64 0, i64 x, i64 y] (PM1 wr h0 hw h1 L0 L1) [] = ix L0 (idx wr 8 x y) (some (Go.Fx.atC L0 (idx wr 8 x y), (PM1 wr h0 hw h1 L0 L1))) := by kernel_rfl
theorem at_lev11 (wr : Bool) (h0 hw h1 : Bool) (L0 L1 : List AV) (x y : Int) : fnK cA Try.prog 9 Try.f13 [.ptr 0 0, i64 1, i64 x, i64 y] (PM1 wr h0 hw h1 L0 L1) [] = ix L1 (idx wr 4 x y) (some (Go.Fx.atC L1 (idx wr 4 x y), (PM1 wr h0 hw h1 L0 L1))) := by kernel_rfl
theorem at_out2 (wr : Bool) (h0 hw h1 h2 : Bool) (L0 L1 L2 : List AV) (l x y : Int) : fnK cAo Try.prog 9 Try.f13 [.ptr 0 0, i64 l, i64 x, i64 y] (PM2 wr h0 hw h1 h2 L0 L1 L2) [] = bif true && outB 2 l then some (col 0 0 0 0, (PM2 wr h0 hw h1 h2 L0 L1 L2)) else none := by kernel_rfl
theorem at_lev20 (wr : Bool) (h0 hw h1 h2 : Bool) (L0 L1 L2 : List AV) (x y : Int) : fnK cA Try.prog 9 Try.f13 [.ptr 0 0, i64 0, i64 x, i64 y] (PM2 wr h0 hw h1 h2 L0 L1 L2) [] = ix L0 (idx wr 16 x y) (some (Go.Fx.atC L0 (idx wr 16 x y), (PM2 wr h0 hw h1 h2 L0 L1 L2))) := by kernel_rfl
theorem at_lev21 (wr : Bool) (h0 hw h1 h2 : Bool) (L0 L1 L2 : List AV) (x y : Int) : fnK cA Try.prog 9 Try.f13 [.ptr 0 0, i64 1, i64 x, i64 y] (PM2 wr h0 hw h1 h2 L0 L1 L2) [] = ix L1 (idx wr 8 x y) (some (Go.Fx.atC L1 (idx wr 8 x y), (PM2 wr h0 hw h1 h2 L0 L1 L2))) := by kernel_rfl
theorem at_lev22 (wr : Bool) (h0 hw h1 h2 : Bool) (L0 L1 L2 : List AV) (x y : Int) : fnK cA Try.prog 9 Try.f13 [.ptr 0 0, i64 2, i64 x, i64 y] (PM2 wr h0 hw h1 h2 L0 L1 L2) [] = ix L2 (idx wr 4 x y) (some (Go.Fx.atC L2 (idx wr 4 x y), (PM2 wr h0 hw h1 h2 L0 L1 L2))) := by kernel_rfl
theorem at_out3 (wr : Bool) (h0 hw h1 h2 h3 : Bool) (L0 L1 L2 L3 : List AV) (l x y : Int) : fnK cAo Try.prog 9 Try.f13 [.ptr 0 0, i64 l, i64 x, i64 y] (PM3 wr h0 hw h1 h2 h3 L0 L1 L2 L3) [] = bif true && outB 3 l then some (col 0 0 0 0, (PM3 wr h0 hw h1 h2 h3 L0 L1 L2 L3)) else none := by kernel_rfl
theorem at_lev30 (wr : Bool) (h0 hw h1 h2 h3 : Bool) (L0 L1 L2 L3 : List AV) (x y : Int) : fnK cA Try.prog 9 Try.f13 [.ptr 0 0, i64 0, i64 x, i64 y] (PM3 wr h0 hw h1 h2 h3 L0 L1 L2 L3) [] = ix L0 (idx wr 32 x y) (some (Go.Fx.atC L0 (idx wr 32 x y), (PM3 wr h0 hw h1 h2 h3 L0 L1 L2 L3))) := by kernel_rfl
theorem at_lev31 (wr : Bool) (h0 hw h1 h2 h3 : Bool) (L0 L1 L2 L3 : List AV) (x y : Int) : fnK cA Try.prog 9 Try.f13 [.ptr 0 0, i64 1, i64 x, i64 y] (PM3 wr h0 hw h1 h2 h3 L0 L1 L2 L3) [] = ix L1 (idx wr 16 x y) (some (Go.Fx.atC L1 (idx wr 16 x y), (PM3 wr h0 hw h1 h2 h3 L0 L1 L2 L3))) := by kernel_rfl
theorem at_lev32 (wr : Bool) (h0 hw h1 h2 h3 : Bool) (L0 L1 L2 L3 : List AV) (x y : Int) : fnK cA Try.prog 9 Try.f13 [.ptr 0 0, i64 2, i64 x, i64 y] (PM3 wr h0 hw h1 h2 h3 L0 L1 L2 L3) [] = ix L2 (idx wr 8 x y) (some (Go.Fx.atC L2 (idx wr 8 x y), (PM3 wr h0 hw h1 h2 h3 L0 L1 L2 L3))) := by kernel_rfl
theorem at_lev33 (wr : Bool) (h0 hw h1 h2 h3 : Bool) (L0 L1 L2 L3 : List AV) (x y : Int) : fnK cA Try.prog 9 Try.f13 [.ptr 0 0, i64 3, i64 x, i64 y] (PM3 wr h0 hw h1 h2 h3 L0 L1 L2 L3) [] = ix L3 (idx wr 4 x y) (some (Go.Fx.atC L3 (idx wr 4 x y), (PM3 wr h0 hw h1 h2 h3 L0 L1 L2 L3))) := by kernel_rfl
theorem idx_in {wr : Bool} {n x y : Int} (h : gA n = true) (h32 : n ≤ 32) : 0 ≤ idx wr n x y ∧ idx wr n x y < n * n := by
  obtain ⟨a0, a1⟩ := adr_in (wr := wr) (x := y) h
  obtain ⟨b0, b1⟩ := adr_in (wr := wr) (x := x) h
  have hn : n = n := rfl
  have hm : 0 ≤ adr wr n y * n := Int.mul_nonneg a0 (by omega)
  have hm2 : adr wr n y * n ≤ (n - 1) * n := Int.mul_le_mul_of_nonneg_right (by omega) (by omega)
  have hm3 : (n - 1) * n = n * n - n := by rw [Int.sub_mul, Int.one_mul]
  have hm4 : n * n ≤ 32 * 32 := Int.mul_le_mul h32 h32 (by omega) (by omega)
  unfold idx
  rw [wi_id (n := adr wr n y * n) (by omega) (by omega), wi_id (by omega) (by omega)]
  omega
def atP_M : MSpec := ⟨[], fun args M k => match args, M with
  | [.ptr 0 0, .lit (.int .i64 l), .lit (.int .i64 x), .lit (.int .i64 y)], ⟨[some ⟨65, false, [.lit (.int .i64 0), .lit (.bool wr), .vec 0, .sl 1 0 1 1]⟩, some ⟨22, false, [.vec 0]⟩], [some ⟨39, true, s0, 0, false, h0, L0⟩]⟩ => bif decide (s0 = c4) && okL 0 [L0] then k (txl wr 0 [L0] l x y) (PM0 wr h0 L0) else none
  | [.ptr 0 0, .lit (.int .i64 l), .lit (.int .i64 x), .lit (.int .i64 y)], ⟨[some ⟨65, false, [.lit (.int .i64 1), .lit (.bool wr), .vec 0, .vec 1]⟩], [some ⟨39, true, s0, 0, false, h0, L0⟩, some ⟨22, false, [.any], 1, false, hw, [.vec 0, .vec 2]⟩, some ⟨39, true, s1, 2, false, h1, L1⟩]⟩ => bif decide (s0 = c4) && decide (s1 = c4) && okL 1 [L0, L1] then k (txl wr 1 [L0, L1] l x y) (PM1 wr h0 hw h1 L0 L1) else none
  | [.ptr 0 0, .lit (.int .i64 l), .lit (.int .i64 x), .lit (.int .i64 y)], ⟨[some ⟨65, false, [.lit (.int .i64 2), .lit (.bool wr), .vec 0, .vec 1]⟩], [some ⟨39, true, s0, 0, false, h0, L0⟩, some ⟨22, false, [.any], 1, false, hw, [.vec 0, .vec 2, .vec 3]⟩, some ⟨39, true, s1, 2, false, h1, L1⟩, some ⟨39, true, s2, 3, false, h2, L2⟩]⟩ => bif decide (s0 = c4) && decide (s1 = c4) && decide (s2 = c4) && okL 2 [L0, L1, L2] then k (txl wr 2 [L0, L1, L2] l x y) (PM2 wr h0 hw h1 h2 L0 L1 L2) else none
  | [.ptr 0 0, .lit (.int .i64 l), .lit (.int .i64 x), .lit (.int .i64 y)], ⟨[some ⟨65, false, [.lit (.int .i64 3), .lit (.bool wr), .vec 0, .vec 1]⟩], [some ⟨39, true, s0, 0, false, h0, L0⟩, some ⟨22, false, [.any], 1, false, hw, [.vec 0, .vec 2, .vec 3, .vec 4]⟩, some ⟨39, true, s1, 2, false, h1, L1⟩, some ⟨39, true, s2, 3, false, h2, L2⟩, some ⟨39, true, s3, 4, false, h3, L3⟩]⟩ => bif decide (s0 = c4) && decide (s1 = c4) && decide (s2 = c4) && decide (s3 = c4) && okL 3 [L0, L1, L2, L3] then k (txl wr 3 [L0, L1, L2, L3] l x y) (PM3 wr h0 hw h1 h2 h3 L0 L1 L2 L3) else none
  | _, _ => none⟩
theorem at_fin {wr : Bool} {D l n x y : Int} {Ls : List (List AV)} {L : List AV} {M : Mem} (hg : gA n = true) (h32 : n ≤ 32) (ho : outB D l = false) (hL : Ls.getD l.toNat [] = L) (hs : szl D l = n) (hl : (L.length : Int) = n * n) :
    ix L (idx wr n x y) (some (Go.Fx.atC L (idx wr n x y), M)) = some (txl wr D Ls l x y, M) := by
  obtain ⟨h0, h1⟩ := idx_in (wr := wr) (x := x) (y := y) hg h32
  rw [ix_in h0 (by omega)]
  unfold txl
  rw [ho, hs, hL]
  rfl
theorem okL_0 {D : Int} {L : List AV} {l : List (List AV)} (h : okL D (L :: l) = true) : L.length = sqD D ∧ okL (D - 1) l = true := by
  simp only [okL, Bool.and_eq_true, beq_iff_eq] at h
  exact h
theorem atP_Mok : atP_M.Ok Try.prog 13 := by
  intro R args M k r h
  simp only [atP_M] at h
  split at h
  · rename_i l x y wr s0 h0 L0
    simp only [cond_eq_ite, Bool.and_eq_true, decide_eq_true_eq] at h
    split at h
    · rename_i hc
      obtain ⟨rfl, hk⟩ := hc
      refine ⟨_, _, h, ?_⟩
      obtain ⟨e0, k0⟩ := okL_0 hk
      by_cases ho : outB 0 l = true
      · refine fn_ok (C := cAo) (n := 9) (ts := []) cAo_sound mixed s13 (fun _ _ => LoopsOk.no _ _) ((at_out0 wr h0 L0 l x y).trans ?_) rfl
        unfold txl
        rw [ho]; rfl
      · rw [Bool.not_eq_true] at ho
        have hl := ho
        simp only [outB, Bool.or_eq_false_iff, decide_eq_false_iff_not] at hl
        have h4 : l = 0 := by omega
        rcases h4 with rfl
        · exact fn_ok (C := cA) (n := 9) (ts := []) cA_sound mixed s13 (fun _ _ => LoopsOk.no _ _) ((at_lev00 wr h0 L0 x y).trans (at_fin (by decide) (by decide) ho rfl (by decide) (by rw [e0]; decide))) rfl
    · cases h
  · rename_i l x y wr s0 h0 L0 hw s1 h1 L1
    simp only [cond_eq_ite, Bool.and_eq_true, decide_eq_true_eq] at h
    split at h
    · rename_i hc
      obtain ⟨⟨rfl, rfl⟩, hk⟩ := hc
      refine ⟨_, _, h, ?_⟩
      obtain ⟨e0, k0⟩ := okL_0 hk
      obtain ⟨e1, k1⟩ := okL_0 k0
      by_cases ho : outB 1 l = true
      · refine fn_ok (C := cAo) (n := 9) (ts := []) cAo_sound mixed s13 (fun _ _ => LoopsOk.no _ _) ((at_out1 wr h0 hw h1 L0 L1 l x y).trans ?_) rfl
        unfold txl
        rw [ho]; rfl
      · rw [Bool.not_eq_true] at ho
        have hl := ho
        simp only [outB, Bool.or_eq_false_iff, decide_eq_false_iff_not] at hl
        have h4 : l = 0 ∨ l = 1 := by omega
        rcases h4 with rfl | rfl
        · exact fn_ok (C := cA) (n := 9) (ts := []) cA_sound mixed s13 (fun _ _ => LoopsOk.no _ _) ((at_lev10 wr h0 hw h1 L0 L1 x y).trans (at_fin (by decide) (by decide) ho rfl (by decide) (by rw [e0]; decide))) rfl
        · exact fn_ok (C := cA) (n := 9) (ts := []) cA_sound mixed s13 (fun _ _ => LoopsOk.no _ _) ((at_lev11 wr h0 hw h1 L0 L1 x y).trans (at_fin (by decide) (by decide) ho rfl (by decide) (by rw [e1]; decide))) rfl
    · cases h
  · rename_i l x y wr s0 h0 L0 hw s1 h1 L1 s2 h2 L2
    simp only [cond_eq_ite, Bool.and_eq_true, decide_eq_true_eq] at h
    split at h
    · rename_i hc
      obtain ⟨⟨⟨rfl, rfl⟩, rfl⟩, hk⟩ := hc
      refine ⟨_, _, h, ?_⟩
      obtain ⟨e0, k0⟩ := okL_0 hk
      obtain ⟨e1, k1⟩ := okL_0 k0
      obtain ⟨e2, k2⟩ := okL_0 k1
      by_cases ho : outB 2 l = true
      · refine fn_ok (C := cAo) (n := 9) (ts := []) cAo_sound mixed s13 (fun _ _ => LoopsOk.no _ _) ((at_out2 wr h0 hw h1 h2 L0 L1 L2 l x y).trans ?_) rfl
        unfold txl
        rw [ho]; rfl
      · rw [Bool.not_eq_true] at ho
        have hl := ho
        simp only [outB, Bool.or_eq_false_iff, decide_eq_false_iff_not] at hl
        have h4 : l = 0 ∨ l = 1 ∨ l = 2 := by omega
        rcases h4 with rfl | rfl | rfl
        · exact fn_ok (C := cA) (n := 9) (ts := []) cA_sound mixed s13 (fun _ _ => LoopsOk.no _ _) ((at_lev20 wr h0 hw h1 h2 L0 L1 L2 x y).trans (at_fin (by decide) (by decide) ho rfl (by decide) (by rw [e0]; decide))) rfl
        · exact fn_ok (C := cA) (n := 9) (ts := []) cA_sound mixed s13 (fun _ _ => LoopsOk.no _ _) ((at_lev21 wr h0 hw h1 h2 L0 L1 L2 x y).trans (at_fin (by decide) (by decide) ho rfl (by decide) (by rw [e1]; decide))) rfl
        · exact fn_ok (C := cA) (n := 9) (ts := []) cA_sound mixed s13 (fun _ _ => LoopsOk.no _ _) ((at_lev22 wr h0 hw h1 h2 L0 L1 L2 x y).trans (at_fin (by decide) (by decide) ho rfl (by decide) (by rw [e2]; decide))) rfl
    · cases h
  · rename_i l x y wr s0 h0 L0 hw s1 h1 L1 s2 h2 L2 s3 h3 L3
    simp only [cond_eq_ite, Bool.and_eq_true, decide_eq_true_eq] at h
    split at h
    · rename_i hc
      obtain ⟨⟨⟨⟨rfl, rfl⟩, rfl⟩, rfl⟩, hk⟩ := hc
      refine ⟨_, _, h, ?_⟩
      obtain ⟨e0, k0⟩ := okL_0 hk
      obtain ⟨e1, k1⟩ := okL_0 k0
      obtain ⟨e2, k2⟩ := okL_0 k1
      obtain ⟨e3, k3⟩ := okL_0 k2
      by_cases ho : outB 3 l = true
      · refine fn_ok (C := cAo) (n := 9) (ts := []) cAo_sound mixed s13 (fun _ _ => LoopsOk.no _ _) ((at_out3 wr h0 hw h1 h2 h3 L0 L1 L2 L3 l x y).trans ?_) rfl
        unfold txl
        rw [ho]; rfl
      · rw [Bool.not_eq_true] at ho
        have hl := ho
        simp only [outB, Bool.or_eq_false_iff, decide_eq_false_iff_not] at hl
        have h4 : l = 0 ∨ l = 1 ∨ l = 2 ∨ l = 3 := by omega
        rcases h4 with rfl | rfl | rfl | rfl
        · exact fn_ok (C := cA) (n := 9) (ts := []) cA_sound mixed s13 (fun _ _ => LoopsOk.no _ _) ((at_lev30 wr h0 hw h1 h2 h3 L0 L1 L2 L3 x y).trans (at_fin (by decide) (by decide) ho rfl (by decide) (by rw [e0]; decide))) rfl
        · exact fn_ok (C := cA) (n := 9) (ts := []) cA_sound mixed s13 (fun _ _ => LoopsOk.no _ _) ((at_lev31 wr h0 hw h1 h2 h3 L0 L1 L2 L3 x y).trans (at_fin (by decide) (by decide) ho rfl (by decide) (by rw [e1]; decide))) rfl
        · exact fn_ok (C := cA) (n := 9) (ts := []) cA_sound mixed s13 (fun _ _ => LoopsOk.no _ _) ((at_lev32 wr h0 hw h1 h2 h3 L0 L1 L2 L3 x y).trans (at_fin (by decide) (by decide) ho rfl (by decide) (by rw [e2]; decide))) rfl
        · exact fn_ok (C := cA) (n := 9) (ts := []) cA_sound mixed s13 (fun _ _ => LoopsOk.no _ _) ((at_lev33 wr h0 hw h1 h2 h3 L0 L1 L2 L3 x y).trans (at_fin (by decide) (by decide) ho rfl (by decide) (by rw [e3]; decide))) rfl
    · cases h
  · cases h
end Go.Proofs.Ytfnpnenndbdcpaa
