/- mips' functions and what the laws call (chapter 14): small ones. -/
import Derived.Test.YtfnpnenndbdcpaaMipA
import Derived.Test.YtfnpnenndbdcpaaFxB
import Derived.Test.YtfnpnenndbdcpaaSxThree
import Derived.Test.YtfnpnenndbdcpaaRows
import Derived.KernelRfl
set_option linter.unusedVariables false
set_option linter.unusedSimpArgs false
namespace Go.Proofs.Ytfnpnenndbdcpaa
open Go Go.Sx Go.Fx
set_option maxRecDepth 100000
set_option linter.unusedVariables false
set_option linter.unusedSimpArgs false
theorem mixed : Try.prog.follows .mixedOrders = true := by kernel_rfl
theorem nilS : CallSem.nil.Sound Try.prog := CallSem.nil_sound _
theorem jS : CallSem.nil.withJoin.Sound Try.prog := CallSem.withJoin_sound nilS
def nilp : AV := .lit (.pointer none)
theorem s21 : Sx.Enters Try.prog 21 Try.f21 := ⟨Try.func21, by kernel_rfl, by kernel_rfl⟩
theorem s23 : Sx.Enters Try.prog 23 Try.f23 := ⟨Try.func23, by kernel_rfl, by kernel_rfl⟩
theorem s24 : Sx.Enters Try.prog 24 Try.f24 := ⟨Try.func24, by kernel_rfl, by kernel_rfl⟩
theorem s25 : Sx.Enters Try.prog 25 Try.f25 := ⟨Try.func25, by kernel_rfl, by kernel_rfl⟩
theorem s36 : Sx.Enters Try.prog 36 Try.f36 := ⟨Try.func36, by kernel_rfl, by kernel_rfl⟩
theorem round_raw (a n : Int) : pureK CallSem.nil Try.prog 5 Try.f21 [i64 a, i64 n] some = if n = 0 then none else if n = 0 then none else some (i64 ((wi (a.tmod n + n)).tmod n)) := by kernel_rfl
theorem ok21 : roundS.Ok Try.prog 21 := by
  intro R args k r e
  simp only [roundS] at e
  split at e
  · rename_i a n
    simp only [cond_eq_ite, Bool.and_eq_true, decide_eq_true_eq] at e
    split at e
    · rename_i hc
      refine ⟨_, e, pureOk_of (n := 5) nilS mixed s21 ?_⟩
      rw [round_raw, if_neg (by omega), if_neg (by omega), round_eq hc.1 hc.2]
    · cases e
  · cases e
theorem ok36 : meanS.Ok Try.prog 36 := by
  intro R args k r h
  simp only [meanS] at h
  split at h
  · exact ⟨_, h, pureOk_of (n := 5) nilS mixed s36 (by kernel_rfl)⟩
  · cases h
theorem ok23 : meanS.Ok Try.prog 23 := by
  intro R args k r h
  simp only [meanS] at h
  split at h
  · exact ⟨_, h, pureOk_of (n := 5) nilS mixed s23 (by kernel_rfl)⟩
  · cases h
noncomputable def cR : CallSem := CallSem.nil.withSpec 21 roundS
theorem cR_sound : cR.Sound Try.prog := CallSem.withSpec_sound nilS ok21
theorem ok25 : shadeS.Ok Try.prog 25 := by
  intro R args k r h
  simp only [shadeS] at h
  split at h
  · exact ⟨_, h, pureOk_of (n := 5) cR_sound mixed s25 (by kernel_rfl)⟩
  · cases h
abbrev cN : List CK := [.int .i64]
abbrev rN (el : TypeId) (o2 hd : Bool) (L : List AV) : Mem := ⟨[], [some ⟨el, false, cN, 0, o2, hd, L⟩]⟩
def ix {α : Type} (W : List AV) (i : Int) (R : Option α) : Option α := if 0 ≤ i ∧ i < (W.length : Int) then (if i.toNat < W.length then R else none) else none
theorem ix_in {α : Type} {W : List AV} {j : Int} (h0 : 0 ≤ j) (h : j < (W.length : Int)) (R : Option α) : ix W j R = R := by
  unfold ix
  rw [if_pos ⟨h0, h⟩, if_pos (by omega)]
theorem at_raw (el : TypeId) (o2 hd : Bool) (L : List AV) (i n : Int) : fnK cR Try.prog 5 Try.f24 [.vec 0, i64 i, i64 n] (rN el o2 hd L) [] =
    bif (L.length : Int) == 0 then some (i64 0, rN el o2 hd L) else if (L.length : Int) = 0 then none else ix L (i.tmod (L.length : Int)) (if (L.length : Int) = 0 then none else
      bif decide (0 < n) && decide (n ≤ 4294967296) then some (i64 (rnd (wi (nI L (i.tmod L.length) + wi (i.tdiv L.length))) n), rN el o2 hd L) else none) := by kernel_rfl
def gN (i n : Int) : Bool := decide (0 ≤ i) && decide (0 < n) && decide (n ≤ 4294967296)
abbrev bN (own : Bool) (c : List AV) : Mem := ⟨[some ⟨3, own, c⟩], []⟩
theorem at_raw1 (own : Bool) (a n : Int) : fnK cR Try.prog 5 Try.f24 [.sl 0 0 1 1, i64 0, i64 n] (bN own [i64 a]) [] = bif decide (0 < n) && decide (n ≤ 4294967296) then some (i64 (atZ [i64 a] 0 n), bN own [i64 a]) else none := by kernel_rfl
theorem at_raw50 (own : Bool) (a b c d e n : Int) : fnK cR Try.prog 5 Try.f24 [.sl 0 0 5 5, i64 0, i64 n] (bN own [i64 a, i64 b, i64 c, i64 d, i64 e]) [] = bif decide (0 < n) && decide (n ≤ 4294967296) then some (i64 (atZ [i64 a, i64 b, i64 c, i64 d, i64 e] 0 n), bN own [i64 a, i64 b, i64 c, i64 d, i64 e]) else none := by kernel_rfl
theorem at_raw51 (own : Bool) (a b c d e n : Int) : fnK cR Try.prog 5 Try.f24 [.sl 0 0 5 5, i64 1, i64 n] (bN own [i64 a, i64 b, i64 c, i64 d, i64 e]) [] = bif decide (0 < n) && decide (n ≤ 4294967296) then some (i64 (atZ [i64 a, i64 b, i64 c, i64 d, i64 e] 1 n), bN own [i64 a, i64 b, i64 c, i64 d, i64 e]) else none := by kernel_rfl
theorem at_raw52 (own : Bool) (a b c d e n : Int) : fnK cR Try.prog 5 Try.f24 [.sl 0 0 5 5, i64 2, i64 n] (bN own [i64 a, i64 b, i64 c, i64 d, i64 e]) [] = bif decide (0 < n) && decide (n ≤ 4294967296) then some (i64 (atZ [i64 a, i64 b, i64 c, i64 d, i64 e] 2 n), bN own [i64 a, i64 b, i64 c, i64 d, i64 e]) else none := by kernel_rfl
theorem at_raw53 (own : Bool) (a b c d e n : Int) : fnK cR Try.prog 5 Try.f24 [.sl 0 0 5 5, i64 3, i64 n] (bN own [i64 a, i64 b, i64 c, i64 d, i64 e]) [] = bif decide (0 < n) && decide (n ≤ 4294967296) then some (i64 (atZ [i64 a, i64 b, i64 c, i64 d, i64 e] 3 n), bN own [i64 a, i64 b, i64 c, i64 d, i64 e]) else none := by kernel_rfl
def at_M : MSpec := ⟨[⟨0, 3, false, cN⟩], fun args M k => match args, M with
  | [.vec h0, .lit (.int .i64 i), .lit (.int .i64 n)], ⟨[], [some ⟨el, false, sh, tr, o2, hd, L⟩]⟩ =>
    bif decide (h0 = 0) && decide (sh = cN) && decide (tr = 0) && gN i n then k (i64 (atZ L i n)) (rN el o2 hd L) else none
  | [.sl b q ln cp, .lit (.int .i64 i), .lit (.int .i64 n)], ⟨[some ⟨bt, own, [.lit (.int .i64 a)]⟩], []⟩ =>
    bif decide (b = 0) && decide (q = 0) && decide (ln = 1) && decide (cp = 1) && decide (bt = 3) && decide (i = 0) && gN i n then k (i64 (atZ [i64 a] i n)) (bN own [i64 a]) else none
  | [.sl b q ln cp, .lit (.int .i64 i), .lit (.int .i64 n)], ⟨[some ⟨bt, own, [.lit (.int .i64 a0), .lit (.int .i64 a1), .lit (.int .i64 a2), .lit (.int .i64 a3), .lit (.int .i64 a4)]⟩], []⟩ =>
    bif decide (b = 0) && decide (q = 0) && decide (ln = 5) && decide (cp = 5) && decide (bt = 3) && decide (i ≤ 3) && gN i n then k (i64 (atZ [i64 a0, i64 a1, i64 a2, i64 a3, i64 a4] i n)) (bN own [i64 a0, i64 a1, i64 a2, i64 a3, i64 a4]) else none
  | _, _ => none⟩
theorem at_Mok : at_M.Ok Try.prog 24 := by
  intro R args M k r h
  simp only [at_M, gN] at h
  split at h
  · rename_i h0 i n el sh tr o2 hd L
    simp only [cond_eq_ite, Bool.and_eq_true, decide_eq_true_eq] at h
    split at h
    · rename_i hc
      obtain ⟨⟨⟨rfl, rfl⟩, rfl⟩, ⟨hi, hn⟩, hn'⟩ := hc
      refine ⟨_, _, h, fn_ok (C := cR) (n := 5) (ts := []) cR_sound mixed s24 (fun _ _ => LoopsOk.no _ _) ((at_raw el o2 hd L i n).trans ?_) rfl⟩
      unfold atZ
      cases hl : (L.length : Int) == 0
      · have hne : ¬ (L.length : Int) = 0 := by simpa using hl
        rw [cond_false, if_neg hne, ix_in (by exact Int.tmod_nonneg _ hi) (by exact Int.tmod_lt_of_pos _ (by omega)), if_neg hne, decide_eq_true hn, decide_eq_true hn']
        rfl
      · rfl
    · cases h
  · rename_i b q ln cp i n bt own a
    simp only [cond_eq_ite, Bool.and_eq_true, decide_eq_true_eq] at h
    split at h
    · rename_i hc
      obtain ⟨⟨⟨⟨⟨⟨rfl, rfl⟩, rfl⟩, rfl⟩, rfl⟩, rfl⟩, ⟨hi, hn⟩, hn'⟩ := hc
      exact ⟨_, _, h, fn_ok (C := cR) (n := 5) (ts := []) cR_sound mixed s24 (fun _ _ => LoopsOk.no _ _) ((at_raw1 own a n).trans (by rw [decide_eq_true hn, decide_eq_true hn']; rfl)) rfl⟩
    · cases h
  · rename_i b q ln cp i n bt own a0 a1 a2 a3 a4
    simp only [cond_eq_ite, Bool.and_eq_true, decide_eq_true_eq] at h
    split at h
    · rename_i hc
      obtain ⟨⟨⟨⟨⟨⟨rfl, rfl⟩, rfl⟩, rfl⟩, rfl⟩, hi3⟩, ⟨hi, hn⟩, hn'⟩ := hc
      have h4 : i = 0 ∨ i = 1 ∨ i = 2 ∨ i = 3 := by omega
      rcases h4 with rfl | rfl | rfl | rfl
      · exact ⟨_, _, h, fn_ok (C := cR) (n := 5) (ts := []) cR_sound mixed s24 (fun _ _ => LoopsOk.no _ _) ((at_raw50 own a0 a1 a2 a3 a4 n).trans (by rw [decide_eq_true hn, decide_eq_true hn']; rfl)) rfl⟩
      · exact ⟨_, _, h, fn_ok (C := cR) (n := 5) (ts := []) cR_sound mixed s24 (fun _ _ => LoopsOk.no _ _) ((at_raw51 own a0 a1 a2 a3 a4 n).trans (by rw [decide_eq_true hn, decide_eq_true hn']; rfl)) rfl⟩
      · exact ⟨_, _, h, fn_ok (C := cR) (n := 5) (ts := []) cR_sound mixed s24 (fun _ _ => LoopsOk.no _ _) ((at_raw52 own a0 a1 a2 a3 a4 n).trans (by rw [decide_eq_true hn, decide_eq_true hn']; rfl)) rfl⟩
      · exact ⟨_, _, h, fn_ok (C := cR) (n := 5) (ts := []) cR_sound mixed s24 (fun _ _ => LoopsOk.no _ _) ((at_raw53 own a0 a1 a2 a3 a4 n).trans (by rw [decide_eq_true hn, decide_eq_true hn']; rfl)) rfl⟩
    · cases h
  · cases h
noncomputable def cP : CallSem := (cR.withSpec 25 shadeS).withRead 24 at_M
theorem cP_sound : cP.Sound Try.prog := CallSem.withRead_sound (CallSem.withSpec_sound cR_sound ok25) at_Mok
end Go.Proofs.Ytfnpnenndbdcpaa
