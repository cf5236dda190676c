/- Build (chapter 14). -/
import Derived.Test.YtfnpnenndbdcpaaL14C
set_option linter.unusedVariables false
set_option linter.unusedSimpArgs false
namespace Go.Proofs.Ytfnpnenndbdcpaa
open Go Go.Sx Go.Fx
set_option maxRecDepth 100000
set_option linter.unusedVariables false
set_option linter.unusedSimpArgs false
theorem s8 : Sx.Enters Try.prog 8 Try.f8 := ⟨Try.func8, by kernel_rfl, by kernel_rfl⟩
theorem s10 : Sx.Enters Try.prog 10 Try.f10 := ⟨Try.func10, by kernel_rfl, by kernel_rfl⟩
theorem s26 : Sx.Enters Try.prog 26 Try.f26 := ⟨Try.func26, by kernel_rfl, by kernel_rfl⟩
theorem s15 : Sx.Enters Try.prog 15 Try.f15 := ⟨Try.func15, by kernel_rfl, by kernel_rfl⟩
def okD (D : Int) : Bool := decide (0 ≤ D) && decide (D ≤ 3)
def sqD (D : Int) : Nat := bif D == 0 then 16 else bif D == 1 then 64 else bif D == 2 then 256 else 1024
def mayB (D : Int) (L : List AV) : Bool := okD D && (L.length == sqD D)
theorem may_raw (o2 hd : Bool) (L : List AV) (D : Int) (wr : Bool) : fnK CallSem.nil Try.prog 5 Try.f10 [.agg [i64 D, bv wr, .vec 0]] (mC o2 hd L) [] =
    bif decide (D < 0) then some (bv false, mC o2 hd L) else bif decide (3 < D) then some (bv false, mC o2 hd L) else if D < 0 then none else
      some (bv ((L.length : Int) == wi (sz D * sz D)), mC o2 hd L) := by kernel_rfl
theorem may_raw0 (D : Int) (wr : Bool) : fnK CallSem.nil Try.prog 5 Try.f10 [.agg [i64 D, bv wr, .lit nilV]] ⟨[], []⟩ [] =
    bif decide (D < 0) then some (bv false, ⟨[], []⟩) else bif decide (3 < D) then some (bv false, ⟨[], []⟩) else if D < 0 then none else
      some (bv ((0 : Int) == wi (sz D * sz D)), ⟨[], []⟩) := by kernel_rfl
def may_M : MSpec := ⟨[], fun args M k => match args, M with
  | [.agg [.lit (.int .i64 D), .lit (.bool wr), .vec h0]], ⟨[], [some ⟨el, true, sh, tr, o2, hd, L⟩]⟩ =>
    bif decide (h0 = 0) && decide (el = 39) && decide (sh = c4) && decide (tr = 0) then k (bv (mayB D L)) (mC o2 hd L) else none
  | [.agg [.lit (.int .i64 D), .lit (.bool wr), .lit (.slice none 0 0)]], ⟨[], []⟩ => k (bv false) ⟨[], []⟩
  | _, _ => none⟩
theorem sqD_eq {D : Int} (h0 : 0 ≤ D) (h3 : D ≤ 3) : wi (sz D * sz D) = (sqD D : Int) := by
  have h4 : D = 0 ∨ D = 1 ∨ D = 2 ∨ D = 3 := by omega
  rcases h4 with rfl | rfl | rfl | rfl <;> decide
theorem sqD_pos (D : Int) : 16 ≤ sqD D := by
  unfold sqD
  cases D == 0 <;> cases D == 1 <;> cases D == 2 <;> decide
theorem may_Mok : may_M.Ok Try.prog 10 := by
  intro R args M k r h
  simp only [may_M] at h
  split at h
  · rename_i D wr h0 el sh tr o2 hd L
    simp only [cond_eq_ite, Bool.and_eq_true, decide_eq_true_eq] at h
    split at h
    · rename_i hc
      obtain ⟨⟨⟨rfl, rfl⟩, rfl⟩, rfl⟩ := hc
      refine ⟨_, _, h, fn_ok (C := CallSem.nil) (n := 5) (ts := []) nilS mixed s10 (fun _ _ => LoopsOk.no _ _) ((may_raw o2 hd L D wr).trans ?_) rfl⟩
      unfold mayB okD
      by_cases h0 : 0 ≤ D
      · rw [decide_eq_false (show ¬ D < 0 by omega), if_neg (by omega), decide_eq_true h0]
        by_cases h3 : D ≤ 3
        · rw [decide_eq_false (show ¬ 3 < D by omega), decide_eq_true h3, sqD_eq h0 h3]
          simp only [cond_false, Bool.true_and]
          have : (((L.length : Nat) : Int) == ((sqD D : Nat) : Int)) = (L.length == sqD D) := by
            rw [Bool.eq_iff_iff, beq_iff_eq, beq_iff_eq]; omega
          rw [this]
        · rw [decide_eq_true (show 3 < D by omega), decide_eq_false h3]; rfl
      · rw [decide_eq_true (show D < 0 by omega), decide_eq_false h0]; rfl
    · cases h
  · rename_i D wr
    refine ⟨_, _, h, fn_ok (C := CallSem.nil) (n := 5) (ts := []) nilS mixed s10 (fun _ _ => LoopsOk.no _ _) ((may_raw0 D wr).trans ?_) rfl⟩
    by_cases h0 : 0 ≤ D
    · rw [decide_eq_false (show ¬ D < 0 by omega), if_neg (by omega)]
      by_cases h3 : D ≤ 3
      · rw [decide_eq_false (show ¬ 3 < D by omega), sqD_eq h0 h3]
        have := sqD_pos D
        have e : ((0 : Int) == ((sqD D : Nat) : Int)) = false := by simp; omega
        rw [e]; rfl
      · rw [decide_eq_true (show 3 < D by omega)]; rfl
    · rw [decide_eq_true (show D < 0 by omega)]; rfl
  · cases h
/-! Build -/
noncomputable def cB0 : CallSem := ((CallSem.nil.withBody Try.prog 5 26 Try.f26 false).withRead 15 (bodyM CallSem.nil Try.prog 9 Try.f15 [])).withRead 27 coar_M
theorem cB0_sound : cB0.Sound Try.prog := CallSem.withRead_sound (CallSem.withRead_sound (CallSem.withBody_sound nilS mixed 5 s26 false) (bodyM_ok nilS mixed 9 s15 [])) coar_Mok
noncomputable def cB : CallSem := cB0.withRead 10 may_M
theorem cB_sound : cB.Sound Try.prog := CallSem.withRead_sound cB0_sound may_Mok
/-- what may not be -/
def mayF : MSpec := ⟨[], fun args M k => match args, M with
  | [.agg [.lit (.int .i64 D), .lit (.bool wr), .vec h0]], ⟨[], [some ⟨el, true, sh, tr, o2, hd, L⟩]⟩ =>
    bif decide (h0 = 0) && decide (el = 39) && decide (sh = c4) && decide (tr = 0) && !mayB D L then k (bv false) (mC o2 hd L) else none
  | [.agg [.lit (.int .i64 D), .lit (.bool wr), .lit (.slice none 0 0)]], ⟨[], []⟩ => k (bv false) ⟨[], []⟩
  | _, _ => none⟩
theorem mayF_ok : mayF.Ok Try.prog 10 := by
  intro R args M k r h
  simp only [mayF] at h
  split at h
  · rename_i D wr h0 el sh tr o2 hd L
    simp only [cond_eq_ite, Bool.and_eq_true, decide_eq_true_eq, Bool.not_eq_true'] at h
    split at h
    · rename_i hc
      obtain ⟨⟨⟨⟨rfl, rfl⟩, rfl⟩, rfl⟩, hm⟩ := hc
      refine may_Mok (k := k) ?_
      show (bif true then k (bv (mayB D L)) (mC o2 hd L) else none) = _
      rw [hm]; exact h
    · cases h
  · rename_i D wr
    exact may_Mok (k := k) h
  · cases h
noncomputable def cBf : CallSem := CallSem.nil.withRead 10 mayF
theorem cBf_sound : cBf.Sound Try.prog := CallSem.withRead_sound nilS mayF_ok
abbrev eLv (t : Nat) (c : List AV) : Option Ent := some ⟨22, false, [CK.any], t, true, true, c⟩
abbrev pyr (own : Bool) (D : Int) (wr : Bool) (r lv : AV) : Option Blk := some ⟨65, own, [i64 D, bv wr, r, lv]⟩
abbrev mB0 (o2 hd : Bool) (L : List AV) (wr : Bool) : Mem := ⟨[pyr true 0 wr (.vec 1) (.sl 1 0 1 1), some ⟨22, true, [.vec 1]⟩], [eC o2 hd L, eH 1 true L]⟩
abbrev mB1 (o2 hd : Bool) (L : List AV) (wr : Bool) : Mem := ⟨[pyr true 1 wr (.vec 1) (.vec 2)], [eC o2 hd L, eH 1 true L, eLv 2 [.vec 1, .vec 3], eH 3 true (coarL L 8)]⟩
abbrev mB2 (o2 hd : Bool) (L : List AV) (wr : Bool) : Mem := ⟨[pyr true 2 wr (.vec 1) (.vec 2)], [eC o2 hd L, eH 1 true L, eLv 2 [.vec 1, .vec 3, .vec 4], eH 3 true (coarL L 16), eH 4 true (coarL (coarL L 16) 8)]⟩
abbrev mB3 (o2 hd : Bool) (L : List AV) (wr : Bool) : Mem := ⟨[pyr true 3 wr (.vec 1) (.vec 2)], [eC o2 hd L, eH 1 true L, eLv 2 [.vec 1, .vec 3, .vec 4, .vec 5], eH 3 true (coarL L 32), eH 4 true (coarL (coarL L 32) 16), eH 5 true (coarL (coarL (coarL L 32) 16) 8)]⟩
abbrev bErr (o2 hd : Bool) (L : List AV) : Option (AV × Mem) := some (.tup [nilp, i64 1], mC o2 hd L)
theorem build_rawF (o2 hd : Bool) (L : List AV) (D : Int) (wr : Bool) : fnK cBf Try.prog 5 Try.f8 [.agg [i64 D, bv wr, .vec 0]] (mC o2 hd L) [] = bif !mayB D L then bErr o2 hd L else none := by kernel_rfl
theorem build_rawN (D : Int) (wr : Bool) : fnK cBf Try.prog 5 Try.f8 [.agg [i64 D, bv wr, .lit nilV]] ⟨[], []⟩ [] = some (.tup [nilp, i64 1], ⟨[], []⟩) := by kernel_rfl
theorem build_raw0 (o2 hd : Bool) (L : List AV) (wr : Bool) : fnK cB Try.prog 20 Try.f8 [.agg [i64 0, bv wr, .vec 0]] (mC o2 hd L) [] =
    bif !mayB 0 L then bErr o2 hd L else bif decide (0 < L.length) then (bif decide (0 + L.length ≤ 65536) && true then some (.tup [.ptr 0 0, i64 0], mB0 o2 hd L wr) else none) else none := by kernel_rfl
theorem build_raw1 (o2 hd : Bool) (L : List AV) (wr : Bool) : fnK cB Try.prog 20 Try.f8 [.agg [i64 1, bv wr, .vec 0]] (mC o2 hd L) [] =
    bif !mayB 1 L then bErr o2 hd L else bif decide (0 < L.length) then (bif decide (0 + L.length ≤ 65536) && true then (bif true && gC 8 L then some (.tup [.ptr 0 0, i64 0], mB1 o2 hd L wr) else none) else none) else none := by kernel_rfl
theorem build_raw2 (o2 hd : Bool) (L : List AV) (wr : Bool) : fnK cB Try.prog 20 Try.f8 [.agg [i64 2, bv wr, .vec 0]] (mC o2 hd L) [] =
    bif !mayB 2 L then bErr o2 hd L else bif decide (0 < L.length) then (bif decide (0 + L.length ≤ 65536) && true then (bif true && gC 16 L then some (.tup [.ptr 0 0, i64 0], mB2 o2 hd L wr) else none) else none) else none := by kernel_rfl
theorem build_raw3 (o2 hd : Bool) (L : List AV) (wr : Bool) : fnK cB Try.prog 20 Try.f8 [.agg [i64 3, bv wr, .vec 0]] (mC o2 hd L) [] =
    bif !mayB 3 L then bErr o2 hd L else bif decide (0 < L.length) then (bif decide (0 + L.length ≤ 65536) && true then (bif true && gC 32 L then some (.tup [.ptr 0 0, i64 0], mB3 o2 hd L wr) else none) else none) else none := by kernel_rfl
def build_M : MSpec := ⟨[], fun args M k => match args, M with
  | [.agg [.lit (.int .i64 D), .lit (.bool wr), .vec h0]], ⟨[], [some ⟨el, true, sh, tr, o2, hd, L⟩]⟩ =>
    bif decide (h0 = 0) && decide (el = 39) && decide (sh = c4) && decide (tr = 0) then
      (bif mayB D L then
        (bif D == 0 then k (.tup [.ptr 0 0, i64 0]) (mB0 o2 hd L wr) else
         bif D == 1 then k (.tup [.ptr 0 0, i64 0]) (mB1 o2 hd L wr) else
         bif D == 2 then k (.tup [.ptr 0 0, i64 0]) (mB2 o2 hd L wr) else
          k (.tup [.ptr 0 0, i64 0]) (mB3 o2 hd L wr))
       else k (.tup [nilp, i64 1]) (mC o2 hd L)) else none
  | [.agg [.lit (.int .i64 D), .lit (.bool wr), .lit (.slice none 0 0)]], ⟨[], []⟩ => k (.tup [nilp, i64 1]) ⟨[], []⟩
  | _, _ => none⟩
theorem mayB_len {D : Int} {L : List AV} (h : mayB D L = true) : (0 ≤ D ∧ D ≤ 3) ∧ L.length = sqD D := by
  simp only [mayB, okD, Bool.and_eq_true, decide_eq_true_eq, beq_iff_eq] at h
  exact h
theorem build_Mok : build_M.Ok Try.prog 8 := by
  intro R args M k r h
  simp only [build_M] at h
  split at h
  · rename_i D wr h0 el sh tr o2 hd L
    simp only [cond_eq_ite, Bool.and_eq_true, decide_eq_true_eq, beq_iff_eq] at h
    split at h
    · rename_i hc
      obtain ⟨⟨⟨rfl, rfl⟩, rfl⟩, rfl⟩ := hc
      split at h
      · rename_i hm
        obtain ⟨⟨hD0, hD3⟩, hl⟩ := mayB_len hm
        have hn := hl
        simp only [sqD] at hl
        have fin : ∀ {M' : Mem} (X : Option (AV × Mem)), memLe (mC o2 hd L) M' = true → X = some (.tup [.ptr 0 0, i64 0], M') → fnK cB Try.prog 20 Try.f8 [.agg [i64 D, bv wr, .vec 0]] (mC o2 hd L) [] = (bif !mayB D L then bErr o2 hd L else bif decide (0 < L.length) then (bif decide (0 + L.length ≤ 65536) && true then X else none) else none) →
            CallOk Try.prog 8 [.agg [i64 D, bv wr, .vec 0]] (mC o2 hd L) (.tup [.ptr 0 0, i64 0]) M' := by
          intro M' X hle hX he
          refine fn_ok (C := cB) (n := 20) (ts := []) cB_sound mixed s8 (fun _ _ => LoopsOk.no _ _) (he.trans ?_) hle
          have := sqD_pos D
          have h2 : L.length ≤ 1024 := by
            rw [hn]; unfold sqD; cases D == 0 <;> cases D == 1 <;> cases D == 2 <;> decide
          rw [hm, decide_eq_true (show 0 < L.length by omega), decide_eq_true (show 0 + L.length ≤ 65536 by omega), hX]
          rfl
        split at h
        · rename_i hd0
          subst hd0
          exact ⟨_, _, h, fin _ rfl rfl (build_raw0 o2 hd L wr)⟩
        · split at h
          · rename_i hd0
            subst hd0
            refine ⟨_, _, h, fin _ rfl ?_ (build_raw1 o2 hd L wr)⟩
            have : gC 8 L = true := by unfold gC; rw [hl]; rfl
            rw [this]; rfl
          · split at h
            · rename_i hd0
              subst hd0
              refine ⟨_, _, h, fin _ rfl ?_ (build_raw2 o2 hd L wr)⟩
              have : gC 16 L = true := by unfold gC; rw [hl]; rfl
              rw [this]; rfl
            · obtain rfl : D = 3 := by omega
              refine ⟨_, _, h, fin _ rfl ?_ (build_raw3 o2 hd L wr)⟩
              have : gC 32 L = true := by unfold gC; rw [hl]; rfl
              rw [this]; rfl
      · rename_i hm
        refine ⟨_, _, h, fn_ok (C := cBf) (n := 5) (ts := []) cBf_sound mixed s8 (fun _ _ => LoopsOk.no _ _) ((build_rawF o2 hd L D wr).trans ?_) rfl⟩
        rw [Bool.eq_false_iff.2 hm]; rfl
    · cases h
  · rename_i D wr
    exact ⟨_, _, h, fn_ok (C := cBf) (n := 5) (ts := []) cBf_sound mixed s8 (fun _ _ => LoopsOk.no _ _) (build_rawN D wr) rfl⟩
  · cases h
end Go.Proofs.Ytfnpnenndbdcpaa
