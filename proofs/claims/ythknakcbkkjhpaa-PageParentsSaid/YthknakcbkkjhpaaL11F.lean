/- Pages, Round, Cmp, awake; what the laws call (chapter 11). -/
import Derived.Test.YthknakcbkkjhpaaL11E
set_option linter.unusedVariables false
set_option linter.unusedSimpArgs false
namespace Go.Proofs.Ythknakcbkkjhpaa
open Go Go.Sx Go.Fx
set_option maxRecDepth 100000
set_option linter.unusedVariables false
set_option linter.unusedSimpArgs false
theorem s21 : Sx.Enters Try.prog 21 Try.f21 := ⟨Try.func21, by kernel_rfl, by kernel_rfl⟩
/-! Round -/
def rnd (k n : Int) : Int := k % n
def roundS : FSpec := ⟨fun args k => match args with
  | [.lit (.int .i64 a), .lit (.int .i64 n)] => bif decide (0 < n) && decide (n ≤ 4294967296) then k (i64 (rnd a n)) else none
  | _ => none⟩
theorem round_raw (a n : Int) : pureK CallSem.nil Try.prog 5 Try.f10 [i64 a, i64 n] some = if n = 0 then none else if n = 0 then none else some (i64 ((wi (a.tmod n + n)).tmod n)) := by kernel_rfl
theorem round_eq {a n : Int} (h0 : 0 < n) (h1 : n ≤ 4294967296) : (wi (a.tmod n + n)).tmod n = rnd a n := by
  have hl := Int.lt_tmod_of_pos a h0
  have hu := Int.tmod_lt_of_pos a h0
  rw [wi_id (by omega) (by omega), Int.tmod_eq_emod_of_nonneg (by omega), Int.add_emod_right]
  unfold rnd
  rw [Int.tmod_def, Int.sub_mul_emod_self_left]
theorem ok10 : roundS.Ok Try.prog 10 := by
  intro R args k r e
  simp only [roundS] at e
  split at e
  · rename_i a n
    simp only [cond_eq_ite, Bool.and_eq_true, decide_eq_true_eq] at e
    split at e
    · rename_i hc
      refine ⟨_, e, pureOk_of (n := 5) nilS mixed s10 ?_⟩
      rw [round_raw, if_neg (by omega), if_neg (by omega), round_eq hc.1 hc.2]
    · cases e
  · cases e
/-! Cmp -/
theorem cmp_raw (d l x y l' x' y' : Int) : pureK cC1 Try.prog 9 Try.f12 [i64 d, .agg [i64 l, i64 x, i64 y], .agg [i64 l', i64 x', i64 y']] some =
    bif keyV d l x y != keyV d l x y then (bif keyV d l' x' y' != keyV d l' x' y' then some (i64 0) else some (i64 (-1))) else
    bif keyV d l' x' y' != keyV d l' x' y' then some (i64 1) else bif decide (keyV d l x y < keyV d l' x' y') then some (i64 (-1)) else bif decide (keyV d l x y > keyV d l' x' y') then some (i64 1) else some (i64 0) := by kernel_rfl
theorem ok12 : cmpS.Ok Try.prog 12 := by
  intro R args k r e
  simp only [cmpS] at e
  split at e
  · refine ⟨_, e, pureOk_of (n := 9) cC1_sound mixed s12 ?_⟩
    rw [cmp_raw]
    simp only [bne_self_eq_false, cond_false]
    unfold cmV
    rename_i d l x y l' x' y'
    cases decide (keyV d l x y < keyV d l' x' y') <;> cases decide (keyV d l x y > keyV d l' x' y') <;> rfl
  · cases e
/-! Pages -/
def wiS : FSpec := ⟨fun args k => match args with
  | [.lit (.int .i64 n), .lit (.int .i64 a), .lit (.int .i64 b)] => bif decide (a ≤ n) && decide (n ≤ b) then none else k (.lit (.bool false))
  | _ => none⟩
theorem within_raw (n a b : Int) : pureK CallSem.nil.withJoin Try.prog 5 Try.f22 [i64 n, i64 a, i64 b] some = some (.lit (.bool (decide (n ≥ a) && decide (n ≤ b)))) := by kernel_rfl
theorem wiS_ok : wiS.Ok Try.prog 22 := by
  intro R args k r e
  simp only [wiS] at e
  split at e
  · rename_i n a b
    simp only [cond_eq_ite] at e
    split at e
    · cases e
    · rename_i hc
      refine ⟨_, e, pureOk_of (n := 5) (CallSem.withJoin_sound nilS) mixed s22 ?_⟩
      rw [within_raw]
      simp only [Bool.and_eq_true, decide_eq_true_eq] at hc
      rw [show (decide (n ≥ a) && decide (n ≤ b)) = false by simp; omega]
  · cases e
noncomputable def cW1 : CallSem := CallSem.nil.withSpec 22 wiS
theorem cW1_sound : cW1.Sound Try.prog := CallSem.withSpec_sound nilS wiS_ok
theorem pages_out (d : Int) : fnK cW1 Try.prog 12 Try.f6 [i64 d] ⟨[], []⟩ [⟨0, 23, true, c3⟩] = bif decide (0 ≤ d) && decide (d ≤ 3) then none else some (.vec 0, ⟨[], [some ⟨23, true, c3, 0, true, true, []⟩]⟩) := by kernel_rfl
theorem pages_0 : fnK cB2 Try.prog 12 Try.f6 [i64 0] ⟨[], []⟩ [⟨0, 23, true, c3⟩] = some (.vec 0, ⟨[], [some ⟨23, true, c3, 0, true, true, pgK 0 (cn 0).toNat⟩]⟩) := by kernel_rfl
theorem pages_1 : fnK cB2 Try.prog 12 Try.f6 [i64 1] ⟨[], []⟩ [⟨0, 23, true, c3⟩] = some (.vec 0, ⟨[], [some ⟨23, true, c3, 0, true, true, pgK 1 (cn 1).toNat⟩]⟩) := by kernel_rfl
theorem pages_2 : fnK cB2 Try.prog 12 Try.f6 [i64 2] ⟨[], []⟩ [⟨0, 23, true, c3⟩] = some (.vec 0, ⟨[], [some ⟨23, true, c3, 0, true, true, pgK 2 (cn 2).toNat⟩]⟩) := by kernel_rfl
theorem pages_3 : fnK cB2 Try.prog 12 Try.f6 [i64 3] ⟨[], []⟩ [⟨0, 23, true, c3⟩] = some (.vec 0, ⟨[], [some ⟨23, true, c3, 0, true, true, pgK 3 (cn 3).toNat⟩]⟩) := by kernel_rfl
def pagesM : MSpec := ⟨[], fun args M k => match args, M with
  | [.lit (.int .i64 d)], ⟨[], []⟩ => k (.vec 0) ⟨[], [some ⟨23, true, c3, 0, true, true, pgK d (cn d).toNat⟩]⟩
  | _, _ => none⟩
theorem pagesM_ok : pagesM.Ok Try.prog 6 := by
  intro R args M k r h
  simp only [pagesM] at h
  split at h
  · rename_i d
    refine ⟨_, _, h, ?_⟩
    by_cases hd : 0 ≤ d ∧ d ≤ 3
    · have hc : d = 0 ∨ d = 1 ∨ d = 2 ∨ d = 3 := by omega
      rcases hc with rfl | rfl | rfl | rfl
      · exact fn_ok cB2_sound mixed s6 (fun _ _ => LoopsOk.no _ _) pages_0 (by kernel_rfl)
      · exact fn_ok cB2_sound mixed s6 (fun _ _ => LoopsOk.no _ _) pages_1 (by kernel_rfl)
      · exact fn_ok cB2_sound mixed s6 (fun _ _ => LoopsOk.no _ _) pages_2 (by kernel_rfl)
      · exact fn_ok cB2_sound mixed s6 (fun _ _ => LoopsOk.no _ _) pages_3 (by kernel_rfl)
    · have e := pages_out d
      have hg : (decide (0 ≤ d) && decide (d ≤ 3)) = false := by simp; omega
      rw [hg, cond_false] at e
      have h0 : pgK d (cn d).toNat = [] := by
        have : cn d = 0 := cn_neg (by simp [dB]; omega)
        rw [this]; rfl
      rw [h0]
      exact fn_ok cW1_sound mixed s6 (fun _ _ => LoopsOk.no _ _) e (by kernel_rfl)
  · cases h
/-! what the laws call -/
noncomputable def cQ0 : CallSem := (((((((((((CallSem.nil.withSpec 7 atS).withSpec 8 upS).withSpec 9 upS).withSpec 10 roundS).withSpec 11 keyS).withSpec 12 cmpS).withSpec 13 validS).withSpec 14 validS).withSpec 15 keyS).withSpec 16 (i1S fun d => i64 (cn d))).withSpec 17 rootS).withSpec 18 rootS
theorem cQ0_sound : cQ0.Sound Try.prog := CallSem.withSpec_sound (CallSem.withSpec_sound (CallSem.withSpec_sound (CallSem.withSpec_sound (CallSem.withSpec_sound (CallSem.withSpec_sound (CallSem.withSpec_sound (CallSem.withSpec_sound (CallSem.withSpec_sound (CallSem.withSpec_sound (CallSem.withSpec_sound (CallSem.withSpec_sound nilS ok7) ok8) ok9) ok10) ok11) ok12) ok13) ok14) ok15) ok16) ok17) ok18
noncomputable def cQ1 : CallSem := ((cQ0.withRead 6 pagesM).withRead 19 same_M).withRead 20 allM
theorem cQ1_sound : cQ1.Sound Try.prog := CallSem.withRead_sound (CallSem.withRead_sound (CallSem.withRead_sound cQ0_sound pagesM_ok) same_Mok) allM_ok
def trueS : FSpec := ⟨fun args k => match args with
  | [] => k (.lit (.bool true))
  | _ => none⟩
theorem awake_ok : trueS.Ok Try.prog 21 := by
  intro R args k r h
  simp only [trueS] at h
  split at h
  · exact ⟨_, h, pureOk_of (n := 9) cQ1_sound mixed s21 (by kernel_rfl)⟩
  · cases h
noncomputable def cQ : CallSem := cQ1.withSpec 21 trueS
theorem cQ_sound : cQ.Sound Try.prog := CallSem.withSpec_sound cQ1_sound awake_ok
end Go.Proofs.Ythknakcbkkjhpaa
