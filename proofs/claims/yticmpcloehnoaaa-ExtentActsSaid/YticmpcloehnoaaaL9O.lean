/- what extent's laws call (chapter 9). -/
import Derived.Test.YticmpcloehnoaaaL9N
set_option linter.unusedVariables false
set_option linter.unusedSimpArgs false
namespace Go.Proofs.Yticmpcloehnoaaa
open Go Go.Sx Go.Fx
set_option maxRecDepth 100000
set_option linter.unusedVariables false
set_option linter.unusedSimpArgs false
/-! Round -/
theorem s21 : Sx.Enters Try.prog 21 Try.f21 := ⟨Try.func21, by kernel_rfl, by kernel_rfl⟩
def rnd (k n : Int) : Int := k % n
def roundS : FSpec := ⟨fun args k => match args with
  | [.lit (.int .i64 a), .lit (.int .i64 n)] => bif decide (0 < n) && decide (n ≤ 4294967296) then k (i64 (rnd a n)) else none
  | _ => none⟩
theorem round_raw (a n : Int) : pureK CallSem.nil Try.prog 5 Try.f21 [i64 a, i64 n] some = if n = 0 then none else if n = 0 then none else some (i64 ((wi (a.tmod n + n)).tmod n)) := by kernel_rfl
theorem round_eq {a n : Int} (h0 : 0 < n) (h1 : n ≤ 4294967296) : (wi (a.tmod n + n)).tmod n = rnd a n := by
  have hl := Int.lt_tmod_of_pos a h0
  have hu := Int.tmod_lt_of_pos a h0
  rw [wi_id (by omega) (by omega), Int.tmod_eq_emod_of_nonneg (by omega), Int.add_emod_right]
  unfold rnd
  rw [Int.tmod_def, Int.sub_mul_emod_self_left]
theorem ok21 : roundS.Ok Try.prog 21 := by
  intro R args k r e
  simp only [roundS] at e
  split at e
  · rename_i a n
    simp only [cond_eq_ite, Bool.and_eq_true, decide_eq_true_eq] at e
    split at e
    · rename_i hc
      refine ⟨_, e, pureOk_of (n := 5) nilS mixed s21 ?_⟩
      rw [round_raw, if_neg (by omega), if_neg (by omega), round_eq hc.1 hc.2]
    · cases e
  · cases e
/-! all that is called -/
noncomputable def cX0 : CallSem := ((((((CallSem.nil.withSpec 21 roundS).withRead 15 rfree_M).withRead 16 used_M).withRead 17 rused_M).withRead 18 same_M).withRead 19 free_M).withRead 20 copy_M
theorem cX0_sound : cX0.Sound Try.prog := CallSem.withRead_sound (CallSem.withRead_sound (CallSem.withRead_sound (CallSem.withRead_sound (CallSem.withRead_sound (CallSem.withRead_sound (CallSem.withSpec_sound nilS ok21) rfree_Mok) used_Mok) rused_Mok) same_Mok) free_Mok) copy_Mok
noncomputable def cX1 : CallSem := (((((cX0.withMem 9 takeP_M).withMem 10 (take_M 53)).withMem 11 (turn_M 51 false 5)).withMem 12 (turn_M 53 false 5)).withMem 13 (turn_M 51 true 4)).withMem 14 (turn_M 53 true 4)
theorem cX1_sound : cX1.Sound Try.prog := CallSem.withMem_sound (CallSem.withMem_sound (CallSem.withMem_sound (CallSem.withMem_sound (CallSem.withMem_sound (CallSem.withMem_sound cX0_sound takeP_Mok) rtake_Mok) claim_Mok) rclaim_Mok) give_Mok) rgive_Mok
noncomputable def cX2 : CallSem := (cX1.withRead 7 new_M).withRead 8 rnew_M
theorem cX2_sound : cX2.Sound Try.prog := CallSem.withRead_sound (CallSem.withRead_sound cX1_sound new_Mok) rnew_Mok
noncomputable def cY : CallSem := cX2.withBody Try.prog 9 18 Try.f18 false
theorem cY_sound : cY.Sound Try.prog := CallSem.withBody_sound cX2_sound mixed 9 s18 false
theorem s6 : Sx.Enters Try.prog 6 Try.f6 := ⟨Try.func6, by kernel_rfl, by kernel_rfl⟩
def trueS : FSpec := ⟨fun args k => match args with
  | [] => k (.lit (.bool true))
  | _ => none⟩
theorem awake_ok : trueS.Ok Try.prog 6 := by
  intro R args k r h
  simp only [trueS] at h
  split at h
  · exact ⟨_, h, pureOk_of (n := 9) cY_sound mixed s6 (by kernel_rfl)⟩
  · cases h
noncomputable def cX : CallSem := cX2.withSpec 6 trueS
theorem cX_sound : cX.Sound Try.prog := CallSem.withSpec_sound cX2_sound awake_ok
end Go.Proofs.Yticmpcloehnoaaa
