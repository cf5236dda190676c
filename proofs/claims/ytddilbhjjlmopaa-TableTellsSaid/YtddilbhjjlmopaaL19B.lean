/- table's functions (chapter 19). -/
import Derived.Test.YtddilbhjjlmopaaL19A
import Derived.Test.YtddilbhjjlmopaaTblB
import Derived.Test.YtddilbhjjlmopaaSxThree
set_option linter.unusedVariables false
set_option linter.unusedSimpArgs false
namespace Go.Proofs.Ytddilbhjjlmopaa
open Go Go.Sx Go.Fx
set_option maxRecDepth 100000
set_option linter.unusedVariables false
set_option linter.unusedSimpArgs false
noncomputable def cT0 : CallSem := (cPg.withSpec 17 (i1S fun d => i64 (cn d))).withJoin
theorem cT0_sound : cT0.Sound Try.prog := CallSem.withJoin_sound (CallSem.withSpec_sound cPg_sound ok17)
theorem s7 : Enters Try.prog 7 Try.f7 := ⟨Try.func7, by kernel_rfl, by kernel_rfl⟩
theorem s11 : Enters Try.prog 11 Try.f11 := ⟨Try.func11, by kernel_rfl, by kernel_rfl⟩
theorem s12 : Enters Try.prog 12 Try.f12 := ⟨Try.func12, by kernel_rfl, by kernel_rfl⟩
theorem s14 : Enters Try.prog 14 Try.f14 := ⟨Try.func14, by kernel_rfl, by kernel_rfl⟩
def nilp : AV := .lit (.pointer none)
def newL (d : Int) : List AV := (List.replicate (cn d).toNat (bv false)).set 0 (bv true)
theorem cn_bd (d : Int) : 0 ≤ cn d ∧ cn d ≤ 85 := by
  unfold cn
  cases dB d
  · simp
  · rcases ah_cases (d + 1) with e | e | e | e | e <;> simp [e]
theorem new_eq (d : Int) : fnK cT0 Try.prog 9 Try.f7 [i64 d] ⟨[], []⟩ [] =
    bif cn d == 0 then some (.tup [nilp, i64 1], ⟨[], []⟩) else some (.tup [.ptr 0 0, i64 0], ⟨[some ⟨48, true, [i64 d, .vec 0]⟩], [some ⟨4, false, [.bool], 0, true, true, newL d⟩]⟩) := by
  have e : fnK cT0 Try.prog 9 Try.f7 [i64 d] ⟨[], []⟩ [] =
    (bif cn d == 0 then some (.tup [nilp, i64 1], ⟨[], []⟩) else
     bif (true || decide (cn d = cn d)) && decide (0 ≤ cn d) && decide (cn d ≤ 65536) && true && true && true && true && true then
     (if (0 : Int) ≤ 0 ∧ (0 : Int) < ((List.replicate (cn d).toNat (bv false)).length : Int) then (if 0 < (List.replicate (cn d).toNat (bv false)).length then
      some (.tup [.ptr 0 0, i64 0], ⟨[some ⟨48, true, [i64 d, .vec 0]⟩], [some ⟨4, false, [.bool], 0, true, true, (List.replicate (cn d).toNat (bv false)).set 0 (bv true)⟩]⟩) else none) else none) else none) := by kernel_rfl
  rw [e]
  have hb := cn_bd d
  cases h : cn d == 0
  · have hn : cn d ≠ 0 := by simpa using h
    rw [decide_eq_true (show 0 ≤ cn d by omega), decide_eq_true (show cn d ≤ 65536 by omega), List.length_replicate, if_pos (by omega), if_pos (by omega)]
    rfl
  · rfl
def newM : MSpec := ⟨[], fun args M k => match args, M with
  | [.lit (.int .i64 d)], ⟨[], []⟩ => bif cn d == 0 then k (.tup [nilp, i64 1]) ⟨[], []⟩ else k (.tup [.ptr 0 0, i64 0]) ⟨[some ⟨48, true, [i64 d, .vec 0]⟩], [some ⟨4, false, [.bool], 0, true, true, newL d⟩]⟩
  | _, _ => none⟩
theorem newM_ok : newM.Ok Try.prog 7 := by
  intro R args M k r h
  simp only [newM] at h
  split at h
  · rename_i d
    have e := new_eq d
    cases hc : cn d == 0
    · rw [hc] at h e
      exact ⟨_, _, h, fn_ok cT0_sound mixed s7 (fun _ _ => LoopsOk.no _ _) e (by kernel_rfl)⟩
    · rw [hc] at h e
      exact ⟨_, _, h, fn_ok cT0_sound mixed s7 (fun _ _ => LoopsOk.no _ _) e (by kernel_rfl)⟩
  · cases h
abbrev mT (own hd : Bool) (d : Int) (el : TypeId) (T : List AV) : Mem := ⟨[some ⟨48, own, [i64 d, .vec 0]⟩], [some ⟨el, false, [.bool], 0, true, hd, T⟩]⟩
theorem set_eq (own hd : Bool) (d : Int) (el : TypeId) (T : List AV) (l x y : Int) (b : Bool) (hT : (T.length : Int) = cn d) : fnK cT0 Try.prog 9 Try.f11 [.ptr 0 0, .agg [i64 l, i64 x, i64 y], bv b] (mT own hd d el T) [] =
    some (i64 (bif setB d l x y b then 0 else 1), mT own hd d el (setL T d l x y b)) := by
  have e : fnK cT0 Try.prog 9 Try.f11 [.ptr 0 0, .agg [i64 l, i64 x, i64 y], bv b] (mT own hd d el T) [] =
    (bif !validB d l x y then some (i64 1, mT own hd d el T) else
     bif rootB d l x y then (bif !b then some (i64 1, mT own hd d el T) else
       (if 0 ≤ keyV d l x y ∧ keyV d l x y < (T.length : Int) then (if (keyV d l x y).toNat < T.length then some (i64 0, mT own hd d el (T.set (keyV d l x y).toNat (bv b))) else none) else none)) else
       (if 0 ≤ keyV d l x y ∧ keyV d l x y < (T.length : Int) then (if (keyV d l x y).toNat < T.length then some (i64 0, mT own hd d el (T.set (keyV d l x y).toNat (bv b))) else none) else none)) := by kernel_rfl
  rw [e]
  unfold setL setB
  cases hv : validB d l x y
  · rfl
  · have hk := key_lt hv
    rw [if_pos (by omega), if_pos (by omega)]
    cases rootB d l x y <;> cases b <;> rfl
def setM : MSpec := ⟨[], fun args M k => match args, M with
  | [.ptr 0 0, .agg [.lit (.int .i64 l), .lit (.int .i64 x), .lit (.int .i64 y)], .lit (.bool b)], ⟨[some ⟨48, own, [.lit (.int .i64 d), .vec 0]⟩], [some ⟨el, false, [.bool], 0, true, hd, T⟩]⟩ =>
    bif decide ((T.length : Int) = cn d) then k (i64 (bif setB d l x y b then 0 else 1)) (mT own hd d el (setL T d l x y b)) else none
  | _, _ => none⟩
theorem setM_ok : setM.Ok Try.prog 11 := by
  intro R args M k r h
  simp only [setM] at h
  split at h
  · rename_i l x y b own d el hd T
    cases hT : decide ((T.length : Int) = cn d)
    · rw [hT] at h; cases h
    · rw [hT] at h
      exact ⟨_, _, h, fn_ok cT0_sound mixed s11 (fun _ _ => LoopsOk.no _ _) (set_eq own hd d el T l x y b (of_decide_eq_true hT)) (by kernel_rfl)⟩
  · cases h
abbrev mR (own o2 hd : Bool) (d : Int) (el : TypeId) (T : List AV) : Mem := ⟨[some ⟨48, own, [i64 d, .vec 0]⟩], [some ⟨el, false, [.bool], 0, o2, hd, T⟩]⟩
theorem there_eq (own o2 hd : Bool) (d : Int) (el : TypeId) (T : List AV) (l x y : Int) (hT : (T.length : Int) = cn d) : fnK cT0 Try.prog 9 Try.f14 [.ptr 0 0, .agg [i64 l, i64 x, i64 y]] (mR own o2 hd d el T) [] =
    some (bv (thereB T d l x y), mR own o2 hd d el T) := by
  have e : fnK cT0 Try.prog 9 Try.f14 [.ptr 0 0, .agg [i64 l, i64 x, i64 y]] (mR own o2 hd d el T) [] =
    (bif validB d l x y then (if 0 ≤ keyV d l x y ∧ keyV d l x y < (T.length : Int) then (if (keyV d l x y).toNat < T.length then some (bv (atB T (keyV d l x y)), mR own o2 hd d el T) else none) else none) else some (bv false, mR own o2 hd d el T)) := by kernel_rfl
  rw [e]
  unfold thereB
  cases hv : validB d l x y
  · rfl
  · have hk := key_lt hv
    rw [if_pos (by omega), if_pos (by omega)]
    rfl
def thereM : MSpec := ⟨[], fun args M k => match args, M with
  | [.ptr 0 0, .agg [.lit (.int .i64 l), .lit (.int .i64 x), .lit (.int .i64 y)]], ⟨[some ⟨48, own, [.lit (.int .i64 d), .vec 0]⟩], [some ⟨el, false, [.bool], 0, o2, hd, T⟩]⟩ =>
    bif decide ((T.length : Int) = cn d) then k (bv (thereB T d l x y)) (mR own o2 hd d el T) else none
  | _, _ => none⟩
theorem thereM_ok : thereM.Ok Try.prog 14 := by
  intro R args M k r h
  simp only [thereM] at h
  split at h
  · rename_i l x y own d el o2 hd T
    cases hT : decide ((T.length : Int) = cn d)
    · rw [hT] at h; cases h
    · rw [hT] at h
      exact ⟨_, _, h, fn_ok cT0_sound mixed s14 (fun _ _ => LoopsOk.no _ _) (there_eq own o2 hd d el T l x y (of_decide_eq_true hT)) (by kernel_rfl)⟩
  · cases h
end Go.Proofs.Ytddilbhjjlmopaa
