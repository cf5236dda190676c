/- The document's Has and Look (chapter 19). -/
import Derived.Test.YtddilbhjjlmopaaL19G
import Derived.Test.YtddilbhjjlmopaaTblH
set_option linter.unusedVariables false
set_option linter.unusedSimpArgs false
namespace Go.Proofs.Ytddilbhjjlmopaa
open Go Go.Sx Go.Fx
set_option maxRecDepth 100000
set_option linter.unusedVariables false
set_option linter.unusedSimpArgs false
noncomputable def L15 : Code := unl (lpOf Try.f15 0)
theorem nodes15 : nodes (Try.f15.body.getD .skip) = [.loop L15] := by kernel_rfl
abbrev k15 : List Nat := [0, 3, 4, 5]
abbrev t15 : List Nat := [4, 5] ++ (List.range 12).map (· + 6)
def S15 (el : TypeId) (o2 hd : Bool) (P : List AV) (l x y : Int) (f : Nat → Value) (i : Int) (b : Bool) : St :=
  ⟨tmF k15 t15 [.vec 0, .ptr 0 0, bv b, i64 i] f 18 0, ⟨[some ⟨24, true, [i64 l, i64 x, i64 y]⟩], [some ⟨el, true, c3, 0, o2, hd, P⟩]⟩⟩
theorem raw15 (el : TypeId) (o2 hd : Bool) (P : List AV) (l x y : Int) (f : Nat → Value) (i : Int) (b : Bool) : turnK CallSem.nil Try.prog 1 L15 k15 t15 1 1 (S15 el o2 hd P l x y f i b) =
    (bif decide (i < (P.length : Int)) then (if 0 ≤ i ∧ i < (P.length : Int) then (if i.toNat < P.length then
      (bif eqP (P.getD i.toNat .bad) l x y then some (.ret, S15 el o2 hd P l x y f i true) else some (.normal, S15 el o2 hd P l x y f (wi (i + 1)) b)) else none) else none)
     else some (.exit 0, S15 el o2 hd P l x y f i b)) := by kernel_rfl
theorem turn15 (el : TypeId) (o2 hd : Bool) (P : List AV) (l x y : Int) (f : Nat → Value) (j : Nat) (b : Bool) (hj : j < P.length) (hP : P.length ≤ 16384) :
    turnK CallSem.nil Try.prog 1 L15 k15 t15 1 1 (S15 el o2 hd P l x y f (j : Nat) b) = bif eqP (P.getD j .bad) l x y then some (.ret, S15 el o2 hd P l x y f (j : Nat) true) else some (.normal, S15 el o2 hd P l x y f ((j + 1 : Nat) : Int) b) := by
  have e1 : wi (((j : Nat) : Int) + 1) = ((j + 1 : Nat) : Int) := by rw [wi_id (by omega) (by omega)]; omega
  rw [raw15, e1, Int.toNat_natCast, decide_eq_true (by omega), cond_true, if_pos (by omega), if_pos hj]
theorem loop15 (el : TypeId) (o2 hd : Bool) (P : List AV) (l x y : Int) (f : Nat → Value) (b : Bool) (hP : P.length ≤ 16384) (j : Nat) (hi : j ≤ P.length) :
    CodeOkN 1 1 Try.prog (.loop L15) (S15 el o2 hd P l x y f (j : Nat) b) (bif hasK P l x y (P.length - j) j then .ret else .exit 0) (S15 el o2 hd P l x y f ((hasJ P l x y (P.length - j) j : Nat) : Int) (bif hasK P l x y (P.length - j) j then true else b)) := by
  refine loop_ok (fun j : Nat => S15 el o2 hd P l x y f (j : Nat) b) (fun j => (bif hasK P l x y (P.length - j) j then .ret else .exit 0, S15 el o2 hd P l x y f ((hasJ P l x y (P.length - j) j : Nat) : Int) (bif hasK P l x y (P.length - j) j then true else b)))
    (fun j => if j < P.length ∧ eqP (P.getD j .bad) l x y = false then some (j + 1) else none) (fun j => P.length - j) (fun j => j ≤ P.length) ?_ ?_ j hi
  · intro j h1 hn
    refine ⟨fun e => ?_, ?_⟩
    · revert e
      simp only
      cases hasK P l x y (P.length - j) j <;> exact fun e => by cases e
    by_cases h2 : j < P.length
    · have h3 : eqP (P.getD j .bad) l x y = true := by
        cases h4 : eqP (P.getD j .bad) l x y with
        | true => rfl
        | false => rw [if_pos ⟨h2, h4⟩] at hn; cases hn
      have e : P.length - j = (P.length - (j + 1)) + 1 := by omega
      simp only
      rw [e, hasK, hasJ, h3]
      exact turn_ok nilS mixed (LoopsOk.no _ _) rfl rfl (by rw [turn15 el o2 hd P l x y f j b h2 hP, h3]; rfl)
    · have e : P.length - j = 0 := by omega
      simp only
      rw [e]
      exact turn_ok nilS mixed (LoopsOk.no _ _) rfl rfl (by rw [raw15, decide_eq_false (by omega), cond_false]; rfl)
  · intro j s' h1 hn
    by_cases h2 : j < P.length ∧ eqP (P.getD j .bad) l x y = false
    · rw [if_pos h2] at hn
      simp only [Option.some.injEq] at hn
      subst hn
      have e : P.length - j = (P.length - (j + 1)) + 1 := by omega
      refine ⟨by omega, by omega, ?_, turn_ok nilS mixed (LoopsOk.no _ _) rfl rfl (by rw [turn15 el o2 hd P l x y f j b h2.1 hP, h2.2]; rfl)⟩
      rw [e, hasK, hasJ, h2.2]; rfl
    · rw [if_neg h2] at hn; cases hn
def has_L : LSpec where
  n := 18
  nils := []
  keep := k15
  touch := t15
  run kv M k := match kv, M with
    | [.vec q0, .ptr b0 0, .lit (.bool b), .lit (.int .i64 i)], ⟨[some ⟨24, true, [.lit (.int .i64 l), .lit (.int .i64 x), .lit (.int .i64 y)]⟩], [some ⟨el, true, sh, t0, o2, hd, P⟩]⟩ =>
      bif decide (q0 = 0) && decide (b0 = 0) && decide (t0 = 0) && decide (sh = c3) && decide (i = 0) && decide (P.length ≤ 16384) then
        (bif hasB P l x y then k .ret [.vec 0, .ptr 0 0, bv true, i64 ((hasJ P l x y P.length 0 : Nat) : Int)] ⟨[some ⟨24, true, [i64 l, i64 x, i64 y]⟩], [some ⟨el, true, c3, 0, o2, hd, P⟩]⟩
         else k (.exit 0) [.vec 0, .ptr 0 0, bv b, i64 ((hasJ P l x y P.length 0 : Nat) : Int)] ⟨[some ⟨24, true, [i64 l, i64 x, i64 y]⟩], [some ⟨el, true, c3, 0, o2, hd, P⟩]⟩)
      else none
    | _, _ => none
theorem has_Lok : has_L.Ok Try.prog (.loop L15) := by
  intro R kv M k r h
  simp only [has_L] at h
  split at h
  · rename_i q0 b0 b i l x y el sh t0 o2 hd P
    simp only [cond_eq_ite, Bool.and_eq_true, decide_eq_true_eq] at h
    split at h
    · rename_i hc
      obtain ⟨⟨⟨⟨⟨rfl, rfl⟩, rfl⟩, rfl⟩, rfl⟩, hn⟩ := hc
      split at h
      · rename_i hk
        refine ⟨_, _, _, h, fun f => ?_⟩
        have hk' : hasK P l x y P.length 0 = true := hk
        have := CodeOkN.full (loop15 el o2 hd P l x y f b hn 0 (Nat.zero_le _)) (by rw [Nat.sub_zero, hk']; rfl)
        rw [Nat.sub_zero, hk'] at this
        exact this
      · rename_i hk
        refine ⟨_, _, _, h, fun f => ?_⟩
        have hk' : hasK P l x y P.length 0 = false := by simpa [hasB] using hk
        have := CodeOkN.full (loop15 el o2 hd P l x y f b hn 0 (Nat.zero_le _)) (by rw [Nat.sub_zero, hk']; rfl)
        rw [Nat.sub_zero, hk'] at this
        exact this
    · cases h
  · cases h
noncomputable def C15 : CallSem := CallSem.nil.withLoops (one 2 has_L)
theorem C15_sound : C15.Sound Try.prog := CallSem.withLoops_sound nilS _
theorem C15_loops : ∀ c, Try.f15.body = some c → LoopsOk Try.prog C15.loops c := one_ok nodes15 has_Lok
theorem s15 : Enters Try.prog 15 Try.f15 := ⟨Try.func15, by kernel_rfl, by kernel_rfl⟩
theorem s13 : Enters Try.prog 13 Try.f13 := ⟨Try.func13, by kernel_rfl, by kernel_rfl⟩
abbrev mP (o2 hd : Bool) (el : TypeId) (P : List AV) : Mem := ⟨[], [some ⟨el, true, c3, 0, o2, hd, P⟩]⟩
theorem has_eq (o2 hd : Bool) (el : TypeId) (P : List AV) (l x y : Int) (hP : P.length ≤ 16384) : fnK C15 Try.prog 2 Try.f15 [.vec 0, .agg [i64 l, i64 x, i64 y]] (mP o2 hd el P) [] = some (bv (hasB P l x y), mP o2 hd el P) := by
  have e : fnK C15 Try.prog 2 Try.f15 [.vec 0, .agg [i64 l, i64 x, i64 y]] (mP o2 hd el P) [] = (bif decide (P.length ≤ 16384) then (bif hasB P l x y then some (bv true, mP o2 hd el P) else some (bv false, mP o2 hd el P)) else none) := by kernel_rfl
  rw [e, decide_eq_true hP]
  cases hasB P l x y <;> rfl
def hasM : MSpec := ⟨[⟨0, 24, true, c3⟩], fun args M k => match args, M with
  | [.vec q, .agg [.lit (.int .i64 l), .lit (.int .i64 x), .lit (.int .i64 y)]], ⟨[], [some ⟨el, true, sh, t0, o2, hd, P⟩]⟩ =>
    bif decide (q = 0) && decide (t0 = 0) && decide (sh = c3) && decide (P.length ≤ 16384) then k (bv (hasB P l x y)) (mP o2 hd el P) else none
  | _, _ => none⟩
theorem hasM_ok : hasM.Ok Try.prog 15 := by
  intro R args M k r h
  simp only [hasM] at h
  split at h
  · rename_i q l x y el sh t0 o2 hd P
    simp only [cond_eq_ite, Bool.and_eq_true, decide_eq_true_eq] at h
    split at h
    · rename_i hc
      obtain ⟨⟨⟨rfl, rfl⟩, rfl⟩, hP⟩ := hc
      exact ⟨_, _, h, fn_ok C15_sound mixed s15 C15_loops (has_eq o2 hd el P l x y hP) (by kernel_rfl)⟩
    · cases h
  · cases h
noncomputable def cR0 : CallSem := (cPg.withRead 15 hasM).withSplit fun o => bif decide (o.dst = some 17) then some [0, 1, 2, 3] else none
theorem cR0_sound : cR0.Sound Try.prog := CallSem.withSplit_sound (CallSem.withRead_sound cPg_sound hasM_ok) _
theorem rlook_0 (o2 hd : Bool) (el : TypeId) (P : List AV) (l x y : Int) : fnK cR0 Try.prog 9 Try.f13 [i64 0, .vec 0, .agg [i64 l, i64 x, i64 y]] (mP o2 hd el P) [] = rG' P 0 l x y (mP o2 hd el P) := by kernel_rfl
theorem rlook_1 (o2 hd : Bool) (el : TypeId) (P : List AV) (l x y : Int) : fnK cR0 Try.prog 9 Try.f13 [i64 1, .vec 0, .agg [i64 l, i64 x, i64 y]] (mP o2 hd el P) [] = rG' P 1 l x y (mP o2 hd el P) := by kernel_rfl
theorem rlook_2 (o2 hd : Bool) (el : TypeId) (P : List AV) (l x y : Int) : fnK cR0 Try.prog 9 Try.f13 [i64 2, .vec 0, .agg [i64 l, i64 x, i64 y]] (mP o2 hd el P) [] = rG' P 2 l x y (mP o2 hd el P) := by kernel_rfl
theorem rlook_3 (o2 hd : Bool) (el : TypeId) (P : List AV) (l x y : Int) : fnK cR0 Try.prog 9 Try.f13 [i64 3, .vec 0, .agg [i64 l, i64 x, i64 y]] (mP o2 hd el P) [] = rG' P 3 l x y (mP o2 hd el P) := by kernel_rfl
theorem rlook_eq (o2 hd : Bool) (d : Int) (el : TypeId) (P : List AV) (l x y : Int) (hd' : dB d = true) (hP : P.length ≤ 16384) : fnK cR0 Try.prog 9 Try.f13 [i64 d, .vec 0, .agg [i64 l, i64 x, i64 y]] (mP o2 hd el P) [] = some (rlookA P d l x y, mP o2 hd el P) := by
  rw [← rG_eq _ hP]
  simp only [dB, Bool.and_eq_true, decide_eq_true_eq] at hd'
  have hc : d = 0 ∨ d = 1 ∨ d = 2 ∨ d = 3 := by omega
  rcases hc with rfl | rfl | rfl | rfl
  · exact rlook_0 o2 hd el P l x y
  · exact rlook_1 o2 hd el P l x y
  · exact rlook_2 o2 hd el P l x y
  · exact rlook_3 o2 hd el P l x y
def rlookM : MSpec := ⟨[⟨1, 24, true, c3⟩], fun args M k => match args, M with
  | [.lit (.int .i64 d), .vec q, .agg [.lit (.int .i64 l), .lit (.int .i64 x), .lit (.int .i64 y)]], ⟨[], [some ⟨el, true, sh, t0, o2, hd, P⟩]⟩ =>
    bif decide (q = 0) && decide (t0 = 0) && decide (sh = c3) && dB d && decide (P.length ≤ 16384) then k (rlookA P d l x y) (mP o2 hd el P) else none
  | _, _ => none⟩
theorem rlookM_ok : rlookM.Ok Try.prog 13 := by
  intro R args M k r h
  simp only [rlookM] at h
  split at h
  · rename_i d q l x y el sh t0 o2 hd P
    simp only [cond_eq_ite, Bool.and_eq_true, decide_eq_true_eq] at h
    split at h
    · rename_i hc
      obtain ⟨⟨⟨⟨rfl, rfl⟩, rfl⟩, hd'⟩, hP⟩ := hc
      exact ⟨_, _, h, fn_ok cR0_sound mixed s13 (fun _ _ => LoopsOk.no _ _) (rlook_eq o2 hd d el P l x y hd' hP) (by kernel_rfl)⟩
    · cases h
  · cases h
end Go.Proofs.Ytddilbhjjlmopaa
