/- ClipKeeps' own loop (chapter 24). -/
import Derived.Test.YtemhaijcebjhhaaL24Y
set_option linter.unusedVariables false
set_option linter.unusedSimpArgs false
namespace Go.Proofs.Ytemhaijcebjhhaa
open Go Go.Sx Go.Fx
set_option maxRecDepth 100000
set_option linter.unusedVariables false
theorem raw9K0 (bt : TypeId) (ow : Bool) (a0 a1 a2 a3 a4 a5 b0 b1 b2 b3 b4 b5 d0 d1 d2 d3 d4 d5 : Int) (p : Int) (f : Nat → Value) (n : Int) : turnK cC Try.prog 1 L9K k9K t9K 1 0 (S9K bt ow a0 a1 a2 a3 a4 a5 b0 b1 b2 b3 b4 b5 d0 d1 d2 d3 d4 d5 p f n 0) =
    (bif decide (insV a0 a1 a2 a3 p ≥ 0) then some (.normal, S9K bt ow a0 a1 a2 a3 a4 a5 b0 b1 b2 b3 b4 b5 d0 d1 d2 d3 d4 d5 p f (wi (n + 1)) 1) else some (.normal, S9K bt ow a0 a1 a2 a3 a4 a5 b0 b1 b2 b3 b4 b5 d0 d1 d2 d3 d4 d5 p f n 1)) := by kernel_rfl
theorem raw9K1 (bt : TypeId) (ow : Bool) (a0 a1 a2 a3 a4 a5 b0 b1 b2 b3 b4 b5 d0 d1 d2 d3 d4 d5 : Int) (p : Int) (f : Nat → Value) (n : Int) : turnK cC Try.prog 1 L9K k9K t9K 1 0 (S9K bt ow a0 a1 a2 a3 a4 a5 b0 b1 b2 b3 b4 b5 d0 d1 d2 d3 d4 d5 p f n 1) =
    (bif decide (insV b0 b1 b2 b3 p ≥ 0) then some (.normal, S9K bt ow a0 a1 a2 a3 a4 a5 b0 b1 b2 b3 b4 b5 d0 d1 d2 d3 d4 d5 p f (wi (n + 1)) 2) else some (.normal, S9K bt ow a0 a1 a2 a3 a4 a5 b0 b1 b2 b3 b4 b5 d0 d1 d2 d3 d4 d5 p f n 2)) := by kernel_rfl
theorem raw9K2 (bt : TypeId) (ow : Bool) (a0 a1 a2 a3 a4 a5 b0 b1 b2 b3 b4 b5 d0 d1 d2 d3 d4 d5 : Int) (p : Int) (f : Nat → Value) (n : Int) : turnK cC Try.prog 1 L9K k9K t9K 1 0 (S9K bt ow a0 a1 a2 a3 a4 a5 b0 b1 b2 b3 b4 b5 d0 d1 d2 d3 d4 d5 p f n 2) =
    (bif decide (insV d0 d1 d2 d3 p ≥ 0) then some (.normal, S9K bt ow a0 a1 a2 a3 a4 a5 b0 b1 b2 b3 b4 b5 d0 d1 d2 d3 d4 d5 p f (wi (n + 1)) 3) else some (.normal, S9K bt ow a0 a1 a2 a3 a4 a5 b0 b1 b2 b3 b4 b5 d0 d1 d2 d3 d4 d5 p f n 3)) := by kernel_rfl
theorem raw9K3 (bt : TypeId) (ow : Bool) (a0 a1 a2 a3 a4 a5 b0 b1 b2 b3 b4 b5 d0 d1 d2 d3 d4 d5 : Int) (p : Int) (f : Nat → Value) (n : Int) : turnK cC Try.prog 1 L9K k9K t9K 1 0 (S9K bt ow a0 a1 a2 a3 a4 a5 b0 b1 b2 b3 b4 b5 d0 d1 d2 d3 d4 d5 p f n 3) = some (.exit 2, S9K bt ow a0 a1 a2 a3 a4 a5 b0 b1 b2 b3 b4 b5 d0 d1 d2 d3 d4 d5 p f n 3) := by kernel_rfl
def gK (a0 a1 a2 a3 a4 a5 b0 b1 b2 b3 b4 b5 d0 d1 d2 d3 d4 d5 p : Int) : Nat → Nat
  | 0 => bN (decide (insV a0 a1 a2 a3 p ≥ 0))
  | 1 => bN (decide (insV b0 b1 b2 b3 p ≥ 0))
  | 2 => bN (decide (insV d0 d1 d2 d3 p ≥ 0))
  | _ => 0
def rK (a0 a1 a2 a3 a4 a5 b0 b1 b2 b3 b4 b5 d0 d1 d2 d3 d4 d5 p : Int) : Nat → Nat
  | 0 => gK a0 a1 a2 a3 a4 a5 b0 b1 b2 b3 b4 b5 d0 d1 d2 d3 d4 d5 p 0 + (gK a0 a1 a2 a3 a4 a5 b0 b1 b2 b3 b4 b5 d0 d1 d2 d3 d4 d5 p 1 + gK a0 a1 a2 a3 a4 a5 b0 b1 b2 b3 b4 b5 d0 d1 d2 d3 d4 d5 p 2)
  | 1 => gK a0 a1 a2 a3 a4 a5 b0 b1 b2 b3 b4 b5 d0 d1 d2 d3 d4 d5 p 1 + gK a0 a1 a2 a3 a4 a5 b0 b1 b2 b3 b4 b5 d0 d1 d2 d3 d4 d5 p 2
  | 2 => gK a0 a1 a2 a3 a4 a5 b0 b1 b2 b3 b4 b5 d0 d1 d2 d3 d4 d5 p 2
  | _ => 0
theorem gK_le (a0 a1 a2 a3 a4 a5 b0 b1 b2 b3 b4 b5 d0 d1 d2 d3 d4 d5 p : Int) (j : Nat) : gK a0 a1 a2 a3 a4 a5 b0 b1 b2 b3 b4 b5 d0 d1 d2 d3 d4 d5 p j ≤ 1 := by
  have hb : ∀ b, bN b ≤ 1 := fun b => by cases b <;> simp [bN]
  unfold gK; split
  · exact hb _
  · exact hb _
  · exact hb _
  · omega
theorem turn9K (bt : TypeId) (ow : Bool) (a0 a1 a2 a3 a4 a5 b0 b1 b2 b3 b4 b5 d0 d1 d2 d3 d4 d5 : Int) (p : Int) (f : Nat → Value) (j n : Nat) (hj : j < 3) (hn : n ≤ 3) :
    turnK cC Try.prog 1 L9K k9K t9K 1 0 (S9K bt ow a0 a1 a2 a3 a4 a5 b0 b1 b2 b3 b4 b5 d0 d1 d2 d3 d4 d5 p f (n : Nat) (j : Nat)) = some (.normal, S9K bt ow a0 a1 a2 a3 a4 a5 b0 b1 b2 b3 b4 b5 d0 d1 d2 d3 d4 d5 p f ((n + gK a0 a1 a2 a3 a4 a5 b0 b1 b2 b3 b4 b5 d0 d1 d2 d3 d4 d5 p j : Nat) : Int) ((j + 1 : Nat) : Int)) := by
  have e2 : wi (((n : Nat) : Int) + 1) = ((n + 1 : Nat) : Int) := by rw [wi_id (by omega) (by omega)]; omega
  have : j = 0 ∨ j = 1 ∨ j = 2 := by omega
  rcases this with rfl | rfl | rfl
  · refine (raw9K0 bt ow a0 a1 a2 a3 a4 a5 b0 b1 b2 b3 b4 b5 d0 d1 d2 d3 d4 d5 p f n).trans ?_
    rw [e2, gK]
    cases decide (insV a0 a1 a2 a3 p ≥ 0) <;> rfl
  · refine (raw9K1 bt ow a0 a1 a2 a3 a4 a5 b0 b1 b2 b3 b4 b5 d0 d1 d2 d3 d4 d5 p f n).trans ?_
    rw [e2, gK]
    cases decide (insV b0 b1 b2 b3 p ≥ 0) <;> rfl
  · refine (raw9K2 bt ow a0 a1 a2 a3 a4 a5 b0 b1 b2 b3 b4 b5 d0 d1 d2 d3 d4 d5 p f n).trans ?_
    rw [e2, gK]
    cases decide (insV d0 d1 d2 d3 p ≥ 0) <;> rfl
theorem loop9K (bt : TypeId) (ow : Bool) (a0 a1 a2 a3 a4 a5 b0 b1 b2 b3 b4 b5 d0 d1 d2 d3 d4 d5 : Int) (p : Int) (f : Nat → Value) (s : Nat × Nat) (hs : s.1 ≤ 3 ∧ s.2 ≤ s.1) :
    CodeOkN 1 0 Try.prog (.loop L9K) (S9K bt ow a0 a1 a2 a3 a4 a5 b0 b1 b2 b3 b4 b5 d0 d1 d2 d3 d4 d5 p f ((s.2 : Nat) : Int) ((s.1 : Nat) : Int)) (.exit 2) (S9K bt ow a0 a1 a2 a3 a4 a5 b0 b1 b2 b3 b4 b5 d0 d1 d2 d3 d4 d5 p f ((s.2 + rK a0 a1 a2 a3 a4 a5 b0 b1 b2 b3 b4 b5 d0 d1 d2 d3 d4 d5 p s.1 : Nat) : Int) 3) := by
  refine loop_ok (fun s : Nat × Nat => S9K bt ow a0 a1 a2 a3 a4 a5 b0 b1 b2 b3 b4 b5 d0 d1 d2 d3 d4 d5 p f ((s.2 : Nat) : Int) ((s.1 : Nat) : Int)) (fun s => (.exit 2, S9K bt ow a0 a1 a2 a3 a4 a5 b0 b1 b2 b3 b4 b5 d0 d1 d2 d3 d4 d5 p f ((s.2 + rK a0 a1 a2 a3 a4 a5 b0 b1 b2 b3 b4 b5 d0 d1 d2 d3 d4 d5 p s.1 : Nat) : Int) 3))
    (fun s => if s.1 < 3 then some (s.1 + 1, s.2 + gK a0 a1 a2 a3 a4 a5 b0 b1 b2 b3 b4 b5 d0 d1 d2 d3 d4 d5 p s.1) else none) (fun s => 3 - s.1) (fun s => s.1 ≤ 3 ∧ s.2 ≤ s.1) ?_ ?_ s hs
  · rintro ⟨j, n⟩ ⟨h1, h2⟩ hn
    refine ⟨fun e => (by cases e), ?_⟩
    have hj : j = 3 := by
      by_cases h : j < 3
      · simp [h] at hn
      · simp only at h1; omega
    subst hj
    exact turn_ok cC_sound mixed (LoopsOk.no _ _) rfl rfl (raw9K3 bt ow a0 a1 a2 a3 a4 a5 b0 b1 b2 b3 b4 b5 d0 d1 d2 d3 d4 d5 p f n)
  · rintro ⟨j, n⟩ s' ⟨h1, h2⟩ hn
    by_cases h : j < 3
    · simp only [h, if_true, Option.some.injEq] at hn
      subst hn
      simp only at h1 h2
      have hg := gK_le a0 a1 a2 a3 a4 a5 b0 b1 b2 b3 b4 b5 d0 d1 d2 d3 d4 d5 p j
      refine ⟨⟨by simp only; omega, by simp only; omega⟩, by simp only; omega, ?_, turn_ok cC_sound mixed (LoopsOk.no _ _) rfl rfl (turn9K bt ow a0 a1 a2 a3 a4 a5 b0 b1 b2 b3 b4 b5 d0 d1 d2 d3 d4 d5 p f j n h (by omega))⟩
      have : j = 0 ∨ j = 1 ∨ j = 2 := by omega
      rcases this with rfl | rfl | rfl <;> simp only [rK, Nat.add_assoc, Nat.add_zero]
    · simp [h] at hn
def cntK_L : LSpec where
  n := 76
  nils := []
  keep := k9K
  touch := t9K
  run kv M k := match kv, M with
    | [.ptr 0 0, .lit (.int .i64 p), .lit (.int .i64 n), .lit (.int .i64 i)], ⟨[some ⟨bt, ow, [.lit (.int .i64 a0), .lit (.int .i64 a1), .lit (.int .i64 a2), .lit (.int .i64 a3), .lit (.int .i64 a4), .lit (.int .i64 a5), .lit (.int .i64 b0), .lit (.int .i64 b1), .lit (.int .i64 b2), .lit (.int .i64 b3), .lit (.int .i64 b4), .lit (.int .i64 b5), .lit (.int .i64 d0), .lit (.int .i64 d1), .lit (.int .i64 d2), .lit (.int .i64 d3), .lit (.int .i64 d4), .lit (.int .i64 d5)]⟩], []⟩ =>
      bif decide (n = 0) && decide (i = 0) then
        k (.exit 2) [.ptr 0 0, i64 p, i64 ((rK a0 a1 a2 a3 a4 a5 b0 b1 b2 b3 b4 b5 d0 d1 d2 d3 d4 d5 p 0 : Nat) : Int), i64 3] ⟨[some ⟨bt, ow, [i64 a0, i64 a1, i64 a2, i64 a3, i64 a4, i64 a5, i64 b0, i64 b1, i64 b2, i64 b3, i64 b4, i64 b5, i64 d0, i64 d1, i64 d2, i64 d3, i64 d4, i64 d5]⟩], []⟩
      else none
    | _, _ => none
theorem cntK_Lok : cntK_L.Ok Try.prog (.loop L9K) := by
  intro R kv M k r h
  simp only [cntK_L] at h
  split at h
  · rename_i p n i bt ow a0 a1 a2 a3 a4 a5 b0 b1 b2 b3 b4 b5 d0 d1 d2 d3 d4 d5
    simp only [cond_eq_ite, Bool.and_eq_true, decide_eq_true_eq] at h
    split at h
    · rename_i hc
      obtain ⟨rfl, rfl⟩ := hc
      refine ⟨_, _, _, h, fun f => ?_⟩
      have hN := loop9K bt ow a0 a1 a2 a3 a4 a5 b0 b1 b2 b3 b4 b5 d0 d1 d2 d3 d4 d5 p f (0, 0) ⟨Nat.zero_le _, Nat.le_refl _⟩
      simp only [Nat.zero_add] at hN
      exact CodeOkN.full hN rfl
    · cases h
  · cases h
noncomputable def cK0 : CallSem := (((cC.withSpec 8 trueS).withRead 7 far3M).withRead 14 pol3M).withRead 13 same3M
theorem cK0_sound : cK0.Sound Try.prog := CallSem.withRead_sound (CallSem.withRead_sound (CallSem.withRead_sound (CallSem.withSpec_sound cC_sound awake_ok) far3M_ok) pol3M_ok) same3M_ok
noncomputable def cK : CallSem := cK0.withJoin.withLoops (one 9 cntK_L)
theorem cK_sound : cK.Sound Try.prog := CallSem.withLoops_sound (CallSem.withJoin_sound cK0_sound) _
theorem cK_loops : ∀ c, Try.f4.body = some c → LoopsOk Try.prog cK.loops c := loops_of nodes4 fun x hx L' h' => by
  have e0 : nodeL (one 9 cntK_L) (.loop (unl (lpOf Try.f4 0))) = none := by kernel_rfl
  have e1 : nodeL (one 9 cntK_L) (.loop L9K) = some cntK_L := by kernel_rfl
  rw [show cK.loops = one 9 cntK_L from rfl] at h'
  simp only [List.mem_cons, List.not_mem_nil, or_false] at hx
  rcases hx with rfl | rfl
  · rw [e0] at h'; cases h'
  · rw [e1] at h'
    simp only [Option.some.injEq] at h'
    exact @fixL _ _ _ _ h' @cntK_Lok
end Go.Proofs.Ytemhaijcebjhhaa
