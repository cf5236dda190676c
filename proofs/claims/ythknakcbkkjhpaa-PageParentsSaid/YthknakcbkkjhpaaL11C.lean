/- The law's 'all': a loop over page.All (chapter 11). -/
import Derived.Test.YthknakcbkkjhpaaL11B
import Derived.Test.YthknakcbkkjhpaaSxRf
import Derived.RangeFuncBox
import Derived.RangeFuncNested
import Derived.RangeFuncBound
import Derived.RangeFuncCalls
import Derived.RangeFuncLeaves
import Derived.Shelf.Abstract
import Derived.Shelf.RegionOpen
import Derived.WalkKit
import Derived.OwnWalkIn
import Derived.TacticsInMore
import Derived.LoopNIn
import Derived.LoopIn
import Derived.Maps.AppendAt
set_option linter.unusedVariables false
set_option linter.unusedSimpArgs false
namespace Go.Proofs.Ythknakcbkkjhpaa
open Go Go.Sx Go.Fx Go.RowKit Go.Shelf
attribute [local go_sem] Oper.semAt_some
set_option linter.unusedVariables false
set_option linter.unusedSimpArgs false

/-- a page's value -/
def pgV (d : Int) (k : Nat) : Value := .agg #[.int .i64 (pL d.toNat k), .int .i64 (pX d.toNat k), .int .i64 (pY d.toNat k)]
/-- what lies below n₀ lies on, and so does the box of d -/
def Kq (n₀ Bd : Nat) (d : Int) (A B : World) : Prop := Below n₀ A B ∧ (Boxed A Bd 3 (.int .i64 d) → Boxed B Bd 3 (.int .i64 d))
theorem Kq.refl {n₀ Bd : Nat} {d : Int} (A : World) : Kq n₀ Bd d A A := ⟨Below.refl _ _, fun h => h⟩
theorem Kq.trans {n₀ Bd : Nat} {d : Int} {A B C : World} (h : Kq n₀ Bd d A B) (k : Kq n₀ Bd d B C) : Kq n₀ Bd d A C := ⟨h.1.trans k.1, fun x => k.2 (h.2 x)⟩
theorem Kq_b {n₀ Bd : Nat} {d : Int} {w : World} (hn : n₀ ≤ w.heap.size) (W : World) (l : Nat) (o o' : Obj) (hl : w.heap.size ≤ l) (h : W.heap[l]? = some o) (hc : o.isCells = false) (hw : o.isWalk = false) : Kq n₀ Bd d W (W.putObj l o') :=
  ⟨belowK_b hn W l o o' hl h hc hw, fun hb => hb.kept (grownBy_putObj' W l o') (fun e => by
    cases e
    rw [show W.heap[Bd]? = _ from hb] at h; cases h; cases hc)⟩
theorem grown_below {A B : World} (h : Below A.heap.size A B) : A.grownBy B none := ⟨h.os, h.tape, h.output, h.size, fun k hk _ => h.block k hk⟩
theorem Kq.later {n₀ Bd : Nat} {d : Int} {A B : World} (hn : n₀ ≤ A.heap.size) (h : Below A.heap.size A B) : Kq n₀ Bd d A B := ⟨h.mono hn, fun hb => hb.kept (grown_below h) (by simp)⟩

theorem cn_nonneg (d : Int) : 0 ≤ cn d := by
  unfold cn
  cases dB d
  · simp
  · have := ah_cases (d + 1)
    simp only [cond_true]; omega
theorem cn_85 (d : Int) : cn d ≤ 85 := by
  unfold cn
  cases dB d
  · simp
  · have := ah_cases (d + 1)
    simp only [cond_true]; omega
theorem wrap_small {k : Nat} (h : k ≤ 85) : wrap64 ((k : Int) + 1) = (k : Int) + 1 := by unfold wrap64; omega
theorem count_in (F : Fence) (hF : F = Fence.wide) (m : Nat) (d : Int) (w : World) : CallsIn F m Try.prog 16 #[.int .i64 d] w fun e w' => e = .returned (.int .i64 (cn d)) ∧ Below w.heap.size w w' := by
  subst hF
  refine callsIn_wide.2 ?_
  obtain ⟨z, hz, h1, h2, h3⟩ := ok16 (R := AV) (args := [i64 d]) (k := some) (r := i64 (cn d)) rfl
  simp only [Option.some.injEq] at hz
  subst hz
  exact (h3 ⟨fun _ => 0, fun _ => undef⟩ w).2
theorem at_call (F : Fence) (hF : F = Fence.wide) (m : Nat) (d : Int) (k : Nat) (hk : (k : Int) < cn d) (w : World) : CallsIn F m Try.prog 7 #[.int .i64 d, .int .i64 k] w fun e w' => e = .returned (.tuple #[.agg #[.int .i64 (pL d.toNat k), .int .i64 (pX d.toNat k), .int .i64 (pY d.toNat k)], .bool true]) ∧ Below w.heap.size w w' := by
  subst hF
  refine callsIn_wide.2 ?_
  have h := (at_ok d k).2.2 ⟨fun _ => 0, fun _ => undef⟩ w
  have hi : inR d k = true := by simp [inR, hk]
  have e : (atA d k).conc ⟨fun _ => 0, fun _ => undef⟩ = .tuple #[.agg #[.int .i64 (pL d.toNat k), .int .i64 (pX d.toNat k), .int .i64 (pY d.toNat k)], .bool true] := by simp [atA, atL, atX, atY, hi, AV.conc, concL]
  rw [e] at h
  exact h.2

set_option maxRecDepth 100000 in
set_option maxHeartbeats 4000000 in
theorem all1_in (n : Nat) (hn : 1 ≤ n) (l Bd n₀ : Nat) (d : Int) (J Jx : List Nat → World → Prop)
    (hJ : ∀ s A B, J s A → Below A.heap.size A B → n₀ ≤ A.heap.size → J s B)
    (hY : ∀ pre x W, J pre W → pre.length < (cn d).toNat → YieldAt Fence.wide (n - 1) Try.prog l #[pgV d x] W fun e W' =>
      (e = .returned (.bool true) ∧ J (pre ++ [x]) W' ∧ Kq n₀ Bd d W W') ∨ (e = .returned (.bool false) ∧ Jx (pre ++ [x]) W'))
    (W : World) (hW : n₀ ≤ W.heap.size) (hBd : Boxed W Bd 3 (.int .i64 d)) (h0 : J [] W) :
    CallsIn Fence.wide n Try.prog 30 #[.func (.yield l) #[] #[], .pointer (some ⟨Bd, 0, none⟩)] W fun e W' => (∃ v, e = .returned v) ∧
      ((∃ ys, ys = List.range (cn d).toNat ∧ J ys W') ∨ (∃ pre, (∃ k, k ≤ (cn d).toNat ∧ pre = List.range k) ∧ Jx pre W')) := by
  refine callsIn_of_wp Try.func30 rfl trivial ?_ rfl
  simp only [Try.ntmps30, List.size_toArray, List.length_cons, List.length_nil, Nat.reduceAdd, Nat.reduceSub, Array.replicate_succ, Array.replicate_zero, List.push_toArray, List.append_toArray, List.nil_append, List.cons_append]
  have hc := hBd.cell
  gi_wp2_with (refine ⟨trivial, ?_⟩; gi_at_call 16; refine (count_in Fence.wide rfl (n - 1) d _).mono ?_; rintro e w1 ⟨rfl, hb1⟩)
  gi_loopw [8] (fun i wr => ∃ k : Nat, k ≤ (cn d).toNat ∧ i = .int .i64 k ∧ J (List.range k) wr ∧ n₀ ≤ wr.heap.size ∧ Boxed wr Bd 3 (.int .i64 d))
    (fun i _ => (cn d).toNat - (intOf i).toNat)
  case atStart => exact ⟨0, Nat.zero_le _, rfl, hJ _ _ _ h0 hb1 hW, Nat.le_trans hW hb1.size, (Kq.later hW hb1).2 hBd⟩
  case round =>
    obtain ⟨k, hk, rfl, hJs, hsz, hbx⟩ := hrel
    have hcn : 0 ≤ cn d := cn_nonneg d
    have hcn' := cn_85 d
    have hwr := wrap_small (k := k) (by omega)
    have hc := hbx.cell
    by_cases hlt : k < (cn d).toNat
    · have hki : (k : Int) < cn d := by omega
      gi_wp2_with (refine ⟨trivial, ?_⟩; gi_at_call 7; refine (at_call Fence.wide rfl (n - 1) d k hki _).mono ?_; rintro e w2 ⟨rfl, hb2⟩)
      have hB2 : Below wr.heap.size wr (w2.alloc (.cells #[.int .i64 (pL d.toNat k), .int .i64 (pX d.toNat k), .int .i64 (pY d.toNat k)] 23)) := hb2.alloc hb2.size _
      have hJ2 := hJ _ _ _ hJs hB2 hsz
      have hx2 := (Kq.later hsz hB2).2 hbx
      obtain ⟨fn, tmps, assign, body, hy, hR⟩ := hY (List.range k) k _ hJ2 (by rw [List.length_range]; exact hlt)
      simp only [pgV] at hy
      rw [hy]
      gi_wp2
      refine hR.mono ?_
      rintro e W3 (⟨rfl, hJ3, hk3⟩ | ⟨rfl, hJx3⟩)
      · gi_wp2
        go_roundw
        case rel => exact ⟨k + 1, by omega, by simp [hwr], by rw [List.range_succ]; exact hJ3, Nat.le_trans hsz (Nat.le_trans hB2.size hk3.1.size), hk3.2 hx2⟩
        case measure => simp [intOf, hwr]; omega
      · gi_wp2
        refine bodyPost_ret (results_none rfl _ _ _) rfl ?_
        exact ⟨⟨_, rfl⟩, .inr ⟨_, ⟨k + 1, by omega, List.range_succ.symm⟩, hJx3⟩⟩
    · obtain rfl : k = (cn d).toNat := by omega
      gi_wp2
      go_end0
      exact ⟨⟨_, rfl⟩, .inl ⟨_, rfl, hJs⟩⟩

theorem all_stops (n : Nat) (hn : 1 ≤ n) (Bd n₀ : Nat) (d : Int) (w : World) (hBd : Boxed w Bd 3 (.int .i64 d)) (hw : n₀ ≤ w.heap.size) :
    SeqStopsK Fence.wide n Try.prog 30 #[.pointer (some ⟨Bd, 0, none⟩)] (fun k : Nat => #[pgV d k]) (Kq n₀ Bd d) (fun ys => ys = List.range (cn d).toNat) (fun pre => ∃ k, k ≤ (cn d).toNat ∧ pre = List.range k) (cn d).toNat w := fun l J Jx W hW hJ hJx hY h0 =>
  all1_in n hn l Bd n₀ d J Jx (fun s A B hs hb _ => hJ s A B none hs (grown_below hb) (by simp)) hY W (Nat.le_trans hw hW.size) (hBd.kept (grown_below hW) (by simp)) h0
set_option maxHeartbeats 1000000 in
theorem pall_in (n : Nat) (d : Int) (w : World) :
    CallsIn Fence.wide n Try.prog 28 #[.int .i64 d] w fun e w' => e = .returned (.func (.func 30) #[] #[.pointer (some ⟨w.heap.size, 0, none⟩)]) ∧ w' = w.alloc (.cells #[.int .i64 d] 3) := by
  refine callsIn_of_wp Try.func28 rfl trivial ?_ rfl
  simp only [Try.ntmps28, List.size_toArray, List.length_cons, List.length_nil, Nat.reduceAdd, Nat.reduceSub, Array.replicate_succ, Array.replicate_zero, List.push_toArray, List.append_toArray, List.nil_append, List.cons_append]
  gi_wp2
  go_ret
  exact ⟨rfl, rfl⟩
end Go.Proofs.Ythknakcbkkjhpaa
