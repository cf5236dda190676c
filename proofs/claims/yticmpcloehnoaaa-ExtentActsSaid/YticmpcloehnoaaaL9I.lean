/- extent's Free: the iterator (chapter 9). -/
import Derived.Test.YticmpcloehnoaaaL9H
import Derived.Test.YticmpcloehnoaaaSxRf
import Derived.RangeFuncBox
import Derived.RangeFuncNested
import Derived.RangeFuncBound
import Derived.RangeFuncCalls
import Derived.RangeFuncLeaves
import Derived.Shelf.Abstract
import Derived.Shelf.RegionOpen
import Derived.WalkKit
import Derived.OwnWalkIn
import Derived.TacticsInMore
import Derived.LoopNIn
import Derived.LoopIn
import Derived.Maps.AppendAt
set_option linter.unusedVariables false
set_option linter.unusedSimpArgs false
namespace Go.Proofs.Yticmpcloehnoaaa
open Go Go.Sx Go.Fx Go.RowKit Go.Shelf
attribute [local go_sem] Oper.semAt_some
set_option linter.unusedVariables false
set_option linter.unusedSimpArgs false
/-- a run's values -/
def rE (r : Nat × Nat) : Array Value := #[.int .i64 (r.1 : Nat), .int .i64 (r.2 : Nat)]
/-- what lies below n₀ lies on, and so does a box -/
def Kq (n₀ Bd : Nat) (v : Value) (A B : World) : Prop := Below n₀ A B ∧ (Boxed A Bd 24 v → Boxed B Bd 24 v)
theorem Kq.refl {n₀ Bd : Nat} {v : Value} (A : World) : Kq n₀ Bd v A A := ⟨Below.refl _ _, fun h => h⟩
theorem Kq.trans {n₀ Bd : Nat} {v : Value} {A B C : World} (h : Kq n₀ Bd v A B) (k : Kq n₀ Bd v B C) : Kq n₀ Bd v A C := ⟨h.1.trans k.1, fun x => k.2 (h.2 x)⟩
theorem Kq_b {n₀ Bd : Nat} {v : Value} {w : World} (hn : n₀ ≤ w.heap.size) (W : World) (l : Nat) (o o' : Obj) (hl : w.heap.size ≤ l) (h : W.heap[l]? = some o) (hc : o.isCells = false) (hw : o.isWalk = false) : Kq n₀ Bd v W (W.putObj l o') :=
  ⟨belowK_b hn W l o o' hl h hc hw, fun hb => hb.kept (grownBy_putObj' W l o') (fun e => by
    cases e
    rw [show W.heap[Bd]? = _ from hb] at h; cases h; cases hc)⟩
theorem grown_below {A B : World} (h : Below A.heap.size A B) : A.grownBy B none := ⟨h.os, h.tape, h.output, h.size, fun k hk _ => h.block k hk⟩
theorem Kq.later {n₀ Bd : Nat} {v : Value} {A B : World} (hn : n₀ ≤ A.heap.size) (h : Below A.heap.size A B) : Kq n₀ Bd v A B := ⟨h.mono hn, fun hb => hb.kept (grown_below h) (by simp)⟩
/-- a map in memory -/
structure MapW (W : World) (n₀ B g off cap : Nat) (L : List AV) : Prop where
  fld : W.cell? ⟨B, 0, none⟩ = some (.slice (some ⟨g, off, none⟩) L.length cap)
  el : ∀ i, i < L.length → W.cell? ⟨g, off + i, none⟩ = some (.bool (bA L i))
  hB : B < n₀
  hg : g < n₀
theorem MapW.below {W W' : World} {n₀ B g off cap : Nat} {L : List AV} (h : MapW W n₀ B g off cap L) (k : Below n₀ W W') : MapW W' n₀ B g off cap L :=
  ⟨(k.cell (p := ⟨B, 0, none⟩) h.hB).trans h.fld, fun i hi => (k.cell (p := ⟨g, off + i, none⟩) h.hg).trans (h.el i hi), h.hB, h.hg⟩
theorem wr1 {k : Nat} (h : k ≤ 65536) : wrap64 ((k : Int) + 1) = (k : Int) + 1 := by unfold wrap64; omega
theorem wrs {a b : Nat} (h : a ≤ 65536) (h' : b ≤ a) : wrap64 ((a : Int) - (b : Int)) = (a : Int) - (b : Int) := by unfold wrap64; omega

set_option maxRecDepth 100000 in
set_option maxHeartbeats 4000000 in
theorem free1_in (n : Nat) (hn : 1 ≤ n) (l Bd n₀ B g off cap : Nat) (L : List AV) (hL : L.length ≤ 65535) (J Jx : List (Nat × Nat) → World → Prop)
    (hJ : ∀ s A B, J s A → Below A.heap.size A B → n₀ ≤ A.heap.size → J s B)
    (hY : ∀ pre (x : Nat × Nat) W, J pre W → pre.length < (runs L).length → x.1 + x.2 ≤ L.length → YieldAt Fence.wide (n - 1) Try.prog l (rE x) W fun e W' =>
      (e = .returned (.bool true) ∧ J (pre ++ [x]) W' ∧ Kq n₀ Bd (.pointer (some ⟨B, 0, none⟩)) W W') ∨ (e = .returned (.bool false) ∧ Jx (pre ++ [x]) W'))
    (W : World) (hW : n₀ ≤ W.heap.size) (hBd : Boxed W Bd 24 (.pointer (some ⟨B, 0, none⟩))) (hM : MapW W n₀ B g off cap L) (h0 : J [] W) :
    CallsIn Fence.wide n Try.prog 30 #[.func (.yield l) #[] #[], .pointer (some ⟨Bd, 0, none⟩)] W fun e W' => (∃ v, e = .returned v) ∧
      ((∃ ys, ys = runs L ∧ J ys W') ∨ (∃ pre, pre <+: runs L ∧ Jx pre W')) := by
  refine callsIn_of_wp Try.func30 rfl trivial ?_ rfl
  simp only [Try.ntmps30, List.size_toArray, List.length_cons, List.length_nil, Nat.reduceAdd, Nat.reduceSub, Array.replicate_succ, Array.replicate_zero, List.push_toArray, List.append_toArray, List.nil_append, List.cons_append]
  have hc := hBd.cell
  gi_wp2
  gi_loopw [3] (fun i wr => ∃ (s f : Nat) (pre : List (Nat × Nat)), i = .int .i64 s ∧ s ≤ L.length + 1 ∧ L.length < s + f ∧ runs L = pre ++ runsF L L.length f s ∧ J pre wr ∧ n₀ ≤ wr.heap.size ∧ Boxed wr Bd 24 (.pointer (some ⟨B, 0, none⟩)) ∧ MapW wr n₀ B g off cap L)
    (fun i _ => L.length + 1 - (intOf i).toNat)
  case atStart => exact ⟨0, L.length + 1, [], rfl, by omega, by omega, rfl, h0, hW, hBd, hM⟩
  case round =>
    obtain ⟨s, f, pre, rfl, hs1, hsf, hrun, hJs, hsz, hbx, hm⟩ := hrel
    have hc := hbx.cell
    have hfl := hm.fld
    by_cases hlt : s < L.length
    · obtain ⟨E, hE, hE1, hE2, hal, hst, f', hsf', hrun'⟩ : ∃ E : Nat, scan L false (L.length - s) s = E ∧ s ≤ E ∧ E ≤ L.length ∧ (∀ j, s ≤ j → j < E → bA L j = false) ∧ (E < L.length → bA L E = true) ∧ ∃ f', L.length < E + 1 + f' ∧ runs L = pre ++ ((if s < E then [(s, E - s)] else []) ++ runsF L L.length f' (E + 1)) := by
        have h2 := scan_le L false (L.length - s) s
        refine ⟨_, rfl, scan_ge _ _ _ _, by omega, scan_all L false (L.length - s) s, fun h => by simpa using scan_stop L false (L.length - s) s (by omega), ?_⟩
        cases f with
        | zero => omega
        | succ f' =>
          have h1 := scan_ge L false (L.length - s) s
          refine ⟨f', by omega, ?_⟩
          rw [hrun, runsF, if_pos hlt]
      gi_wp2
      gi_loop [4] (fun i => ∃ e : Nat, i = .int .i64 e ∧ s ≤ e ∧ e ≤ E)
        (fun i => L.length - (intOf i).toNat)
      case atStart => exact ⟨s, rfl, Nat.le_refl _, hE1⟩
      case round =>
        obtain ⟨e, rfl, he1, he2⟩ := hrel
        by_cases heL : e < L.length
        · have hce := hm.el e heL
          by_cases hb : e < E
          · rw [hal e he1 hb] at hce
            gi_wp2
            refine ⟨⟨e + 1, by simp, by omega, by omega⟩, ?_⟩
            simp [intOf]; omega
          · obtain rfl : e = E := by omega
            rw [hst heL] at hce
            by_cases hse : s < e
            · rw [if_pos hse] at hrun'
              obtain ⟨fn, tmps, assign, body, hy, hR⟩ := hY pre (s, e - s) wr hJs (by rw [hrun']; simp) (by simp only; omega)
              simp only [rE] at hy
              rw [show ((e - s : Nat) : Int) = (e : Int) - (s : Int) by omega] at hy
              gi_wp2
              refine hR.mono ?_
              rintro r W3 (⟨rfl, hJ3, hk3⟩ | ⟨rfl, hJx3⟩)
              · gi_wp2
                go_roundw
                case rel => exact ⟨e + 1, f', pre ++ [(s, e - s)], by simp, by omega, by omega, by rw [hrun']; simp, hJ3, Nat.le_trans hsz hk3.1.size, hk3.2 hbx, hm.below hk3.1⟩
                case measure => simp [intOf]; omega
              · gi_wp2
                refine bodyPost_ret (results_none rfl _ _ _) rfl ?_
                exact ⟨⟨_, rfl⟩, .inr ⟨pre ++ [(s, e - s)], ⟨runsF L L.length f' (e + 1), by rw [hrun']; simp⟩, hJx3⟩⟩
            · rw [if_neg hse, List.nil_append] at hrun'
              gi_wp2
              refine ⟨fun _ h => (by cases h), ?_⟩
              gi_wp2
              go_roundw
              case rel => exact ⟨e + 1, f', pre, by simp, by omega, by omega, hrun', hJs, hsz, hbx, hm⟩
              case measure => simp [intOf]; omega
        · obtain rfl : e = E := by omega
          by_cases hse : s < e
          · rw [if_pos hse] at hrun'
            obtain ⟨fn, tmps, assign, body, hy, hR⟩ := hY pre (s, e - s) wr hJs (by rw [hrun']; simp) (by simp only; omega)
            simp only [rE] at hy
            rw [show ((e - s : Nat) : Int) = (e : Int) - (s : Int) by omega] at hy
            gi_wp2
            refine hR.mono ?_
            rintro r W3 (⟨rfl, hJ3, hk3⟩ | ⟨rfl, hJx3⟩)
            · gi_wp2
              go_roundw
              case rel => exact ⟨e + 1, f', pre ++ [(s, e - s)], by simp, by omega, by omega, by rw [hrun']; simp, hJ3, Nat.le_trans hsz hk3.1.size, hk3.2 hbx, hm.below hk3.1⟩
              case measure => simp [intOf]; omega
            · gi_wp2
              refine bodyPost_ret (results_none rfl _ _ _) rfl ?_
              exact ⟨⟨_, rfl⟩, .inr ⟨pre ++ [(s, e - s)], ⟨runsF L L.length f' (e + 1), by rw [hrun']; simp⟩, hJx3⟩⟩
          · exact absurd hlt (by omega)
    · gi_wp2
      go_end0
      refine ⟨⟨_, rfl⟩, .inl ⟨_, ?_, hJs⟩⟩
      rw [hrun]
      cases f with
      | zero => simp [runsF]
      | succ f => unfold runsF; rw [if_neg hlt, List.append_nil]
end Go.Proofs.Yticmpcloehnoaaa
