/- set, in the world (chapter 9). -/
import Derived.Test.YticmpcloehnoaaaL9K
set_option linter.unusedVariables false
set_option linter.unusedSimpArgs false
namespace Go.Proofs.Yticmpcloehnoaaa
open Go Go.Sx Go.Fx Go.RowKit Go.Shelf
attribute [local go_sem] Oper.semAt_some
set_option linter.unusedVariables false
set_option linter.unusedSimpArgs false
def setC (W : World) (g off s : Nat) (v : Bool) : Nat → World
  | 0 => W
  | k + 1 => (setC W g off s v k).setCell ⟨g, off + (s + k), none⟩ (.bool v)
theorem setC_other (W : World) (g off s : Nat) (v : Bool) {b : Nat} (hb : b ≠ g) : ∀ k, (setC W g off s v k).heap[b]? = W.heap[b]?
  | 0 => rfl
  | k + 1 => (Below.heap_setCell _ _ _ _ (fun h => hb h)).trans (setC_other W g off s v hb k)
theorem setC_cell (W : World) (g off s : Nat) (v : Bool) {b o : Nat} (hb : b ≠ g) (k : Nat) : (setC W g off s v k).cell? ⟨b, o, none⟩ = W.cell? ⟨b, o, none⟩ := by
  unfold World.cell?
  simp only
  rw [setC_other W g off s v hb k]
theorem setC_at {W : World} {g off s : Nat} {v : Bool} {cs : Array Value} {t : TypeId} {fz : Nat × Nat} (h : W.heap[g]? = some (.cells cs t fz)) : ∀ k, ∃ cs', (setC W g off s v k).heap[g]? = some (.cells cs' t fz) ∧ cs'.size = cs.size
  | 0 => ⟨cs, h, rfl⟩
  | k + 1 => by
    obtain ⟨cs', h1, h2⟩ := setC_at (v := v) (off := off) (s := s) h k
    refine ⟨cs'.setIfInBounds (off + (s + k)) (.bool v), ?_, by simpa using h2⟩
    simp [setC, World.setCell, Array.getElem?_modify, h1]
theorem setC_ready {W : World} {g off s : Nat} {v : Bool} {cs : Array Value} {t : TypeId} (h : W.heap[g]? = some (.cells cs t (0, 0))) (k : Nat) {i : Nat} (hi : off + i < cs.size) :
    (∃ u, (setC W g off s v k).cell? ⟨g, off + i, none⟩ = some u) ∧ (setC W g off s v k).frozen? ⟨g, off + i, none⟩ = false := by
  obtain ⟨cs', h1, h2⟩ := setC_at (v := v) (off := off) (s := s) h k
  have hlt : off + i < cs'.size := by omega
  constructor
  · refine ⟨cs'[off + i], ?_⟩
    simp [World.cell?, h1, hlt]
  · simp [World.frozen?, h1]
theorem wra {a b : Nat} (h : a + b ≤ 65536) : wrap64 ((a : Int) + (b : Int)) = (a : Int) + (b : Int) := by unfold wrap64; omega
set_option maxRecDepth 100000 in
set_option maxHeartbeats 4000000 in
theorem set_in (n : Nat) (B g off cap len s k : Nat) (W : World) (cs : Array Value) (hf : W.cell? ⟨B, 0, none⟩ = some (.slice (some ⟨g, off, none⟩) len cap)) (hg : B ≠ g) (hh : W.heap[g]? = some (.cells cs 4 (0, 0))) (hr : off + len ≤ cs.size) (hs : s + k ≤ len) (hL : len ≤ 65535) :
    CallsIn Fence.wide n Try.prog 23 #[.pointer (some ⟨B, 0, none⟩), .int .i64 (s : Nat), .int .i64 (k : Nat), .bool true] W fun e W' => e = .returned (.tuple #[]) ∧ W' = setC W g off s true k := by
  refine callsIn_of_wp Try.func23 rfl trivial ?_ rfl
  simp only [Try.ntmps23, List.size_toArray, List.length_cons, List.length_nil, Nat.reduceAdd, Nat.reduceSub, Array.replicate_succ, Array.replicate_zero, List.push_toArray, List.append_toArray, List.nil_append, List.cons_append]
  gi_wp2
  gi_loopw [10] (fun i wr => ∃ j : Nat, i = .int .i64 j ∧ j ≤ k ∧ setC W g off s true j = wr)
    (fun i _ => k - (intOf i).toNat)
  case atStart => exact ⟨0, rfl, Nat.zero_le _, rfl⟩
  case round =>
    obtain ⟨j, rfl, hj, hwr⟩ := hrel
    have hc : wr.cell? ⟨B, 0, none⟩ = some (.slice (some ⟨g, off, none⟩) len cap) := by rw [← hwr, setC_cell _ _ _ _ _ hg]; exact hf
    by_cases hlt : j < k
    · obtain ⟨⟨u, hu⟩, hz⟩ := setC_ready (v := true) (s := s) hh j (i := s + j) (off := off) (by omega)
      rw [hwr] at hu hz
      have hw := wra (a := s) (b := j) (by omega)
      have hb1 : (0 : Int) ≤ (s : Int) + (j : Int) := by omega
      have hb2 : (s : Int) + (j : Int) < (len : Int) := by omega
      have ht : ((s : Int) + (j : Int)).toNat = s + j := by omega
      gi_wp2
      go_roundw
      case rel => exact ⟨j + 1, by simp, by omega, by rw [setC, hwr]⟩
      case measure => simp [intOf]; omega
    · obtain rfl : j = k := by omega
      gi_wp2
      go_end0
      exact ⟨rfl, hwr.symm⟩
end Go.Proofs.Yticmpcloehnoaaa
