/- extent's Take, walked (chapter 9). -/
import Derived.Test.YticmpcloehnoaaaL9L
set_option linter.unusedVariables false
set_option linter.unusedSimpArgs false
namespace Go.Proofs.Yticmpcloehnoaaa
open Go Go.Sx Go.Fx Go.RowKit Go.Shelf
attribute [local go_sem] Oper.semAt_some
set_option linter.unusedVariables false
set_option linter.unusedSimpArgs false
/-- what the loop's body is handed lies within the row -/
def clR (L : List AV) (x : Nat × Nat) : Nat × Nat := if x.1 + x.2 ≤ L.length then x else (0, 0)
theorem clR_ok (L : List AV) (x : Nat × Nat) : (clR L x).1 + (clR L x).2 ≤ L.length := by
  unfold clR
  split
  · assumption
  · simp
def rEC (L : List AV) (x : Nat × Nat) : Array Value := #[.int .i64 ((clR L x).1 : Nat), .int .i64 ((clR L x).2 : Nat)]
theorem free_stopsC (n : Nat) (hn : 1 ≤ n) (Bd n₀ B g off cap : Nat) (L : List AV) (hL : L.length ≤ 65535) (w : World) (hBd : Boxed w Bd 24 (.pointer (some ⟨B, 0, none⟩))) (hM : MapW w n₀ B g off cap L) (hw : n₀ ≤ w.heap.size) :
    SeqStopsK Fence.wide n Try.prog 30 #[.pointer (some ⟨Bd, 0, none⟩)] (rEC L) (Kq n₀ Bd (.pointer (some ⟨B, 0, none⟩))) (fun ys => ys = runs L) (fun pre => pre <+: runs L) (runs L).length w := fun l J Jx W hW hJ hJx hY h0 =>
  free1_in n hn l Bd n₀ B g off cap L hL J Jx (fun s A B hs hb _ => hJ s A B none hs (grown_below hb) (by simp)) (fun pre x W h1 h2 h3 => by
    have h := hY pre x W h1 h2
    unfold rEC at h
    rw [show clR L x = x by unfold clR; rw [if_pos h3]] at h
    exact h) W (Nat.le_trans hw hW.size) (hBd.kept (grown_below hW) (by simp)) (hM.below (hW.mono hw)) h0
theorem setC_size (W : World) (g off s : Nat) (v : Bool) : ∀ k, (setC W g off s v k).heap.size = W.heap.size
  | 0 => rfl
  | k + 1 => by rw [setC]; simp [World.setCell, setC_size W g off s v k]
theorem setC_below {n₀ g off s : Nat} {v : Bool} {A C : World} (h : Below n₀ A C) (hg : g < n₀) : ∀ k, Below n₀ (setC A g off s v k) (setC C g off s v k)
  | 0 => h
  | k + 1 => by
    have ih := setC_below (off := off) (s := s) (v := v) h hg k
    have hblk : ∀ b, b < n₀ → (setC C g off s v (k + 1)).heap[b]? = (setC A g off s v (k + 1)).heap[b]? := by
      intro b hb
      by_cases e : b = g
      · subst e
        have := ih.block b hb
        simp only [setC, World.setCell, Array.getElem?_modify, this]
      · exact (Below.heap_setCell _ _ _ _ (fun h => e h)).trans ((ih.block b hb).trans (Below.heap_setCell _ _ _ _ (fun h => e h)).symm)
    exact { os := ih.os, tape := ih.tape, output := ih.output, size := by simpa [setC, World.setCell] using ih.size, block := hblk }
theorem setC_keeps (W : World) (g off s : Nat) (v : Bool) : ∀ k, KeepsOthers W (setC W g off s v k)
  | 0 => KeepsOthers.refl _
  | k + 1 => (setC_keeps W g off s v k).trans (KeepsOthers.setCell _ _ _)
def takeW (w : World) (g off : Nat) (L : List AV) (m : Int) : World := bif decide (m < 1) then w else optK (fit L m.toNat) (fun s => setC w g off s true m.toNat) w
theorem results_take {W : World} {tmps : Array Value} {b4 b5 : Nat} {x y : Value} (h4 : tmps.getD 4 undef = .pointer (some ⟨b4, 0, none⟩)) (h5 : tmps.getD 5 undef = .pointer (some ⟨b5, 0, none⟩)) (c4 : W.cell? ⟨b4, 0, none⟩ = some x) (c5 : W.cell? ⟨b5, 0, none⟩ = some y) :
    (results Try.f9 tmps).run Try.prog W = .ok (.tuple #[x, y]) W := by
  have hres : Try.f9.results = #[.cell 4 3, .cell 5 25] := by kernel_rfl
  have a3 : aggT Try.prog 3 = some false := by kernel_rfl
  have a25 : aggT Try.prog 25 = some false := by kernel_rfl
  have h4' : tmps[4]?.getD undef = .pointer (some ⟨b4, 0, none⟩) := by simpa using h4
  have h5' : tmps[5]?.getD undef = .pointer (some ⟨b5, 0, none⟩) := by simpa using h5
  simp [results, hres, h4', h5', asAddr, run_loadVar_one a3 c4, run_loadVar_one a25 c5]
theorem fitR_none {m : Nat} : ∀ {l : List (Nat × Nat)}, (∀ x, x ∈ l → ¬ m ≤ x.2) → fitR m l = none
  | [], _ => rfl
  | r :: l, h => by rw [fitR, decide_eq_false (h r (by simp)), cond_false, fitR_none (fun x hx => h x (by simp [hx]))]
theorem fitR_app {m : Nat} {r : Nat × Nat} {t : List (Nat × Nat)} (hr : m ≤ r.2) : ∀ {l : List (Nat × Nat)}, (∀ x, x ∈ l → ¬ m ≤ x.2) → fitR m (l ++ r :: t) = some r.1
  | [], _ => by rw [List.nil_append, fitR, decide_eq_true hr]; rfl
  | q :: l, h => by rw [List.cons_append, fitR, decide_eq_false (h q (by simp)), cond_false, fitR_app hr (fun x hx => h x (by simp [hx]))]
theorem clR_mem {L : List AV} {x : Nat × Nat} (h : x ∈ runs L) : clR L x = x := by
  unfold clR
  rw [if_pos (runsF_bd L L.length _ _ x h)]
set_option maxRecDepth 100000 in
set_option maxHeartbeats 4000000 in
theorem take_in (n : Nat) (hn : 4 ≤ n) (B g off cap : Nat) (L : List AV) (hL : L.length ≤ 65535) (m : Int) (w : World) (cs : Array Value) (hM : MapW w w.heap.size B g off cap L) (hg : B ≠ g) (hh : w.heap[g]? = some (.cells cs 4 (0, 0))) (hr : off + L.length ≤ cs.size) :
    CallsIn Fence.wide n Try.prog 9 #[.pointer (some ⟨B, 0, none⟩), .int .i64 m] w fun e W' => e = .returned (.tuple #[.int .i64 (takeV L m), .int .i64 (takeE L m)]) ∧ Below w.heap.size (takeW w g off L m) W' := by
  have h1 : 1 ≤ n := by omega
  refine callsIn_of_wp_marks Try.func9 rfl trivial ?_ rfl
  simp only [Try.ntmps9, List.size_toArray, List.length_cons, List.length_nil, Nat.reduceAdd, Nat.reduceSub, Array.replicate_succ, Array.replicate_zero, List.push_toArray, List.append_toArray, List.nil_append, List.cons_append]
  have b2 := Boxed.new w 24 (.pointer (some ⟨B, 0, none⟩))
  have b3 := Boxed.new (w.alloc (.cells #[.pointer (some ⟨B, 0, none⟩)] 24)) 3 (.int .i64 m)
  by_cases hm1 : m < 1
  · have b4 := Boxed.new ((w.alloc (.cells #[.pointer (some ⟨B, 0, none⟩)] 24)).alloc (.cells #[.int .i64 m] 3)) 3 (.int .i64 0)
    have b5 := Boxed.new (((w.alloc (.cells #[.pointer (some ⟨B, 0, none⟩)] 24)).alloc (.cells #[.int .i64 m] 3)).alloc (.cells #[.int .i64 0] 3)) 25 (.int .i64 1)
    rw [World.size_alloc, World.size_alloc] at b4
    rw [World.size_alloc, World.size_alloc, World.size_alloc] at b5
    have hB0 : Below w.heap.size w ((((w.alloc (.cells #[.pointer (some ⟨B, 0, none⟩)] 24)).alloc (.cells #[.int .i64 m] 3)).alloc (.cells #[.int .i64 0] 3)).alloc (.cells #[.int .i64 1] 25)) := ((((Below.refl _ w).alloc (Nat.le_refl _) _).alloc (by simp) _).alloc (by simp; omega) _).alloc (by simp; omega) _
    gi_wp2
    have hv : takeV L m = 0 := by unfold takeV; rw [decide_eq_true hm1]; rfl
    have he : takeE L m = 1 := by unfold takeE; rw [decide_eq_true hm1]; rfl
    have hw : takeW w g off L m = w := by unfold takeW; rw [decide_eq_true hm1]; rfl
    rw [hv, he, hw]
    exact ⟨_, results_take rfl rfl (b4.alloc _).cell b5.cell, rfl, hB0⟩
  · gi_wp2_with (refine ⟨trivial, ?_⟩; gi_at_call 22; refine (pfree_in (n - 1) _ _).mono ?_; rintro e w' ⟨rfl, rfl⟩)
    have b4 := Boxed.new ((w.alloc (.cells #[.pointer (some ⟨B, 0, none⟩)] 24)).alloc (.cells #[.int .i64 m] 3)) 3 (.int .i64 0)
    have b5 := Boxed.new (((w.alloc (.cells #[.pointer (some ⟨B, 0, none⟩)] 24)).alloc (.cells #[.int .i64 m] 3)).alloc (.cells #[.int .i64 0] 3)) 25 (.int .i64 0)
    have b6 := Boxed.new ((((w.alloc (.cells #[.pointer (some ⟨B, 0, none⟩)] 24)).alloc (.cells #[.int .i64 m] 3)).alloc (.cells #[.int .i64 0] 3)).alloc (.cells #[.int .i64 0] 25)) 24 (.pointer (some ⟨B, 0, none⟩))
    rw [World.size_alloc] at b3
    rw [World.size_alloc, World.size_alloc] at b4
    rw [World.size_alloc, World.size_alloc, World.size_alloc] at b5
    rw [World.size_alloc, World.size_alloc, World.size_alloc, World.size_alloc] at b6
    have b2' := (((b2.alloc (.cells #[.int .i64 m] 3)).alloc (.cells #[.int .i64 0] 3)).alloc (.cells #[.int .i64 0] 25)).alloc (.cells #[.pointer (some ⟨B, 0, none⟩)] 24)
    have b3' := ((b3.alloc (.cells #[.int .i64 0] 3)).alloc (.cells #[.int .i64 0] 25)).alloc (.cells #[.pointer (some ⟨B, 0, none⟩)] 24)
    have b4' := (b4.alloc (.cells #[.int .i64 0] 25)).alloc (.cells #[.pointer (some ⟨B, 0, none⟩)] 24)
    have b5' := b5.alloc (.cells #[.pointer (some ⟨B, 0, none⟩)] 24)
    have hB0 : Below w.heap.size w (((((w.alloc (.cells #[.pointer (some ⟨B, 0, none⟩)] 24)).alloc (.cells #[.int .i64 m] 3)).alloc (.cells #[.int .i64 0] 3)).alloc (.cells #[.int .i64 0] 25)).alloc (.cells #[.pointer (some ⟨B, 0, none⟩)] 24)) := (((((Below.refl _ w).alloc (Nat.le_refl _) _).alloc (by simp) _).alloc (by simp; omega) _).alloc (by simp; omega) _).alloc (by simp; omega) _
    have hsz : (((((w.alloc (.cells #[.pointer (some ⟨B, 0, none⟩)] 24)).alloc (.cells #[.int .i64 m] 3)).alloc (.cells #[.int .i64 0] 3)).alloc (.cells #[.int .i64 0] 25)).alloc (.cells #[.pointer (some ⟨B, 0, none⟩)] 24)).heap.size = w.heap.size + 5 := by simp
    have hM0 := hM.below hB0
    obtain ⟨W0, hW0⟩ : ∃ W0, ((((w.alloc (.cells #[.pointer (some ⟨B, 0, none⟩)] 24)).alloc (.cells #[.int .i64 m] 3)).alloc (.cells #[.int .i64 0] 3)).alloc (.cells #[.int .i64 0] 25)).alloc (.cells #[.pointer (some ⟨B, 0, none⟩)] 24) = W0 := ⟨_, rfl⟩
    rw [hW0] at b2' b3' b4' b5' b6 hB0 hsz hM0 ⊢
    clear hW0
    refine wpIn_rangeFunc_ownG rfl h1 (gf := 30) (lb := #[.pointer (some ⟨w.heap.size + 1 + 1 + 1 + 1, 0, none⟩)]) rfl trivial (enters_of Try.func30 (by kernel_rfl) rfl)
      (free_stopsC (n - 1) (by omega) (w.heap.size + 1 + 1 + 1 + 1) w.heap.size B g off cap L hL W0 b6 hM0 (by omega)) Kq.trans (Kq_b (by omega)) (Below.refl _ _) (fun _ => rfl)
      (fun pre W => (((Boxed W w.heap.size 24 (.pointer (some ⟨B, 0, none⟩)) ∧ Boxed W (w.heap.size + 1) 3 (.int .i64 m)) ∧ Boxed W (w.heap.size + 1 + 1) 3 (.int .i64 0)) ∧ Boxed W (w.heap.size + 1 + 1 + 1) 25 (.int .i64 0)) ∧ (∀ x, x ∈ pre → ¬ m ≤ ((clR L x).2 : Nat)) ∧ Below w.heap.size w W)
      (fun c pre W => c = .ret ∧ ∃ ini last, pre = ini ++ [last] ∧ (∀ x, x ∈ ini → ¬ m ≤ ((clR L x).2 : Nat)) ∧ m ≤ ((clR L last).2 : Nat) ∧ Boxed W (w.heap.size + 1 + 1) 3 (.int .i64 ((clR L last).1 : Nat)) ∧ Boxed W (w.heap.size + 1 + 1 + 1) 25 (.int .i64 0) ∧ Below w.heap.size (setC w g off (clR L last).1 true m.toNat) W)
      (OwnFrom.and (OwnFrom.and (OwnFrom.and (OwnFrom.and (Own.from (boxed_own _ _ _) _) (Own.from (boxed_own _ _ _) _)) (Own.from (boxed_own _ _ _) _)) (Own.from (boxed_own _ _ _) _)) (OwnFrom.and (ownFrom_pure _ _) (ownFrom_below (Nat.le_refl _) (by omega))))
      (fun c s A B' row hs hg' hr' => by
        obtain ⟨hc, ini, last, e1, e2, e3, h4, h5, hb⟩ := hs
        exact ⟨hc, ini, last, e1, e2, e3, boxed_own (β := Unit) _ _ (fun _ => _) () A B' row h4 hg' (fun r e => (hr' r e).2), boxed_own (β := Unit) _ _ (fun _ => _) () A B' row h5 hg' (fun r e => (hr' r e).2), (ownFrom_below (β := Unit) (by rw [setC_size]; exact Nat.le_refl _) (by omega)) () A B' row hb hg' hr'⟩)
      ⟨⟨⟨⟨b2', b3'⟩, b4'⟩, b5'⟩, by simp, hB0⟩
      (fun x => { tmps := #[.pointer (some ⟨B, 0, none⟩), .int .i64 m, .pointer (some ⟨w.heap.size, 0, none⟩), .pointer (some ⟨w.heap.size + 1, 0, none⟩), .pointer (some ⟨w.heap.size + 1 + 1, 0, none⟩), .pointer (some ⟨w.heap.size + 1 + 1 + 1, 0, none⟩), .int .i64 ((clR L x).1 : Nat), .int .i64 ((clR L x).2 : Nat), .pointer (some ⟨B, 0, none⟩), .bool false, .bool false, .int .i64 m, .bool false, .bool false, .pointer (some ⟨B, 0, none⟩), .func (.func 30) #[] #[.pointer (some ⟨w.heap.size + 1 + 1 + 1 + 1, 0, none⟩)], .int .i64 ((clR L x).1 : Nat), .int .i64 ((clR L x).2 : Nat), undef, undef, undef, undef, undef, undef, undef, undef], defers := [] })
      ?assign ?body ?done ?stop
    case assign =>
      rintro l x W K hK
      simp only [rEC]
      gi_wp2
      exact hK
    case body =>
      rintro l pre x W ⟨⟨⟨⟨c2, c3⟩, c4⟩, c5⟩, hnot, hB⟩ hlt
      have d2 := c2.cell
      have d3 := c3.cell
      have d4 := c4.cell
      have d5 := c5.cell
      have f4 := c4.frozen
      have f5 := c5.frozen
      by_cases hfit : m ≤ ((clR L x).2 : Nat)
      · have hcl := clR_ok L x
        have hMW := hM.below hB
        have hhW : W.heap[g]? = some (.cells cs 4 (0, 0)) := (hB.block g hM.hg).trans hh
        obtain ⟨k, rfl⟩ : ∃ k : Nat, m = k := ⟨m.toNat, by omega⟩
        have hset := fun N => set_in N B g off cap L.length (clR L x).1 k W cs hMW.fld hg hhW hr (by omega) hL
        have hn2 : 1 ≤ n - 1 - 1 := by omega
        gi_wp2
        refine ⟨trivial, (CallsIn.inRound l (hset _)).mono ?_⟩
        rintro e w' ⟨rfl, rfl⟩
        have d4' : (setC W g off (clR L x).1 true k).cell? ⟨w.heap.size + 1 + 1, 0, none⟩ = _ := (setC_cell _ _ _ _ _ (by have := hM.hg; omega) k).trans d4
        have d5' : (setC W g off (clR L x).1 true k).cell? ⟨w.heap.size + 1 + 1 + 1, 0, none⟩ = _ := (setC_cell _ _ _ _ _ (by have := hM.hg; omega) k).trans d5
        have c4' : Boxed (setC W g off (clR L x).1 true k) (w.heap.size + 1 + 1) 3 (.int .i64 0) := (setC_other _ _ _ _ _ (by have := hM.hg; omega) k).trans c4
        have c5' : Boxed (setC W g off (clR L x).1 true k) (w.heap.size + 1 + 1 + 1) 25 (.int .i64 0) := (setC_other _ _ _ _ _ (by have := hM.hg; omega) k).trans c5
        have f4' := c4'.frozen
        have f5' := c5'.frozen
        gi_wp2
        have e4 := (c4'.set (.int .i64 ((clR L x).1 : Nat))).other (B' := w.heap.size + 1 + 1 + 1) (by omega) (.int .i64 0)
        have e5 := (c5'.other (B' := w.heap.size + 1 + 1) (by omega) (.int .i64 ((clR L x).1 : Nat))).set (.int .i64 0)
        have eB := ((setC_below (off := off) (s := (clR L x).1) (v := true) hB hM.hg k).setCell (p := ⟨w.heap.size + 1 + 1, 0, none⟩) (by simp; omega) (.int .i64 ((clR L x).1 : Nat))).setCell (p := ⟨w.heap.size + 1 + 1 + 1, 0, none⟩) (by simp; omega) (.int .i64 0)
        refine ⟨(((setC_keeps W g off (clR L x).1 true k).trans (KeepsOthers.setCell _ ⟨w.heap.size + 1 + 1, 0, none⟩ _)).trans (KeepsOthers.setCell _ ⟨w.heap.size + 1 + 1 + 1, 0, none⟩ _)).from _, rfl, pre, x.1, x.2, rfl, fun a b h => ?_, ?_, e4, e5, eB⟩
        · have := hnot (a, b) h; omega
        · show k ≤ (clR L x).2
          omega
      · gi_wp2
        refine ⟨KeepsFrom.refl _ _, Kq.refl _, ⟨⟨⟨c2, c3⟩, c4⟩, c5⟩, ?_, hB⟩
        have key : ∀ y, y ∈ pre ++ [x] → ¬ m ≤ ((clR L y).2 : Nat) := fun y hy => by
          rcases List.mem_append.1 hy with hy | hy
          · have := hnot y hy; omega
          · simp only [List.mem_singleton] at hy
            subst hy; omega
        simpa using key
    case done =>
      rintro D ys W hD rfl ⟨⟨⟨⟨c2, c3⟩, c4⟩, c5⟩, hnot, hB⟩ hK
      have d4 := c4.cell
      have d5 := c5.cell
      have f4 := c4.frozen
      have f5 := c5.frozen
      have hmem : ∀ x, x ∈ runs L → ¬ m.toNat ≤ x.2 := fun x hx => by
        have := hnot x hx
        rw [clR_mem hx] at this
        omega
      have hfit : fit L m.toNat = none := by rw [← fit_eq L (by omega)]; exact fitR_none hmem
      have hv : takeV L m = 0 := by unfold takeV; rw [decide_eq_false (show ¬ m < 1 by omega), hfit]; rfl
      have he : takeE L m = 6 := by unfold takeE; rw [decide_eq_false (show ¬ m < 1 by omega), hfit]; rfl
      have hw : takeW w g off L m = w := by unfold takeW; rw [decide_eq_false (show ¬ m < 1 by omega), hfit]; rfl
      gi_wp2
      have hB' := (hB.setCell (p := ⟨w.heap.size + 1 + 1, 0, none⟩) (by simp; omega) (.int .i64 0)).setCell (p := ⟨w.heap.size + 1 + 1 + 1, 0, none⟩) (by simp; omega) (.int .i64 6)
      have hK' := ((KeepsOthers.setCell W ⟨w.heap.size + 1 + 1, 0, none⟩ (.int .i64 0)).trans (KeepsOthers.setCell _ ⟨w.heap.size + 1 + 1 + 1, 0, none⟩ (.int .i64 6))).same D _ hK rfl
      refine ⟨by simp, .inl ⟨_, _, rfl, run_takeDeferred hK', ?_⟩⟩
      have e4 := (c4.set (.int .i64 0)).other (B' := w.heap.size + 1 + 1 + 1) (by omega) (.int .i64 6)
      have e5 := (c5.other (B' := w.heap.size + 1 + 1) (by omega) (.int .i64 0)).set (.int .i64 6)
      refine ⟨_, results_take rfl rfl (e4.kept (grownBy_putObj' _ _ _) (fun e => ?_)).cell (e5.kept (grownBy_putObj' _ _ _) (fun e => ?_)).cell, rfl, hB'.trans (belowK_b (w := w) (Nat.le_refl _) _ D _ _ (by omega) hK' rfl rfl)⟩
      · cases e
        have := e4.symm.trans hK'
        cases this
      · cases e
        have := e5.symm.trans hK'
        cases this
    case stop =>
      rintro D c pre W hD hpre ⟨rfl, ini, last, rfl, e2, e3, c4, c5, hB⟩ hK
      obtain ⟨t, ht⟩ := hpre
      rw [List.append_assoc] at ht
      have hlm : last ∈ runs L := by rw [← ht]; simp
      have hmem : ∀ x, x ∈ ini → ¬ m.toNat ≤ x.2 := fun x hx => by
        have := e2 x hx
        rw [clR_mem (by rw [← ht]; simp [hx])] at this
        omega
      rw [clR_mem hlm] at e3 c4 hB
      have hfit : fit L m.toNat = some last.1 := by rw [← fit_eq L (by omega), ← ht]; exact fitR_app (by omega) hmem
      have hv : takeV L m = (last.1 : Nat) := by unfold takeV; rw [decide_eq_false (show ¬ m < 1 by omega), hfit]; rfl
      have he : takeE L m = 0 := by unfold takeE; rw [decide_eq_false (show ¬ m < 1 by omega), hfit]; rfl
      have hw : takeW w g off L m = setC w g off last.1 true m.toNat := by unfold takeW; rw [decide_eq_false (show ¬ m < 1 by omega), hfit]; rfl
      gi_wp2
      refine ⟨by simp, .inl ⟨_, _, rfl, run_takeDeferred hK, ?_⟩⟩
      refine ⟨_, results_take rfl rfl (c4.kept (grownBy_putObj' _ _ _) (fun e => ?_)).cell (c5.kept (grownBy_putObj' _ _ _) (fun e => ?_)).cell, rfl, hB.trans (belowK_b (w := w) (Nat.le_refl _) _ D _ _ (by omega) hK rfl rfl)⟩
      · cases e
        rw [show W.heap[w.heap.size + 1 + 1]? = _ from c4] at hK; cases hK
      · cases e
        rw [show W.heap[w.heap.size + 1 + 1 + 1]? = _ from c5] at hK; cases hK
end Go.Proofs.Yticmpcloehnoaaa
