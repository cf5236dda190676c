/- the law's free: all runs that the iterator tells (chapter 9). -/
import Derived.Test.YticmpcloehnoaaaL9I
set_option linter.unusedVariables false
set_option linter.unusedSimpArgs false
namespace Go.Proofs.Yticmpcloehnoaaa
open Go Go.Sx Go.Fx Go.RowKit Go.Shelf
attribute [local go_sem] Oper.semAt_some
set_option linter.unusedVariables false
set_option linter.unusedSimpArgs false
theorem infoR : (Try.prog.info? 48).map (fun i => (i.zero, i.size, i.bytes)) = some (some (.agg #[.int .i64 0, .int .i64 0]), 2, 16) := by kernel_rfl
theorem free_stops (n : Nat) (hn : 1 ≤ n) (Bd n₀ B g off cap : Nat) (L : List AV) (hL : L.length ≤ 65535) (w : World) (hBd : Boxed w Bd 24 (.pointer (some ⟨B, 0, none⟩))) (hM : MapW w n₀ B g off cap L) (hw : n₀ ≤ w.heap.size) :
    SeqStopsK Fence.wide n Try.prog 30 #[.pointer (some ⟨Bd, 0, none⟩)] rE (Kq n₀ Bd (.pointer (some ⟨B, 0, none⟩))) (fun ys => ys = runs L) (fun pre => pre <+: runs L) (runs L).length w := fun l J Jx W hW hJ hJx hY h0 =>
  free1_in n hn l Bd n₀ B g off cap L hL J Jx (fun s A B hs hb _ => hJ s A B none hs (grown_below hb) (by simp)) (fun pre x W h1 h2 _ => hY pre x W h1 h2) W (Nat.le_trans hw hW.size) (hBd.kept (grown_below hW) (by simp)) (hM.below (hW.mono hw)) h0
set_option maxHeartbeats 1000000 in
theorem pfree_in (n : Nat) (p : Option Addr) (w : World) :
    CallsIn Fence.wide n Try.prog 22 #[.pointer p] w fun e w' => e = .returned (.func (.func 30) #[] #[.pointer (some ⟨w.heap.size, 0, none⟩)]) ∧ w' = w.alloc (.cells #[.pointer p] 24) := by
  refine callsIn_of_wp Try.func22 rfl trivial ?_ rfl
  simp only [Try.ntmps22, List.size_toArray, List.length_cons, List.length_nil, Nat.reduceAdd, Nat.reduceSub, Array.replicate_succ, Array.replicate_zero, List.push_toArray, List.append_toArray, List.nil_append, List.cons_append]
  gi_wp2
  go_ret
  exact ⟨rfl, rfl⟩
/-- a run's cells -/
def rC (r : Nat × Nat) : List Value := [.int .i64 (r.1 : Nat), .int .i64 (r.2 : Nat)]
theorem rC_len : ∀ l : List (Nat × Nat), (l.flatMap rC).length = l.length * 2
  | [] => rfl
  | a :: l => by simp only [List.flatMap_cons, List.length_append, rC_len l, rC, List.length_cons, List.length_nil]; omega
theorem cell_two_new (w : World) (x y : Value) (t : TypeId) : ∀ j u, [x, y][j]? = some u → (w.alloc (.cells #[x, y] t)).cell? ((⟨w.heap.size, 0, none⟩ : Addr).add j) = some u := by
  intro j u hj
  have h := World.alloc_heap_new w (.cells #[x, y] t)
  have hlt : j < 2 := by
    rcases Nat.lt_or_ge j 2 with h | h
    · exact h
    · rw [List.getElem?_eq_none (by simpa using h)] at hj; cases hj
  have e : (⟨w.heap.size, 0, none⟩ : Addr).add j = ⟨w.heap.size, j, none⟩ := by
    unfold Addr.add
    split
    · rename_i h0; subst h0; rfl
    · simp
  rw [e]
  unfold World.cell?
  simp only
  rw [h, ← hj]
  simp
theorem func_nil (f B : Nat) (hf : nilCmp Try.prog 55 (.fn f [.ptr 0 0]) (.lit .nilFunc) = true) (w : World) : (binOp BinOp.eql 55 (.func (.func f) #[] #[.pointer (some ⟨B, 0, none⟩)]) .nilFunc).run Try.prog w = .ok (.bool false) w := by
  have h := nilCmp_sound (E := ⟨fun _ => B, fun _ => undef⟩) hf w
  simp only [AV.conc, concL] at h
  simp [binOp, Sem.run_bind, h]
theorem owns_slice {W : World} {base : Nat} {e : TypeId} {size : Nat} {v : Value} {k : Nat} {xs : List Value} (h : W.ownsRow base e size v k xs) : ∃ p cap, v = .slice p k cap := by
  rcases h.2 with ⟨rfl, rfl⟩ | ⟨g, cap, _, rfl, _⟩
  · exact ⟨none, 0, rfl⟩
  · exact ⟨_, cap, rfl⟩
theorem runsF_bd (L : List AV) (N : Nat) : ∀ f s r, r ∈ runsF L N f s → r.1 + r.2 ≤ N
  | 0, s, r, h => by cases h
  | f + 1, s, r, h => by
    unfold runsF at h
    split at h
    · rename_i hs
      rcases List.mem_append.1 h with h | h
      · split at h
        · simp only [List.mem_singleton] at h
          subst h
          have := scan_le L false (N - s) s
          simp only; omega
        · cases h
      · exact runsF_bd L N f _ r h
    · cases h
theorem runs_len (L : List AV) : (runs L).length ≤ L.length := by rw [← ref_eq]; exact ref_len L L.length
set_option maxRecDepth 100000 in
set_option maxHeartbeats 4000000 in
theorem free_in (n : Nat) (hn : 4 ≤ n) (B g off cap : Nat) (L : List AV) (hL : L.length ≤ 65535) (most : Int) (w : World) (hM : MapW w w.heap.size B g off cap L) :
    CallsIn Fence.wide n Try.prog 19 #[.pointer (some ⟨B, 0, none⟩), .int .i64 most] w fun e W' => ∃ v, e = .returned v ∧
      (∃ pre : List (Nat × Nat), (pre = runs L ∧ (∀ j : Nat, j < pre.length → (j : Int) ≠ most) ∨ pre <+: runs L ∧ (pre.length : Int) = most) ∧ W'.ownsRow w.heap.size 48 2 v pre.length (pre.flatMap rC)) ∧ Below w.heap.size w W' := by
  have h1 : 1 ≤ n := by omega
  obtain ⟨i0, hi, hz0, hz1, hz2⟩ := info_parts infoR
  refine callsIn_of_wp_marks Try.func19 rfl trivial ?_ rfl
  simp only [Try.ntmps19, List.size_toArray, List.length_cons, List.length_nil, Nat.reduceAdd, Nat.reduceSub, Array.replicate_succ, Array.replicate_zero, List.push_toArray, List.append_toArray, List.nil_append, List.cons_append]
  gi_wp2_with (refine ⟨trivial, ?_⟩; gi_at_call 22; refine (pfree_in (n - 1) _ _).mono ?_; rintro e w' ⟨rfl, rfl⟩)
  have bM := Boxed.new w 3 (.int .i64 most)
  have bO := Boxed.new (w.alloc (.cells #[.int .i64 most] 3)) 30 (.slice none 0 0)
  have bD := Boxed.new ((w.alloc (.cells #[.int .i64 most] 3)).alloc (.cells #[.slice none 0 0] 30)) 24 (.pointer (some ⟨B, 0, none⟩))
  rw [World.size_alloc] at bO
  rw [World.size_alloc, World.size_alloc] at bD
  have hB0 : Below w.heap.size w (((w.alloc (.cells #[.int .i64 most] 3)).alloc (.cells #[.slice none 0 0] 30)).alloc (.cells #[.pointer (some ⟨B, 0, none⟩)] 24)) := (((Below.refl _ w).alloc (Nat.le_refl _) _).alloc (by simp) _).alloc (by simp; omega) _
  rw [func_nil 30 _ (by kernel_rfl)]
  gi_wp2
  have hsz : (((w.alloc (.cells #[.int .i64 most] 3)).alloc (.cells #[.slice none 0 0] 30)).alloc (.cells #[.pointer (some ⟨B, 0, none⟩)] 24)).heap.size = w.heap.size + 3 := by simp
  have bM' := (bM.alloc (.cells #[.slice none 0 0] 30)).alloc (.cells #[.pointer (some ⟨B, 0, none⟩)] 24)
  have bO' := bO.alloc (.cells #[.pointer (some ⟨B, 0, none⟩)] 24)
  have hM0 := hM.below hB0
  obtain ⟨W0, hW0⟩ : ∃ W0, ((w.alloc (.cells #[.int .i64 most] 3)).alloc (.cells #[.slice none 0 0] 30)).alloc (.cells #[.pointer (some ⟨B, 0, none⟩)] 24) = W0 := ⟨_, rfl⟩
  rw [hW0] at bM' bO' bD hB0 hsz hM0 ⊢
  clear hW0
  have hrl := runs_len L
  refine wpIn_rangeFunc_ownG rfl h1 (gf := 30) (lb := #[.pointer (some ⟨w.heap.size + 1 + 1, 0, none⟩)]) rfl trivial (enters_of Try.func30 (by kernel_rfl) rfl)
    (free_stops (n - 1) (by omega) (w.heap.size + 1 + 1) w.heap.size B g off cap L hL W0 bD hM0 (by omega)) Kq.trans (Kq_b (by omega)) (Below.refl _ _) (fun _ => rfl)
    (fun pre W => ((∃ v, Boxed W (w.heap.size + 1) 30 v ∧ W.ownsRow w.heap.size 48 2 v pre.length (pre.flatMap rC) ∧ True) ∧ Boxed W w.heap.size 3 (.int .i64 most)) ∧ (∀ j : Nat, j < pre.length → (j : Int) ≠ most) ∧ Below w.heap.size w W)
    (fun c pre W => (c = .exit 0 ∧ ∃ ini last, pre = ini ++ [last] ∧ (ini.length : Int) = most ∧ ∃ v, Boxed W (w.heap.size + 1) 30 v ∧ W.ownsRow w.heap.size 48 2 v ini.length (ini.flatMap rC) ∧ True) ∧ Below w.heap.size w W)
    (OwnFrom.and (OwnFrom.and (Own.from (holdsRow_own w.heap.size (w.heap.size + 1) 30 48 2 (fun (pre : List (Nat × Nat)) => pre.length) (fun pre => pre.flatMap rC) (fun _ _ => True)) _) (Own.from (boxed_own _ _ _) _)) (OwnFrom.and (ownFrom_pure _ _) (ownFrom_below (Nat.le_refl _) (by omega))))
    (fun c => OwnFrom.and (fun s A B row hs hg hr => by
      obtain ⟨hc, ini, last, e1, e2, hv⟩ := hs
      exact ⟨hc, ini, last, e1, e2, holdsRow_own w.heap.size (w.heap.size + 1) 30 48 2 (fun (l : List (Nat × Nat)) => l.length) (fun l => l.flatMap rC) (fun _ _ => True) ini A B row hv hg (fun r e => (hr r e).2)⟩) (ownFrom_below (Nat.le_refl _) (by omega)))
    ⟨⟨⟨_, bO', World.ownsRow_nil _ _ _ _, trivial⟩, bM'⟩, by simp, hB0⟩
    (fun x => { tmps := #[.pointer (some ⟨B, 0, none⟩), .int .i64 most, undef, .pointer (some ⟨w.heap.size, 0, none⟩), .slice none 0 0, .pointer (some ⟨w.heap.size + 1, 0, none⟩), .func (.func 30) #[] #[.pointer (some ⟨w.heap.size + 1 + 1, 0, none⟩)], .int .i64 (x.1 : Nat), .int .i64 (x.2 : Nat), .pointer (some ⟨B, 0, none⟩), .func (.func 30) #[] #[.pointer (some ⟨w.heap.size + 1 + 1, 0, none⟩)], .func (.func 30) #[] #[.pointer (some ⟨w.heap.size + 1 + 1, 0, none⟩)], .bool false, .func (.func 30) #[] #[.pointer (some ⟨w.heap.size + 1 + 1, 0, none⟩)], .int .i64 (x.1 : Nat), .int .i64 (x.2 : Nat), undef, undef, undef, undef, undef, undef, undef, undef, undef, undef, undef], defers := [] })
    ?assign ?body ?done ?stop
  case assign =>
    rintro l x W K hK
    simp only [rE]
    gi_wp2
    exact hK
  case body =>
    rintro l pre x W ⟨⟨⟨v, hv, hrow, _⟩, hm⟩, hj, hB⟩ hlt
    obtain ⟨p, cap', rfl⟩ := owns_slice hrow
    have hc := hv.cell
    have hf := hv.frozen
    have cm := hm.cell
    have hfl : ∀ l : List (Nat × Nat), (l ++ [x]).flatMap rC = l.flatMap rC ++ [.int .i64 (x.1 : Nat), .int .i64 (x.2 : Nat)] := fun l => by simp [rC]
    gi_wp2_with (gi_at_builtin; refine wpListIn_append_own _ rfl _ _ 30 rfl w.heap.size 48 i0 (.agg #[.int .i64 0, .int .i64 0]) 2 16 Try.underlying30 hi hz0 hz1 hz2 rfl (by decide) _ _ _ rfl (hrow.alloc _) ⟨W.heap.size, 0, none⟩ 1 1 [.int .i64 (x.1 : Nat), .int .i64 (x.2 : Nat)] rfl rfl (cell_two_new _ _ _ _) (by simp [Value.oneCell']) (by simp [maxLen]; omega) (by omega) (by have := hB.size; simp; omega) ?_; intro v' w1 hown' hgrow _; obtain ⟨g', cap'', rfl⟩ := ownsRow_succ hown'; obtain ⟨hv1, hv2, hr2, hk2, hb2⟩ := hv.appended (by decide) hrow hB.size (by omega) hown' hgrow; have hc1 := hv1.cell; have hf1 := hv1.frozen)
    · have heq : (pre.length : Int) = most := by
        have h : ((pre.length : Int) == most) = true := by assumption
        exact eq_of_beq h
      exact ⟨KeepsFrom.refl _ _, ⟨rfl, pre, x, rfl, heq, _, hv, hrow, trivial⟩, hB⟩
    · have hne : (pre.length : Int) ≠ most := by
        intro he
        have h : ¬ ((pre.length : Int) == most) = true := by first | assumption | simp_all
        exact h (by simp [he])
      refine ⟨hk2.from _, ⟨hb2, fun hb => ((hb.alloc _).kept hgrow (hb.not_row (by decide) hrow)).other (by omega) _⟩, ⟨⟨⟨_, hv2, by rw [hfl]; simpa using hr2, trivial⟩, ((hm.alloc _).kept hgrow (hm.not_row (by decide) hrow)).other (by omega) _⟩, fun j hjl => ?_, hB.trans hb2⟩⟩
      simp at hjl
      by_cases hje : j < pre.length
      · exact hj j hje
      · have : j = pre.length := by omega
        subst this; exact hne
  case done =>
    rintro D ys W hD rfl ⟨⟨⟨v, hv, hrow, _⟩, hm⟩, hj, hB⟩ hK
    have hc := hv.cell
    gi_wp2
    refine ⟨by simp, .inl ⟨_, _, rfl, run_takeDeferred hK, ?_⟩⟩
    exact ⟨_, results_tmp rfl _ _ _, v, rfl, ⟨_, .inl ⟨rfl, hj⟩, ownsRow_putObj hrow _ hK rfl⟩, hB.trans (belowK_b (w := w) (Nat.le_refl _) W D _ _ (by omega) hK rfl rfl)⟩
  case stop =>
    rintro D c pre W hD hpre ⟨⟨rfl, ini, last, rfl, e2, v, hv, hrow, _⟩, hB⟩ hK
    have hc := hv.cell
    gi_wp2
    refine ⟨by simp, .inl ⟨_, _, rfl, run_takeDeferred hK, ?_⟩⟩
    exact ⟨_, results_tmp rfl _ _ _, v, rfl, ⟨ini, .inr ⟨(List.prefix_append _ _).trans hpre, e2⟩, ownsRow_putObj hrow _ hK rfl⟩, hB.trans (belowK_b (w := w) (Nat.le_refl _) W D _ _ (by omega) hK rfl rfl)⟩
end Go.Proofs.Yticmpcloehnoaaa
