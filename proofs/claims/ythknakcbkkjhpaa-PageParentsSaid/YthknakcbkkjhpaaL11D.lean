/- The law's 'all', whole (chapter 11). -/
import Derived.Test.YthknakcbkkjhpaaL11C
set_option linter.unusedVariables false
set_option linter.unusedSimpArgs false
namespace Go.Proofs.Ythknakcbkkjhpaa
open Go Go.Sx Go.Fx Go.RowKit Go.Shelf
attribute [local go_sem] Oper.semAt_some
set_option linter.unusedVariables false
set_option linter.unusedSimpArgs false
theorem infoE : (Try.prog.info? 23).map (fun i => (i.zero, i.size, i.bytes)) = some (some (.agg #[.int .i64 0, .int .i64 0, .int .i64 0]), 3, 24) := by kernel_rfl
/-- a page's cells -/
def pgC (d : Int) (k : Nat) : List Value := [.int .i64 (pL d.toNat k), .int .i64 (pX d.toNat k), .int .i64 (pY d.toNat k)]
theorem pgC_len (d : Int) : ∀ l : List Nat, (l.flatMap (pgC d)).length = l.length * 3
  | [] => rfl
  | a :: l => by simp only [List.flatMap_cons, List.length_append, pgC_len d l, pgC, List.length_cons, List.length_nil]; omega
theorem cell_three_new (w : World) (x y z : Value) (t : TypeId) : ∀ j u, [x, y, z][j]? = some u → (w.alloc (.cells #[x, y, z] t)).cell? ((⟨w.heap.size, 0, none⟩ : Addr).add j) = some u := by
  intro j u hj
  have h := World.alloc_heap_new w (.cells #[x, y, z] t)
  have key : ∀ j, j < 3 → (w.alloc (.cells #[x, y, z] t)).cell? ((⟨w.heap.size, 0, none⟩ : Addr).add j) = #[x, y, z][j]? := by
    intro j hj
    have e : (⟨w.heap.size, 0, none⟩ : Addr).add j = ⟨w.heap.size, j, none⟩ := by
      unfold Addr.add
      split
      · rename_i h0; subst h0; rfl
      · simp
    rw [e]
    unfold World.cell?
    simp only
    rw [h]
    rfl
  have hlt : j < 3 := by
    rcases Nat.lt_or_ge j 3 with h | h
    · exact h
    · rw [List.getElem?_eq_none (by simpa using h)] at hj; cases hj
  rw [key j hlt, ← hj]
  simp
theorem func_nil (f B : Nat) (hf : nilCmp Try.prog 43 (.fn f [.ptr 0 0]) (.lit .nilFunc) = true) (w : World) : (binOp BinOp.eql 43 (.func (.func f) #[] #[.pointer (some ⟨B, 0, none⟩)]) .nilFunc).run Try.prog w = .ok (.bool false) w := by
  have h := nilCmp_sound (E := ⟨fun _ => B, fun _ => undef⟩) hf w
  simp only [AV.conc, concL] at h
  simp [binOp, Sem.run_bind, h]
theorem owns_slice {W : World} {base : Nat} {e : TypeId} {size : Nat} {v : Value} {k : Nat} {xs : List Value} (h : W.ownsRow base e size v k xs) : ∃ p cap, v = .slice p k cap := by
  rcases h.2 with ⟨rfl, rfl⟩ | ⟨g, cap, _, rfl, _⟩
  · exact ⟨none, 0, rfl⟩
  · exact ⟨_, cap, rfl⟩
/-- a block of three cells -/
def Box3 (W : World) (B : Nat) (t : TypeId) (x y z : Value) : Prop := W.heap[B]? = some (.cells #[x, y, z] t (0, 0))
theorem Box3.kept {W W' : World} {row : Option Nat} {B : Nat} {t : TypeId} {x y z : Value} (h : Box3 W B t x y z) (hg : W.grownBy W' row) (hne : some B ≠ row) : Box3 W' B t x y z := (hg.block B (Array.getElem?_eq_some_iff.1 h).1 hne).trans h

set_option maxRecDepth 100000 in
set_option maxHeartbeats 4000000 in
theorem all_in (n : Nat) (hn : 4 ≤ n) (d most : Int) (w : World) :
    CallsIn Fence.wide n Try.prog 20 #[.int .i64 d, .int .i64 most] w fun e W' => ∃ v, e = .returned v ∧
      (∃ m, (m = (cn d).toNat ∧ (∀ j : Nat, j < m → (j : Int) ≠ most) ∨ m ≤ (cn d).toNat ∧ (m : Int) = most) ∧ W'.ownsRow w.heap.size 23 3 v m ((List.range m).flatMap (pgC d))) ∧ Below w.heap.size w W' := by
  have h1 : 1 ≤ n := by omega
  obtain ⟨i0, hi, hz0, hz1, hz2⟩ := info_parts infoE
  refine callsIn_of_wp_marks Try.func20 rfl trivial ?_ rfl
  simp only [Try.ntmps20, List.size_toArray, List.length_cons, List.length_nil, Nat.reduceAdd, Nat.reduceSub, Array.replicate_succ, Array.replicate_zero, List.push_toArray, List.append_toArray, List.nil_append, List.cons_append]
  gi_wp2_with (refine ⟨trivial, ?_⟩; gi_at_call 28; refine (pall_in (n - 1) _ _).mono ?_; rintro e w' ⟨rfl, rfl⟩)
  have bM := Boxed.new w 3 (.int .i64 most)
  have bO := Boxed.new (w.alloc (.cells #[.int .i64 most] 3)) 24 (.slice none 0 0)
  have bD := Boxed.new ((w.alloc (.cells #[.int .i64 most] 3)).alloc (.cells #[.slice none 0 0] 24)) 3 (.int .i64 d)
  rw [World.size_alloc] at bO
  rw [World.size_alloc, World.size_alloc] at bD
  have hB0 : Below w.heap.size w (((w.alloc (.cells #[.int .i64 most] 3)).alloc (.cells #[.slice none 0 0] 24)).alloc (.cells #[.int .i64 d] 3)) := (((Below.refl _ w).alloc (Nat.le_refl _) _).alloc (by simp) _).alloc (by simp; omega) _
  rw [func_nil 30 _ (by kernel_rfl)]
  gi_wp2
  have hsz : (((w.alloc (.cells #[.int .i64 most] 3)).alloc (.cells #[.slice none 0 0] 24)).alloc (.cells #[.int .i64 d] 3)).heap.size = w.heap.size + 3 := by simp
  have bM' := (bM.alloc (.cells #[.slice none 0 0] 24)).alloc (.cells #[.int .i64 d] 3)
  have bO' := bO.alloc (.cells #[.int .i64 d] 3)
  obtain ⟨W0, hW0⟩ : ∃ W0, ((w.alloc (.cells #[.int .i64 most] 3)).alloc (.cells #[.slice none 0 0] 24)).alloc (.cells #[.int .i64 d] 3) = W0 := ⟨_, rfl⟩
  rw [hW0] at bM' bO' bD hB0 hsz ⊢
  clear hW0
  have hcn := cn_nonneg d
  have hcn' := cn_85 d
  refine wpIn_rangeFunc_ownH rfl h1 (gf := 30) (lb := #[.pointer (some ⟨w.heap.size + 1 + 1, 0, none⟩)]) rfl trivial (enters_of Try.func30 (by kernel_rfl) rfl)
    (all_stops (n - 1) (by omega) (w.heap.size + 1 + 1) w.heap.size d W0 bD (by omega)) Kq.trans (Kq_b (by omega)) (Below.refl _ _) (fun _ => rfl)
    (fun pre W => ((∃ v, Boxed W (w.heap.size + 1) 24 v ∧ W.ownsRow w.heap.size 23 3 v pre.length (pre.flatMap (pgC d)) ∧ True) ∧ Boxed W w.heap.size 3 (.int .i64 most)) ∧ (∀ j : Nat, j < pre.length → (j : Int) ≠ most) ∧ Below w.heap.size w W)
    (fun c pre W => (c = .exit 0 ∧ ∃ ini last, pre = ini ++ [last] ∧ (ini.length : Int) = most ∧ ∃ v, Boxed W (w.heap.size + 1) 24 v ∧ W.ownsRow w.heap.size 23 3 v ini.length (ini.flatMap (pgC d)) ∧ True) ∧ Below w.heap.size w W)
    (OwnFrom.and (OwnFrom.and (Own.from (holdsRow_own w.heap.size (w.heap.size + 1) 24 23 3 (fun (pre : List Nat) => pre.length) (fun pre => pre.flatMap (pgC d)) (fun _ _ => True)) _) (Own.from (boxed_own _ _ _) _)) (OwnFrom.and (ownFrom_pure _ _) (ownFrom_below (Nat.le_refl _) (by omega))))
    (fun c => OwnFrom.and (fun s A B row hs hg hr => by
      obtain ⟨hc, ini, last, e1, e2, hv⟩ := hs
      exact ⟨hc, ini, last, e1, e2, holdsRow_own w.heap.size (w.heap.size + 1) 24 23 3 (fun (l : List Nat) => l.length) (fun l => l.flatMap (pgC d)) (fun _ _ => True) ini A B row hv hg (fun r e => (hr r e).2)⟩) (ownFrom_below (Nat.le_refl _) (by omega)))
    ⟨⟨⟨_, bO', World.ownsRow_nil _ _ _ _, trivial⟩, bM'⟩, by simp, hB0⟩
    (fun x a' W => ∃ Bx, w.heap.size + 1 < Bx ∧ Box3 W Bx 23 (.int .i64 (pL d.toNat x)) (.int .i64 (pX d.toNat x)) (.int .i64 (pY d.toNat x)) ∧ a' = { tmps := #[.int .i64 d, .int .i64 most, undef, .pointer (some ⟨w.heap.size, 0, none⟩), .slice none 0 0, .pointer (some ⟨w.heap.size + 1, 0, none⟩), .func (.func 30) #[] #[.pointer (some ⟨w.heap.size + 1 + 1, 0, none⟩)], .pointer (some ⟨Bx, 0, none⟩), .int .i64 d, .func (.func 30) #[] #[.pointer (some ⟨w.heap.size + 1 + 1, 0, none⟩)], .func (.func 30) #[] #[.pointer (some ⟨w.heap.size + 1 + 1, 0, none⟩)], .bool false, .func (.func 30) #[] #[.pointer (some ⟨w.heap.size + 1 + 1, 0, none⟩)], pgV d x, undef, undef, undef, undef, undef, undef, undef, undef, undef], defers := [] })
    (fun x a' _ X Y row hs hg hr => by
      obtain ⟨Bx, h1, h2, h3⟩ := hs
      exact ⟨Bx, h1, h2.kept hg (fun e => by
        obtain ⟨_, o, ho, hc⟩ := hr Bx e.symm
        rw [show X.heap[Bx]? = _ from h2] at ho; cases ho; cases hc), h3⟩)
    ?assign ?body ?done ?stop
  case assign =>
    rintro l pre x W K ⟨⟨⟨v, hv, hrow, _⟩, hm⟩, hj, hB⟩ hK
    simp only [pgV]
    gi_wp2
    exact hK _ _ ((KeepsOthers.alloc _ _).from _) ⟨(Below.refl _ W).alloc hB.size _, fun h => h.alloc _⟩ ⟨⟨⟨v, hv.alloc _, hrow.alloc _, trivial⟩, hm.alloc _⟩, hj, hB.alloc hB.size _⟩ ⟨W.heap.size, hv.lt, World.alloc_heap_new W _, rfl⟩
  case body =>
    rintro l pre x a' W hl ⟨r, hr⟩ ⟨⟨⟨v, hv, hrow, _⟩, hm⟩, hj, hB⟩ ⟨Bx, hBx, bX, rfl⟩ hlt
    obtain ⟨p, cap, rfl⟩ := owns_slice hrow
    have hc := hv.cell
    have hf := hv.frozen
    have cm := hm.cell
    have c0 : W.cell? ⟨Bx, 0, none⟩ = some (.int .i64 (pL d.toNat x)) := by unfold World.cell?; rw [show W.heap[Bx]? = _ from bX]; rfl
    have c1 : W.cell? ⟨Bx, 1, none⟩ = some (.int .i64 (pX d.toNat x)) := by unfold World.cell?; rw [show W.heap[Bx]? = _ from bX]; rfl
    have c2 : W.cell? ⟨Bx, 2, none⟩ = some (.int .i64 (pY d.toNat x)) := by unfold World.cell?; rw [show W.heap[Bx]? = _ from bX]; rfl
    have hfl : ∀ l : List Nat, (l ++ [x]).flatMap (pgC d) = l.flatMap (pgC d) ++ [.int .i64 (pL d.toNat x), .int .i64 (pX d.toNat x), .int .i64 (pY d.toNat x)] := fun l => by simp [pgC]
    gi_wp2_with (gi_at_builtin; refine wpListIn_append_own _ rfl _ _ 24 rfl w.heap.size 23 i0 (.agg #[.int .i64 0, .int .i64 0, .int .i64 0]) 3 24 Try.underlying24 hi hz0 hz1 hz2 rfl (by decide) _ _ _ rfl (hrow.alloc _) ⟨W.heap.size, 0, none⟩ 1 1 [.int .i64 (pL d.toNat x), .int .i64 (pX d.toNat x), .int .i64 (pY d.toNat x)] rfl rfl (cell_three_new _ _ _ _ _) (by simp [Value.oneCell']) (by simp [maxLen]; omega) (by omega) (by have := hB.size; simp; omega) ?_; intro v' w1 hown' hgrow _; obtain ⟨g', cap', rfl⟩ := ownsRow_succ hown'; obtain ⟨hv1, hv2, hr2, hk2, hb2⟩ := hv.appended (by decide) hrow hB.size (by omega) hown' hgrow; have hc1 := hv1.cell; have hf1 := hv1.frozen)
    · have heq : (pre.length : Int) = most := by
        have h : ((pre.length : Int) == most) = true := by assumption
        exact eq_of_beq h
      exact ⟨KeepsFrom.refl _ _, ⟨rfl, pre, x, rfl, heq, _, hv, hrow, trivial⟩, hB⟩
    · have hne : (pre.length : Int) ≠ most := by
        intro he
        have h : ¬ ((pre.length : Int) == most) = true := by first | assumption | simp_all
        exact h (by simp [he])
      refine ⟨hk2.from _, ⟨hb2, fun hb => ((hb.alloc _).kept hgrow (hb.not_row (by decide) hrow)).other (by omega) _⟩, ⟨⟨⟨_, hv2, by rw [hfl]; simpa using hr2, trivial⟩, ((hm.alloc _).kept hgrow (hm.not_row (by decide) hrow)).other (by omega) _⟩, fun j hjl => ?_, hB.trans hb2⟩⟩
      simp at hjl
      by_cases hje : j < pre.length
      · exact hj j hje
      · have : j = pre.length := by omega
        subst this; exact hne
  case done =>
    rintro D ys W hD rfl ⟨⟨⟨v, hv, hrow, _⟩, hm⟩, hj, hB⟩ hK
    have hc := hv.cell
    gi_wp2
    refine ⟨by simp, .inl ⟨_, _, rfl, run_takeDeferred hK, ?_⟩⟩
    exact ⟨_, results_tmp rfl _ _ _, v, rfl, ⟨_, .inl ⟨rfl, by simpa using hj⟩, by simpa using ownsRow_putObj hrow _ hK rfl⟩, hB.trans (belowK_b (w := w) (Nat.le_refl _) W D _ _ (by omega) hK rfl rfl)⟩
  case stop =>
    rintro D c pre W hD ⟨k, hk, rfl⟩ ⟨⟨rfl, ini, last, e1, e2, v, hv, hrow, _⟩, hB⟩ hK
    have hc := hv.cell
    gi_wp2
    refine ⟨by simp, .inl ⟨_, _, rfl, run_takeDeferred hK, ?_⟩⟩
    obtain ⟨k', rfl⟩ : ∃ k', k = k' + 1 := by
      cases k with
      | zero => simp at e1
      | succ k' => exact ⟨k', rfl⟩
    rw [List.range_succ] at e1
    obtain ⟨rfl, _⟩ := List.append_inj' e1 rfl
    rw [List.length_range] at e2 hrow
    exact ⟨_, results_tmp rfl _ _ _, v, rfl, ⟨k', .inr ⟨by omega, e2⟩, ownsRow_putObj hrow _ hK rfl⟩, hB.trans (belowK_b (w := w) (Nat.le_refl _) W D _ _ (by omega) hK rfl rfl)⟩
end Go.Proofs.Ythknakcbkkjhpaa
