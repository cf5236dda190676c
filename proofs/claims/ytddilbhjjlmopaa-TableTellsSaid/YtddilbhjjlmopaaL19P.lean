/- TableTells' own loop: its contract (chapter 19). -/
import Derived.Test.YtddilbhjjlmopaaL19O
import Derived.Test.YtddilbhjjlmopaaL19H
import Derived.Test.YtddilbhjjlmopaaTblI
set_option linter.unusedVariables false
set_option linter.unusedSimpArgs false
namespace Go.Proofs.Ytddilbhjjlmopaa
open Go Go.Sx Go.Fx
set_option maxRecDepth 100000
set_option linter.unusedVariables false
set_option linter.unusedSimpArgs false
theorem chK_eq (el0 : TypeId) (w0 h0 : Bool) (L : List AV) (el1 : TypeId) (o1 h1 : Bool) (A : List AV) (el : TypeId) (d e0 e1 e2 : Int) (f : Nat → Value) (j : Nat) (T P : List AV) (m : Nat) (hI : InvT T P A d m) (hm : m ≤ 16384) (hj : j ≤ 16384) :
    chK el0 w0 h0 L el1 o1 h1 A el d e0 e1 e2 f (j : Nat) T P = some (.normal, S3 el0 w0 h0 L el1 o1 h1 A el d e0 e1 e2 f ((j + 1 : Nat) : Int) T P) := by
  have ew : wi (((j : Nat) : Int) + 1) = ((j + 1 : Nat) : Int) := by rw [wi_id (by omega) (by omega)]; omega
  have hal := goodL_len hI.good
  have hf := hI.few
  unfold chK
  rw [ew, decide_eq_true rfl, decide_eq_true (show A.length ≤ 16384 by omega), hI.dep, decide_eq_true hI.len, decide_eq_true (show P.length ≤ 16384 by omega), hI.okEs]
  rfl
theorem stK_eq (el0 : TypeId) (w0 h0 : Bool) (L : List AV) (el1 : TypeId) (o1 h1 : Bool) (A : List AV) (el : TypeId) (d e0 e1 e2 : Int) (f : Nat → Value) (j : Nat) (T P : List AV) (m : Nat) (hI : InvT T P A d m) (hm : m + 1 ≤ 16384) (hj : j ≤ 16384) (g0 g1 g2 : Int) (yes good : Bool) (hg : setB d g0 g1 g2 yes = good) :
    stK el0 w0 h0 L el1 o1 h1 A el d e0 e1 e2 f (j : Nat) T P g0 g1 g2 yes good = some (.normal, S3 el0 w0 h0 L el1 o1 h1 A el d e0 e1 e2 f ((j + 1 : Nat) : Int) (setL T d g0 g1 g2 yes) (nxL P d g0 g1 g2 yes)) := by
  have hc := chK_eq el0 w0 h0 L el1 o1 h1 A el d e0 e1 e2 f j (setL T d g0 g1 g2 yes) (nxL P d g0 g1 g2 yes) (m + 1) (hI.next g0 g1 g2 yes) hm hj
  have hf := hI.few
  have hr := resF_len P g0 g1 g2 P.length 0
  have hr' : (resL P g0 g1 g2).length + 1 ≤ 65536 := by show (resF P g0 g1 g2 P.length 0).length + 1 ≤ 65536; omega
  unfold stK
  rw [decide_eq_true hI.len, hg, decide_eq_true (show P.length ≤ 16384 by omega), decide_eq_true hr', cond_true]
  have hn : ∀ g, setB d g0 g1 g2 yes = g → nxL P d g0 g1 g2 yes = bif g then (resL P g0 g1 g2 ++ (bif yes then [.agg [i64 g0, i64 g1, i64 g2]] else [])) else P := fun g h => by unfold nxL; rw [h]
  rw [hn good hg] at hc ⊢
  cases good
  · exact hc
  · cases yes
    · simp only [cond_true, cond_false, List.append_nil] at hc ⊢
      exact hc
    · exact hc
theorem kK_eq (el0 : TypeId) (w0 h0 : Bool) (L : List AV) (el1 : TypeId) (o1 h1 : Bool) (A : List AV) (el : TypeId) (d e0 e1 e2 : Int) (f : Nat → Value) (j : Nat) (T P : List AV) (m : Nat) (hI : InvT T P A d m) (hm : m + 1 ≤ 16384) (hj : j < L.length) (hL : L.length ≤ 60) (g0 g1 g2 : Int) :
    kK el0 w0 h0 L el1 o1 h1 A el d e0 e1 e2 f (j : Nat) T P g0 g1 g2 = some (.normal, S3 el0 w0 h0 L el1 o1 h1 A el d e0 e1 e2 f ((j + 1 : Nat) : Int) (setL T d g0 g1 g2 (yesX (L.getD j .bad))) (nxL P d g0 g1 g2 (yesX (L.getD j .bad)))) := by
  have hal := goodL_len hI.good
  unfold kK
  rw [Int.toNat_natCast, if_pos (show 0 ≤ ((j : Nat) : Int) ∧ ((j : Nat) : Int) < (L.length : Int) by omega), if_pos hj, if_pos (show (0 : Int) ≤ 0 ∧ (0 : Int) < (A.length : Int) by omega), if_pos (show 0 < A.length by omega)]
  show (bif validB d g0 g1 g2 then (bif (yesX (L.getD j .bad)) then stK el0 w0 h0 L el1 o1 h1 A el d e0 e1 e2 f (j : Nat) T P g0 g1 g2 (yesX (L.getD j .bad)) true else stK el0 w0 h0 L el1 o1 h1 A el d e0 e1 e2 f (j : Nat) T P g0 g1 g2 (yesX (L.getD j .bad)) (!(eq3 g0 g1 g2 (cI (A.getD 0 .bad) 0) (cI (A.getD 0 .bad) 1) (cI (A.getD 0 .bad) 2)))) else stK el0 w0 h0 L el1 o1 h1 A el d e0 e1 e2 f (j : Nat) T P g0 g1 g2 (yesX (L.getD j .bad)) false) = _
  generalize (yesX (L.getD j .bad)) = yes
  obtain ⟨r0, r1, r2⟩ := A0_root hI.good
  cases hv : validB d g0 g1 g2
  · exact stK_eq el0 w0 h0 L el1 o1 h1 A el d e0 e1 e2 f j T P m hI hm (by omega) g0 g1 g2 yes false (by unfold setB; rw [hv]; rfl)
  · cases yes
    · refine stK_eq el0 w0 h0 L el1 o1 h1 A el d e0 e1 e2 f j T P m hI hm (by omega) g0 g1 g2 false _ ?_
      rw [r0, r1, r2]
      unfold setB rootB
      rw [hv, show dB d = true from hI.dep]
      simp [eq3]
    · exact stK_eq el0 w0 h0 L el1 o1 h1 A el d e0 e1 e2 f j T P m hI hm (by omega) g0 g1 g2 true true (by unfold setB; rw [hv]; simp)
theorem turn3 (el0 : TypeId) (w0 h0 : Bool) (L : List AV) (el1 : TypeId) (o1 h1 : Bool) (A : List AV) (el : TypeId) (d e0 e1 e2 : Int) (f : Nat → Value) (j : Nat) (T P : List AV) (m : Nat) (hI : InvT T P A d m) (hm : m + 1 ≤ 16384) (hj : j < L.length) (hL : L.length ≤ 60) :
    turnK cK1 Try.prog 1 L3 k3 t3 2 4 (S3 el0 w0 h0 L el1 o1 h1 A el d e0 e1 e2 f (j : Nat) T P) = some (.normal, S3 el0 w0 h0 L el1 o1 h1 A el d e0 e1 e2 f ((j + 1 : Nat) : Int) (setL T d (gSel A e0 e1 e2 (L.getD j .bad) 0) (gSel A e0 e1 e2 (L.getD j .bad) 1) (gSel A e0 e1 e2 (L.getD j .bad) 2) (yesX (L.getD j .bad))) (nxL P d (gSel A e0 e1 e2 (L.getD j .bad) 0) (gSel A e0 e1 e2 (L.getD j .bad) 1) (gSel A e0 e1 e2 (L.getD j .bad) 2) (yesX (L.getD j .bad)))) := by
  have hal := goodL_len hI.good
  have b0 := Int.emod_nonneg (cI (L.getD j .bad) 0) (show (A.length : Int) ≠ 0 by omega)
  have b1 := Int.emod_lt_of_pos (cI (L.getD j .bad) 0) (show 0 < (A.length : Int) by omega)
  have r1 : (0 ≤ ((j : Nat) : Int) ∧ ((j : Nat) : Int) < (L.length : Int)) := ⟨by omega, by omega⟩
  rw [raw3, Int.toNat_natCast, decide_eq_true r1.2, goodL_rG hI.good]
  simp only [if_pos r1, if_pos hj, cond_true, if_pos (show 0 ≤ cI (L.getD j .bad) 0 % (A.length : Int) ∧ cI (L.getD j .bad) 0 % (A.length : Int) < (A.length : Int) from ⟨b0, b1⟩), if_pos (show (cI (L.getD j .bad) 0 % (A.length : Int)).toNat < A.length by omega)]
  rw [kK_eq el0 w0 h0 L el1 o1 h1 A el d e0 e1 e2 f j T P m hI hm hj hL, kK_eq el0 w0 h0 L el1 o1 h1 A el d e0 e1 e2 f j T P m hI hm hj hL]
  unfold gSel
  cases ((cI (L.getD j .bad) 1).tmod 11 == 10) <;> rfl
theorem end3 (el0 : TypeId) (w0 h0 : Bool) (L : List AV) (el1 : TypeId) (o1 h1 : Bool) (A : List AV) (el : TypeId) (d e0 e1 e2 : Int) (f : Nat → Value) (j : Nat) (T P : List AV) (hj : L.length ≤ j) : turnK cK1 Try.prog 1 L3 k3 t3 2 4 (S3 el0 w0 h0 L el1 o1 h1 A el d e0 e1 e2 f (j : Nat) T P) = some (.exit 0, S3 el0 w0 h0 L el1 o1 h1 A el d e0 e1 e2 f (j : Nat) T P) := by
  rw [raw3, decide_eq_false (by omega), cond_false]
theorem K1_loops : LoopsOk Try.prog cK1.loops L3 := by
  intro x hx L' h'
  rw [nodes3i] at hx
  simp only [List.mem_cons, List.not_mem_nil, or_false] at hx
  rcases hx with rfl | rfl
  · have e : nodeL (two 23 rest_L3b 31 chk_L3c) (.loop L3b) = some rest_L3b := by kernel_rfl
    rw [show cK1.loops = two 23 rest_L3b 31 chk_L3c from rfl, e] at h'
    simp only [Option.some.injEq] at h'
    exact @fixL _ _ _ _ h' @rest_Lok3b
  · have e : nodeL (two 23 rest_L3b 31 chk_L3c) (.loop L3c) = some chk_L3c := by kernel_rfl
    rw [show cK1.loops = two 23 rest_L3b 31 chk_L3c from rfl, e] at h'
    simp only [Option.some.injEq] at h'
    exact @fixL _ _ _ _ h' @chk_Lok3c
theorem loop3 (el0 : TypeId) (w0 h0 : Bool) (L : List AV) (el1 : TypeId) (o1 h1 : Bool) (A : List AV) (el : TypeId) (d e0 e1 e2 : Int) (f : Nat → Value) (hL : L.length ≤ 60) (s : Nat × List AV × List AV) (hi : s.1 ≤ L.length ∧ InvT s.2.1 s.2.2 A d (100 + s.1)) :
    CodeOkN 2 4 Try.prog (.loop L3) (S3 el0 w0 h0 L el1 o1 h1 A el d e0 e1 e2 f ((s.1 : Nat) : Int) s.2.1 s.2.2) (.exit 0) (S3 el0 w0 h0 L el1 o1 h1 A el d e0 e1 e2 f ((L.length : Nat) : Int) (rnT L A d e0 e1 e2 (L.length - s.1) s.1 s.2.1) (rnP L A d e0 e1 e2 (L.length - s.1) s.1 s.2.2)) := by
  refine loop_ok (fun s : Nat × List AV × List AV => S3 el0 w0 h0 L el1 o1 h1 A el d e0 e1 e2 f ((s.1 : Nat) : Int) s.2.1 s.2.2) (fun s => (.exit 0, S3 el0 w0 h0 L el1 o1 h1 A el d e0 e1 e2 f ((L.length : Nat) : Int) (rnT L A d e0 e1 e2 (L.length - s.1) s.1 s.2.1) (rnP L A d e0 e1 e2 (L.length - s.1) s.1 s.2.2)))
    (fun s => if s.1 < L.length then some (s.1 + 1, setL s.2.1 d (gSel A e0 e1 e2 (L.getD s.1 .bad) 0) (gSel A e0 e1 e2 (L.getD s.1 .bad) 1) (gSel A e0 e1 e2 (L.getD s.1 .bad) 2) (yesX (L.getD s.1 .bad)), nxL s.2.2 d (gSel A e0 e1 e2 (L.getD s.1 .bad) 0) (gSel A e0 e1 e2 (L.getD s.1 .bad) 1) (gSel A e0 e1 e2 (L.getD s.1 .bad) 2) (yesX (L.getD s.1 .bad))) else none)
    (fun s => L.length - s.1) (fun s => s.1 ≤ L.length ∧ InvT s.2.1 s.2.2 A d (100 + s.1)) ?_ ?_ s hi
  · rintro ⟨j, T, P⟩ ⟨q1, q2⟩ hn
    refine ⟨fun e => (by cases e), ?_⟩
    have hj : j = L.length := by
      by_cases h : j < L.length
      · simp [h] at hn
      · simp only at q1; omega
    subst hj
    simp only
    rw [Nat.sub_self]
    exact turn_ok cK1_sound mixed K1_loops rfl rfl (end3 el0 w0 h0 L el1 o1 h1 A el d e0 e1 e2 f L.length T P (Nat.le_refl _))
  · rintro ⟨j, T, P⟩ s' ⟨q1, q2⟩ hn
    by_cases hj : j < L.length
    · simp only [hj, if_true, Option.some.injEq] at hn
      subst hn
      simp only at q1 q2
      refine ⟨⟨by simp only; omega, by simp only; rw [show 100 + (j + 1) = 100 + j + 1 by omega]; exact q2.next _ _ _ _⟩, by simp only; omega, ?_, turn_ok cK1_sound mixed K1_loops rfl rfl (turn3 el0 w0 h0 L el1 o1 h1 A el d e0 e1 e2 f j T P (100 + j) q2 (by omega) hj hL)⟩
      simp only
      rw [show L.length - j = (L.length - (j + 1)) + 1 by omega, rnT, rnP]
    · simp [hj] at hn
def tells_L3 : LSpec where
  n := 196
  nils := [⟨10, 24, true, c3⟩]
  keep := k3
  touch := t3
  run kv M k := match kv, M with
    | [.lit (.int .i64 d'), .vec q0, .ptr b0 0, .ptr b1 0, .vec q1, .vec q2, .lit (.int .i64 i)], ⟨[some ⟨24, true, [.lit (.int .i64 e0), .lit (.int .i64 e1), .lit (.int .i64 e2)]⟩, some ⟨48, true, [.lit (.int .i64 d), .vec q3]⟩], [some ⟨el0, true, sh0, t0, w0, h0, L⟩, some ⟨el1, true, sh1, t1, o1, h1, A⟩, some ⟨el4, true, sh4, t4, true, true, P⟩, some ⟨el, false, sh2, t2, true, true, T⟩]⟩ =>
      bif decide (q0 = 0) && decide (b0 = 0) && decide (b1 = 1) && decide (q1 = 1) && decide (q2 = 2) && decide (q3 = 3) && decide (t0 = 0) && decide (t1 = 1) && decide (t4 = 2) && decide (t2 = 3) && decide (el4 = 24) && decide (sh0 = c2) && decide (sh1 = c3) && decide (sh4 = c3) && decide (sh2 = [.bool]) && decide (i = 0) && (decide (d' = d) && decide (L.length ≤ 60) && invB T P A d) then
        k (.exit 0) [i64 d, .vec 0, .ptr 0 0, .ptr 1 0, .vec 1, .vec 4, i64 (L.length : Nat)] ⟨[some ⟨24, true, [i64 e0, i64 e1, i64 e2]⟩, some ⟨48, true, [i64 d, .vec 3]⟩], [some ⟨el0, true, c2, 0, w0, h0, L⟩, some ⟨el1, true, c3, 1, o1, h1, A⟩, none, some ⟨el, false, [.bool], 3, true, true, rnT L A d e0 e1 e2 L.length 0 T⟩, some ⟨24, true, c3, 4, true, true, rnP L A d e0 e1 e2 L.length 0 P⟩]⟩
      else none
    | _, _ => none
theorem tells_Lok3 : tells_L3.Ok Try.prog (.loop L3) := by
  intro R kv M k r h
  simp only [tells_L3] at h
  split at h
  · rename_i d' q0 b0 b1 q1 q2 i e0 e1 e2 d q3 el0 sh0 t0 w0 h0 L el1 sh1 t1 o1 h1 A el4 sh4 t4 P el sh2 t2 T
    simp only [cond_eq_ite, Bool.and_eq_true, decide_eq_true_eq] at h
    split at h
    · rename_i hc
      obtain ⟨⟨⟨⟨⟨⟨⟨⟨⟨⟨⟨⟨⟨⟨⟨⟨rfl, rfl⟩, rfl⟩, rfl⟩, rfl⟩, rfl⟩, rfl⟩, rfl⟩, rfl⟩, rfl⟩, rfl⟩, rfl⟩, rfl⟩, rfl⟩, rfl⟩, rfl⟩, ⟨rfl, hL⟩, hI⟩ := hc
      refine ⟨_, _, _, h, fun f => ?_⟩
      have hN := loop3 el0 w0 h0 L el1 o1 h1 A el d' e0 e1 e2 f hL (0, T, P) ⟨Nat.zero_le _, invB_inv hI⟩
      exact CodeOkN.full (CodeOkN.enter [(10, true)] (st1 := S3 el0 w0 h0 L el1 o1 h1 A el d' e0 e1 e2 f 0 T P) (by kernel_rfl) rfl rfl hN) rfl
    · cases h
  · cases h
end Go.Proofs.Ytddilbhjjlmopaa
