/- ClipTurns' own loops: counting (chapter 24). -/
import Derived.Test.YtemhaijcebjhhaaL24U
set_option linter.unusedVariables false
set_option linter.unusedSimpArgs false
namespace Go.Proofs.Ytemhaijcebjhhaa
open Go Go.Sx Go.Fx
set_option maxRecDepth 100000
set_option linter.unusedVariables false
set_option linter.unusedSimpArgs false
theorem turn6C (el el' : TypeId) (o h o' h' : Bool) (L X : List AV) (f : Nat → Value) (i n m j : Nat) (hX : X.length = L.length) (hL : L.length ≤ 16384) (hi : i < L.length) (hj : j < L.length) (hn : n ≤ 16384) (hm : m ≤ 16384) :
    turnK CallSem.nil Try.prog 1 L6C k6C t6C 0 2 (S6C el el' o h o' h' L X f (i : Nat) (n : Nat) (m : Nat) (j : Nat)) =
      some (.normal, S6C el el' o h o' h' L X f (i : Nat) ((n + bN (eqB (L.getD j .bad) (L.getD i .bad)) : Nat) : Int) ((m + bN (eqB (X.getD j .bad) (L.getD i .bad)) : Nat) : Int) ((j + 1 : Nat) : Int)) := by
  have e1 : wi (((j : Nat) : Int) + 1) = ((j + 1 : Nat) : Int) := by rw [wi_id (by omega) (by omega)]; omega
  have e2 : wi (((n : Nat) : Int) + 1) = ((n + 1 : Nat) : Int) := by rw [wi_id (by omega) (by omega)]; omega
  have e3 : wi (((m : Nat) : Int) + 1) = ((m + 1 : Nat) : Int) := by rw [wi_id (by omega) (by omega)]; omega
  rw [raw6C, e1, e2, e3, decide_eq_true (by omega), cond_true]
  simp only [Int.toNat_natCast, if_pos hj, if_pos hi, if_pos (show j < X.length by omega), if_pos (show (0 ≤ ((j : Nat) : Int) ∧ ((j : Nat) : Int) < (L.length : Int)) from ⟨by omega, by omega⟩),
    if_pos (show (0 ≤ ((i : Nat) : Int) ∧ ((i : Nat) : Int) < (L.length : Int)) from ⟨by omega, by omega⟩), if_pos (show (0 ≤ ((j : Nat) : Int) ∧ ((j : Nat) : Int) < (X.length : Int)) from ⟨by omega, by omega⟩)]
  cases eqB (L.getD j .bad) (L.getD i .bad) <;> cases eqB (X.getD j .bad) (L.getD i .bad) <;> rfl
theorem countP_cons' (q : AV → Bool) (a : AV) (l : List AV) : (a :: l).countP q = bN (q a) + l.countP q := by
  rw [List.countP_cons]
  cases q a <;> simp [bN, Nat.add_comm]
theorem loop6C (el el' : TypeId) (o h o' h' : Bool) (L X : List AV) (f : Nat → Value) (i : Nat) (hX : X.length = L.length) (hL : L.length ≤ 16384) (hi : i < L.length) (s : Nat × Nat × Nat) (hs : s.1 ≤ L.length ∧ s.2.1 ≤ s.1 ∧ s.2.2 ≤ s.1) :
    CodeOkN 0 2 Try.prog (.loop L6C) (S6C el el' o h o' h' L X f (i : Nat) ((s.2.1 : Nat) : Int) ((s.2.2 : Nat) : Int) ((s.1 : Nat) : Int)) (.exit 6)
      (S6C el el' o h o' h' L X f (i : Nat) ((s.2.1 + (L.drop s.1).countP (fun x => eqB x (L.getD i .bad)) : Nat) : Int) ((s.2.2 + (X.drop s.1).countP (fun x => eqB x (L.getD i .bad)) : Nat) : Int) (L.length : Nat)) := by
  refine loop_ok (fun s : Nat × Nat × Nat => S6C el el' o h o' h' L X f (i : Nat) ((s.2.1 : Nat) : Int) ((s.2.2 : Nat) : Int) ((s.1 : Nat) : Int))
    (fun s => (.exit 6, S6C el el' o h o' h' L X f (i : Nat) ((s.2.1 + (L.drop s.1).countP (fun x => eqB x (L.getD i .bad)) : Nat) : Int) ((s.2.2 + (X.drop s.1).countP (fun x => eqB x (L.getD i .bad)) : Nat) : Int) (L.length : Nat)))
    (fun s => if s.1 < L.length then some (s.1 + 1, s.2.1 + bN (eqB (L.getD s.1 .bad) (L.getD i .bad)), s.2.2 + bN (eqB (X.getD s.1 .bad) (L.getD i .bad))) else none)
    (fun s => L.length - s.1) (fun s => s.1 ≤ L.length ∧ s.2.1 ≤ s.1 ∧ s.2.2 ≤ s.1) ?_ ?_ s hs
  · rintro ⟨j, n, m⟩ ⟨h1, h2, h3⟩ hn
    refine ⟨fun e => (by cases e), ?_⟩
    have hj : j = L.length := by
      by_cases h : j < L.length
      · simp [h] at hn
      · simp only at h1; omega
    subst hj
    simp only
    rw [List.drop_eq_nil_of_le (Nat.le_refl _), List.drop_eq_nil_of_le (show X.length ≤ L.length by omega)]
    exact turn_ok nilS mixed (LoopsOk.no _ _) rfl rfl (by rw [raw6C, decide_eq_false (by omega), cond_false]; rfl)
  · rintro ⟨j, n, m⟩ s' ⟨h1, h2, h3⟩ hn
    by_cases h : j < L.length
    · simp only [h, if_true, Option.some.injEq] at hn
      subst hn
      simp only at h1 h2 h3
      have hb : ∀ b, bN b ≤ 1 := fun b => by cases b <;> simp [bN]
      have q1 := hb (eqB (L.getD j .bad) (L.getD i .bad))
      have q2 := hb (eqB (X.getD j .bad) (L.getD i .bad))
      refine ⟨⟨by simp only; omega, by simp only; omega, by simp only; omega⟩, by simp only; omega, ?_, turn_ok nilS mixed (LoopsOk.no _ _) rfl rfl (turn6C el el' o _ o' h' L X f i n m j hX hL hi h (by omega) (by omega))⟩
      simp only
      rw [drop_cons h, drop_cons (L := X) (show j < X.length by omega), countP_cons', countP_cons', Nat.add_assoc, Nat.add_assoc]
    · simp [h] at hn
def cnt_L : LSpec where
  n := 128
  nils := []
  keep := k6C
  touch := t6C
  run kv M k := match kv, M with
    | [.vec h0, .vec h1, .lit (.int .i64 i), .lit (.int .i64 n), .lit (.int .i64 m), .lit (.int .i64 j)], ⟨[], [some ⟨el, true, sh, t0, o, h, L⟩, some ⟨el', true, sh', t1, o', h', X⟩]⟩ =>
      bif decide (h0 = 0) && decide (h1 = 1) && decide (t0 = 0) && decide (t1 = 1) && decide (sh = c6) && decide (sh' = c6) && decide (n = 0) && decide (m = 0) && decide (j = 0) && decide (X.length = L.length) && decide (L.length ≤ 16384) && (decide (0 ≤ i) && decide (i < (L.length : Int))) then
        k (.exit 6) [.vec 0, .vec 1, i64 i, i64 ((L.countP (fun x => eqB x (L.getD i.toNat .bad)) : Nat) : Int), i64 ((X.countP (fun x => eqB x (L.getD i.toNat .bad)) : Nat) : Int), i64 (L.length : Nat)] ⟨[], [some ⟨el, true, c6, 0, o, h, L⟩, some ⟨el', true, c6, 1, o', h', X⟩]⟩
      else none
    | _, _ => none
theorem cnt_Lok : cnt_L.Ok Try.prog (.loop L6C) := by
  intro R kv M k r h
  simp only [cnt_L] at h
  split at h
  · rename_i h0 h1 i n m j el sh t0 o hh L el' sh' t1 o' hh' X
    simp only [cond_eq_ite, Bool.and_eq_true, decide_eq_true_eq] at h
    split at h
    · rename_i hc
      obtain ⟨⟨⟨⟨⟨⟨⟨⟨⟨⟨⟨rfl, rfl⟩, rfl⟩, rfl⟩, rfl⟩, rfl⟩, rfl⟩, rfl⟩, rfl⟩, hX⟩, hn⟩, hi0, hi1⟩ := hc
      refine ⟨_, _, _, h, fun f => ?_⟩
      have hN := loop6C el el' o hh o' hh' L X f i.toNat hX hn (by omega) (0, 0, 0) ⟨Nat.zero_le _, Nat.le_refl _, Nat.le_refl _⟩
      simp only [Nat.zero_add, List.drop_zero] at hN
      rw [Int.toNat_of_nonneg hi0] at hN
      exact CodeOkN.full hN rfl
    · cases h
  · cases h
noncomputable def C6B : CallSem := CallSem.nil.withLoops (one 23 cnt_L)
theorem C6B_sound : C6B.Sound Try.prog := CallSem.withLoops_sound nilS _
theorem C6B_loops : LoopsOk Try.prog C6B.loops L6B := fun x hx L' h' => by
  rw [nodes6B] at hx
  simp only [List.mem_singleton] at hx
  subst hx
  have e : nodeL (one 23 cnt_L) (.loop L6C) = some cnt_L := by kernel_rfl
  rw [show C6B.loops = one 23 cnt_L from rfl, e] at h'
  simp only [Option.some.injEq] at h'
  exact @fixL _ _ _ _ h' @cnt_Lok
abbrev k6B : List Nat := [4, 7, 8, 12]
abbrev t6B : List Nat := [4, 12, 13, 14, 15] ++ (List.range 37).map (· + 90)
def S6B (el el' : TypeId) (o h o' h' : Bool) (L X : List AV) (b : Bool) (f : Nat → Value) (i : Int) : St :=
  ⟨tmF k6B t6B [bo b, .vec 0, .vec 1, i64 i] f 128 0, ⟨[], [some ⟨el, true, c6, 0, o, h, L⟩, some ⟨el', true, c6, 1, o', h', X⟩]⟩⟩
theorem raw6B (el el' : TypeId) (o h o' h' : Bool) (L X : List AV) (b : Bool) (f : Nat → Value) (i : Int) : turnK C6B Try.prog 1 L6B k6B t6B 0 2 (S6B el el' o h o' h' L X b f i) =
    (bif decide (i < (L.length : Int)) then (bif true && decide (X.length = L.length) && decide (L.length ≤ 16384) && (decide (0 ≤ i) && decide (i < (L.length : Int))) then
     (bif ((L.countP (fun x => eqB x (L.getD i.toNat .bad)) : Nat) : Int) != ((X.countP (fun x => eqB x (L.getD i.toNat .bad)) : Nat) : Int) then some (.ret, S6B el el' o h o' h' L X false f i) else some (.normal, S6B el el' o h o' h' L X b f (wi (i + 1)))) else none) else some (.exit 4, S6B el el' o h o' h' L X b f i)) := by kernel_rfl
theorem loop6B (el el' : TypeId) (o h o' h' : Bool) (L X : List AV) (b : Bool) (f : Nat → Value) (hX : X.length = L.length) (hL : L.length ≤ 16384) (hc : (L.all fun y => decide (L.countP (fun x => eqB x y) = X.countP (fun x => eqB x y))) = true) (j : Nat) (hj : j ≤ L.length) :
    CodeOkN 0 2 Try.prog (.loop L6B) (S6B el el' o h o' h' L X b f (j : Nat)) (.exit 4) (S6B el el' o h o' h' L X b f (L.length : Nat)) := by
  refine loop_ok (fun j : Nat => S6B el el' o h o' h' L X b f (j : Nat)) (fun _ => (.exit 4, S6B el el' o h o' h' L X b f (L.length : Nat))) (fun j => if j < L.length then some (j + 1) else none)
    (fun j => L.length - j) (fun j => j ≤ L.length) ?_ ?_ j hj
  · intro j h1 hn
    refine ⟨fun e => (by cases e), ?_⟩
    have hj : j = L.length := by
      by_cases h : j < L.length
      · simp [h] at hn
      · omega
    subst hj
    exact turn_ok C6B_sound mixed C6B_loops rfl rfl (by rw [raw6B, decide_eq_false (by omega), cond_false]; rfl)
  · intro j s' h1 hn
    by_cases h2 : j < L.length
    · simp only [h2, if_true, Option.some.injEq] at hn
      subst hn
      have e1 : wi (((j : Nat) : Int) + 1) = ((j + 1 : Nat) : Int) := by rw [wi_id (by omega) (by omega)]; omega
      refine ⟨by omega, by omega, rfl, turn_ok (n := 1) C6B_sound mixed C6B_loops rfl rfl ?_⟩
      rw [raw6B, e1, decide_eq_true (show ((j : Nat) : Int) < (L.length : Int) by omega), decide_eq_true hX, decide_eq_true hL, decide_eq_true (show (0 : Int) ≤ ((j : Nat) : Int) by omega), Int.toNat_natCast]
      have hq : L.countP (fun x => eqB x (L.getD j .bad)) = X.countP (fun x => eqB x (L.getD j .bad)) := by
        rw [List.all_eq_true] at hc
        rw [List.getD_eq_getElem?_getD, List.getElem?_eq_getElem h2]
        have := hc _ (List.getElem_mem h2)
        simpa using this
      rw [hq]
      simp only [bne_self_eq_false, Bool.and_self, cond_true, cond_false]
      rfl
    · simp [h2] at hn
def turns_L : LSpec where
  n := 128
  nils := []
  keep := k6B
  touch := t6B
  run kv M k := match kv, M with
    | [.lit (.bool b), .vec h0, .vec h1, .lit (.int .i64 i)], ⟨[], [some ⟨el, true, sh, t0, o, h, L⟩, some ⟨el', true, sh', t1, o', h', X⟩]⟩ =>
      bif decide (h0 = 0) && decide (h1 = 1) && decide (t0 = 0) && decide (t1 = 1) && decide (sh = c6) && decide (sh' = c6) && decide (i = 0) && decide (X.length = L.length) && decide (L.length ≤ 16384) && (L.all fun y => decide (L.countP (fun x => eqB x y) = X.countP (fun x => eqB x y))) then
        k (.exit 4) [bo b, .vec 0, .vec 1, i64 (L.length : Nat)] ⟨[], [some ⟨el, true, c6, 0, o, h, L⟩, some ⟨el', true, c6, 1, o', h', X⟩]⟩
      else none
    | _, _ => none
theorem turns_Lok : turns_L.Ok Try.prog (.loop L6B) := by
  intro R kv M k r h
  simp only [turns_L] at h
  split at h
  · rename_i b h0 h1 i el sh t0 o hh L el' sh' t1 o' hh' X
    simp only [cond_eq_ite, Bool.and_eq_true, decide_eq_true_eq] at h
    split at h
    · rename_i hc
      obtain ⟨⟨⟨⟨⟨⟨⟨⟨⟨rfl, rfl⟩, rfl⟩, rfl⟩, rfl⟩, rfl⟩, rfl⟩, hX⟩, hn⟩, hq⟩ := hc
      refine ⟨_, _, _, h, fun f => ?_⟩
      exact CodeOkN.full (loop6B el el' o hh o' hh' L X b f hX hn hq 0 (Nat.zero_le _)) rfl
    · cases h
  · cases h
noncomputable def cU : CallSem := cT0.withLoops (two 11 in_L 19 turns_L)
theorem cU_sound : cU.Sound Try.prog := CallSem.withLoops_sound cT0_sound _
theorem cU_loops : ∀ c, Try.f6.body = some c → LoopsOk Try.prog cU.loops c := loops_of nodes6 fun x hx L' h' => by
  have e0 : nodeL (two 11 in_L 19 turns_L) (.loop L6P) = none := by kernel_rfl
  have e1 : nodeL (two 11 in_L 19 turns_L) (.loop L6A) = some in_L := by kernel_rfl
  have e2 : nodeL (two 11 in_L 19 turns_L) (.loop L6B) = some turns_L := by kernel_rfl
  have e3 : nodeL (two 11 in_L 19 turns_L) (.loop L6C) = none := by kernel_rfl
  rw [show cU.loops = two 11 in_L 19 turns_L from rfl] at h'
  simp only [List.mem_cons, List.not_mem_nil, or_false] at hx
  rcases hx with rfl | rfl | rfl | rfl
  · rw [e0] at h'; cases h'
  · rw [e1] at h'
    simp only [Option.some.injEq] at h'
    exact @fixL _ _ _ _ h' @in_Lok
  · rw [e2] at h'
    simp only [Option.some.injEq] at h'
    exact @fixL _ _ _ _ h' @turns_Lok
  · rw [e3] at h'; cases h'
end Go.Proofs.Ytemhaijcebjhhaa
