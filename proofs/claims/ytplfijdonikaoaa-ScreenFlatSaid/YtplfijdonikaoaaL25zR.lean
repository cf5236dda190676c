/- the document's Polygon, any row (chapter 24). -/
import Derived.Test.YtplfijdonikaoaaL25zP
set_option linter.unusedVariables false
set_option linter.unusedSimpArgs false
namespace Go.Proofs.Ytplfijdonikaoaa
open Go Go.Sx Go.Fx
set_option maxRecDepth 100000
noncomputable def L15 : Code := unl (lpOf Try.f34 1)
theorem nodes15 : nodes (Try.f34.body.getD .skip) = [.loop (unl (lpOf Try.f34 0)), .loop L15] := by kernel_rfl
abbrev k15 : List Nat := [3, 4, 5, 6]
abbrev t15 : List Nat := [5, 6, 7, 8, 9, 10] ++ (List.range 59).map (· + 21)
def S15 (el : TypeId) (own hd : Bool) (L : List AV) (p : Int) (f : Nat → Value) (i : Int) (acc : List AV) : St :=
  ⟨tmF k15 t15 [.vec 0, i64 p, .vec 2, i64 i] f 85 0, ⟨[], [some ⟨el, true, c6, 0, own, hd, L⟩, none, some ⟨25, true, c6, 2, true, true, acc⟩]⟩⟩
theorem raw15 (el : TypeId) (own hd : Bool) (L : List AV) (p : Int) (f : Nat → Value) (i : Int) (acc : List AV) : turnK cC Try.prog 1 L15 k15 t15 0 2 (S15 el own hd L p f i acc) =
      (bif decide (i < (L.length : Int)) then (if 0 ≤ i ∧ i < (L.length : Int) then (if i.toNat < L.length then (if (L.length : Int) = 0 then none else
      (if 0 ≤ (wi (i + 1)).tmod (L.length : Int) ∧ (wi (i + 1)).tmod (L.length : Int) < (L.length : Int) then (if ((wi (i + 1)).tmod (L.length : Int)).toNat < L.length then
      (bif inB (L.getD i.toNat .bad) p then (bif decide ((acc).length + 1 ≤ 65536) && true && true && true && true then (bif inB (L.getD i.toNat .bad) p then (bif !(inB (L.getD ((wi (i + 1)).tmod (L.length : Int)).toNat .bad) p) then (bif okx (L.getD i.toNat .bad) && okx (L.getD ((wi (i + 1)).tmod (L.length : Int)).toNat .bad) then (bif decide ((acc ++ [vx (L.getD i.toNat .bad)]).length + 1 ≤ 65536) && true && true && true && true then some (.normal, S15 el own hd L p f (wi (i + 1)) (acc ++ [vx (L.getD i.toNat .bad)] ++ [cutX (L.getD i.toNat .bad) (L.getD ((wi (i + 1)).tmod (L.length : Int)).toNat .bad) p])) else none) else none) else (bif inB (L.getD ((wi (i + 1)).tmod (L.length : Int)).toNat .bad) p then (bif !(inB (L.getD i.toNat .bad) p) then (bif okx (L.getD ((wi (i + 1)).tmod (L.length : Int)).toNat .bad) && okx (L.getD i.toNat .bad) then (bif decide ((acc ++ [vx (L.getD i.toNat .bad)]).length + 1 ≤ 65536) && true && true && true && true then some (.normal, S15 el own hd L p f (wi (i + 1)) (acc ++ [vx (L.getD i.toNat .bad)] ++ [cutX (L.getD ((wi (i + 1)).tmod (L.length : Int)).toNat .bad) (L.getD i.toNat .bad) p])) else none) else none) else some (.normal, S15 el own hd L p f (wi (i + 1)) (acc ++ [vx (L.getD i.toNat .bad)]))) else some (.normal, S15 el own hd L p f (wi (i + 1)) (acc ++ [vx (L.getD i.toNat .bad)])))) else (bif inB (L.getD ((wi (i + 1)).tmod (L.length : Int)).toNat .bad) p then (bif !(inB (L.getD i.toNat .bad) p) then (bif okx (L.getD ((wi (i + 1)).tmod (L.length : Int)).toNat .bad) && okx (L.getD i.toNat .bad) then (bif decide ((acc ++ [vx (L.getD i.toNat .bad)]).length + 1 ≤ 65536) && true && true && true && true then some (.normal, S15 el own hd L p f (wi (i + 1)) (acc ++ [vx (L.getD i.toNat .bad)] ++ [cutX (L.getD ((wi (i + 1)).tmod (L.length : Int)).toNat .bad) (L.getD i.toNat .bad) p])) else none) else none) else some (.normal, S15 el own hd L p f (wi (i + 1)) (acc ++ [vx (L.getD i.toNat .bad)]))) else some (.normal, S15 el own hd L p f (wi (i + 1)) (acc ++ [vx (L.getD i.toNat .bad)])))) else none) else (bif inB (L.getD i.toNat .bad) p then (bif !(inB (L.getD ((wi (i + 1)).tmod (L.length : Int)).toNat .bad) p) then (bif okx (L.getD i.toNat .bad) && okx (L.getD ((wi (i + 1)).tmod (L.length : Int)).toNat .bad) then (bif decide ((acc).length + 1 ≤ 65536) && true && true && true && true then some (.normal, S15 el own hd L p f (wi (i + 1)) (acc ++ [cutX (L.getD i.toNat .bad) (L.getD ((wi (i + 1)).tmod (L.length : Int)).toNat .bad) p])) else none) else none) else (bif inB (L.getD ((wi (i + 1)).tmod (L.length : Int)).toNat .bad) p then (bif !(inB (L.getD i.toNat .bad) p) then (bif okx (L.getD ((wi (i + 1)).tmod (L.length : Int)).toNat .bad) && okx (L.getD i.toNat .bad) then (bif decide ((acc).length + 1 ≤ 65536) && true && true && true && true then some (.normal, S15 el own hd L p f (wi (i + 1)) (acc ++ [cutX (L.getD ((wi (i + 1)).tmod (L.length : Int)).toNat .bad) (L.getD i.toNat .bad) p])) else none) else none) else some (.normal, S15 el own hd L p f (wi (i + 1)) (acc))) else some (.normal, S15 el own hd L p f (wi (i + 1)) (acc)))) else (bif inB (L.getD ((wi (i + 1)).tmod (L.length : Int)).toNat .bad) p then (bif !(inB (L.getD i.toNat .bad) p) then (bif okx (L.getD ((wi (i + 1)).tmod (L.length : Int)).toNat .bad) && okx (L.getD i.toNat .bad) then (bif decide ((acc).length + 1 ≤ 65536) && true && true && true && true then some (.normal, S15 el own hd L p f (wi (i + 1)) (acc ++ [cutX (L.getD ((wi (i + 1)).tmod (L.length : Int)).toNat .bad) (L.getD i.toNat .bad) p])) else none) else none) else some (.normal, S15 el own hd L p f (wi (i + 1)) (acc))) else some (.normal, S15 el own hd L p f (wi (i + 1)) (acc))))) else none) else none)) else none) else none) else some (.exit 2, S15 el own hd L p f i acc)) := by kernel_rfl
theorem turn15 (el : TypeId) (own hd : Bool) (L : List AV) (p : Int) (f : Nat → Value) (j : Nat) (acc : List AV) (h : j < L.length) (hL : L.length ≤ 16384) (ha : acc.length + 2 ≤ 65536) (hok : L.all okx = true) :
    turnK cC Try.prog 1 L15 k15 t15 0 2 (S15 el own hd L p f (j : Nat) acc) = some (.normal, S15 el own hd L p f ((j + 1 : Nat) : Int) (acc ++ stepX p (L.getD j .bad) (L.getD ((j + 1) % L.length) .bad))) := by
  have e1 : wi (((j : Nat) : Int) + 1) = ((j + 1 : Nat) : Int) := by rw [wi_id (by omega) (by omega)]; omega
  have e2 : ((j + 1 : Nat) : Int).tmod (L.length : Int) = (((j + 1) % L.length : Nat) : Int) := by
    rw [Int.tmod_eq_emod_of_nonneg (by omega)]; omega
  have hm : (j + 1) % L.length < L.length := Nat.mod_lt _ (by omega)
  rw [raw15, e1, e2, Int.toNat_natCast, Int.toNat_natCast, decide_eq_true (by omega), cond_true, if_pos (by omega), if_pos h, if_neg (by omega), if_pos (by omega), if_pos hm]
  have ha1 : okx (L.getD j .bad) = true := okx_at hok h
  have hb1 : okx (L.getD ((j + 1) % L.length) .bad) = true := okx_at hok hm
  generalize L.getD j .bad = a at *
  generalize L.getD ((j + 1) % L.length) .bad = b at *
  rw [ha1, hb1]
  unfold stepX
  cases inB a p <;> cases inB b p <;> simp [show acc.length + 1 ≤ 65536 by omega, show acc.length + 1 + 1 ≤ 65536 by omega]
theorem end15 (el : TypeId) (own hd : Bool) (L : List AV) (p : Int) (f : Nat → Value) (j : Nat) (acc : List AV) (h : L.length ≤ j) :
    turnK cC Try.prog 1 L15 k15 t15 0 2 (S15 el own hd L p f (j : Nat) acc) = some (.exit 2, S15 el own hd L p f (j : Nat) acc) := by
  rw [raw15, decide_eq_false (by omega), cond_false]
theorem loop15 (el : TypeId) (own hd : Bool) (L : List AV) (p : Int) (f : Nat → Value) (hL : L.length ≤ 16384) (hok : L.all okx = true) (s : Nat × List AV) (hi : s.1 ≤ L.length ∧ s.2.length + 2 * (L.length - s.1) ≤ 65536) :
    CodeOkN 0 2 Try.prog (.loop L15) (S15 el own hd L p f ((s.1 : Nat) : Int) s.2) (.exit 2) (S15 el own hd L p f ((L.length : Nat) : Int) (s.2 ++ goX L p (L.length - s.1) s.1)) := by
  refine loop_ok (fun s : Nat × List AV => S15 el own hd L p f ((s.1 : Nat) : Int) s.2) (fun s => (.exit 2, S15 el own hd L p f ((L.length : Nat) : Int) (s.2 ++ goX L p (L.length - s.1) s.1)))
    (fun s => if s.1 < L.length then some (s.1 + 1, s.2 ++ stepX p (L.getD s.1 .bad) (L.getD ((s.1 + 1) % L.length) .bad)) else none)
    (fun s => L.length - s.1) (fun s => s.1 ≤ L.length ∧ s.2.length + 2 * (L.length - s.1) ≤ 65536) ?_ ?_ s hi
  · rintro ⟨j, acc⟩ ⟨h1, h2⟩ hn
    refine ⟨fun e => (by cases e), ?_⟩
    have hj : j = L.length := by
      by_cases h : j < L.length
      · simp [h] at hn
      · simp only at h1; omega
    subst hj
    simp only
    rw [Nat.sub_self]
    simp only [goX, List.append_nil]
    exact turn_ok cC_sound mixed (LoopsOk.no _ _) rfl rfl (end15 el own hd L p f L.length acc (Nat.le_refl _))
  · rintro ⟨j, acc⟩ s' ⟨h1, h2⟩ hn
    by_cases h : j < L.length
    · simp only [h, if_true, Option.some.injEq] at hn
      subst hn
      simp only at h1 h2
      have hs := stepX_len p (L.getD j .bad) (L.getD ((j + 1) % L.length) .bad)
      refine ⟨⟨by simp only; omega, by simp only [List.length_append]; omega⟩, by simp only; omega, ?_, turn_ok cC_sound mixed (LoopsOk.no _ _) rfl rfl (turn15 el own hd L p f j acc h hL (by omega) hok)⟩
      simp only
      rw [show L.length - j = (L.length - (j + 1)) + 1 by omega, goX]
      simp
    · simp [h] at hn
def by_L15 : LSpec where
  n := 85
  nils := [⟨5, 25, true, c6⟩]
  keep := k15
  touch := t15
  run kv M k := match kv, M with
    | [.vec h0, .lit (.int .i64 p), .vec h1, .lit (.int .i64 i)], ⟨[], [some ⟨el, true, sh0, t0, own, hd, L⟩, some ⟨el', true, sh, t1, true, true, []⟩]⟩ =>
      bif decide (h0 = 0) && decide (h1 = 1) && decide (t0 = 0) && decide (t1 = 1) && decide (el' = 25) && decide (sh = c6) && decide (sh0 = c6) && decide (i = 0) && decide (L.length ≤ 16384) && L.all okx then
        k (.exit 2) [.vec 0, i64 p, .vec 2, i64 (L.length : Nat)] ⟨[], [some ⟨el, true, c6, 0, own, hd, L⟩, none, some ⟨25, true, c6, 2, true, true, byX L p⟩]⟩
      else none
    | _, _ => none
theorem by_Lok15 : by_L15.Ok Try.prog (.loop L15) := by
  intro R kv M k r h
  simp only [by_L15] at h
  split at h
  · rename_i h0 p h1 i el sh0 t0 own hd L el' sh t1
    simp only [cond_eq_ite, Bool.and_eq_true, decide_eq_true_eq] at h
    split at h
    · rename_i hc
      obtain ⟨⟨⟨⟨⟨⟨⟨⟨⟨rfl, rfl⟩, rfl⟩, rfl⟩, rfl⟩, rfl⟩, rfl⟩, rfl⟩, hn⟩, hok⟩ := hc
      refine ⟨_, _, _, h, fun f => ?_⟩
      have hN := loop15 el own hd L p f hn hok (0, []) (by simp; omega)
      exact CodeOkN.full (CodeOkN.enter [(5, true)] (st1 := S15 el own hd L p f 0 []) (by kernel_rfl) rfl rfl hN) rfl
    · cases h
  · cases h
theorem fixL {P : Program} {c : Code} {L L' : LSpec} (h : L = L') (hL : L.Ok P c) : L'.Ok P c := h ▸ hL
noncomputable def C15 : CallSem := CallSem.nil.withLoops (one 9 by_L15)
theorem C15_sound : C15.Sound Try.prog := CallSem.withLoops_sound nilS _
theorem C15_loops : ∀ c, Try.f34.body = some c → LoopsOk Try.prog C15.loops c := loops_of nodes15 fun x hx L' h' => by
  rcases List.mem_cons.1 hx with rfl | hx
  · exfalso
    have e : nodeL (one 9 by_L15) (.loop (unl (lpOf Try.f34 0))) = none := by kernel_rfl
    rw [show C15.loops = one 9 by_L15 from rfl, e] at h'
    cases h'
  · simp only [List.mem_singleton] at hx
    subst hx
    have e : nodeL (one 9 by_L15) (.loop L15) = some by_L15 := by kernel_rfl
    rw [show C15.loops = one 9 by_L15 from rfl, e] at h'
    simp only [Option.some.injEq] at h'
    exact @fixL _ _ _ _ h' @by_Lok15
theorem e15 : Enters Try.prog 34 Try.f34 := ⟨Try.func34, by kernel_rfl, by kernel_rfl⟩
theorem rpol_raw (el : TypeId) (own hd : Bool) (L : List AV) : fnK C15 Try.prog 9 Try.f34 [.vec 0] ⟨[], [some ⟨el, true, c6, 0, own, hd, L⟩]⟩ [⟨0, 25, true, c6⟩] =
    (bif true && decide (0 + L.length ≤ 65536) && true then (bif decide (((itX L 0).length : Int) < 3) then some (.vec 1, ⟨[], [some ⟨el, true, c6, 0, own, hd, L⟩, some ⟨25, true, c6, 1, true, true, []⟩]⟩) else (bif decide ((itX L 0).length ≤ 16384) && (itX L 0).all okx then (bif decide (((itX L 1).length : Int) < 3) then some (.vec 1, ⟨[], [some ⟨el, true, c6, 0, own, hd, L⟩, some ⟨25, true, c6, 1, true, true, []⟩]⟩) else (bif decide ((itX L 1).length ≤ 16384) && (itX L 1).all okx then (bif decide (((itX L 2).length : Int) < 3) then some (.vec 1, ⟨[], [some ⟨el, true, c6, 0, own, hd, L⟩, some ⟨25, true, c6, 1, true, true, []⟩]⟩) else (bif decide ((itX L 2).length ≤ 16384) && (itX L 2).all okx then (bif decide (((itX L 3).length : Int) < 3) then some (.vec 1, ⟨[], [some ⟨el, true, c6, 0, own, hd, L⟩, some ⟨25, true, c6, 1, true, true, []⟩]⟩) else (bif decide ((itX L 3).length ≤ 16384) && (itX L 3).all okx then (bif decide (((itX L 4).length : Int) < 3) then some (.vec 1, ⟨[], [some ⟨el, true, c6, 0, own, hd, L⟩, some ⟨25, true, c6, 1, true, true, []⟩]⟩) else (bif decide ((itX L 4).length ≤ 16384) && (itX L 4).all okx then (bif decide (((itX L 5).length : Int) < 3) then some (.vec 1, ⟨[], [some ⟨el, true, c6, 0, own, hd, L⟩, some ⟨25, true, c6, 1, true, true, []⟩]⟩) else (bif decide ((itX L 5).length ≤ 16384) && (itX L 5).all okx then (bif decide (((itX L 6).length : Int) < 3) then some (.vec 1, ⟨[], [some ⟨el, true, c6, 0, own, hd, L⟩, some ⟨25, true, c6, 1, true, true, []⟩]⟩) else (bif decide ((itX L 6).length ≤ 16384) && (itX L 6).all okx then (bif decide (((itX L 7).length : Int) < 3) then some (.vec 1, ⟨[], [some ⟨el, true, c6, 0, own, hd, L⟩, some ⟨25, true, c6, 1, true, true, []⟩]⟩) else some (.vec 1, ⟨[], [some ⟨el, true, c6, 0, own, hd, L⟩, some ⟨25, true, c6, 1, true, true, itX L 7⟩]⟩)) else none)) else none)) else none)) else none)) else none)) else none)) else none)) else none) := by kernel_rfl
def polR (L : List AV) : List AV := if (itX L 0).length < 3 then [] else if (itX L 1).length < 3 then [] else if (itX L 2).length < 3 then [] else if (itX L 3).length < 3 then [] else if (itX L 4).length < 3 then [] else if (itX L 5).length < 3 then [] else if (itX L 6).length < 3 then [] else if (itX L 7).length < 3 then [] else itX L 7
theorem rpol_eq (el : TypeId) (own hd : Bool) (L : List AV) (hl : L.length ≤ 64) (hok : L.all okx = true) : fnK C15 Try.prog 9 Try.f34 [.vec 0] ⟨[], [some ⟨el, true, c6, 0, own, hd, L⟩]⟩ [⟨0, 25, true, c6⟩] = some (.vec 1, ⟨[], [some ⟨el, true, c6, 0, own, hd, L⟩, some ⟨25, true, c6, 1, true, true, polR L⟩]⟩) := by
  rw [rpol_raw, decide_eq_true (show 0 + L.length ≤ 65536 by omega)]
  have hb : ∀ k, k ≤ 6 → (itX L k).length ≤ 16384 := fun k hk => by
    refine Nat.le_trans (itX_len L k) ?_
    have : 2 ^ k ≤ 2 ^ 6 := Nat.pow_le_pow_right (by omega) hk
    calc 2 ^ k * L.length ≤ 2 ^ 6 * 64 := Nat.mul_le_mul this hl
      _ ≤ 16384 := by omega
  rw [decide_eq_true (hb 0 (by omega)), decide_eq_true (hb 1 (by omega)), decide_eq_true (hb 2 (by omega)), decide_eq_true (hb 3 (by omega)), decide_eq_true (hb 4 (by omega)), decide_eq_true (hb 5 (by omega)), decide_eq_true (hb 6 (by omega))]
  rw [okx_it hok, okx_it hok, okx_it hok, okx_it hok, okx_it hok, okx_it hok, okx_it hok]
  simp only [Bool.and_self, cond_true, cond_false]
  unfold polR
  have hx : ∀ (n : Nat) (x y : List AV), (bif decide ((n : Int) < 3) then (some (.vec 1, ⟨[], [some ⟨el, true, c6, 0, own, hd, L⟩, some ⟨25, true, c6, 1, true, true, x⟩]⟩) : Option (AV × Mem)) else some (.vec 1, ⟨[], [some ⟨el, true, c6, 0, own, hd, L⟩, some ⟨25, true, c6, 1, true, true, y⟩]⟩)) = some (.vec 1, ⟨[], [some ⟨el, true, c6, 0, own, hd, L⟩, some ⟨25, true, c6, 1, true, true, if n < 3 then x else y⟩]⟩) := by
    intro n x y
    by_cases h : n < 3
    · rw [if_pos h, decide_eq_true (by omega)]; rfl
    · rw [if_neg h, decide_eq_false (by omega)]; rfl
  simp only [hx]
def rpol_M : MSpec where
  nils := [⟨0, 25, true, c6⟩]
  run args M k := match args, M with
    | [.vec h0], ⟨[], [some ⟨el, true, sh, t0, own, hd, L⟩]⟩ => bif decide (h0 = 0) && decide (t0 = 0) && decide (sh = c6) && decide (L.length ≤ 64) && L.all okx then
        k (.vec 1) ⟨[], [some ⟨el, true, c6, 0, own, hd, L⟩, some ⟨25, true, c6, 1, true, true, polR L⟩]⟩ else none
    | _, _ => none
theorem rpol_Mok15 : rpol_M.Ok Try.prog 34 := by
  intro R args M k r h
  simp only [rpol_M] at h
  split at h
  · rename_i h0 el sh t0 own hd L
    simp only [cond_eq_ite, Bool.and_eq_true, decide_eq_true_eq] at h
    split at h
    · rename_i hc
      obtain ⟨⟨⟨⟨rfl, rfl⟩, rfl⟩, hn⟩, hok⟩ := hc
      exact ⟨_, _, h, fn_ok (C := C15) (n := 9) (ts := [⟨0, 25, true, c6⟩]) C15_sound mixed e15 C15_loops (rpol_eq el own hd L hn hok) rfl⟩
    · cases h
  · cases h
end Go.Proofs.Ytplfijdonikaoaa
