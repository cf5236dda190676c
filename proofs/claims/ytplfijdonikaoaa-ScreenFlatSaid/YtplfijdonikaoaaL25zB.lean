/- A row cut by a plane: clip's by, any row (chapter 24). -/
import Derived.Test.YtplfijdonikaoaaL25zE
import Derived.Test.YtplfijdonikaoaaClipD
import Derived.Test.YtplfijdonikaoaaSxThree
set_option linter.unusedVariables false
set_option linter.unusedSimpArgs false
namespace Go.Proofs.Ytplfijdonikaoaa
open Go Go.Sx Go.Fx
set_option maxRecDepth 100000
def c6 : List CK := [.int .i64, .int .i64, .int .i64, .int .i64, .int .i64, .int .i64]
noncomputable def L21 : Code := unl (lpOf Try.f41 0)
theorem nodes21 : nodes (Try.f41.body.getD .skip) = [.loop L21] := by kernel_rfl
abbrev k21 : List Nat := [0, 1, 4, 10, 11, 12]
abbrev t21 : List Nat := [4, 12, 5, 6, 7, 8, 9] ++ (List.range 54).map (· + 13)
def S21 (el : TypeId) (own hd : Bool) (L : List AV) (p : Int) (f : Nat → Value) (n i : Int) (acc : List AV) : St :=
  ⟨tmF k21 t21 [.vec 0, i64 p, .vec 2, .vec 0, i64 n, i64 i] f 68 0, ⟨[], [some ⟨el, true, c6, 0, own, hd, L⟩, none, some ⟨25, true, c6, 2, true, true, acc⟩]⟩⟩
theorem raw21 (el : TypeId) (own hd : Bool) (L : List AV) (p : Int) (f : Nat → Value) (n i : Int) (acc : List AV) : turnK cC Try.prog 1 L21 k21 t21 0 2 (S21 el own hd L p f n i acc) =
      (bif decide (i < n) then (if 0 ≤ i ∧ i < (L.length : Int) then (if i.toNat < L.length then (if (L.length : Int) = 0 then none else
      (if 0 ≤ (wi (i + 1)).tmod (L.length : Int) ∧ (wi (i + 1)).tmod (L.length : Int) < (L.length : Int) then (if ((wi (i + 1)).tmod (L.length : Int)).toNat < L.length then
      (bif inB (L.getD i.toNat .bad) p then (bif decide ((acc).length + 1 ≤ 65536) && true && true && true && true then (bif inB (L.getD i.toNat .bad) p then (bif !(inB (L.getD ((wi (i + 1)).tmod (L.length : Int)).toNat .bad) p) then (bif okx (L.getD i.toNat .bad) && okx (L.getD ((wi (i + 1)).tmod (L.length : Int)).toNat .bad) then (bif decide ((acc ++ [vx (L.getD i.toNat .bad)]).length + 1 ≤ 65536) && true && true && true && true then some (.normal, S21 el own hd L p f n (wi (i + 1)) (acc ++ [vx (L.getD i.toNat .bad)] ++ [cutX (L.getD i.toNat .bad) (L.getD ((wi (i + 1)).tmod (L.length : Int)).toNat .bad) p])) else none) else none) else (bif inB (L.getD ((wi (i + 1)).tmod (L.length : Int)).toNat .bad) p then (bif !(inB (L.getD i.toNat .bad) p) then (bif okx (L.getD ((wi (i + 1)).tmod (L.length : Int)).toNat .bad) && okx (L.getD i.toNat .bad) then (bif decide ((acc ++ [vx (L.getD i.toNat .bad)]).length + 1 ≤ 65536) && true && true && true && true then some (.normal, S21 el own hd L p f n (wi (i + 1)) (acc ++ [vx (L.getD i.toNat .bad)] ++ [cutX (L.getD ((wi (i + 1)).tmod (L.length : Int)).toNat .bad) (L.getD i.toNat .bad) p])) else none) else none) else some (.normal, S21 el own hd L p f n (wi (i + 1)) (acc ++ [vx (L.getD i.toNat .bad)]))) else some (.normal, S21 el own hd L p f n (wi (i + 1)) (acc ++ [vx (L.getD i.toNat .bad)])))) else (bif inB (L.getD ((wi (i + 1)).tmod (L.length : Int)).toNat .bad) p then (bif !(inB (L.getD i.toNat .bad) p) then (bif okx (L.getD ((wi (i + 1)).tmod (L.length : Int)).toNat .bad) && okx (L.getD i.toNat .bad) then (bif decide ((acc ++ [vx (L.getD i.toNat .bad)]).length + 1 ≤ 65536) && true && true && true && true then some (.normal, S21 el own hd L p f n (wi (i + 1)) (acc ++ [vx (L.getD i.toNat .bad)] ++ [cutX (L.getD ((wi (i + 1)).tmod (L.length : Int)).toNat .bad) (L.getD i.toNat .bad) p])) else none) else none) else some (.normal, S21 el own hd L p f n (wi (i + 1)) (acc ++ [vx (L.getD i.toNat .bad)]))) else some (.normal, S21 el own hd L p f n (wi (i + 1)) (acc ++ [vx (L.getD i.toNat .bad)])))) else none) else (bif inB (L.getD i.toNat .bad) p then (bif !(inB (L.getD ((wi (i + 1)).tmod (L.length : Int)).toNat .bad) p) then (bif okx (L.getD i.toNat .bad) && okx (L.getD ((wi (i + 1)).tmod (L.length : Int)).toNat .bad) then (bif decide ((acc).length + 1 ≤ 65536) && true && true && true && true then some (.normal, S21 el own hd L p f n (wi (i + 1)) (acc ++ [cutX (L.getD i.toNat .bad) (L.getD ((wi (i + 1)).tmod (L.length : Int)).toNat .bad) p])) else none) else none) else (bif inB (L.getD ((wi (i + 1)).tmod (L.length : Int)).toNat .bad) p then (bif !(inB (L.getD i.toNat .bad) p) then (bif okx (L.getD ((wi (i + 1)).tmod (L.length : Int)).toNat .bad) && okx (L.getD i.toNat .bad) then (bif decide ((acc).length + 1 ≤ 65536) && true && true && true && true then some (.normal, S21 el own hd L p f n (wi (i + 1)) (acc ++ [cutX (L.getD ((wi (i + 1)).tmod (L.length : Int)).toNat .bad) (L.getD i.toNat .bad) p])) else none) else none) else some (.normal, S21 el own hd L p f n (wi (i + 1)) (acc))) else some (.normal, S21 el own hd L p f n (wi (i + 1)) (acc)))) else (bif inB (L.getD ((wi (i + 1)).tmod (L.length : Int)).toNat .bad) p then (bif !(inB (L.getD i.toNat .bad) p) then (bif okx (L.getD ((wi (i + 1)).tmod (L.length : Int)).toNat .bad) && okx (L.getD i.toNat .bad) then (bif decide ((acc).length + 1 ≤ 65536) && true && true && true && true then some (.normal, S21 el own hd L p f n (wi (i + 1)) (acc ++ [cutX (L.getD ((wi (i + 1)).tmod (L.length : Int)).toNat .bad) (L.getD i.toNat .bad) p])) else none) else none) else some (.normal, S21 el own hd L p f n (wi (i + 1)) (acc))) else some (.normal, S21 el own hd L p f n (wi (i + 1)) (acc))))) else none) else none)) else none) else none) else some (.exit 0, S21 el own hd L p f n i acc)) := by kernel_rfl
theorem turn21 (el : TypeId) (own hd : Bool) (L : List AV) (p : Int) (f : Nat → Value) (j : Nat) (acc : List AV) (h : j < L.length) (hL : L.length ≤ 16384) (ha : acc.length + 2 ≤ 65536) (hok : L.all okx = true) :
    turnK cC Try.prog 1 L21 k21 t21 0 2 (S21 el own hd L p f (L.length : Nat) (j : Nat) acc) = some (.normal, S21 el own hd L p f (L.length : Nat) ((j + 1 : Nat) : Int) (acc ++ stepX p (L.getD j .bad) (L.getD ((j + 1) % L.length) .bad))) := by
  have e1 : wi (((j : Nat) : Int) + 1) = ((j + 1 : Nat) : Int) := by rw [wi_id (by omega) (by omega)]; omega
  have e2 : ((j + 1 : Nat) : Int).tmod (L.length : Int) = (((j + 1) % L.length : Nat) : Int) := by
    rw [Int.tmod_eq_emod_of_nonneg (by omega)]; omega
  have hm : (j + 1) % L.length < L.length := Nat.mod_lt _ (by omega)
  rw [raw21, e1, e2, Int.toNat_natCast, Int.toNat_natCast, decide_eq_true (by omega), cond_true, if_pos (by omega), if_pos h, if_neg (by omega), if_pos (by omega), if_pos hm]
  have ha1 : okx (L.getD j .bad) = true := okx_at hok h
  have hb1 : okx (L.getD ((j + 1) % L.length) .bad) = true := okx_at hok hm
  generalize L.getD j .bad = a at *
  generalize L.getD ((j + 1) % L.length) .bad = b at *
  rw [ha1, hb1]
  unfold stepX
  cases inB a p <;> cases inB b p <;> simp [show acc.length + 1 ≤ 65536 by omega, show acc.length + 1 + 1 ≤ 65536 by omega]
theorem end21 (el : TypeId) (own hd : Bool) (L : List AV) (p : Int) (f : Nat → Value) (j : Nat) (acc : List AV) (h : L.length ≤ j) :
    turnK cC Try.prog 1 L21 k21 t21 0 2 (S21 el own hd L p f (L.length : Nat) (j : Nat) acc) = some (.exit 0, S21 el own hd L p f (L.length : Nat) (j : Nat) acc) := by
  rw [raw21, decide_eq_false (by omega), cond_false]
theorem loop21 (el : TypeId) (own hd : Bool) (L : List AV) (p : Int) (f : Nat → Value) (hL : L.length ≤ 16384) (hok : L.all okx = true) (s : Nat × List AV) (hi : s.1 ≤ L.length ∧ s.2.length + 2 * (L.length - s.1) ≤ 65536) :
    CodeOkN 0 2 Try.prog (.loop L21) (S21 el own hd L p f (L.length : Nat) ((s.1 : Nat) : Int) s.2) (.exit 0) (S21 el own hd L p f (L.length : Nat) ((L.length : Nat) : Int) (s.2 ++ goX L p (L.length - s.1) s.1)) := by
  refine loop_ok (fun s : Nat × List AV => S21 el own hd L p f (L.length : Nat) ((s.1 : Nat) : Int) s.2) (fun s => (.exit 0, S21 el own hd L p f (L.length : Nat) ((L.length : Nat) : Int) (s.2 ++ goX L p (L.length - s.1) s.1)))
    (fun s => if s.1 < L.length then some (s.1 + 1, s.2 ++ stepX p (L.getD s.1 .bad) (L.getD ((s.1 + 1) % L.length) .bad)) else none)
    (fun s => L.length - s.1) (fun s => s.1 ≤ L.length ∧ s.2.length + 2 * (L.length - s.1) ≤ 65536) ?_ ?_ s hi
  · rintro ⟨j, acc⟩ ⟨h1, h2⟩ hn
    refine ⟨fun e => (by cases e), ?_⟩
    have hj : j = L.length := by
      by_cases h : j < L.length
      · simp [h] at hn
      · simp only at h1; omega
    subst hj
    simp only
    rw [Nat.sub_self]
    simp only [goX, List.append_nil]
    exact turn_ok cC_sound mixed (LoopsOk.no _ _) rfl rfl (end21 el own hd L p f L.length acc (Nat.le_refl _))
  · rintro ⟨j, acc⟩ s' ⟨h1, h2⟩ hn
    by_cases h : j < L.length
    · simp only [h, if_true, Option.some.injEq] at hn
      subst hn
      simp only at h1 h2
      have hs := stepX_len p (L.getD j .bad) (L.getD ((j + 1) % L.length) .bad)
      refine ⟨⟨by simp only; omega, by simp only [List.length_append]; omega⟩, by simp only; omega, ?_, turn_ok cC_sound mixed (LoopsOk.no _ _) rfl rfl (turn21 el own hd L p f j acc h hL (by omega) hok)⟩
      simp only
      rw [show L.length - j = (L.length - (j + 1)) + 1 by omega, goX]
      simp
    · simp [h] at hn
def by_L21 : LSpec where
  n := 68
  nils := [⟨4, 25, true, c6⟩]
  keep := k21
  touch := t21
  run kv M k := match kv, M with
    | [.vec h0, .lit (.int .i64 p), .vec h1, .vec h2, .lit (.int .i64 n), .lit (.int .i64 i)], ⟨[], [some ⟨el, true, sh0, t0, own, hd, L⟩, some ⟨el', true, sh, t1, true, true, []⟩]⟩ =>
      bif decide (h0 = 0) && decide (h1 = 1) && decide (h2 = 0) && decide (t0 = 0) && decide (t1 = 1) && decide (el' = 25) && decide (sh = c6) && decide (sh0 = c6) && (decide (n = (L.length : Int)) && decide (i = 0)) && decide (L.length ≤ 16384) && L.all okx then
        k (.exit 0) [.vec 0, i64 p, .vec 2, .vec 0, i64 (L.length : Nat), i64 (L.length : Nat)] ⟨[], [some ⟨el, true, c6, 0, own, hd, L⟩, none, some ⟨25, true, c6, 2, true, true, byX L p⟩]⟩
      else none
    | _, _ => none
theorem by_Lok21 : by_L21.Ok Try.prog (.loop L21) := by
  intro R kv M k r h
  simp only [by_L21] at h
  split at h
  · rename_i h0 p h1 h2 n i el sh0 t0 own hd L el' sh t1
    simp only [cond_eq_ite, Bool.and_eq_true, decide_eq_true_eq] at h
    split at h
    · rename_i hc
      obtain ⟨⟨⟨⟨⟨⟨⟨⟨⟨⟨rfl, rfl⟩, rfl⟩, rfl⟩, rfl⟩, rfl⟩, rfl⟩, rfl⟩, rfl, rfl⟩, hn⟩, hok⟩ := hc
      refine ⟨_, _, _, h, fun f => ?_⟩
      have hN := loop21 el own hd L p f hn hok (0, []) (by simp; omega)
      exact CodeOkN.full (CodeOkN.enter [(4, true)] (st1 := S21 el own hd L p f (L.length : Nat) 0 []) (by kernel_rfl) rfl rfl hN) rfl
    · cases h
  · cases h
noncomputable def C21 : CallSem := CallSem.nil.withLoops (one 2 by_L21)
theorem C21_sound : C21.Sound Try.prog := CallSem.withLoops_sound nilS _
theorem C21_loops : ∀ c, Try.f41.body = some c → LoopsOk Try.prog C21.loops c := one_ok nodes21 by_Lok21
theorem by_eq21 (el : TypeId) (own hd : Bool) (L : List AV) (p : Int) : fnK C21 Try.prog 2 Try.f41 [.vec 0, i64 p] ⟨[], [some ⟨el, true, c6, 0, own, hd, L⟩]⟩ [⟨0, 25, true, c6⟩] =
    (bif decide (L.length ≤ 16384) && L.all okx then some (.vec 1, ⟨[], [some ⟨el, true, c6, 0, own, hd, L⟩, some ⟨25, true, c6, 1, true, true, byX L p⟩]⟩) else none) := by
  have e : fnK C21 Try.prog 2 Try.f41 [.vec 0, i64 p] ⟨[], [some ⟨el, true, c6, 0, own, hd, L⟩]⟩ [⟨0, 25, true, c6⟩] =
    (bif true && (decide ((L.length : Int) = (L.length : Int)) && true) && decide (L.length ≤ 16384) && L.all okx then some (.vec 1, ⟨[], [some ⟨el, true, c6, 0, own, hd, L⟩, some ⟨25, true, c6, 1, true, true, byX L p⟩]⟩) else none) := by kernel_rfl
  rw [e]; simp
def by_M : MSpec where
  nils := [⟨0, 25, true, c6⟩]
  run args M k := match args, M with
    | [.vec h0, .lit (.int .i64 p)], ⟨[], [some ⟨el, true, sh, t0, own, hd, L⟩]⟩ => bif decide (h0 = 0) && decide (t0 = 0) && decide (sh = c6) && decide (L.length ≤ 16384) && L.all okx then
        k (.vec 1) ⟨[], [some ⟨el, true, c6, 0, own, hd, L⟩, some ⟨25, true, c6, 1, true, true, byX L p⟩]⟩ else none
    | _, _ => none
theorem by_Mok : by_M.Ok Try.prog 41 := by
  intro R args M k r h
  simp only [by_M] at h
  split at h
  · rename_i h0 p el sh t0 own hd L
    simp only [cond_eq_ite, Bool.and_eq_true, decide_eq_true_eq] at h
    split at h
    · rename_i hc
      obtain ⟨⟨⟨⟨rfl, rfl⟩, rfl⟩, hn⟩, hok⟩ := hc
      refine ⟨_, _, h, fn_ok (C := C21) (n := 2) (ts := [⟨0, 25, true, c6⟩]) C21_sound mixed e21 C21_loops ?_ rfl⟩
      rw [by_eq21, decide_eq_true hn, hok]; rfl
    · cases h
  · cases h
end Go.Proofs.Ytplfijdonikaoaa
