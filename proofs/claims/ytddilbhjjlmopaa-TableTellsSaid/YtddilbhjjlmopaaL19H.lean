/- TableFinest's second loop (chapter 19). -/
import Derived.Test.YtddilbhjjlmopaaL19G
import Derived.Test.YtddilbhjjlmopaaTblE
set_option linter.unusedVariables false
set_option linter.unusedSimpArgs false
namespace Go.Proofs.Ytddilbhjjlmopaa
open Go Go.Sx Go.Fx
set_option maxRecDepth 100000
set_option linter.unusedVariables false
set_option linter.unusedSimpArgs false
noncomputable def L4b : Code := unl (lpOf Try.f4 1)
abbrev k4b : List Nat := [7, 8, 12, 13, 15]
abbrev t4b : List Nat := [6, 15, 16, 17] ++ (List.range 32).map (· + 86)
def S4b (el : TypeId) (o2 hd : Bool) (T : List AV) (d l x y a0 a1 a2 : Int) (f : Nat → Value) (m : Int) : St :=
  ⟨tmF k4b t4b [i64 d, .ptr 0 0, .ptr 1 0, .ptr 2 0, i64 m] f 119 0, ⟨[some ⟨48, true, [i64 d, .vec 0]⟩, some ⟨24, true, [i64 l, i64 x, i64 y]⟩, some ⟨24, true, [i64 a0, i64 a1, i64 a2]⟩], [some ⟨el, false, [.bool], 0, o2, hd, T⟩]⟩⟩
theorem raw4b (el : TypeId) (o2 hd : Bool) (T : List AV) (d l x y a0 a1 a2 : Int) (f : Nat → Value) (m : Int) : turnK cE0 Try.prog 1 L4b k4b t4b 3 1 (S4b el o2 hd T d l x y a0 a1 a2 f m) =
    (bif decide (m ≤ d) then
      (bif decide (m < a0) then (bif decide ((T.length : Int) = cn d) then (bif inT T d l x y m then some (.ret, S4b el o2 hd T d l x y a0 a1 a2 f m) else
          (bif m == a0 then (bif !eqF d l x y m a0 a1 a2 then some (.ret, S4b el o2 hd T d l x y a0 a1 a2 f m) else some (.normal, S4b el o2 hd T d l x y a0 a1 a2 f (wi (m + 1)))) else some (.normal, S4b el o2 hd T d l x y a0 a1 a2 f (wi (m + 1))))) else none) else
          (bif m == a0 then (bif !eqF d l x y m a0 a1 a2 then some (.ret, S4b el o2 hd T d l x y a0 a1 a2 f m) else some (.normal, S4b el o2 hd T d l x y a0 a1 a2 f (wi (m + 1)))) else some (.normal, S4b el o2 hd T d l x y a0 a1 a2 f (wi (m + 1)))))
     else some (.exit 2, S4b el o2 hd T d l x y a0 a1 a2 f m)) := by kernel_rfl
theorem turn4b (el : TypeId) (o2 hd : Bool) (T : List AV) (d l x y a0 a1 a2 : Int) (f : Nat → Value) (m : Int) (hm : m ≤ d) (hm0 : 0 ≤ m) (hd3 : d ≤ 3) (hT : (T.length : Int) = cn d) (hok : okM T d l x y a0 a1 a2 m = true) :
    turnK cE0 Try.prog 1 L4b k4b t4b 3 1 (S4b el o2 hd T d l x y a0 a1 a2 f m) = some (.normal, S4b el o2 hd T d l x y a0 a1 a2 f (m + 1)) := by
  have e1 : wi (m + 1) = m + 1 := wi_id (by omega) (by omega)
  simp only [okM, Bool.and_eq_true, Bool.not_eq_true', Bool.and_eq_false_iff] at hok
  rw [raw4b, e1, decide_eq_true hm, decide_eq_true hT]
  obtain ⟨g1, g2⟩ := hok
  have h2 : ∀ R : Option (Exit × St), (bif m == a0 then (bif !eqF d l x y m a0 a1 a2 then R else some (.normal, S4b el o2 hd T d l x y a0 a1 a2 f (m + 1))) else some (.normal, S4b el o2 hd T d l x y a0 a1 a2 f (m + 1))) = some (.normal, S4b el o2 hd T d l x y a0 a1 a2 f (m + 1)) := by
    intro R
    rcases g2 with g2 | g2
    · rw [g2]; rfl
    · rw [g2]; cases (m == a0) <;> rfl
  rw [h2]
  rcases g1 with g1 | g1
  · rw [g1]; rfl
  · rw [g1]; cases decide (m < a0) <;> rfl
theorem end4b (el : TypeId) (o2 hd : Bool) (T : List AV) (d l x y a0 a1 a2 : Int) (f : Nat → Value) (m : Int) (hm : d < m) : turnK cE0 Try.prog 1 L4b k4b t4b 3 1 (S4b el o2 hd T d l x y a0 a1 a2 f m) = some (.exit 2, S4b el o2 hd T d l x y a0 a1 a2 f m) := by
  rw [raw4b, decide_eq_false (by omega), cond_false]
theorem okA_at {T : List AV} {d l x y a0 a1 a2 : Int} : ∀ (n : Nat) (m q : Int), okA T d l x y a0 a1 a2 n m = true → m ≤ q → q < m + n → okM T d l x y a0 a1 a2 q = true
  | 0, m, q, _, _, _ => by omega
  | n + 1, m, q, h, h1, h2 => by
    simp only [okA, Bool.and_eq_true] at h
    by_cases e : q = m
    · rw [e]; exact h.1
    · exact okA_at n (m + 1) q h.2 (by omega) (by omega)
theorem loop4b (el : TypeId) (o2 hd : Bool) (T : List AV) (d l x y a0 a1 a2 : Int) (f : Nat → Value) (hd3 : d ≤ 3) (hT : (T.length : Int) = cn d) (m0 : Int) (hm0 : 0 ≤ m0) (hok : okA T d l x y a0 a1 a2 (d - m0 + 1).toNat m0 = true) (s : Nat) (hs : s ≤ (d - m0 + 1).toNat) :
    CodeOkN 3 1 Try.prog (.loop L4b) (S4b el o2 hd T d l x y a0 a1 a2 f (m0 + (s : Nat))) (.exit 2) (S4b el o2 hd T d l x y a0 a1 a2 f (m0 + ((d - m0 + 1).toNat : Nat))) := by
  refine loop_ok (fun s : Nat => S4b el o2 hd T d l x y a0 a1 a2 f (m0 + (s : Nat))) (fun _ => (.exit 2, S4b el o2 hd T d l x y a0 a1 a2 f (m0 + ((d - m0 + 1).toNat : Nat)))) (fun s => if s < (d - m0 + 1).toNat then some (s + 1) else none)
    (fun s => (d - m0 + 1).toNat - s) (fun s => s ≤ (d - m0 + 1).toNat) ?_ ?_ s hs
  · intro s h1 hn
    refine ⟨fun e => (by cases e), ?_⟩
    have hj : s = (d - m0 + 1).toNat := by
      by_cases h : s < (d - m0 + 1).toNat
      · simp [h] at hn
      · omega
    subst hj
    exact turn_ok cE0_sound mixed (LoopsOk.no _ _) rfl rfl (end4b el o2 hd T d l x y a0 a1 a2 f _ (by omega))
  · intro s s' h1 hn
    by_cases h2 : s < (d - m0 + 1).toNat
    · simp only [h2, if_true, Option.some.injEq] at hn
      subst hn
      refine ⟨by omega, by omega, rfl, ?_⟩
      have ht := turn4b el o2 hd T d l x y a0 a1 a2 f (m0 + (s : Nat)) (by omega) (by omega) hd3 hT (okA_at _ m0 _ hok (by omega) (by omega))
      rw [show m0 + (s : Nat) + 1 = m0 + ((s + 1 : Nat) : Int) by omega] at ht
      exact turn_ok cE0_sound mixed (LoopsOk.no _ _) rfl rfl ht
    · simp [h2] at hn
def fin_L4b : LSpec where
  n := 119
  nils := []
  keep := k4b
  touch := t4b
  run kv M k := match kv, M with
    | [.lit (.int .i64 d), .ptr b0 0, .ptr b1 0, .ptr b2 0, .lit (.int .i64 m)], ⟨[some ⟨48, true, [.lit (.int .i64 d'), .vec q]⟩, some ⟨24, true, [.lit (.int .i64 l), .lit (.int .i64 x), .lit (.int .i64 y)]⟩, some ⟨24, true, [.lit (.int .i64 a0), .lit (.int .i64 a1), .lit (.int .i64 a2)]⟩], [some ⟨el, false, sh, t0, o2, hd, T⟩]⟩ =>
      bif decide (b0 = 0) && decide (b1 = 1) && decide (b2 = 2) && decide (q = 0) && decide (t0 = 0) && decide (sh = [.bool]) && decide (d' = d) && (dB d && decide (0 ≤ m) && decide ((T.length : Int) = cn d) && okA T d l x y a0 a1 a2 (d - m + 1).toNat m) then
        k (.exit 2) [i64 d, .ptr 0 0, .ptr 1 0, .ptr 2 0, i64 (m + ((d - m + 1).toNat : Nat))] ⟨[some ⟨48, true, [i64 d, .vec 0]⟩, some ⟨24, true, [i64 l, i64 x, i64 y]⟩, some ⟨24, true, [i64 a0, i64 a1, i64 a2]⟩], [some ⟨el, false, [.bool], 0, o2, hd, T⟩]⟩
      else none
    | _, _ => none
theorem fin_Lok4b : fin_L4b.Ok Try.prog (.loop L4b) := by
  intro R kv M k r h
  simp only [fin_L4b] at h
  split at h
  · rename_i d b0 b1 b2 m d' q l x y a0 a1 a2 el sh t0 o2 hd T
    simp only [cond_eq_ite, Bool.and_eq_true, decide_eq_true_eq, dB] at h
    split at h
    · rename_i hc
      obtain ⟨⟨⟨⟨⟨⟨⟨rfl, rfl⟩, rfl⟩, rfl⟩, rfl⟩, rfl⟩, rfl⟩, ⟨⟨hd0, hm⟩, hT⟩, hok⟩ := hc
      refine ⟨_, _, _, h, fun f => ?_⟩
      have hN := loop4b el o2 hd T d' l x y a0 a1 a2 f hd0.2 hT m hm hok 0 (Nat.zero_le _)
      rw [show m + ((0 : Nat) : Int) = m by omega] at hN
      exact CodeOkN.full hN rfl
    · cases h
  · cases h
noncomputable def cF : CallSem := (cF0.withSplit fun o => bif decide (o.dst = some 7) then some [0, 1, 2, 3] else none).withLoops (two 9 set_L4 18 fin_L4b)
theorem cF_sound : cF.Sound Try.prog := CallSem.withLoops_sound (CallSem.withSplit_sound cF0_sound _) _
theorem nodes4 : nodes (Try.f4.body.getD .skip) = [.loop L4, .loop L4b] := by kernel_rfl
theorem fixL {P : Program} {c : Code} {L L' : LSpec} (h : L = L') (hL : L.Ok P c) : L'.Ok P c := h ▸ hL
theorem cF_loops : ∀ c, Try.f4.body = some c → LoopsOk Try.prog cF.loops c := loops_of nodes4 fun x hx L' h' => by
  rcases List.mem_cons.1 hx with rfl | hx
  · have e : nodeL (two 9 set_L4 18 fin_L4b) (.loop L4) = some set_L4 := by kernel_rfl
    rw [show cF.loops = two 9 set_L4 18 fin_L4b from rfl, e] at h'
    simp only [Option.some.injEq] at h'
    exact @fixL _ _ _ _ h' @set_Lok4
  · simp only [List.mem_singleton] at hx
    subst hx
    have e : nodeL (two 9 set_L4 18 fin_L4b) (.loop L4b) = some fin_L4b := by kernel_rfl
    rw [show cF.loops = two 9 set_L4 18 fin_L4b from rfl, e] at h'
    simp only [Option.some.injEq] at h'
    exact @fixL _ _ _ _ h' @fin_Lok4b
end Go.Proofs.Ytddilbhjjlmopaa
