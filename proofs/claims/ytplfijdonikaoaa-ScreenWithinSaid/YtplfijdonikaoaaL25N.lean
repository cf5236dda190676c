/- ScreenWithin's own loop (chapter 25). -/
import Derived.Test.YtplfijdonikaoaaL25W
import Derived.Test.YtplfijdonikaoaaScrF
set_option linter.unusedVariables false
set_option linter.unusedSimpArgs false
namespace Go.Proofs.Ytplfijdonikaoaa
open Go Go.Sx Go.Fx
set_option maxRecDepth 100000
set_option linter.unusedVariables false
set_option linter.unusedSimpArgs false
noncomputable def L4 : Code := unl (lpOf Try.f4 0)
theorem nodes4 : nodes (Try.f4.body.getD .skip) = [.loop L4, .loop (unl (lpOf Try.f4 1))] := by kernel_rfl
abbrev k4 : List Nat := [2, 3, 9, 11]
abbrev t4 : List Nat := [8, 11, 12, 13] ++ (List.range 58).map (· + 30)
def S4 (el : TypeId) (own hd : Bool) (L : List AV) (w h : Int) (f : Nat → Value) (i : Int) : St :=
  ⟨tmF k4 t4 [i64 w, i64 h, .vec 0, i64 i] f 94 0, ⟨[], [some ⟨el, true, c18, 0, own, hd, L⟩]⟩⟩
noncomputable def cNJ : CallSem := CallSem.nil.withJoin
theorem cNJ_sound : cNJ.Sound Try.prog := CallSem.withJoin_sound nilS
theorem raw4 (el : TypeId) (own hd : Bool) (L : List AV) (w h : Int) (f : Nat → Value) (i : Int) : turnK cNJ Try.prog 5 L4 k4 t4 0 1 (S4 el own hd L w h f i) =
    (bif decide (i < (L.length : Int)) then (if 0 ≤ i ∧ i < (L.length : Int) then (if i.toNat < L.length then
      (bif offX (L.getD i.toNat .bad) 0 w h then some (.ret, S4 el own hd L w h f i) else
      (if 0 ≤ i ∧ i < (L.length : Int) then (if i.toNat < L.length then
      (bif offX (L.getD i.toNat .bad) 6 w h then some (.ret, S4 el own hd L w h f i) else
      (if 0 ≤ i ∧ i < (L.length : Int) then (if i.toNat < L.length then
      (bif offX (L.getD i.toNat .bad) 12 w h then some (.ret, S4 el own hd L w h f i) else some (.normal, S4 el own hd L w h f (wi (i + 1))))
      else none) else none)) else none) else none)) else none) else none) else some (.exit 0, S4 el own hd L w h f i)) := by kernel_rfl
theorem turn4 (el : TypeId) (own hd : Bool) (L : List AV) (w h : Int) (f : Nat → Value) (j : Nat) (hj : j < L.length) (hL : L.length ≤ 16384) (ho : onX w h (L.getD j .bad) = true) :
    turnK cNJ Try.prog 5 L4 k4 t4 0 1 (S4 el own hd L w h f (j : Nat)) = some (.normal, S4 el own hd L w h f ((j + 1 : Nat) : Int)) := by
  have e1 : wi (((j : Nat) : Int) + 1) = ((j + 1 : Nat) : Int) := by rw [wi_id (by omega) (by omega)]; omega
  simp only [onX, Bool.and_eq_true, Bool.not_eq_true'] at ho
  have hr : (0 ≤ ((j : Nat) : Int) ∧ ((j : Nat) : Int) < (L.length : Int)) := ⟨by omega, by omega⟩
  rw [raw4, e1, decide_eq_true (by omega), cond_true]
  simp only [Int.toNat_natCast, if_pos hr, if_pos hj, ho.1, ho.2.1, ho.2.2, cond_false]
theorem on_at {w h : Int} {L : List AV} (hL : L.all (onX w h) = true) {j : Nat} (hj : j < L.length) : onX w h (L.getD j .bad) = true := by
  rw [List.all_eq_true] at hL
  have e : L.getD j .bad = L[j] := by simp [List.getD, List.getElem?_eq_getElem hj]
  rw [e]; exact hL _ (List.getElem_mem hj)
theorem loop4 (el : TypeId) (own hd : Bool) (L : List AV) (w h : Int) (f : Nat → Value) (hL : L.length ≤ 16384) (ho : L.all (onX w h) = true) (j : Nat) (hi : j ≤ L.length) :
    CodeOkN 0 1 Try.prog (.loop L4) (S4 el own hd L w h f (j : Nat)) (.exit 0) (S4 el own hd L w h f (L.length : Nat)) := by
  refine loop_ok (fun j : Nat => S4 el own hd L w h f (j : Nat)) (fun _ => (.exit 0, S4 el own hd L w h f (L.length : Nat))) (fun j => if j < L.length then some (j + 1) else none)
    (fun j => L.length - j) (fun j => j ≤ L.length) ?_ ?_ j hi
  · intro j h1 hn
    refine ⟨fun e => (by cases e), ?_⟩
    have hj : j = L.length := by
      by_cases h : j < L.length
      · simp [h] at hn
      · omega
    subst hj
    exact turn_ok cNJ_sound mixed (LoopsOk.no _ _) rfl rfl (by rw [raw4, decide_eq_false (by omega), cond_false]; rfl)
  · intro j s' h1 hn
    by_cases h2 : j < L.length
    · simp only [h2, if_true, Option.some.injEq] at hn
      subst hn
      exact ⟨by omega, by omega, rfl, turn_ok cNJ_sound mixed (LoopsOk.no _ _) rfl rfl (turn4 el own hd L w h f j h2 hL (on_at ho h2))⟩
    · simp [h2] at hn
def wth_L : LSpec where
  n := 94
  nils := []
  keep := k4
  touch := t4
  run kv M k := match kv, M with
    | [.lit (.int .i64 w), .lit (.int .i64 y), .vec h0, .lit (.int .i64 i)], ⟨[], [some ⟨el, true, sh, t0, own, hd, L⟩]⟩ =>
      bif decide (h0 = 0) && decide (t0 = 0) && decide (sh = c18) && decide (i = 0) && L.all (onX w y) && decide (L.length ≤ 16384) then
        k (.exit 0) [i64 w, i64 y, .vec 0, i64 (L.length : Nat)] ⟨[], [some ⟨el, true, c18, 0, own, hd, L⟩]⟩
      else none
    | _, _ => none
theorem wth_Lok : wth_L.Ok Try.prog (.loop L4) := by
  intro R kv M k r h
  simp only [wth_L] at h
  split at h
  · rename_i w y h0 i el sh t0 own hd L
    simp only [cond_eq_ite, Bool.and_eq_true, decide_eq_true_eq] at h
    split at h
    · rename_i hc
      obtain ⟨⟨⟨⟨⟨rfl, rfl⟩, rfl⟩, rfl⟩, ho⟩, hn⟩ := hc
      refine ⟨_, _, _, h, fun f => ?_⟩
      exact CodeOkN.full (loop4 el own hd L w y f hn ho 0 (Nat.zero_le _)) rfl
    · cases h
  · cases h
noncomputable def cN1 : CallSem := cW2.withLoops (one 5 wth_L)
theorem cN1_sound : cN1.Sound Try.prog := CallSem.withLoops_sound cW2_sound _
theorem cN1_loops : ∀ c, Try.f4.body = some c → LoopsOk Try.prog cN1.loops c := loops_of nodes4 fun x hx L' h' => by
  rcases List.mem_cons.1 hx with rfl | hx
  · have e : nodeL (one 5 wth_L) (.loop L4) = some wth_L := by kernel_rfl
    rw [show cN1.loops = one 5 wth_L from rfl, e] at h'
    simp only [Option.some.injEq] at h'
    exact @fixL _ _ _ _ h' @wth_Lok
  · exfalso
    simp only [List.mem_singleton] at hx
    subst hx
    have e : nodeL (one 5 wth_L) (.loop (unl (lpOf Try.f4 1))) = none := by kernel_rfl
    rw [show cN1.loops = one 5 wth_L from rfl, e] at h'
    cases h'
end Go.Proofs.Ytplfijdonikaoaa
