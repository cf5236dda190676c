/- HueBack's own loop: two rows that are alike. -/
import Derived.Test.YtpgheiegpcggbaaR1T
set_option linter.unusedVariables false
set_option linter.unusedSimpArgs false
namespace Go.Proofs.Ytpgheiegpcggbaa
open Go Go.Sx
set_option maxRecDepth 100000

noncomputable def L8 : Code := unl (lpOf Try.f8 0)
theorem nodes8 : nodes (Try.f8.body.getD .skip) = [.loop L8] := by kernel_rfl
abbrev k8 : List Nat := [0, 6, 10, 4]
abbrev t8 : List Nat := [4, 10, 60, 61, 62, 63, 64, 65, 66, 67, 68, 69, 70, 71, 72, 73, 74]
def S8 (el el' : TypeId) (o h o' h' : Bool) (L X : List AV) (b : Bool) (f : Nat → Value) (i : Int) : St :=
  ⟨tmF k8 t8 [.vec 0, .vec 1, i8 i, bo b] f 76 0, ⟨[], [some ⟨el, true, c4, 0, o, h, L⟩, some ⟨el', true, c4, 1, o', h', X⟩]⟩⟩
theorem raw8 (el el' : TypeId) (o h o' h' : Bool) (L X : List AV) (b : Bool) (f : Nat → Value) (i : Int) :
    turnK CallSem.nil Try.prog 1 L8 k8 t8 0 2 (S8 el el' o h o' h' L X b f i) =
      (bif decide (i < (L.length : Int)) then
       (if 0 ≤ i ∧ i < (X.length : Int) then (if i.toNat < X.length then
       (if 0 ≤ i ∧ i < (L.length : Int) then (if i.toNat < L.length then
       (bif !(cI (X.getD i.toNat .bad) 0 == cI (L.getD i.toNat .bad) 0 && (cI (X.getD i.toNat .bad) 1 == cI (L.getD i.toNat .bad) 1 && (cI (X.getD i.toNat .bad) 2 == cI (L.getD i.toNat .bad) 2 && (cI (X.getD i.toNat .bad) 3 == cI (L.getD i.toNat .bad) 3 && true))))
        then some (.ret, S8 el el' o h o' h' L X false f i)
        else some (.normal, S8 el el' o h o' h' L X b f (W (i + 1)))) else none) else none) else none) else none) else some (.exit 0, S8 el el' o h o' h' L X b f i)) := by kernel_rfl
def c4I (x : AV) : List Int := [cI x 0, cI x 1, cI x 2, cI x 3]
theorem turn8 (el el' : TypeId) (o h o' h' : Bool) (L X : List AV) (b : Bool) (f : Nat → Value) (j : Nat) (hX : X.length = L.length) (hL : L.length ≤ 16384) (hj : j < L.length) (he : c4I (X.getD j .bad) = c4I (L.getD j .bad)) :
    turnK CallSem.nil Try.prog 1 L8 k8 t8 0 2 (S8 el el' o h o' h' L X b f (j : Nat)) = some (.normal, S8 el el' o h o' h' L X b f ((j + 1 : Nat) : Int)) := by
  have e1 : W (((j : Nat) : Int) + 1) = ((j + 1 : Nat) : Int) := by rw [W_id (by omega) (by omega)]; omega
  simp only [c4I, List.cons.injEq, and_true] at he
  rw [raw8, e1, decide_eq_true (by omega), cond_true, if_pos (by omega), if_pos (by rw [Int.toNat_natCast]; omega), if_pos (by omega), if_pos (by rw [Int.toNat_natCast]; omega)]
  rw [Int.toNat_natCast, he.1, he.2.1, he.2.2.1, he.2.2.2]
  simp
theorem loop8 (el el' : TypeId) (o h o' h' : Bool) (L X : List AV) (b : Bool) (f : Nat → Value) (hX : X.map c4I = L.map c4I) (hL : L.length ≤ 16384) (j : Nat) (hi : j ≤ L.length) :
    CodeOkN 0 2 Try.prog (.loop L8) (S8 el el' o h o' h' L X b f (j : Nat)) (.exit 0) (S8 el el' o h o' h' L X b f (L.length : Nat)) := by
  have hl : X.length = L.length := by have := congrArg List.length hX; simpa using this
  refine loop_ok (fun j : Nat => S8 el el' o h o' h' L X b f (j : Nat)) (fun _ => (.exit 0, S8 el el' o h o' h' L X b f (L.length : Nat))) (fun j => if j < L.length then some (j + 1) else none)
    (fun j => L.length - j) (fun j => j ≤ L.length) ?_ ?_ j hi
  · intro j h1 hn
    refine ⟨fun e => (by cases e), ?_⟩
    have hj : j = L.length := by
      by_cases h : j < L.length
      · simp [h] at hn
      · omega
    subst hj
    exact turn_ok nilS mixed (LoopsOk.no _ _) rfl rfl (by rw [raw8, decide_eq_false (by omega), cond_false]; rfl)
  · intro j s' h1 hn
    by_cases h2 : j < L.length
    · simp only [h2, if_true, Option.some.injEq] at hn
      subst hn
      refine ⟨by omega, by omega, rfl, turn_ok nilS mixed (LoopsOk.no _ _) rfl rfl (turn8 el el' o h o' h' L X b f j hl hL h2 ?_)⟩
      have := congrArg (fun l => l[j]?) hX
      simp only [List.getElem?_map, List.getElem?_eq_getElem h2, List.getElem?_eq_getElem (show j < X.length by omega), Option.map_some, Option.some.injEq] at this
      simpa [List.getD, List.getElem?_eq_getElem h2, List.getElem?_eq_getElem (show j < X.length by omega)] using this
    · simp [h2] at hn
def same_L : LSpec where
  n := 76
  nils := []
  keep := k8
  touch := t8
  run kv M k := match kv, M with
    | [.vec h0, .vec h1, .lit (.int .i64 i), .lit (.bool b)], ⟨[], [some ⟨el, true, sh, t0, o, h, L⟩, some ⟨el', true, sh', t1, o', h', X⟩]⟩ =>
      bif decide (h0 = 0) && decide (h1 = 1) && decide (t0 = 0) && decide (t1 = 1) && decide (sh = c4) && decide (sh' = c4) && decide (i = 0) && decide (X.map c4I = L.map c4I) && decide (L.length ≤ 16384) then
        k (.exit 0) [.vec 0, .vec 1, i8 (L.length : Nat), bo b] ⟨[], [some ⟨el, true, c4, 0, o, h, L⟩, some ⟨el', true, c4, 1, o', h', X⟩]⟩
      else none
    | _, _ => none
theorem same_Lok : same_L.Ok Try.prog (.loop L8) := by
  intro R kv M k r h
  simp only [same_L] at h
  split at h
  · rename_i h0 h1 i b el sh t0 o hh L el' sh' t1 o' hh' X
    simp only [cond_eq_ite, Bool.and_eq_true, decide_eq_true_eq] at h
    split at h
    · rename_i hc
      obtain ⟨⟨⟨⟨⟨⟨⟨⟨rfl, rfl⟩, rfl⟩, rfl⟩, rfl⟩, rfl⟩, rfl⟩, hX⟩, hn⟩ := hc
      refine ⟨_, _, _, h, fun f => ?_⟩
      exact CodeOkN.full (loop8 el el' o hh o' hh' L X b f hX hn 0 (Nat.zero_le _)) rfl
    · cases h
  · cases h
noncomputable def chb : CallSem := chm.withLoops (one 9 same_L)
theorem chb_sound : chb.Sound Try.prog := CallSem.withLoops_sound chm_sound _
theorem chb_loops : ∀ c, Try.f8.body = some c → LoopsOk Try.prog chb.loops c := one_ok nodes8 same_Lok

/-! bytes of colours, read again -/
theorem flat_ints (L : List AV) : (flat L).map AV.getInt = L.flatMap c4I := by
  induction L with
  | nil => rfl
  | cons x L ih => rw [flat_cons, List.map_append, ih]; rfl
theorem quads_flat (L : List AV) : quads (L.flatMap c4I) = L.map fun x => col (cI x 0) (cI x 1) (cI x 2) (cI x 3) := by
  induction L with
  | nil => rfl
  | cons x L ih =>
    rw [List.flatMap_cons]
    show quads (cI x 0 :: cI x 1 :: cI x 2 :: cI x 3 :: L.flatMap c4I) = _
    rw [quads, ih]; rfl
theorem from_flat (L : List AV) : fromA (flat L) = L.map fun x => col (cI x 0) (cI x 1) (cI x 2) (cI x 3) := by
  unfold fromA
  rw [flat_len, decide_eq_true (by omega), cond_true, flat_ints, quads_flat]
theorem from_same (L : List AV) : (fromA (flat L)).map c4I = L.map c4I := by
  rw [from_flat, List.map_map]
  rfl
end Go.Proofs.Ytpgheiegpcggbaa
