/- same: two rows of triangles (chapter 25). -/
import Derived.Test.YtplfijdonikaoaaL25Q
set_option linter.unusedVariables false
set_option linter.unusedSimpArgs false
namespace Go.Proofs.Ytplfijdonikaoaa
open Go Go.Sx Go.Fx
set_option maxRecDepth 100000
set_option linter.unusedVariables false
set_option linter.unusedSimpArgs false
theorem s12 : Enters Try.prog 12 Try.f12 := ⟨Try.func12, by kernel_rfl, by kernel_rfl⟩
noncomputable def L13 : Code := unl (lpOf Try.f12 0)
theorem nodes13 : nodes (Try.f12.body.getD .skip) = [.loop L13] := by kernel_rfl
abbrev k13 : List Nat := [0, 1, 4, 5]
abbrev t13 : List Nat := [4, 5] ++ (List.range 15).map (· + 11)
def S13 (el el' : TypeId) (o h o' h' : Bool) (L X : List AV) (b : Bool) (f : Nat → Value) (i : Int) : St :=
  ⟨tmF k13 t13 [.vec 0, .vec 1, bo b, i64 i] f 26 0, ⟨[], [some ⟨el, true, c18, 0, o, h, L⟩, some ⟨el', true, c18, 1, o', h', X⟩]⟩⟩
theorem raw13 (el el' : TypeId) (o h o' h' : Bool) (L X : List AV) (b : Bool) (f : Nat → Value) (i : Int) : turnK CallSem.nil Try.prog 1 L13 k13 t13 0 2 (S13 el el' o h o' h' L X b f i) =
    (bif decide (i < (L.length : Int)) then (if 0 ≤ i ∧ i < (L.length : Int) then (if i.toNat < L.length then (if 0 ≤ i ∧ i < (X.length : Int) then (if i.toNat < X.length then
      (bif !((vI (L.getD i.toNat .bad) 0 == vI (X.getD i.toNat .bad) 0 && (vI (L.getD i.toNat .bad) 1 == vI (X.getD i.toNat .bad) 1 && (vI (L.getD i.toNat .bad) 2 == vI (X.getD i.toNat .bad) 2 && (vI (L.getD i.toNat .bad) 3 == vI (X.getD i.toNat .bad) 3 && (vI (L.getD i.toNat .bad) 4 == vI (X.getD i.toNat .bad) 4 && (vI (L.getD i.toNat .bad) 5 == vI (X.getD i.toNat .bad) 5 && true)))))) && ((vI (L.getD i.toNat .bad) 6 == vI (X.getD i.toNat .bad) 6 && (vI (L.getD i.toNat .bad) 7 == vI (X.getD i.toNat .bad) 7 && (vI (L.getD i.toNat .bad) 8 == vI (X.getD i.toNat .bad) 8 && (vI (L.getD i.toNat .bad) 9 == vI (X.getD i.toNat .bad) 9 && (vI (L.getD i.toNat .bad) 10 == vI (X.getD i.toNat .bad) 10 && (vI (L.getD i.toNat .bad) 11 == vI (X.getD i.toNat .bad) 11 && true)))))) && ((vI (L.getD i.toNat .bad) 12 == vI (X.getD i.toNat .bad) 12 && (vI (L.getD i.toNat .bad) 13 == vI (X.getD i.toNat .bad) 13 && (vI (L.getD i.toNat .bad) 14 == vI (X.getD i.toNat .bad) 14 && (vI (L.getD i.toNat .bad) 15 == vI (X.getD i.toNat .bad) 15 && (vI (L.getD i.toNat .bad) 16 == vI (X.getD i.toNat .bad) 16 && (vI (L.getD i.toNat .bad) 17 == vI (X.getD i.toNat .bad) 17 && true)))))) && true))) then some (.ret, S13 el el' o h o' h' L X false f i) else some (.normal, S13 el el' o h o' h' L X b f (wi (i + 1)))) else none) else none) else none) else none)
     else some (.exit 0, S13 el el' o h o' h' L X b f i)) := by kernel_rfl
def c18I (x : AV) : List Int := [vI x 0, vI x 1, vI x 2, vI x 3, vI x 4, vI x 5, vI x 6, vI x 7, vI x 8, vI x 9, vI x 10, vI x 11, vI x 12, vI x 13, vI x 14, vI x 15, vI x 16, vI x 17]
theorem turn13 (el el' : TypeId) (o h o' h' : Bool) (L X : List AV) (b : Bool) (f : Nat → Value) (j : Nat) (hX : X.length = L.length) (hL : L.length ≤ 16384) (hj : j < L.length) (he : c18I (L.getD j .bad) = c18I (X.getD j .bad)) :
    turnK CallSem.nil Try.prog 1 L13 k13 t13 0 2 (S13 el el' o h o' h' L X b f (j : Nat)) = some (.normal, S13 el el' o h o' h' L X b f ((j + 1 : Nat) : Int)) := by
  have e1 : wi (((j : Nat) : Int) + 1) = ((j + 1 : Nat) : Int) := by rw [wi_id (by omega) (by omega)]; omega
  simp only [c18I, List.cons.injEq, and_true] at he
  rw [raw13, e1, decide_eq_true (by omega), cond_true, if_pos (by omega), if_pos (by rw [Int.toNat_natCast]; omega), if_pos (by omega), if_pos (by rw [Int.toNat_natCast]; omega)]
  rw [Int.toNat_natCast, he.1, he.2.1, he.2.2.1, he.2.2.2.1, he.2.2.2.2.1, he.2.2.2.2.2.1, he.2.2.2.2.2.2.1, he.2.2.2.2.2.2.2.1, he.2.2.2.2.2.2.2.2.1, he.2.2.2.2.2.2.2.2.2.1, he.2.2.2.2.2.2.2.2.2.2.1, he.2.2.2.2.2.2.2.2.2.2.2.1, he.2.2.2.2.2.2.2.2.2.2.2.2.1, he.2.2.2.2.2.2.2.2.2.2.2.2.2.1, he.2.2.2.2.2.2.2.2.2.2.2.2.2.2.1, he.2.2.2.2.2.2.2.2.2.2.2.2.2.2.2.1, he.2.2.2.2.2.2.2.2.2.2.2.2.2.2.2.2.1, he.2.2.2.2.2.2.2.2.2.2.2.2.2.2.2.2.2]
  simp
theorem loop13 (el el' : TypeId) (o h o' h' : Bool) (L X : List AV) (b : Bool) (f : Nat → Value) (hX : L.map c18I = X.map c18I) (hL : L.length ≤ 16384) (j : Nat) (hi : j ≤ L.length) :
    CodeOkN 0 2 Try.prog (.loop L13) (S13 el el' o h o' h' L X b f (j : Nat)) (.exit 0) (S13 el el' o h o' h' L X b f (L.length : Nat)) := by
  have hl : X.length = L.length := by have := congrArg List.length hX; simpa using this.symm
  refine loop_ok (fun j : Nat => S13 el el' o h o' h' L X b f (j : Nat)) (fun _ => (.exit 0, S13 el el' o h o' h' L X b f (L.length : Nat))) (fun j => if j < L.length then some (j + 1) else none)
    (fun j => L.length - j) (fun j => j ≤ L.length) ?_ ?_ j hi
  · intro j h1 hn
    refine ⟨fun e => (by cases e), ?_⟩
    have hj : j = L.length := by
      by_cases h : j < L.length
      · simp [h] at hn
      · omega
    subst hj
    exact turn_ok nilS mixed (LoopsOk.no _ _) rfl rfl (by rw [raw13, decide_eq_false (by omega), cond_false]; rfl)
  · intro j s' h1 hn
    by_cases h2 : j < L.length
    · simp only [h2, if_true, Option.some.injEq] at hn
      subst hn
      refine ⟨by omega, by omega, rfl, turn_ok nilS mixed (LoopsOk.no _ _) rfl rfl (turn13 el el' o h o' h' L X b f j hl hL h2 ?_)⟩
      have := congrArg (fun l => l[j]?) hX
      simp only [List.getElem?_map, List.getElem?_eq_getElem h2, List.getElem?_eq_getElem (show j < X.length by omega), Option.map_some, Option.some.injEq] at this
      simpa [List.getD, List.getElem?_eq_getElem h2, List.getElem?_eq_getElem (show j < X.length by omega)] using this
    · simp [h2] at hn
def same_L : LSpec where
  n := 26
  nils := []
  keep := k13
  touch := t13
  run kv M k := match kv, M with
    | [.vec h0, .vec h1, .lit (.bool b), .lit (.int .i64 i)], ⟨[], [some ⟨el, true, sh, t0, o, h, L⟩, some ⟨el', true, sh', t1, o', h', X⟩]⟩ =>
      bif decide (h0 = 0) && decide (h1 = 1) && decide (t0 = 0) && decide (t1 = 1) && decide (sh = c18) && decide (sh' = c18) && decide (i = 0) && decide (L.map c18I = X.map c18I) && decide (L.length ≤ 16384) then
        k (.exit 0) [.vec 0, .vec 1, bo b, i64 (L.length : Nat)] ⟨[], [some ⟨el, true, c18, 0, o, h, L⟩, some ⟨el', true, c18, 1, o', h', X⟩]⟩
      else none
    | _, _ => none
theorem same_Lok : same_L.Ok Try.prog (.loop L13) := by
  intro R kv M k r h
  simp only [same_L] at h
  split at h
  · rename_i h0 h1 b i el sh t0 o hh L el' sh' t1 o' hh' X
    simp only [cond_eq_ite, Bool.and_eq_true, decide_eq_true_eq] at h
    split at h
    · rename_i hc
      obtain ⟨⟨⟨⟨⟨⟨⟨⟨rfl, rfl⟩, rfl⟩, rfl⟩, rfl⟩, rfl⟩, rfl⟩, hX⟩, hn⟩ := hc
      refine ⟨_, _, _, h, fun f => ?_⟩
      exact CodeOkN.full (loop13 el el' o hh o' hh' L X b f hX hn 0 (Nat.zero_le _)) rfl
    · cases h
  · cases h
noncomputable def C13 : CallSem := CallSem.nil.withLoops (one 4 same_L)
theorem C13_sound : C13.Sound Try.prog := CallSem.withLoops_sound nilS _
theorem C13_loops : ∀ c, Try.f12.body = some c → LoopsOk Try.prog C13.loops c := one_ok nodes13 same_Lok
theorem same_eq (el el' : TypeId) (o h o' h' : Bool) (L X : List AV) (hX : L.map c18I = X.map c18I) (hn : L.length ≤ 16384) : fnK C13 Try.prog 2 Try.f12 [.vec 0, .vec 1] ⟨[], [some ⟨el, true, c18, 0, o, h, L⟩, some ⟨el', true, c18, 1, o', h', X⟩]⟩ [] =
    some (bo true, ⟨[], [some ⟨el, true, c18, 0, o, h, L⟩, some ⟨el', true, c18, 1, o', h', X⟩]⟩) := by
  have e : fnK C13 Try.prog 2 Try.f12 [.vec 0, .vec 1] ⟨[], [some ⟨el, true, c18, 0, o, h, L⟩, some ⟨el', true, c18, 1, o', h', X⟩]⟩ [] =
    (bif (L.length : Int) != (X.length : Int) then some (bo false, ⟨[], [some ⟨el, true, c18, 0, o, h, L⟩, some ⟨el', true, c18, 1, o', h', X⟩]⟩) else
     bif true && decide (L.map c18I = X.map c18I) && decide (L.length ≤ 16384) then some (bo true, ⟨[], [some ⟨el, true, c18, 0, o, h, L⟩, some ⟨el', true, c18, 1, o', h', X⟩]⟩) else none) := by kernel_rfl
  have hl : L.length = X.length := by have := congrArg List.length hX; simpa using this
  rw [e, decide_eq_true hX, decide_eq_true hn, hl]
  simp
def same_M : MSpec where
  nils := [⟨0, 45, true, c18⟩, ⟨1, 45, true, c18⟩]
  run args M k := match args, M with
    | [.vec h0, .vec h1], ⟨[], [some ⟨el, true, sh, t0, o, h, L⟩, some ⟨el', true, sh', t1, o', h', X⟩]⟩ =>
      bif decide (h0 = 0) && decide (h1 = 1) && decide (t0 = 0) && decide (t1 = 1) && decide (sh = c18) && decide (sh' = c18) && decide (L.map c18I = X.map c18I) && decide (L.length ≤ 16384) then
        k (bo true) ⟨[], [some ⟨el, true, c18, 0, o, h, L⟩, some ⟨el', true, c18, 1, o', h', X⟩]⟩
      else none
    | _, _ => none
theorem same_Mok : same_M.Ok Try.prog 12 := by
  intro R args M k r h
  simp only [same_M] at h
  split at h
  · rename_i h0 h1 el sh t0 o hh L el' sh' t1 o' hh' X
    simp only [cond_eq_ite, Bool.and_eq_true, decide_eq_true_eq] at h
    split at h
    · rename_i hc
      obtain ⟨⟨⟨⟨⟨⟨⟨rfl, rfl⟩, rfl⟩, rfl⟩, rfl⟩, rfl⟩, hX⟩, hn⟩ := hc
      exact ⟨_, _, h, fn_ok (C := C13) (n := 2) (ts := []) C13_sound mixed s12 C13_loops (same_eq el el' o hh o' hh' L X hX hn) rfl⟩
    · cases h
  · cases h

end Go.Proofs.Ytplfijdonikaoaa
