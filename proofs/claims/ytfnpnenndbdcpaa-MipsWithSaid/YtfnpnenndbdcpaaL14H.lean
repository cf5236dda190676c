/- Two rows of colours that are alike; two textures (chapter 14). -/
import Derived.Test.YtfnpnenndbdcpaaL14G
set_option linter.unusedVariables false
set_option linter.unusedSimpArgs false
namespace Go.Proofs.Ytfnpnenndbdcpaa
open Go Go.Sx Go.Fx
set_option maxRecDepth 100000
set_option linter.unusedVariables false
set_option linter.unusedSimpArgs false
theorem s32 : Sx.Enters Try.prog 32 Try.f32 := ⟨Try.func32, by kernel_rfl, by kernel_rfl⟩
noncomputable def L32 : Code := unl (lpOf Try.f32 0)
theorem nodes32 : nodes (Try.f32.body.getD .skip) = [.loop L32] := by kernel_rfl
abbrev k32 : List Nat := [0, 1, 4, 5]
abbrev t32 : List Nat := (List.range 15).map (· + 11)
def S32 (el el' : TypeId) (o h o' h' : Bool) (L X : List AV) (b : Bool) (f : Nat → Value) (i : Int) : St :=
  ⟨tmF k32 t32 [.vec 0, .vec 1, .lit (.bool b), i64 i] f 26 0, ⟨[], [some ⟨el, true, c4, 0, o, h, L⟩, some ⟨el', true, c4, 1, o', h', X⟩]⟩⟩
theorem raw32 (el el' : TypeId) (o h o' h' : Bool) (L X : List AV) (b : Bool) (f : Nat → Value) (i : Int) : turnK CallSem.nil Try.prog 1 L32 k32 t32 0 2 (S32 el el' o h o' h' L X b f i) =
    (bif decide (i < (L.length : Int)) then (if 0 ≤ i ∧ i < (L.length : Int) then (if (i).toNat < L.length then (if 0 ≤ i ∧ i < (X.length : Int) then (if (i).toNat < X.length then (bif !(cI (L.getD i.toNat .bad) 0 == cI (X.getD i.toNat .bad) 0 && (cI (L.getD i.toNat .bad) 1 == cI (X.getD i.toNat .bad) 1 && (cI (L.getD i.toNat .bad) 2 == cI (X.getD i.toNat .bad) 2 && (cI (L.getD i.toNat .bad) 3 == cI (X.getD i.toNat .bad) 3 && true)))) then some (.ret, S32 el el' o h o' h' L X false f i) else some (.normal, S32 el el' o h o' h' L X b f (wi (i + 1)))) else none) else none) else none) else none) else some (.exit 0, S32 el el' o h o' h' L X b f i)) := by kernel_rfl
def c4I (x : AV) : List Int := [cI x 0, cI x 1, cI x 2, cI x 3]
theorem turn32 (el el' : TypeId) (o h o' h' : Bool) (L X : List AV) (b : Bool) (f : Nat → Value) (j : Nat) (hX : X.length = L.length) (hL : L.length ≤ 16384) (hj : j < L.length) (he : c4I (L.getD j .bad) = c4I (X.getD j .bad)) :
    turnK CallSem.nil Try.prog 1 L32 k32 t32 0 2 (S32 el el' o h o' h' L X b f (j : Nat)) = some (.normal, S32 el el' o h o' h' L X b f ((j + 1 : Nat) : Int)) := by
  have e1 : wi (((j : Nat) : Int) + 1) = ((j + 1 : Nat) : Int) := by rw [wi_id (by omega) (by omega)]; omega
  simp only [c4I, List.cons.injEq, and_true] at he
  rw [raw32, e1, decide_eq_true (by omega), cond_true, if_pos (by omega), if_pos (by rw [Int.toNat_natCast]; omega), if_pos (by omega), if_pos (by rw [Int.toNat_natCast]; omega)]
  rw [Int.toNat_natCast, he.1, he.2.1, he.2.2.1, he.2.2.2]
  simp
theorem loop32 (el el' : TypeId) (o h o' h' : Bool) (L X : List AV) (b : Bool) (f : Nat → Value) (hX : L.map c4I = X.map c4I) (hL : L.length ≤ 16384) (j : Nat) (hi : j ≤ L.length) :
    CodeOkN 0 2 Try.prog (.loop L32) (S32 el el' o h o' h' L X b f (j : Nat)) (.exit 0) (S32 el el' o h o' h' L X b f (L.length : Nat)) := by
  have hl : X.length = L.length := by have := congrArg List.length hX; simpa using this.symm
  refine loop_ok (fun j : Nat => S32 el el' o h o' h' L X b f (j : Nat)) (fun _ => (.exit 0, S32 el el' o h o' h' L X b f (L.length : Nat))) (fun j => if j < L.length then some (j + 1) else none)
    (fun j => L.length - j) (fun j => j ≤ L.length) ?_ ?_ j hi
  · intro j h1 hn
    refine ⟨fun e => (by cases e), ?_⟩
    have hj : j = L.length := by
      by_cases h : j < L.length
      · simp [h] at hn
      · omega
    subst hj
    exact turn_ok nilS mixed (LoopsOk.no _ _) rfl rfl (by rw [raw32, decide_eq_false (by omega), cond_false]; rfl)
  · intro j s' h1 hn
    by_cases h2 : j < L.length
    · simp only [h2, if_true, Option.some.injEq] at hn
      subst hn
      refine ⟨by omega, by omega, rfl, turn_ok nilS mixed (LoopsOk.no _ _) rfl rfl (turn32 el el' o h o' h' L X b f j hl hL h2 ?_)⟩
      have := congrArg (fun l => l[j]?) hX
      simp only [List.getElem?_map, List.getElem?_eq_getElem h2, List.getElem?_eq_getElem (show j < X.length by omega), Option.map_some, Option.some.injEq] at this
      simpa [List.getD, List.getElem?_eq_getElem h2, List.getElem?_eq_getElem (show j < X.length by omega)] using this
    · simp [h2] at hn
def same_L : LSpec where
  n := 26
  nils := []
  keep := k32
  touch := t32
  run kv M k := match kv, M with
    | [.vec h0, .vec h1, .lit (.bool b), .lit (.int .i64 i)], ⟨[], [some ⟨el, true, sh, t0, o, h, L⟩, some ⟨el', true, sh', t1, o', h', X⟩]⟩ =>
      bif decide (h0 = 0) && decide (h1 = 1) && decide (t0 = 0) && decide (t1 = 1) && decide (sh = c4) && decide (sh' = c4) && decide (i = 0) && decide (L.map c4I = X.map c4I) && decide (L.length ≤ 16384) then
        k (.exit 0) [.vec 0, .vec 1, .lit (.bool b), i64 (L.length : Nat)] ⟨[], [some ⟨el, true, c4, 0, o, h, L⟩, some ⟨el', true, c4, 1, o', h', X⟩]⟩
      else none
    | _, _ => none
theorem same_Lok : same_L.Ok Try.prog (.loop L32) := by
  intro R kv M k r h
  simp only [same_L] at h
  split at h
  · rename_i h0 h1 b i el sh t0 o hh L el' sh' t1 o' hh' X
    simp only [cond_eq_ite, Bool.and_eq_true, decide_eq_true_eq] at h
    split at h
    · rename_i hc
      obtain ⟨⟨⟨⟨⟨⟨⟨⟨rfl, rfl⟩, rfl⟩, rfl⟩, rfl⟩, rfl⟩, rfl⟩, hX⟩, hn⟩ := hc
      refine ⟨_, _, _, h, fun f => ?_⟩
      exact CodeOkN.full (loop32 el el' o hh o' hh' L X b f hX hn 0 (Nat.zero_le _)) rfl
    · cases h
  · cases h
noncomputable def C32 : CallSem := CallSem.nil.withLoops (one 4 same_L)
theorem C32_sound : C32.Sound Try.prog := CallSem.withLoops_sound nilS _
theorem C32_loops : ∀ c, Try.f32.body = some c → LoopsOk Try.prog C32.loops c := one_ok nodes32 same_Lok
theorem same_eq (el el' : TypeId) (o h o' h' : Bool) (L X : List AV) (hX : L.map c4I = X.map c4I) (hn : L.length ≤ 16384) : fnK C32 Try.prog 2 Try.f32 [.vec 0, .vec 1] ⟨[], [some ⟨el, true, c4, 0, o, h, L⟩, some ⟨el', true, c4, 1, o', h', X⟩]⟩ [] =
    some (.lit (.bool true), ⟨[], [some ⟨el, true, c4, 0, o, h, L⟩, some ⟨el', true, c4, 1, o', h', X⟩]⟩) := by
  have e : fnK C32 Try.prog 2 Try.f32 [.vec 0, .vec 1] ⟨[], [some ⟨el, true, c4, 0, o, h, L⟩, some ⟨el', true, c4, 1, o', h', X⟩]⟩ [] =
    (bif (L.length : Int) != (X.length : Int) then some (.lit (.bool false), ⟨[], [some ⟨el, true, c4, 0, o, h, L⟩, some ⟨el', true, c4, 1, o', h', X⟩]⟩) else
     bif true && decide (L.map c4I = X.map c4I) && decide (L.length ≤ 16384) then some (.lit (.bool true), ⟨[], [some ⟨el, true, c4, 0, o, h, L⟩, some ⟨el', true, c4, 1, o', h', X⟩]⟩) else none) := by kernel_rfl
  have hl : L.length = X.length := by have := congrArg List.length hX; simpa using this
  rw [e, decide_eq_true hX, decide_eq_true hn, hl]
  simp
def same_M : MSpec where
  nils := [⟨0, 39, true, c4⟩, ⟨1, 39, true, c4⟩]
  run args M k := match args, M with
    | [.vec h0, .vec h1], ⟨[], [some ⟨el, true, sh, t0, o, h, L⟩, some ⟨el', true, sh', t1, o', h', X⟩]⟩ =>
      bif decide (h0 = 0) && decide (h1 = 1) && decide (t0 = 0) && decide (t1 = 1) && decide (sh = c4) && decide (sh' = c4) && decide (L.map c4I = X.map c4I) && decide (L.length ≤ 16384) then
        k (.lit (.bool true)) ⟨[], [some ⟨el, true, c4, 0, o, h, L⟩, some ⟨el', true, c4, 1, o', h', X⟩]⟩
      else none
    | _, _ => none
theorem same_Mok : same_M.Ok Try.prog 32 := by
  intro R args M k r h
  simp only [same_M] at h
  split at h
  · rename_i h0 h1 el sh t0 o hh L el' sh' t1 o' hh' X
    simp only [cond_eq_ite, Bool.and_eq_true, decide_eq_true_eq] at h
    split at h
    · rename_i hc
      obtain ⟨⟨⟨⟨⟨⟨⟨rfl, rfl⟩, rfl⟩, rfl⟩, rfl⟩, rfl⟩, hX⟩, hn⟩ := hc
      exact ⟨_, _, h, fn_ok (C := C32) (n := 2) (ts := []) C32_sound mixed s32 C32_loops (same_eq el el' o hh o' hh' L X hX hn) rfl⟩
    · cases h
  · cases h

end Go.Proofs.Ytfnpnenndbdcpaa
