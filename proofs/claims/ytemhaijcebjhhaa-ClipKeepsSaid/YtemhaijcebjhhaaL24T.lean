/- far and same as readers, ClipTells' own loop (chapter 24). -/
import Derived.Test.YtemhaijcebjhhaaL24S
set_option linter.unusedVariables false
set_option linter.unusedSimpArgs false
namespace Go.Proofs.Ytemhaijcebjhhaa
open Go Go.Sx Go.Fx
set_option maxRecDepth 100000
set_option linter.unusedVariables false
set_option linter.unusedSimpArgs false
noncomputable def C7 : CallSem := CallSem.nil.withLoops (one 2 far_L)
theorem C7_sound : C7.Sound Try.prog := CallSem.withLoops_sound nilS _
theorem C7_loops : ∀ c, Try.f7.body = some c → LoopsOk Try.prog C7.loops c := loops_of nodes7 fun x hx L' h' => by
  rcases List.mem_cons.1 hx with rfl | hx
  · have e : nodeL (one 2 far_L) (.loop L7) = some far_L := by kernel_rfl
    rw [show C7.loops = one 2 far_L from rfl, e] at h'
    simp only [Option.some.injEq] at h'
    exact @fixL _ _ _ _ h' @far_Lok
  · simp only [List.mem_singleton] at hx
    subst hx
    exfalso
    have e : nodeL (one 2 far_L) (.loop (unl (lpOf Try.f7 1))) = none := by kernel_rfl
    rw [show C7.loops = one 2 far_L from rfl, e] at h'
    cases h'
theorem far_eq (el : TypeId) (own hd : Bool) (L : List AV) (hn : L.length ≤ 16384) : fnK C7 Try.prog 2 Try.f7 [.vec 0] ⟨[], [some ⟨el, true, c6, 0, own, hd, L⟩]⟩ [] =
    some (bo (!L.all okx), ⟨[], [some ⟨el, true, c6, 0, own, hd, L⟩]⟩) := by
  have e : fnK C7 Try.prog 2 Try.f7 [.vec 0] ⟨[], [some ⟨el, true, c6, 0, own, hd, L⟩]⟩ [] =
    (bif true && decide (L.length ≤ 16384) then (bif L.all okx then some (bo false, ⟨[], [some ⟨el, true, c6, 0, own, hd, L⟩]⟩) else some (bo true, ⟨[], [some ⟨el, true, c6, 0, own, hd, L⟩]⟩)) else none) := by kernel_rfl
  rw [e, decide_eq_true hn]
  cases L.all okx <;> rfl
def far_M : MSpec where
  nils := [⟨0, 28, true, c6⟩]
  run args M k := match args, M with
    | [.vec h0], ⟨[], [some ⟨el, true, sh, t0, own, hd, L⟩]⟩ => bif decide (h0 = 0) && decide (t0 = 0) && decide (sh = c6) && decide (L.length ≤ 16384) then
        k (bo (!L.all okx)) ⟨[], [some ⟨el, true, c6, 0, own, hd, L⟩]⟩ else none
    | _, _ => none
theorem far_Mok : far_M.Ok Try.prog 7 := by
  intro R args M k r h
  simp only [far_M] at h
  split at h
  · rename_i h0 el sh t0 own hd L
    simp only [cond_eq_ite, Bool.and_eq_true, decide_eq_true_eq] at h
    split at h
    · rename_i hc
      obtain ⟨⟨⟨rfl, rfl⟩, rfl⟩, hn⟩ := hc
      exact ⟨_, _, h, fn_ok (C := C7) (n := 2) (ts := []) C7_sound mixed e7 C7_loops (far_eq el own hd L hn) rfl⟩
    · cases h
  · cases h

noncomputable def L13 : Code := unl (lpOf Try.f13 0)
theorem nodes13 : nodes (Try.f13.body.getD .skip) = [.loop L13] := by kernel_rfl
abbrev k13 : List Nat := [0, 1, 4, 5]
abbrev t13 : List Nat := [4, 5] ++ (List.range 15).map (· + 11)
def S13 (el el' : TypeId) (o h o' h' : Bool) (L X : List AV) (b : Bool) (f : Nat → Value) (i : Int) : St :=
  ⟨tmF k13 t13 [.vec 0, .vec 1, bo b, i64 i] f 26 0, ⟨[], [some ⟨el, true, c6, 0, o, h, L⟩, some ⟨el', true, c6, 1, o', h', X⟩]⟩⟩
theorem raw13 (el el' : TypeId) (o h o' h' : Bool) (L X : List AV) (b : Bool) (f : Nat → Value) (i : Int) : turnK CallSem.nil Try.prog 1 L13 k13 t13 0 2 (S13 el el' o h o' h' L X b f i) =
    (bif decide (i < (L.length : Int)) then (if 0 ≤ i ∧ i < (L.length : Int) then (if (i).toNat < L.length then (if 0 ≤ i ∧ i < (X.length : Int) then (if (i).toNat < X.length then (bif !((vI (L.getD i.toNat .bad) 0 == vI (X.getD i.toNat .bad) 0 && (vI (L.getD i.toNat .bad) 1 == vI (X.getD i.toNat .bad) 1 && (vI (L.getD i.toNat .bad) 2 == vI (X.getD i.toNat .bad) 2 && (vI (L.getD i.toNat .bad) 3 == vI (X.getD i.toNat .bad) 3 && true)))) && (vI (L.getD i.toNat .bad) 4 == vI (X.getD i.toNat .bad) 4 && (vI (L.getD i.toNat .bad) 5 == vI (X.getD i.toNat .bad) 5 && true))) then some (.ret, S13 el el' o h o' h' L X false f i) else some (.normal, S13 el el' o h o' h' L X b f (wi (i + 1)))) else none) else none) else none) else none) else some (.exit 0, S13 el el' o h o' h' L X b f i)) := by kernel_rfl
def c6I (x : AV) : List Int := [vI x 0, vI x 1, vI x 2, vI x 3, vI x 4, vI x 5]
theorem turn13 (el el' : TypeId) (o h o' h' : Bool) (L X : List AV) (b : Bool) (f : Nat → Value) (j : Nat) (hX : X.length = L.length) (hL : L.length ≤ 16384) (hj : j < L.length) (he : c6I (L.getD j .bad) = c6I (X.getD j .bad)) :
    turnK CallSem.nil Try.prog 1 L13 k13 t13 0 2 (S13 el el' o h o' h' L X b f (j : Nat)) = some (.normal, S13 el el' o h o' h' L X b f ((j + 1 : Nat) : Int)) := by
  have e1 : wi (((j : Nat) : Int) + 1) = ((j + 1 : Nat) : Int) := by rw [wi_id (by omega) (by omega)]; omega
  simp only [c6I, List.cons.injEq, and_true] at he
  rw [raw13, e1, decide_eq_true (by omega), cond_true, if_pos (by omega), if_pos (by rw [Int.toNat_natCast]; omega), if_pos (by omega), if_pos (by rw [Int.toNat_natCast]; omega)]
  rw [Int.toNat_natCast, he.1, he.2.1, he.2.2.1, he.2.2.2.1, he.2.2.2.2.1, he.2.2.2.2.2]
  simp
theorem loop13 (el el' : TypeId) (o h o' h' : Bool) (L X : List AV) (b : Bool) (f : Nat → Value) (hX : L.map c6I = X.map c6I) (hL : L.length ≤ 16384) (j : Nat) (hi : j ≤ L.length) :
    CodeOkN 0 2 Try.prog (.loop L13) (S13 el el' o h o' h' L X b f (j : Nat)) (.exit 0) (S13 el el' o h o' h' L X b f (L.length : Nat)) := by
  have hl : X.length = L.length := by have := congrArg List.length hX; simpa using this.symm
  refine loop_ok (fun j : Nat => S13 el el' o h o' h' L X b f (j : Nat)) (fun _ => (.exit 0, S13 el el' o h o' h' L X b f (L.length : Nat))) (fun j => if j < L.length then some (j + 1) else none)
    (fun j => L.length - j) (fun j => j ≤ L.length) ?_ ?_ j hi
  · intro j h1 hn
    refine ⟨fun e => (by cases e), ?_⟩
    have hj : j = L.length := by
      by_cases h : j < L.length
      · simp [h] at hn
      · omega
    subst hj
    exact turn_ok nilS mixed (LoopsOk.no _ _) rfl rfl (by rw [raw13, decide_eq_false (by omega), cond_false]; rfl)
  · intro j s' h1 hn
    by_cases h2 : j < L.length
    · simp only [h2, if_true, Option.some.injEq] at hn
      subst hn
      refine ⟨by omega, by omega, rfl, turn_ok nilS mixed (LoopsOk.no _ _) rfl rfl (turn13 el el' o h o' h' L X b f j hl hL h2 ?_)⟩
      have := congrArg (fun l => l[j]?) hX
      simp only [List.getElem?_map, List.getElem?_eq_getElem h2, List.getElem?_eq_getElem (show j < X.length by omega), Option.map_some, Option.some.injEq] at this
      simpa [List.getD, List.getElem?_eq_getElem h2, List.getElem?_eq_getElem (show j < X.length by omega)] using this
    · simp [h2] at hn
def same_L : LSpec where
  n := 26
  nils := []
  keep := k13
  touch := t13
  run kv M k := match kv, M with
    | [.vec h0, .vec h1, .lit (.bool b), .lit (.int .i64 i)], ⟨[], [some ⟨el, true, sh, t0, o, h, L⟩, some ⟨el', true, sh', t1, o', h', X⟩]⟩ =>
      bif decide (h0 = 0) && decide (h1 = 1) && decide (t0 = 0) && decide (t1 = 1) && decide (sh = c6) && decide (sh' = c6) && decide (i = 0) && decide (L.map c6I = X.map c6I) && decide (L.length ≤ 16384) then
        k (.exit 0) [.vec 0, .vec 1, bo b, i64 (L.length : Nat)] ⟨[], [some ⟨el, true, c6, 0, o, h, L⟩, some ⟨el', true, c6, 1, o', h', X⟩]⟩
      else none
    | _, _ => none
theorem same_Lok : same_L.Ok Try.prog (.loop L13) := by
  intro R kv M k r h
  simp only [same_L] at h
  split at h
  · rename_i h0 h1 b i el sh t0 o hh L el' sh' t1 o' hh' X
    simp only [cond_eq_ite, Bool.and_eq_true, decide_eq_true_eq] at h
    split at h
    · rename_i hc
      obtain ⟨⟨⟨⟨⟨⟨⟨⟨rfl, rfl⟩, rfl⟩, rfl⟩, rfl⟩, rfl⟩, rfl⟩, hX⟩, hn⟩ := hc
      refine ⟨_, _, _, h, fun f => ?_⟩
      exact CodeOkN.full (loop13 el el' o hh o' hh' L X b f hX hn 0 (Nat.zero_le _)) rfl
    · cases h
  · cases h
noncomputable def C13 : CallSem := CallSem.nil.withLoops (one 4 same_L)
theorem C13_sound : C13.Sound Try.prog := CallSem.withLoops_sound nilS _
theorem C13_loops : ∀ c, Try.f13.body = some c → LoopsOk Try.prog C13.loops c := one_ok nodes13 same_Lok
theorem same_eq (el el' : TypeId) (o h o' h' : Bool) (L X : List AV) (hX : L.map c6I = X.map c6I) (hn : L.length ≤ 16384) : fnK C13 Try.prog 2 Try.f13 [.vec 0, .vec 1] ⟨[], [some ⟨el, true, c6, 0, o, h, L⟩, some ⟨el', true, c6, 1, o', h', X⟩]⟩ [] =
    some (bo true, ⟨[], [some ⟨el, true, c6, 0, o, h, L⟩, some ⟨el', true, c6, 1, o', h', X⟩]⟩) := by
  have e : fnK C13 Try.prog 2 Try.f13 [.vec 0, .vec 1] ⟨[], [some ⟨el, true, c6, 0, o, h, L⟩, some ⟨el', true, c6, 1, o', h', X⟩]⟩ [] =
    (bif (L.length : Int) != (X.length : Int) then some (bo false, ⟨[], [some ⟨el, true, c6, 0, o, h, L⟩, some ⟨el', true, c6, 1, o', h', X⟩]⟩) else
     bif true && decide (L.map c6I = X.map c6I) && decide (L.length ≤ 16384) then some (bo true, ⟨[], [some ⟨el, true, c6, 0, o, h, L⟩, some ⟨el', true, c6, 1, o', h', X⟩]⟩) else none) := by kernel_rfl
  have hl : L.length = X.length := by have := congrArg List.length hX; simpa using this
  rw [e, decide_eq_true hX, decide_eq_true hn, hl]
  simp
def same_M : MSpec where
  nils := [⟨0, 28, true, c6⟩, ⟨1, 28, true, c6⟩]
  run args M k := match args, M with
    | [.vec h0, .vec h1], ⟨[], [some ⟨el, true, sh, t0, o, h, L⟩, some ⟨el', true, sh', t1, o', h', X⟩]⟩ =>
      bif decide (h0 = 0) && decide (h1 = 1) && decide (t0 = 0) && decide (t1 = 1) && decide (sh = c6) && decide (sh' = c6) && decide (L.map c6I = X.map c6I) && decide (L.length ≤ 16384) then
        k (bo true) ⟨[], [some ⟨el, true, c6, 0, o, h, L⟩, some ⟨el', true, c6, 1, o', h', X⟩]⟩
      else none
    | _, _ => none
theorem same_Mok : same_M.Ok Try.prog 13 := by
  intro R args M k r h
  simp only [same_M] at h
  split at h
  · rename_i h0 h1 el sh t0 o hh L el' sh' t1 o' hh' X
    simp only [cond_eq_ite, Bool.and_eq_true, decide_eq_true_eq] at h
    split at h
    · rename_i hc
      obtain ⟨⟨⟨⟨⟨⟨⟨rfl, rfl⟩, rfl⟩, rfl⟩, rfl⟩, rfl⟩, hX⟩, hn⟩ := hc
      exact ⟨_, _, h, fn_ok (C := C13) (n := 2) (ts := []) C13_sound mixed e13 C13_loops (same_eq el el' o hh o' hh' L X hX hn) rfl⟩
    · cases h
  · cases h

noncomputable def L3 : Code := unl (lpOf Try.f3 0)
theorem nodes3 : nodes (Try.f3.body.getD .skip) = [.loop L3] := by kernel_rfl
abbrev k3 : List Nat := [0, 1, 4, 5]
abbrev t3 : List Nat := [4, 5, 6] ++ (List.range 46).map (· + 15)
def S3 (el : TypeId) (own hd : Bool) (L : List AV) (p : Int) (b : Bool) (f : Nat → Value) (i : Int) : St :=
  ⟨tmF k3 t3 [.vec 0, i64 p, bo b, i64 i] f 69 0, ⟨[], [some ⟨el, true, c6, 0, own, hd, L⟩]⟩⟩
theorem raw3 (el : TypeId) (own hd : Bool) (L : List AV) (p : Int) (b : Bool) (f : Nat → Value) (i : Int) : turnK cC Try.prog 1 L3 k3 t3 0 1 (S3 el own hd L p b f i) =
    (bif decide (i < (L.length : Int)) then (if (L.length : Int) = 0 then none else (if 0 ≤ (wi (i + 1)).tmod (L.length : Int) ∧ (wi (i + 1)).tmod (L.length : Int) < (L.length : Int) then (if ((wi (i + 1)).tmod (L.length : Int)).toNat < L.length then (if 0 ≤ i ∧ i < (L.length : Int) then (if (i).toNat < L.length then (if 0 ≤ i ∧ i < (L.length : Int) then (if (i).toNat < L.length then (bif insX (L.getD i.toNat .bad) p != insX (L.getD i.toNat .bad) p then some (.ret, S3 el own hd L p false f i) else (if 0 ≤ i ∧ i < (L.length : Int) then (if (i).toNat < L.length then (bif okx (L.getD i.toNat .bad) && okx (L.getD ((wi (i + 1)).tmod (L.length : Int)).toNat .bad) then (if 0 ≤ i ∧ i < (L.length : Int) then (if (i).toNat < L.length then (bif okx (L.getD i.toNat .bad) && okx (L.getD ((wi (i + 1)).tmod (L.length : Int)).toNat .bad) then (bif !((onC (vI (L.getD i.toNat .bad) 0) (vI (L.getD ((wi (i + 1)).tmod (L.length : Int)).toNat .bad) 0) (tC (insX (L.getD i.toNat .bad) p) (insX (L.getD ((wi (i + 1)).tmod (L.length : Int)).toNat .bad) p)) == onC (vI (L.getD i.toNat .bad) 0) (vI (L.getD ((wi (i + 1)).tmod (L.length : Int)).toNat .bad) 0) (tC (insX (L.getD i.toNat .bad) p) (insX (L.getD ((wi (i + 1)).tmod (L.length : Int)).toNat .bad) p)) && (onC (vI (L.getD i.toNat .bad) 1) (vI (L.getD ((wi (i + 1)).tmod (L.length : Int)).toNat .bad) 1) (tC (insX (L.getD i.toNat .bad) p) (insX (L.getD ((wi (i + 1)).tmod (L.length : Int)).toNat .bad) p)) == onC (vI (L.getD i.toNat .bad) 1) (vI (L.getD ((wi (i + 1)).tmod (L.length : Int)).toNat .bad) 1) (tC (insX (L.getD i.toNat .bad) p) (insX (L.getD ((wi (i + 1)).tmod (L.length : Int)).toNat .bad) p)) && (onC (vI (L.getD i.toNat .bad) 2) (vI (L.getD ((wi (i + 1)).tmod (L.length : Int)).toNat .bad) 2) (tC (insX (L.getD i.toNat .bad) p) (insX (L.getD ((wi (i + 1)).tmod (L.length : Int)).toNat .bad) p)) == onC (vI (L.getD i.toNat .bad) 2) (vI (L.getD ((wi (i + 1)).tmod (L.length : Int)).toNat .bad) 2) (tC (insX (L.getD i.toNat .bad) p) (insX (L.getD ((wi (i + 1)).tmod (L.length : Int)).toNat .bad) p)) && (onC (vI (L.getD i.toNat .bad) 3) (vI (L.getD ((wi (i + 1)).tmod (L.length : Int)).toNat .bad) 3) (tC (insX (L.getD i.toNat .bad) p) (insX (L.getD ((wi (i + 1)).tmod (L.length : Int)).toNat .bad) p)) == onC (vI (L.getD i.toNat .bad) 3) (vI (L.getD ((wi (i + 1)).tmod (L.length : Int)).toNat .bad) 3) (tC (insX (L.getD i.toNat .bad) p) (insX (L.getD ((wi (i + 1)).tmod (L.length : Int)).toNat .bad) p)) && true)))) && (onC (vI (L.getD i.toNat .bad) 4) (vI (L.getD ((wi (i + 1)).tmod (L.length : Int)).toNat .bad) 4) (tC (insX (L.getD i.toNat .bad) p) (insX (L.getD ((wi (i + 1)).tmod (L.length : Int)).toNat .bad) p)) == onC (vI (L.getD i.toNat .bad) 4) (vI (L.getD ((wi (i + 1)).tmod (L.length : Int)).toNat .bad) 4) (tC (insX (L.getD i.toNat .bad) p) (insX (L.getD ((wi (i + 1)).tmod (L.length : Int)).toNat .bad) p)) && (onC (vI (L.getD i.toNat .bad) 5) (vI (L.getD ((wi (i + 1)).tmod (L.length : Int)).toNat .bad) 5) (tC (insX (L.getD i.toNat .bad) p) (insX (L.getD ((wi (i + 1)).tmod (L.length : Int)).toNat .bad) p)) == onC (vI (L.getD i.toNat .bad) 5) (vI (L.getD ((wi (i + 1)).tmod (L.length : Int)).toNat .bad) 5) (tC (insX (L.getD i.toNat .bad) p) (insX (L.getD ((wi (i + 1)).tmod (L.length : Int)).toNat .bad) p)) && true))) then some (.ret, S3 el own hd L p false f i) else some (.normal, S3 el own hd L p b f (wi (i + 1)))) else none) else none) else none) else none) else none) else none)) else none) else none) else none) else none) else none) else none)) else some (.exit 0, S3 el own hd L p b f i)) := by kernel_rfl
theorem turn3 (el : TypeId) (own hd : Bool) (L : List AV) (p : Int) (b : Bool) (f : Nat → Value) (j : Nat) (h : j < L.length) (hL : L.length ≤ 16384) (hok : L.all okx = true) :
    turnK cC Try.prog 1 L3 k3 t3 0 1 (S3 el own hd L p b f (j : Nat)) = some (.normal, S3 el own hd L p b f ((j + 1 : Nat) : Int)) := by
  have e1 : wi (((j : Nat) : Int) + 1) = ((j + 1 : Nat) : Int) := by rw [wi_id (by omega) (by omega)]; omega
  have e2 : ((j + 1 : Nat) : Int).tmod (L.length : Int) = (((j + 1) % L.length : Nat) : Int) := by
    rw [Int.tmod_eq_emod_of_nonneg (by omega)]; omega
  have hm : (j + 1) % L.length < L.length := Nat.mod_lt _ (by omega)
  rw [raw3, e1, e2, decide_eq_true (by omega), cond_true, if_neg (by omega)]
  have ha1 : okx (L.getD j .bad) = true := okx_at hok h
  have hb1 : okx (L.getD ((j + 1) % L.length) .bad) = true := okx_at hok hm
  simp only [Int.toNat_natCast]
  generalize L.getD j .bad = x at *
  generalize L.getD ((j + 1) % L.length) .bad = y at *
  have q1 : (0 ≤ ((j : Nat) : Int) ∧ ((j : Nat) : Int) < (L.length : Int)) := ⟨by omega, by omega⟩
  have q2 : (0 ≤ (((j + 1) % L.length : Nat) : Int) ∧ (((j + 1) % L.length : Nat) : Int) < (L.length : Int)) := ⟨by omega, by omega⟩
  simp only [if_pos q1, if_pos q2, if_pos h, if_pos hm, bne_self_eq_false, beq_self_eq_true, Bool.and_self, Bool.not_true, ha1, hb1, cond_true, cond_false]
theorem loop3 (el : TypeId) (own hd : Bool) (L : List AV) (p : Int) (b : Bool) (f : Nat → Value) (hL : L.length ≤ 16384) (hok : L.all okx = true) (j : Nat) (hi : j ≤ L.length) :
    CodeOkN 0 1 Try.prog (.loop L3) (S3 el own hd L p b f (j : Nat)) (.exit 0) (S3 el own hd L p b f (L.length : Nat)) := by
  refine loop_ok (fun j : Nat => S3 el own hd L p b f (j : Nat)) (fun _ => (.exit 0, S3 el own hd L p b f (L.length : Nat))) (fun j => if j < L.length then some (j + 1) else none)
    (fun j => L.length - j) (fun j => j ≤ L.length) ?_ ?_ j hi
  · intro j h1 hn
    refine ⟨fun e => (by cases e), ?_⟩
    have hj : j = L.length := by
      by_cases h : j < L.length
      · simp [h] at hn
      · omega
    subst hj
    exact turn_ok cC_sound mixed (LoopsOk.no _ _) rfl rfl (by rw [raw3, decide_eq_false (by omega), cond_false]; rfl)
  · intro j s' h1 hn
    by_cases h2 : j < L.length
    · simp only [h2, if_true, Option.some.injEq] at hn
      subst hn
      exact ⟨by omega, by omega, rfl, turn_ok cC_sound mixed (LoopsOk.no _ _) rfl rfl (turn3 el own hd L p b f j h2 hL hok)⟩
    · simp [h2] at hn
def tells_L : LSpec where
  n := 69
  nils := []
  keep := k3
  touch := t3
  run kv M k := match kv, M with
    | [.vec h0, .lit (.int .i64 p), .lit (.bool b), .lit (.int .i64 i)], ⟨[], [some ⟨el, true, sh, t0, o, h, L⟩]⟩ =>
      bif decide (h0 = 0) && decide (t0 = 0) && decide (sh = c6) && decide (i = 0) && L.all okx && decide (L.length ≤ 16384) then
        k (.exit 0) [.vec 0, i64 p, bo b, i64 (L.length : Nat)] ⟨[], [some ⟨el, true, c6, 0, o, h, L⟩]⟩
      else none
    | _, _ => none
theorem tells_Lok : tells_L.Ok Try.prog (.loop L3) := by
  intro R kv M k r h
  simp only [tells_L] at h
  split at h
  · rename_i h0 p b i el sh t0 o hh L
    simp only [cond_eq_ite, Bool.and_eq_true, decide_eq_true_eq] at h
    split at h
    · rename_i hc
      obtain ⟨⟨⟨⟨⟨rfl, rfl⟩, rfl⟩, rfl⟩, hok⟩, hn⟩ := hc
      refine ⟨_, _, _, h, fun f => ?_⟩
      exact CodeOkN.full (loop3 el o hh L p b f hn hok 0 (Nat.zero_le _)) rfl
    · cases h
  · cases h
noncomputable def cT0 : CallSem := (((cC.withSpec 8 trueS).withRead 7 far_M).withRead 14 pol_M).withRead 13 same_M
theorem cT0_sound : cT0.Sound Try.prog := CallSem.withRead_sound (CallSem.withRead_sound (CallSem.withRead_sound (CallSem.withSpec_sound cC_sound awake_ok) far_Mok) pol_Mok14) same_Mok
noncomputable def cT1 : CallSem := cT0.withRead 15 rpol_M
theorem cT1_sound : cT1.Sound Try.prog := CallSem.withRead_sound cT0_sound rpol_Mok15
noncomputable def cT : CallSem := cT1.withLoops (one 4 tells_L)
theorem cT_sound : cT.Sound Try.prog := CallSem.withLoops_sound cT1_sound _
theorem cT_loops : ∀ c, Try.f3.body = some c → LoopsOk Try.prog cT.loops c := one_ok nodes3 tells_Lok
theorem polR_eq (L : List AV) : polR L = polX L := by
  unfold polR polX
  by_cases h0 : L.length < 3
  · rw [if_pos h0]; exact if_pos h0
  rw [if_neg h0, if_neg (show ¬ (itX L 0).length < 3 from h0)]
  have h3 := fun k => itX_three (L := L) (by omega) k
  have hz : ∀ k, k ≤ 7 → (itX L k).length < 3 → (if (itX L 7).length < 3 then ([] : List AV) else itX L 7) = [] := by
    intro k hk hl
    have hn : itX L k = [] := (h3 k).elim (fun h => by omega) id
    have := itX_nil hn (7 - k)
    rw [show k + (7 - k) = 7 by omega] at this
    rw [this]; rfl
  by_cases h1 : (itX L 1).length < 3
  · rw [if_pos h1, hz 1 (by omega) h1]
  by_cases h2 : (itX L 2).length < 3
  · rw [if_neg h1, if_pos h2, hz 2 (by omega) h2]
  by_cases h4 : (itX L 3).length < 3
  · rw [if_neg h1, if_neg h2, if_pos h4, hz 3 (by omega) h4]
  by_cases h5 : (itX L 4).length < 3
  · rw [if_neg h1, if_neg h2, if_neg h4, if_pos h5, hz 4 (by omega) h5]
  by_cases h6 : (itX L 5).length < 3
  · rw [if_neg h1, if_neg h2, if_neg h4, if_neg h5, if_pos h6, hz 5 (by omega) h6]
  by_cases h7 : (itX L 6).length < 3
  · rw [if_neg h1, if_neg h2, if_neg h4, if_neg h5, if_neg h6, if_pos h7, hz 6 (by omega) h7]
  · rw [if_neg h1, if_neg h2, if_neg h4, if_neg h5, if_neg h6, if_neg h7]
theorem polX_len {L : List AV} (h : L.length ≤ 64) : (polX L).length ≤ 16384 := by
  unfold polX
  split
  · simp
  · split
    · simp
    · have h1 := itX_len L 7
      have : 2 ^ 7 * L.length ≤ 2 ^ 7 * 64 := Nat.mul_le_mul_left _ h
      omega
end Go.Proofs.Ytemhaijcebjhhaa
