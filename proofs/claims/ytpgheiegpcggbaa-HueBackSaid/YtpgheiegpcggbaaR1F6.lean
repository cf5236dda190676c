/- hue.Bytes and the document's HueBytes, any row (chapter 3). -/
import Derived.Test.YtpgheiegpcggbaaR1F5
set_option linter.unusedVariables false
set_option linter.unusedSimpArgs false
namespace Go.Proofs.Ytpgheiegpcggbaa
open Go Go.Sx
set_option maxRecDepth 100000

abbrev cI (x : AV) (p : Nat) : Int := (x.cellD p).getInt
def by4 (x : AV) : List AV := [b8 (cI x 0), b8 (cI x 1), b8 (cI x 2), b8 (cI x 3)]
def flat (L : List AV) : List AV := L.flatMap by4
theorem flat_cons (x : AV) (L : List AV) : flat (x :: L) = by4 x ++ flat L := rfl
theorem flat_len (L : List AV) : (flat L).length = 4 * L.length := by
  induction L with
  | nil => rfl
  | cons x L ih => rw [flat_cons, List.length_append, ih]; simp [by4]; omega
theorem drop_at {L : List AV} {k : Nat} (h : k < L.length) : L.drop k = L.getD k .bad :: L.drop (k + 1) := by
  rw [List.drop_eq_getElem_cons h]
  simp [List.getD, List.getElem?_eq_getElem h]

noncomputable def L28 : Code := unl (lpOf Try.f28 0)
theorem nodes28 : nodes (Try.f28.body.getD .skip) = [.loop L28] := by kernel_rfl
abbrev k28 : List Nat := [5, 2, 6, 7]
abbrev t28 : List Nat := [2, 4, 7, 8, 9, 10, 11, 12, 13, 14]
def S28 (el : TypeId) (own hd : Bool) (L : List AV) (f : Nat → Value) (n i : Int) (acc : List AV) : St :=
  ⟨tmF k28 t28 [.vec 0, .vec 2, i8 n, i8 i] f 16 0, ⟨[], [some ⟨el, true, c4, 0, own, hd, L⟩, none, some ⟨5, false, [.int .u8], 2, true, true, acc⟩]⟩⟩
theorem raw28 (el : TypeId) (own hd : Bool) (L : List AV) (f : Nat → Value) (n i : Int) (acc : List AV) :
    turnK CallSem.nil Try.prog 1 L28 k28 t28 0 2 (S28 el own hd L f n i acc) =
      (bif decide (i < n) then
       (if 0 ≤ i ∧ i < (L.length : Int) then (if i.toNat < L.length then
       (bif decide (acc.length + 4 ≤ 65536) && true && true && true && true then
        some (.normal, S28 el own hd L f n (W (i + 1)) (acc ++ by4 (L.getD i.toNat .bad))) else none) else none) else none) else some (.exit 0, S28 el own hd L f n i acc)) := by kernel_rfl
noncomputable def L29 : Code := unl (lpOf Try.f29 0)
theorem nodes29 : nodes (Try.f29.body.getD .skip) = [.loop L29] := by kernel_rfl
abbrev k29 : List Nat := [0, 3, 4]
abbrev t29 : List Nat := [3, 4, 5, 6, 7, 8, 9, 10, 11, 12, 13, 14, 15, 16, 17, 18, 19, 20, 21, 22, 23, 24, 25, 26, 27, 28, 29, 30, 31, 32, 33]
def S29 (el : TypeId) (own hd : Bool) (L : List AV) (f : Nat → Value) (i : Int) (acc : List AV) : St :=
  ⟨tmF k29 t29 [.vec 0, .vec 2, i8 i] f 35 0, ⟨[], [some ⟨el, true, c4, 0, own, hd, L⟩, none, some ⟨5, false, [.int .u8], 2, true, true, acc⟩]⟩⟩
theorem raw29 (el : TypeId) (own hd : Bool) (L : List AV) (f : Nat → Value) (i : Int) (acc : List AV) :
    turnK CallSem.nil Try.prog 1 L29 k29 t29 0 2 (S29 el own hd L f i acc) =
      (bif decide (i < (L.length : Int)) then
       (if 0 ≤ i ∧ i < (L.length : Int) then (if i.toNat < L.length then (if 0 ≤ i ∧ i < (L.length : Int) then (if i.toNat < L.length then
       (if 0 ≤ i ∧ i < (L.length : Int) then (if i.toNat < L.length then (if 0 ≤ i ∧ i < (L.length : Int) then (if i.toNat < L.length then
       (bif decide (acc.length + 4 ≤ 65536) && true && true && true && true then
        some (.normal, S29 el own hd L f (W (i + 1)) (acc ++ by4 (L.getD i.toNat .bad))) else none) else none) else none) else none) else none) else none) else none) else none) else none) else some (.exit 0, S29 el own hd L f i acc)) := by kernel_rfl
theorem turn28 (el : TypeId) (own hd : Bool) (L : List AV) (f : Nat → Value) (j : Nat) (acc : List AV) (h : j < L.length) (hL : L.length ≤ 16384) (ha : acc.length + 4 ≤ 65536) :
    turnK CallSem.nil Try.prog 1 L28 k28 t28 0 2 (S28 el own hd L f (L.length : Nat) ((j : Nat) : Int) acc) = some (.normal, S28 el own hd L f (L.length : Nat) ((j + 1 : Nat) : Int) (acc ++ by4 (L.getD j .bad))) := by
  have e1 : W (((j : Nat) : Int) + 1) = ((j + 1 : Nat) : Int) := by rw [W_id (by omega) (by omega)]; omega
  rw [raw28, e1, decide_eq_true (by omega), cond_true, if_pos (by omega), if_pos (by omega), decide_eq_true ha]
  rfl
theorem end28 (el : TypeId) (own hd : Bool) (L : List AV) (f : Nat → Value) (j : Nat) (acc : List AV) (h : L.length ≤ j) :
    turnK CallSem.nil Try.prog 1 L28 k28 t28 0 2 (S28 el own hd L f (L.length : Nat) ((j : Nat) : Int) acc) = some (.exit 0, S28 el own hd L f (L.length : Nat) ((j : Nat) : Int) acc) := by
  rw [raw28, decide_eq_false (by omega), cond_false]
theorem loop28 (el : TypeId) (own hd : Bool) (L : List AV) (f : Nat → Value) (hL : L.length ≤ 16384) (s : Nat × List AV) (hi : s.1 ≤ L.length ∧ s.2.length + 4 * (L.length - s.1) ≤ 65536) :
    CodeOkN 0 2 Try.prog (.loop L28) (S28 el own hd L f (L.length : Nat) ((s.1 : Nat) : Int) s.2) (.exit 0) (S28 el own hd L f (L.length : Nat) ((L.length : Nat) : Int) (s.2 ++ flat (L.drop s.1))) := by
  refine loop_ok (fun s : Nat × List AV => S28 el own hd L f (L.length : Nat) ((s.1 : Nat) : Int) s.2) (fun s => (.exit 0, S28 el own hd L f (L.length : Nat) ((L.length : Nat) : Int) (s.2 ++ flat (L.drop s.1))))
    (fun s => if s.1 < L.length then some (s.1 + 1, s.2 ++ by4 (L.getD s.1 .bad)) else none)
    (fun s => L.length - s.1) (fun s => s.1 ≤ L.length ∧ s.2.length + 4 * (L.length - s.1) ≤ 65536) ?_ ?_ s hi
  · rintro ⟨j, acc⟩ ⟨h1, h2⟩ hn
    refine ⟨fun e => (by cases e), ?_⟩
    have hj : j = L.length := by
      by_cases h : j < L.length
      · simp [h] at hn
      · simp only at h1; omega
    subst hj
    simp only
    rw [List.drop_eq_nil_of_le (Nat.le_refl _)]
    simp only [flat, List.flatMap_nil, List.append_nil]
    exact turn_ok nilS mixed (LoopsOk.no _ _) rfl rfl (end28 el own hd L f L.length acc (Nat.le_refl _))
  · rintro ⟨j, acc⟩ s' ⟨h1, h2⟩ hn
    by_cases h : j < L.length
    · simp only [h, if_true, Option.some.injEq] at hn
      subst hn
      simp only at h1 h2
      refine ⟨⟨by simp only; omega, by simp [by4]; omega⟩, by simp only; omega, ?_, turn_ok nilS mixed (LoopsOk.no _ _) rfl rfl (turn28 el own hd L f j acc h hL (by omega))⟩
      simp only
      rw [drop_at h, flat_cons]
      simp
    · simp [h] at hn
def bytes_L28 : LSpec where
  n := 16
  nils := [⟨2, 5, false, [.int .u8]⟩]
  keep := k28
  touch := t28
  run kv M k := match kv, M with
    | [.vec h0, .vec h1, .lit (.int .i64 n), .lit (.int .i64 i)], ⟨[], [some ⟨el, true, sh0, t0, own, hd, L⟩, some ⟨el', false, sh, t1, true, true, []⟩]⟩ =>
      bif decide (h0 = 0) && decide (h1 = 1) && decide (t0 = 0) && decide (t1 = 1) && decide (el' = 5) && decide (sh = [.int .u8]) && decide (sh0 = c4) && (decide (n = (L.length : Int)) && decide (i = 0)) && decide (L.length ≤ 16384) then
        k (.exit 0) [.vec 0, .vec 2, i8 (L.length : Nat), i8 (L.length : Nat)] ⟨[], [some ⟨el, true, c4, 0, own, hd, L⟩, none, some ⟨5, false, [.int .u8], 2, true, true, flat L⟩]⟩
      else none
    | _, _ => none
theorem bytes_Lok28 : bytes_L28.Ok Try.prog (.loop L28) := by
  intro R kv M k r h
  simp only [bytes_L28] at h
  split at h
  · rename_i h0 h1 n i el sh0 t0 own hd L el' sh t1
    simp only [cond_eq_ite, Bool.and_eq_true, decide_eq_true_eq] at h
    split at h
    · rename_i hc
      obtain ⟨⟨⟨⟨⟨⟨⟨⟨rfl, rfl⟩, rfl⟩, rfl⟩, rfl⟩, rfl⟩, rfl⟩, rfl, rfl⟩, hn⟩ := hc
      refine ⟨_, _, _, h, fun f => ?_⟩
      have hN := loop28 el own hd L f hn (0, []) (by simp; omega)
      exact CodeOkN.full (CodeOkN.enter [(2, true)] (st1 := S28 el own hd L f (L.length : Nat) 0 []) (by kernel_rfl) rfl rfl hN) rfl
    · cases h
  · cases h
noncomputable def C28 : CallSem := CallSem.nil.withLoops (one 2 bytes_L28)
theorem C28_sound : C28.Sound Try.prog := CallSem.withLoops_sound nilS _
theorem C28_loops : ∀ c, Try.f28.body = some c → LoopsOk Try.prog C28.loops c := one_ok nodes28 bytes_Lok28
theorem bytes_eq28 (el : TypeId) (own hd : Bool) (L : List AV) : fnK C28 Try.prog 2 Try.f28 [.vec 0] ⟨[], [some ⟨el, true, c4, 0, own, hd, L⟩]⟩ [⟨0, 5, false, [.int .u8]⟩] =
    (bif decide (L.length ≤ 16384) then some (.vec 1, ⟨[], [some ⟨el, true, c4, 0, own, hd, L⟩, some ⟨5, false, [.int .u8], 1, true, true, flat L⟩]⟩) else none) := by
  have e : fnK C28 Try.prog 2 Try.f28 [.vec 0] ⟨[], [some ⟨el, true, c4, 0, own, hd, L⟩]⟩ [⟨0, 5, false, [.int .u8]⟩] =
    (bif true && (decide ((L.length : Int) = (L.length : Int)) && true) && decide (L.length ≤ 16384) then some (.vec 1, ⟨[], [some ⟨el, true, c4, 0, own, hd, L⟩, some ⟨5, false, [.int .u8], 1, true, true, flat L⟩]⟩) else none) := by kernel_rfl
  rw [e]; simp
theorem turn29 (el : TypeId) (own hd : Bool) (L : List AV) (f : Nat → Value) (j : Nat) (acc : List AV) (h : j < L.length) (hL : L.length ≤ 16384) (ha : acc.length + 4 ≤ 65536) :
    turnK CallSem.nil Try.prog 1 L29 k29 t29 0 2 (S29 el own hd L f ((j : Nat) : Int) acc) = some (.normal, S29 el own hd L f ((j + 1 : Nat) : Int) (acc ++ by4 (L.getD j .bad))) := by
  have e1 : W (((j : Nat) : Int) + 1) = ((j + 1 : Nat) : Int) := by rw [W_id (by omega) (by omega)]; omega
  rw [raw29, e1, decide_eq_true (by omega), cond_true, if_pos (by omega), if_pos (by omega), if_pos (by omega), if_pos (by omega), if_pos (by omega), if_pos (by omega), if_pos (by omega), if_pos (by omega), decide_eq_true ha]
  rfl
theorem end29 (el : TypeId) (own hd : Bool) (L : List AV) (f : Nat → Value) (j : Nat) (acc : List AV) (h : L.length ≤ j) :
    turnK CallSem.nil Try.prog 1 L29 k29 t29 0 2 (S29 el own hd L f ((j : Nat) : Int) acc) = some (.exit 0, S29 el own hd L f ((j : Nat) : Int) acc) := by
  rw [raw29, decide_eq_false (by omega), cond_false]
theorem loop29 (el : TypeId) (own hd : Bool) (L : List AV) (f : Nat → Value) (hL : L.length ≤ 16384) (s : Nat × List AV) (hi : s.1 ≤ L.length ∧ s.2.length + 4 * (L.length - s.1) ≤ 65536) :
    CodeOkN 0 2 Try.prog (.loop L29) (S29 el own hd L f ((s.1 : Nat) : Int) s.2) (.exit 0) (S29 el own hd L f ((L.length : Nat) : Int) (s.2 ++ flat (L.drop s.1))) := by
  refine loop_ok (fun s : Nat × List AV => S29 el own hd L f ((s.1 : Nat) : Int) s.2) (fun s => (.exit 0, S29 el own hd L f ((L.length : Nat) : Int) (s.2 ++ flat (L.drop s.1))))
    (fun s => if s.1 < L.length then some (s.1 + 1, s.2 ++ by4 (L.getD s.1 .bad)) else none)
    (fun s => L.length - s.1) (fun s => s.1 ≤ L.length ∧ s.2.length + 4 * (L.length - s.1) ≤ 65536) ?_ ?_ s hi
  · rintro ⟨j, acc⟩ ⟨h1, h2⟩ hn
    refine ⟨fun e => (by cases e), ?_⟩
    have hj : j = L.length := by
      by_cases h : j < L.length
      · simp [h] at hn
      · simp only at h1; omega
    subst hj
    simp only
    rw [List.drop_eq_nil_of_le (Nat.le_refl _)]
    simp only [flat, List.flatMap_nil, List.append_nil]
    exact turn_ok nilS mixed (LoopsOk.no _ _) rfl rfl (end29 el own hd L f L.length acc (Nat.le_refl _))
  · rintro ⟨j, acc⟩ s' ⟨h1, h2⟩ hn
    by_cases h : j < L.length
    · simp only [h, if_true, Option.some.injEq] at hn
      subst hn
      simp only at h1 h2
      refine ⟨⟨by simp only; omega, by simp [by4]; omega⟩, by simp only; omega, ?_, turn_ok nilS mixed (LoopsOk.no _ _) rfl rfl (turn29 el own hd L f j acc h hL (by omega))⟩
      simp only
      rw [drop_at h, flat_cons]
      simp
    · simp [h] at hn
def bytes_L29 : LSpec where
  n := 35
  nils := [⟨3, 5, false, [.int .u8]⟩]
  keep := k29
  touch := t29
  run kv M k := match kv, M with
    | [.vec h0, .vec h1, .lit (.int .i64 i)], ⟨[], [some ⟨el, true, sh0, t0, own, hd, L⟩, some ⟨el', false, sh, t1, true, true, []⟩]⟩ =>
      bif decide (h0 = 0) && decide (h1 = 1) && decide (t0 = 0) && decide (t1 = 1) && decide (el' = 5) && decide (sh = [.int .u8]) && decide (sh0 = c4) && decide (i = 0) && decide (L.length ≤ 16384) then
        k (.exit 0) [.vec 0, .vec 2, i8 (L.length : Nat)] ⟨[], [some ⟨el, true, c4, 0, own, hd, L⟩, none, some ⟨5, false, [.int .u8], 2, true, true, flat L⟩]⟩
      else none
    | _, _ => none
theorem bytes_Lok29 : bytes_L29.Ok Try.prog (.loop L29) := by
  intro R kv M k r h
  simp only [bytes_L29] at h
  split at h
  · rename_i h0 h1 i el sh0 t0 own hd L el' sh t1
    simp only [cond_eq_ite, Bool.and_eq_true, decide_eq_true_eq] at h
    split at h
    · rename_i hc
      obtain ⟨⟨⟨⟨⟨⟨⟨⟨rfl, rfl⟩, rfl⟩, rfl⟩, rfl⟩, rfl⟩, rfl⟩, rfl⟩, hn⟩ := hc
      refine ⟨_, _, _, h, fun f => ?_⟩
      have hN := loop29 el own hd L f hn (0, []) (by simp; omega)
      exact CodeOkN.full (CodeOkN.enter [(3, true)] (st1 := S29 el own hd L f 0 []) (by kernel_rfl) rfl rfl hN) rfl
    · cases h
  · cases h
theorem e29 : Enters Try.prog 29 Try.f29 := ⟨Try.func29, by kernel_rfl, by kernel_rfl⟩
noncomputable def C29 : CallSem := CallSem.nil.withLoops (one 3 bytes_L29)
theorem C29_sound : C29.Sound Try.prog := CallSem.withLoops_sound nilS _
theorem C29_loops : ∀ c, Try.f29.body = some c → LoopsOk Try.prog C29.loops c := one_ok nodes29 bytes_Lok29
theorem bytes_eq29 (el : TypeId) (own hd : Bool) (L : List AV) : fnK C29 Try.prog 2 Try.f29 [.vec 0] ⟨[], [some ⟨el, true, c4, 0, own, hd, L⟩]⟩ [⟨0, 5, false, [.int .u8]⟩] =
    (bif decide (L.length ≤ 16384) then some (.vec 1, ⟨[], [some ⟨el, true, c4, 0, own, hd, L⟩, some ⟨5, false, [.int .u8], 1, true, true, flat L⟩]⟩) else none) := by
  have e : fnK C29 Try.prog 2 Try.f29 [.vec 0] ⟨[], [some ⟨el, true, c4, 0, own, hd, L⟩]⟩ [⟨0, 5, false, [.int .u8]⟩] =
    (bif true && true && decide (L.length ≤ 16384) then some (.vec 1, ⟨[], [some ⟨el, true, c4, 0, own, hd, L⟩, some ⟨5, false, [.int .u8], 1, true, true, flat L⟩]⟩) else none) := by kernel_rfl
  rw [e]; simp
def bytes_M : MSpec where
  nils := [⟨0, 23, true, c4⟩]
  run args M k := match args, M with
    | [.vec h0], ⟨[], [some ⟨el, true, sh, t0, own, hd, L⟩]⟩ => bif decide (h0 = 0) && decide (t0 = 0) && decide (sh = c4) && decide (L.length ≤ 16384) then
        k (.vec 1) ⟨[], [some ⟨el, true, c4, 0, own, hd, L⟩, some ⟨5, false, [.int .u8], 1, true, true, flat L⟩]⟩ else none
    | _, _ => none
theorem bytes_Mok28 : bytes_M.Ok Try.prog 28 := by
  intro R args M k r h
  simp only [bytes_M] at h
  split at h
  · rename_i h0 el sh t0 own hd L
    simp only [cond_eq_ite, Bool.and_eq_true, decide_eq_true_eq] at h
    split at h
    · rename_i hc
      obtain ⟨⟨⟨rfl, rfl⟩, rfl⟩, hn⟩ := hc
      refine ⟨_, _, h, fn_ok (C := C28) (n := 2) (ts := [⟨0, 5, false, [.int .u8]⟩]) C28_sound mixed e28 C28_loops ?_ rfl⟩
      rw [bytes_eq28, decide_eq_true hn, cond_true]
    · cases h
  · cases h
theorem bytes_Mok29 : bytes_M.Ok Try.prog 29 := by
  intro R args M k r h
  simp only [bytes_M] at h
  split at h
  · rename_i h0 el sh t0 own hd L
    simp only [cond_eq_ite, Bool.and_eq_true, decide_eq_true_eq] at h
    split at h
    · rename_i hc
      obtain ⟨⟨⟨rfl, rfl⟩, rfl⟩, hn⟩ := hc
      refine ⟨_, _, h, fn_ok (C := C29) (n := 2) (ts := [⟨0, 5, false, [.int .u8]⟩]) C29_sound mixed e29 C29_loops ?_ rfl⟩
      rw [bytes_eq29, decide_eq_true hn, cond_true]
    · cases h
  · cases h
end Go.Proofs.Ytpgheiegpcggbaa
