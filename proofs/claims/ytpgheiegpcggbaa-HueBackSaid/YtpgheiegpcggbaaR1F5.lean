/- The document's HueFrom, any row (chapter 3). -/
import Derived.Test.YtpgheiegpcggbaaR1F4
set_option linter.unusedVariables false
set_option linter.unusedSimpArgs false
namespace Go.Proofs.Ytpgheiegpcggbaa
open Go Go.Sx
set_option maxRecDepth 100000

theorem e22 : Enters Try.prog 22 Try.f22 := ⟨Try.func22, by kernel_rfl, by kernel_rfl⟩
noncomputable def L22 : Code := unl (lpOf Try.f22 0)
theorem nodes22 : nodes (Try.f22.body.getD .skip) = [.loop L22] := by kernel_rfl
abbrev k22 : List Nat := [0, 4, 5]
abbrev t22 : List Nat := [4, 5, 10, 11, 12, 13, 14, 15, 16, 17, 18, 19, 20, 21, 22, 23, 24, 25, 26, 27, 28, 29, 30, 31, 32, 33, 34, 35, 36, 37, 38]
def rowE (el : TypeId) (own hd : Bool) (L : List AV) : Option Ent := some ⟨el, false, [.int .u8], 0, own, hd, L⟩
def S22 (el : TypeId) (own hd : Bool) (L : List AV) (f : Nat → Value) (i : Int) (acc : List AV) : St :=
  ⟨tmF k22 t22 [.vec 0, .vec 2, i8 i] f 40 0, ⟨[], [rowE el own hd L, none, some ⟨23, true, c4, 2, true, true, acc⟩]⟩⟩
abbrev gI (L : List AV) (i : Int) : Int := (L.getD i.toNat .bad).getInt
theorem raw22 (el : TypeId) (own hd : Bool) (L : List AV) (f : Nat → Value) (i : Int) (acc : List AV) :
    turnK CallSem.nil Try.prog 1 L22 k22 t22 0 2 (S22 el own hd L f i acc) =
      (bif decide (i < (L.length : Int)) then
       (if 0 ≤ i ∧ i < (L.length : Int) then (if i.toNat < L.length then
       (if 0 ≤ W (i + 1) ∧ W (i + 1) < (L.length : Int) then (if (W (i + 1)).toNat < L.length then
       (if 0 ≤ W (i + 2) ∧ W (i + 2) < (L.length : Int) then (if (W (i + 2)).toNat < L.length then
       (if 0 ≤ W (i + 3) ∧ W (i + 3) < (L.length : Int) then (if (W (i + 3)).toNat < L.length then
       (bif decide (acc.length + 1 ≤ 65536) && true && true && true && true then
        some (.normal, S22 el own hd L f (W (i + 4)) (acc ++ [col (gI L i) (gI L (W (i + 1))) (gI L (W (i + 2))) (gI L (W (i + 3)))])) else none) else none) else none) else none) else none) else none) else none) else none) else none) else some (.exit 0, S22 el own hd L f i acc)) := by kernel_rfl
theorem drop_gI {L : List AV} {k : Nat} (h : k < L.length) : (L.map AV.getInt).drop k = gI L k :: (L.map AV.getInt).drop (k + 1) := by
  rw [List.drop_eq_getElem_cons (by simpa using h)]
  simp [gI, List.getD, List.getElem?_eq_getElem h]
theorem turn22 (el : TypeId) (own hd : Bool) (L : List AV) (f : Nat → Value) (j : Nat) (acc : List AV) (h : 4 * j + 4 ≤ L.length) (hL : L.length ≤ 65536) (ha : acc.length + 1 ≤ 65536) :
    turnK CallSem.nil Try.prog 1 L22 k22 t22 0 2 (S22 el own hd L f ((4 * j : Nat) : Int) acc) =
      some (.normal, S22 el own hd L f ((4 * (j + 1) : Nat) : Int) (acc ++ [col (gI L ((4 * j : Nat) : Int)) (gI L ((4 * j + 1 : Nat) : Int)) (gI L ((4 * j + 2 : Nat) : Int)) (gI L ((4 * j + 3 : Nat) : Int))])) := by
  have e1 : W (((4 * j : Nat) : Int) + 1) = ((4 * j + 1 : Nat) : Int) := by rw [W_id (by omega) (by omega)]; omega
  have e2 : W (((4 * j : Nat) : Int) + 2) = ((4 * j + 2 : Nat) : Int) := by rw [W_id (by omega) (by omega)]; omega
  have e3 : W (((4 * j : Nat) : Int) + 3) = ((4 * j + 3 : Nat) : Int) := by rw [W_id (by omega) (by omega)]; omega
  have e4 : W (((4 * j : Nat) : Int) + 4) = ((4 * (j + 1) : Nat) : Int) := by rw [W_id (by omega) (by omega)]; omega
  rw [raw22, e1, e2, e3, e4, decide_eq_true (by omega), cond_true, if_pos (by omega), if_pos (by omega), if_pos (by omega), if_pos (by omega), if_pos (by omega), if_pos (by omega), if_pos (by omega), if_pos (by omega), decide_eq_true ha]
  rfl
theorem end22 (el : TypeId) (own hd : Bool) (L : List AV) (f : Nat → Value) (j : Nat) (acc : List AV) (h : L.length ≤ 4 * j) :
    turnK CallSem.nil Try.prog 1 L22 k22 t22 0 2 (S22 el own hd L f ((4 * j : Nat) : Int) acc) = some (.exit 0, S22 el own hd L f ((4 * j : Nat) : Int) acc) := by
  rw [raw22, decide_eq_false (by omega), cond_false]
theorem loop22 (el : TypeId) (own hd : Bool) (L : List AV) (f : Nat → Value) (m : Nat) (hm : L.length = 4 * m) (hL : L.length ≤ 65536) (s : Nat × List AV) (hi : s.1 ≤ m ∧ s.2.length + (m - s.1) ≤ 65536) :
    CodeOkN 0 2 Try.prog (.loop L22) (S22 el own hd L f ((4 * s.1 : Nat) : Int) s.2) (.exit 0) (S22 el own hd L f ((4 * m : Nat) : Int) (s.2 ++ quads ((L.map AV.getInt).drop (4 * s.1)))) := by
  refine loop_ok (fun s : Nat × List AV => S22 el own hd L f ((4 * s.1 : Nat) : Int) s.2) (fun s => (.exit 0, S22 el own hd L f ((4 * m : Nat) : Int) (s.2 ++ quads ((L.map AV.getInt).drop (4 * s.1)))))
    (fun s => if s.1 < m then some (s.1 + 1, s.2 ++ [col (gI L ((4 * s.1 : Nat) : Int)) (gI L ((4 * s.1 + 1 : Nat) : Int)) (gI L ((4 * s.1 + 2 : Nat) : Int)) (gI L ((4 * s.1 + 3 : Nat) : Int))]) else none)
    (fun s => m - s.1) (fun s => s.1 ≤ m ∧ s.2.length + (m - s.1) ≤ 65536) ?_ ?_ s hi
  · rintro ⟨j, acc⟩ ⟨h1, h2⟩ hn
    refine ⟨fun e => (by cases e), ?_⟩
    have hj : j = m := by
      by_cases h : j < m
      · simp [h] at hn
      · simp only at h1; omega
    subst hj
    simp only
    rw [List.drop_eq_nil_of_le (by simp; omega)]
    simp only [quads, List.append_nil]
    exact turn_ok nilS mixed (LoopsOk.no _ _) rfl rfl (end22 el own hd L f j acc (by omega))
  · rintro ⟨j, acc⟩ s' ⟨h1, h2⟩ hn
    by_cases h : j < m
    · simp only [h, if_true, Option.some.injEq] at hn
      subst hn
      simp only at h1 h2
      refine ⟨⟨by simp only; omega, by simp; omega⟩, by simp only; omega, ?_, turn_ok nilS mixed (LoopsOk.no _ _) rfl rfl (turn22 el own hd L f j acc (by omega) hL (by omega))⟩
      simp only
      rw [drop_gI (L := L) (k := 4 * j) (by omega), drop_gI (L := L) (k := 4 * j + 1) (by omega), drop_gI (L := L) (k := 4 * j + 2) (by omega), drop_gI (L := L) (k := 4 * j + 3) (by omega)]
      simp [quads, show 4 * (j + 1) = 4 * j + 4 by omega]
    · simp [h] at hn

def hfrom_L : LSpec where
  n := 40
  nils := [⟨4, 23, true, c4⟩]
  keep := k22
  touch := t22
  run kv M k := match kv, M with
    | [.vec h0, .vec h1, .lit (.int .i64 i)], ⟨[], [some ⟨el, false, [.int .u8], t0, own, hd, L⟩, some ⟨el', true, sh, t1, true, true, []⟩]⟩ =>
      bif decide (h0 = 0) && decide (h1 = 1) && decide (t0 = 0) && decide (t1 = 1) && decide (el' = 23) && decide (sh = c4) && decide (i = 0) && decide (L.length % 4 = 0) && decide (L.length ≤ 65536) then
        k (.exit 0) [.vec 0, .vec 2, i8 (L.length : Nat)] ⟨[], [rowE el own hd L, none, some ⟨23, true, c4, 2, true, true, quads (L.map AV.getInt)⟩]⟩
      else none
    | _, _ => none
theorem hfrom_Lok : hfrom_L.Ok Try.prog (.loop L22) := by
  intro R kv M k r h
  simp only [hfrom_L] at h
  split at h
  · rename_i h0 h1 i el t0 own hd L el' sh t1
    simp only [cond_eq_ite, Bool.and_eq_true, decide_eq_true_eq] at h
    split at h
    · rename_i hc
      obtain ⟨⟨⟨⟨⟨⟨⟨⟨rfl, rfl⟩, rfl⟩, rfl⟩, rfl⟩, rfl⟩, rfl⟩, hl⟩, hn⟩ := hc
      refine ⟨_, _, _, h, fun f => ?_⟩
      have hm : L.length = 4 * (L.length / 4) := by omega
      have hN := loop22 el own hd L f (L.length / 4) hm hn (0, []) (by simp; omega)
      rw [← hm] at hN
      exact CodeOkN.full (CodeOkN.enter [(4, true)] (st1 := S22 el own hd L f 0 []) (by kernel_rfl) rfl rfl hN) rfl
    · cases h
  · cases h
noncomputable def C22 : CallSem := CallSem.nil.withLoops (one 5 hfrom_L)
theorem C22_sound : C22.Sound Try.prog := CallSem.withLoops_sound nilS _
theorem C22_loops : ∀ c, Try.f22.body = some c → LoopsOk Try.prog C22.loops c := one_ok nodes22 hfrom_Lok
theorem hfrom_eq (el : TypeId) (own hd : Bool) (L : List AV) : fnK C22 Try.prog 2 Try.f22 [.vec 0] ⟨[], [some ⟨el, false, [.int .u8], 0, own, hd, L⟩]⟩ [⟨0, 23, true, c4⟩] =
    (bif (L.length : Int).tmod 4 != 0 then some (.tup [.vec 1, bo false], ⟨[], [some ⟨el, false, [.int .u8], 0, own, hd, L⟩, some ⟨23, true, c4, 1, true, true, []⟩]⟩) else
      bif true && decide (L.length % 4 = 0) && decide (L.length ≤ 65536) then some (.tup [.vec 1, bo true], ⟨[], [some ⟨el, false, [.int .u8], 0, own, hd, L⟩, some ⟨23, true, c4, 1, true, true, quads (L.map AV.getInt)⟩]⟩) else none) := by kernel_rfl
theorem hfrom_Mok : from_M.Ok Try.prog 22 := by
  intro R args M k r h
  simp only [from_M] at h
  split at h
  · rename_i h0 el t0 own hd L
    simp only [cond_eq_ite, Bool.and_eq_true, decide_eq_true_eq] at h
    split at h
    · rename_i hc
      obtain ⟨⟨rfl, rfl⟩, hn⟩ := hc
      refine ⟨_, _, h, fn_ok (C := C22) (n := 2) (ts := [⟨0, 23, true, c4⟩]) C22_sound mixed e22 C22_loops ?_ rfl⟩
      rw [hfrom_eq, tmod4, decide_eq_true hn]
      unfold fromA
      cases decide (L.length % 4 = 0) <;> rfl
    · cases h
  · cases h
end Go.Proofs.Ytpgheiegpcggbaa
