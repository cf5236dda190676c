/- hue.From: bytes to colours, any row (chapter 3). -/
import Derived.Test.YtpgheiegpcggbaaR1H
import Derived.Test.YtpgheiegpcggbaaSxZ
set_option linter.unusedVariables false
set_option linter.unusedSimpArgs false
namespace Go.Proofs.Ytpgheiegpcggbaa
open Go Go.Sx
set_option maxRecDepth 100000

def quads : List Int → List AV
  | n0 :: n1 :: n2 :: n3 :: l => col n0 n1 n2 n3 :: quads l
  | _ => []
theorem quads_len : ∀ (m : Nat) (l : List Int), l.length = 4 * m → (quads l).length = m
  | 0, l, h => by have : l = [] := List.eq_nil_of_length_eq_zero (by omega); subst this; rfl
  | m + 1, n0 :: n1 :: n2 :: n3 :: l, h => by simp only [quads, List.length_cons] at *; rw [quads_len m l (by omega)]
  | m + 1, [], h => by simp at h
  | m + 1, [_], h => by simp at h; omega
  | m + 1, [_, _], h => by simp at h; omega
  | m + 1, [_, _, _], h => by simp at h; omega

noncomputable def L21 : Code := unl (lpOf Try.f21 0)
theorem nodes21 : nodes (Try.f21.body.getD .skip) = [.loop L21] := by kernel_rfl
abbrev k21 : List Nat := [0, 2]
abbrev t21 : List Nat := [0, 2, 8, 9, 10, 11, 12, 13, 14, 15, 16, 17, 18]
def S21 (el : TypeId) (own hd : Bool) (L : List AV) (f : Nat → Value) (s : List Int × List AV) : St :=
  ⟨tmF k21 t21 [.vec 2, .vec 3] f 20 0, ⟨[], [some ⟨el, false, [.int .u8], 0, own, hd, L⟩, none, some ⟨el, false, [.int .u8], 0, own, false, s.1.map b8⟩, some ⟨23, true, c4, 3, true, true, s.2⟩]⟩⟩
theorem turn21 (el : TypeId) (own hd : Bool) (L : List AV) (f : Nat → Value) (n0 n1 n2 n3 : Int) (l : List Int) (acc : List AV) (h : acc.length + 1 ≤ 65536) :
    turnK CallSem.nil Try.prog 1 L21 k21 t21 0 2 (S21 el own hd L f (n0 :: n1 :: n2 :: n3 :: l, acc)) = some (.normal, S21 el own hd L f (l, acc ++ [col n0 n1 n2 n3])) := by
  have e : turnK CallSem.nil Try.prog 1 L21 k21 t21 0 2 (S21 el own hd L f (n0 :: n1 :: n2 :: n3 :: l, acc)) =
      (bif decide (((l.map b8).length + 4 : Nat) > (0 : Int)) then (bif decide (acc.length + 1 ≤ 65536) && true && true && true && true then (if 0 ≤ (4 : Int) ∧ (4 : Int) ≤ (((l.map b8).length + 4 : Nat) : Int) then
       some (.normal, S21 el own hd L f (l, acc ++ [col n0 n1 n2 n3])) else none) else none) else some (.exit 0, ⟨tmF k21 t21 [.vec 2, .vec 3] f 20 0, ⟨[], [some ⟨el, false, [.int .u8], 0, own, hd, L⟩, none, some ⟨el, false, [.int .u8], 0, own, false, (n0 :: n1 :: n2 :: n3 :: l).map b8⟩, some ⟨23, true, c4, 3, true, true, acc⟩]⟩⟩)) := by kernel_rfl
  rw [e, decide_eq_true (by omega), decide_eq_true h, if_pos (by omega)]
  rfl
theorem end21 (el : TypeId) (own hd : Bool) (L : List AV) (f : Nat → Value) (acc : List AV) :
    turnK CallSem.nil Try.prog 1 L21 k21 t21 0 2 (S21 el own hd L f ([], acc)) = some (.exit 0, S21 el own hd L f ([], acc)) := by kernel_rfl
def next21 (s : List Int × List AV) : Option (List Int × List AV) := match s.1 with
  | n0 :: n1 :: n2 :: n3 :: l => some (l, s.2 ++ [col n0 n1 n2 n3])
  | _ => none
theorem loop21 (el : TypeId) (own hd : Bool) (L : List AV) (f : Nat → Value) (s : List Int × List AV) (hi : s.1.length % 4 = 0 ∧ s.2.length + s.1.length ≤ 65536) :
    CodeOkN 0 2 Try.prog (.loop L21) (S21 el own hd L f s) (.exit 0) (S21 el own hd L f ([], s.2 ++ quads s.1)) := by
  refine loop_ok (S21 el own hd L f) (fun s => (.exit 0, S21 el own hd L f ([], s.2 ++ quads s.1))) next21 (fun s => s.1.length) (fun s => s.1.length % 4 = 0 ∧ s.2.length + s.1.length ≤ 65536) ?_ ?_ s hi
  · rintro ⟨l, acc⟩ ⟨h1, h2⟩ hn
    refine ⟨fun e => (by cases e), ?_⟩
    have hl : l = [] := by
      match l, h1, hn with
      | [], _, _ => rfl
      | [_], h1, _ => simp at h1
      | [_, _], h1, _ => simp at h1
      | [_, _, _], h1, _ => simp at h1
      | _ :: _ :: _ :: _ :: _, _, hn => simp [next21] at hn
    subst hl
    simp only [quads, List.append_nil]
    exact turn_ok nilS mixed (LoopsOk.no _ _) rfl rfl (end21 el own hd L f acc)
  · rintro ⟨l, acc⟩ s' ⟨h1, h2⟩ hn
    match l, h1, h2, hn with
    | [], _, _, hn => simp [next21] at hn
    | [_], _, _, hn => simp [next21] at hn
    | [_, _], _, _, hn => simp [next21] at hn
    | [_, _, _], _, _, hn => simp [next21] at hn
    | n0 :: n1 :: n2 :: n3 :: l, h1, h2, hn =>
      simp only [next21, Option.some.injEq] at hn
      subst hn
      simp only [List.length_cons, List.length_append, List.length_nil] at *
      refine ⟨⟨by omega, by omega⟩, by omega, by simp [quads], ?_⟩
      exact turn_ok nilS mixed (LoopsOk.no _ _) rfl rfl (turn21 el own hd L f n0 n1 n2 n3 l acc (by omega))

def from_L : LSpec where
  n := 20
  nils := [⟨2, 23, true, c4⟩]
  keep := k21
  touch := t21
  run kv M k := match kv, M with
    | [.vec h0, .vec h1], ⟨[], [some ⟨el, false, [.int .u8], t0, own, hd, L⟩, some ⟨el', true, sh, t1, true, true, []⟩]⟩ =>
      bif decide (h0 = 0) && decide (h1 = 1) && decide (t0 = 0) && decide (t1 = 1) && decide (el' = 23) && decide (sh = c4) && decide (L.length % 4 = 0) && decide (L.length ≤ 65536) then
        k (.exit 0) [.vec 2, .vec 3] ⟨[], [some ⟨el, false, [.int .u8], 0, own, hd, L⟩, none, some ⟨el, false, [.int .u8], 0, own, false, []⟩, some ⟨23, true, c4, 3, true, true, quads (L.map AV.getInt)⟩]⟩
      else none
    | _, _ => none
theorem from_Lok : from_L.Ok Try.prog (.loop L21) := by
  intro R kv M k r h
  simp only [from_L] at h
  split at h
  · rename_i h0 h1 el t0 own hd L el' sh t1
    simp only [cond_eq_ite, Bool.and_eq_true, decide_eq_true_eq] at h
    split at h
    · rename_i hc
      obtain ⟨⟨⟨⟨⟨⟨⟨rfl, rfl⟩, rfl⟩, rfl⟩, rfl⟩, rfl⟩, hl⟩, hn⟩ := hc
      refine ⟨_, _, _, h, fun f => CodeOk.of_rep fun ⟨E, w0, a, w, hR⟩ => ?_⟩
      have hL := ints_of_shape (l := L) (k := .u8) (hR.vec (i := 0) rfl)
      have hlen : (L.map AV.getInt).length = L.length := by simp
      have hN := loop21 el own hd L f (L.map AV.getInt, []) (by rw [hlen]; simp; omega)
      refine CodeOkN.full (CodeOkN.enter [(0, false), (2, true)] (st1 := S21 el own hd L f (L.map AV.getInt, [])) ?_ rfl rfl hN) rfl
      show _ = S21 el own hd L f (L.map AV.getInt, [])
      unfold S21
      rw [show (List.map AV.getInt L).map b8 = L from hL.symm]
      kernel_rfl
    · cases h
  · cases h
end Go.Proofs.Ytpgheiegpcggbaa
