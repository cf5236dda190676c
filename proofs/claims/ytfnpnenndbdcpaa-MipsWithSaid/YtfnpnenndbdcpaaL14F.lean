/- With's loop (chapter 14): rows are laid into the texture. -/
import Derived.Test.YtfnpnenndbdcpaaL14E
import Derived.Test.YtfnpnenndbdcpaaMipB
set_option linter.unusedVariables false
set_option linter.unusedSimpArgs false
namespace Go.Proofs.Ytfnpnenndbdcpaa
open Go Go.Sx Go.Fx
set_option maxRecDepth 100000
set_option linter.unusedVariables false
set_option linter.unusedSimpArgs false
noncomputable def L11 : Code := unl (lpOf Try.f11 0)
theorem nodes11 : nodes (Try.f11.body.getD .skip) = [.loop L11] := by kernel_rfl
theorem s11 : Sx.Enters Try.prog 11 Try.f11 := ⟨Try.func11, by kernel_rfl, by kernel_rfl⟩
abbrev k11 : List Nat := [1, 2, 3, 5, 14, 15, 67, 68]
abbrev t11 : List Nat := [16, 69, 70] ++ (List.range 22).map (· + 71)
def S11 (x y w n h : Int) (o2 hd : Bool) (l : List AV) (D : Int) (wr : Bool) (f : Nat → Value) (r : Int) (T : List AV) : St :=
  ⟨tmF k11 t11 [i64 x, i64 y, i64 w, .vec 0, i64 n, .ptr 0 0, i64 h, i64 r] f 97 0, ⟨[some ⟨24, true, [i64 D, bv wr, .vec 1]⟩], [eC o2 hd l, eH 1 true T]⟩⟩
theorem raw11 (x y w n h : Int) (o2 hd : Bool) (l : List AV) (D : Int) (wr : Bool) (f : Nat → Value) (r : Int) (T : List AV) : turnK CallSem.nil Try.prog 1 L11 k11 t11 1 2 (S11 x y w n h o2 hd l D wr f r T) =
    bif decide (r < h) then (if 0 ≤ wi (wi (wi (y + r) * n) + x) ∧ wi (wi (wi (y + r) * n) + x) ≤ (T.length : Int) then
      (if 0 ≤ wi (wi (r * w) + w) ∧ wi (wi (r * w) + w) ≤ (l.length : Int) then
        (if 0 ≤ wi (r * w) ∧ wi (r * w) ≤ ((wi (wi (r * w) + w)).toNat : Int) then
          (if 0 < ((l.take (wi (wi (r * w) + w)).toNat).drop (wi (r * w)).toNat).length ∧ (wi (wi (wi (y + r) * n) + x)).toNat + ((l.take (wi (wi (r * w) + w)).toNat).drop (wi (r * w)).toNat).length ≤ T.length then
            some (.normal, S11 x y w n h o2 hd l D wr f (wi (r + 1)) (lay T ((l.take (wi (wi (r * w) + w)).toNat).drop (wi (r * w)).toNat) (wi (wi (wi (y + r) * n) + x)).toNat)) else none) else none) else none) else none)
    else some (.exit 0, S11 x y w n h o2 hd l D wr f r T) := by kernel_rfl
theorem turn11 (x y w n h : Nat) (o2 hd : Bool) (l T0 : List AV) (D : Int) (wr : Bool) (f : Nat → Value) (r : Nat) (hn : n ≤ 32) (hw : 1 ≤ w) (hx : x + w ≤ n) (hy : y + h ≤ n) (hl : l.length = w * h) (hT : T0.length = n * n) (hr : r < h) :
    turnK CallSem.nil Try.prog 1 L11 k11 t11 1 2 (S11 (x : Nat) (y : Nat) (w : Nat) (n : Nat) (h : Nat) o2 hd l D wr f (r : Nat) (layR T0 l n x y w r)) = some (.normal, S11 (x : Nat) (y : Nat) (w : Nat) (n : Nat) (h : Nat) o2 hd l D wr f ((r + 1 : Nat) : Int) (layR T0 l n x y w (r + 1))) := by
  have hnn : n * n ≤ 32 * 32 := Nat.mul_le_mul hn hn
  have hfit := row_fit (n := n) (x := x) (w := w) (y := y) (r := r) (j := n) (by omega) hx
  have hrw : r * w + w ≤ w * h := by rw [← Nat.succ_mul, Nat.mul_comm w h]; exact Nat.mul_le_mul_right w hr
  have hwh : w * h ≤ 32 * 32 := Nat.mul_le_mul (by omega) (by omega)
  have c1 : ((y : Int) + (r : Int)) * (n : Int) = (((y + r) * n : Nat) : Int) := by rw [Int.natCast_mul, Int.natCast_add]
  have c2 : (r : Int) * (w : Int) = ((r * w : Nat) : Int) := by rw [Int.natCast_mul]
  have e0 : wi ((y : Int) + (r : Int)) = (y : Int) + (r : Int) := wi_id (by omega) (by omega)
  have e1 : wi (wi (wi ((y : Int) + (r : Int)) * (n : Int)) + (x : Int)) = (((y + r) * n + x : Nat) : Int) := by
    rw [e0, c1, wi_id (n := (((y + r) * n : Nat) : Int)) (by omega) (by omega), wi_id (by omega) (by omega)]; omega
  have e2 : wi ((r : Int) * (w : Int)) = ((r * w : Nat) : Int) := by rw [c2, wi_id (by omega) (by omega)]
  have e3 : wi (((r * w : Nat) : Int) + (w : Int)) = ((r * w + w : Nat) : Int) := by rw [wi_id (by omega) (by omega)]; omega
  have e4 : wi ((r : Int) + 1) = ((r + 1 : Nat) : Int) := by rw [wi_id (by omega) (by omega)]; omega
  have hlen := layR_len hT hl hx hy r (by omega)
  have hlw : ((l.take (r * w + w)).drop (r * w)).length = w := lrow_len hl hr
  rw [raw11, e1, e2, e3, e4, decide_eq_true (by omega), cond_true, hlen, if_pos (by omega), if_pos (by omega), if_pos (by omega)]
  simp only [Int.toNat_natCast]
  rw [hlw, if_pos (by omega)]
  rfl
theorem loop11 (x y w n h : Nat) (o2 hd : Bool) (l T0 : List AV) (D : Int) (wr : Bool) (f : Nat → Value) (hn : n ≤ 32) (hw : 1 ≤ w) (hx : x + w ≤ n) (hy : y + h ≤ n) (hl : l.length = w * h) (hT : T0.length = n * n) (r : Nat) (hr : r ≤ h) :
    CodeOkN 1 2 Try.prog (.loop L11) (S11 (x : Nat) (y : Nat) (w : Nat) (n : Nat) (h : Nat) o2 hd l D wr f (r : Nat) (layR T0 l n x y w r)) (.exit 0) (S11 (x : Nat) (y : Nat) (w : Nat) (n : Nat) (h : Nat) o2 hd l D wr f (h : Nat) (layR T0 l n x y w h)) := by
  refine loop_ok (fun r : Nat => S11 (x : Nat) (y : Nat) (w : Nat) (n : Nat) (h : Nat) o2 hd l D wr f (r : Nat) (layR T0 l n x y w r)) (fun _ => (.exit 0, S11 (x : Nat) (y : Nat) (w : Nat) (n : Nat) (h : Nat) o2 hd l D wr f (h : Nat) (layR T0 l n x y w h))) (fun r => if r < h then some (r + 1) else none) (fun r => h - r) (fun r => r ≤ h) ?_ ?_ r hr
  · rintro r h1 hnn
    refine ⟨fun e => (by cases e), ?_⟩
    have hrn : r = h := by
      by_cases hh : r < h
      · simp [hh] at hnn
      · omega
    subst hrn
    refine turn_ok (C := CallSem.nil) (n := 1) nilS mixed (LoopsOk.no _ _) rfl rfl ?_
    rw [raw11, decide_eq_false (by omega), cond_false]
    rfl
  · rintro r s' h1 hnn
    by_cases hh : r < h
    · simp only [hh, if_true, Option.some.injEq] at hnn
      subst hnn
      exact ⟨by omega, by omega, rfl, turn_ok (C := CallSem.nil) (n := 1) nilS mixed (LoopsOk.no _ _) rfl rfl (turn11 x y w n h o2 hd l T0 D wr f r hn hw hx hy hl hT hh)⟩
    · simp [hh] at hnn
def gW (n x y w h : Int) (k K : Nat) : Bool := decide (0 ≤ n) && decide (n ≤ 32) && okW n x y w h k && decide ((K : Int) = n * n)
def with_L : LSpec where
  n := 97
  nils := [⟨5, 39, true, c4⟩]
  keep := k11
  touch := t11
  run kv M k := match kv, M with
    | [.lit (.int .i64 x), .lit (.int .i64 y), .lit (.int .i64 w), .vec v0, .lit (.int .i64 n), .ptr b q, .lit (.int .i64 h), .lit (.int .i64 r)], ⟨[some ⟨bt, true, [.lit (.int .i64 D), .lit (.bool wr), .vec v1]⟩], [some ⟨el, true, sh, tr, o2, hd, l⟩, some ⟨el', true, sh', tr', true, true, T⟩]⟩ =>
      bif decide (v0 = 0) && decide (b = 0) && decide (q = 0) && decide (bt = 24) && decide (v1 = 1) && decide (el = 39) && decide (sh = c4) && decide (tr = 0) && decide (el' = 39) && decide (sh' = c4) && decide (tr' = 1) && decide (r = 0) && gW n x y w h l.length T.length then
        k (.exit 0) [i64 x, i64 y, i64 w, .vec 0, i64 n, .ptr 0 0, i64 h, i64 h] ⟨[some ⟨24, true, [i64 D, bv wr, .vec 1]⟩], [eC o2 hd l, eH 1 true (withL n x y w h l T)]⟩ else none
    | _, _ => none
theorem with_Lok : with_L.Ok Try.prog (.loop L11) := by
  intro R kv M k r h
  simp only [with_L, gW] at h
  split at h
  · rename_i x y w v0 n b q h' r' bt D wr v1 el sh tr o2 hd l el' sh' tr' T
    simp only [cond_eq_ite, Bool.and_eq_true, decide_eq_true_eq] at h
    split at h
    · rename_i hc
      obtain ⟨⟨⟨⟨⟨⟨⟨⟨⟨⟨⟨⟨rfl, rfl⟩, rfl⟩, rfl⟩, rfl⟩, rfl⟩, rfl⟩, rfl⟩, rfl⟩, rfl⟩, rfl⟩, rfl⟩, ⟨⟨hn0, hn⟩, hk⟩, hT⟩ := hc
      refine ⟨_, _, _, h, fun f => ?_⟩
      obtain ⟨hw, hh, ⟨ex, ey, ew, eh, en⟩, hx, hy, hl⟩ := okW_nat hk
      have hTn : T.length = n.toNat * n.toNat := by
        have : ((n.toNat * n.toNat : Nat) : Int) = n * n := by rw [Int.natCast_mul, en]
        omega
      have hl0 := loop11 x.toNat y.toNat w.toNat n.toNat h'.toNat o2 hd l T D wr f (by omega) hw hx hy hl hTn 0 (by omega)
      rw [ex, ey, ew, eh, en] at hl0
      exact CodeOkN.full hl0 rfl
    · cases h
  · cases h
end Go.Proofs.Ytfnpnenndbdcpaa
