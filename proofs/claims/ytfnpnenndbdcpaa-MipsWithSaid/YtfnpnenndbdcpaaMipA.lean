/- Colours, and what is coarser (chapter 14), outright. -/
import Derived.Test.YtfnpnenndbdcpaaTblC
import Derived.Test.YtfnpnenndbdcpaaSxThree
set_option linter.unusedVariables false
set_option linter.unusedSimpArgs false
namespace Go.Fx
open Go Go.Sx
set_option linter.unusedVariables false
set_option linter.unusedSimpArgs false
def wb (n : Int) : Int := IntKind.u8.wrap n
abbrev u8 (n : Int) : AV := .lit (.int .u8 n)
def col (a b c d : Int) : AV := .agg [u8 a, u8 b, u8 c, u8 d]
def mnz (a b c d : Int) : Int := wb (wi ((wi (wi (wi (wi (wi a + wi b) + wi c) + wi d) + 2)).tdiv 4))
def meanS : FSpec := ⟨fun args k => match args with
  | [.agg [.lit (.int .u8 a0), .lit (.int .u8 a1), .lit (.int .u8 a2), .lit (.int .u8 a3)], .agg [.lit (.int .u8 b0), .lit (.int .u8 b1), .lit (.int .u8 b2), .lit (.int .u8 b3)],
     .agg [.lit (.int .u8 c0), .lit (.int .u8 c1), .lit (.int .u8 c2), .lit (.int .u8 c3)], .agg [.lit (.int .u8 d0), .lit (.int .u8 d1), .lit (.int .u8 d2), .lit (.int .u8 d3)]] => k (col (mnz a0 b0 c0 d0) (mnz a1 b1 c1 d1) (mnz a2 b2 c2 d2) (mnz a3 b3 c3 d3))
  | _ => none⟩
/-- an element, as a colour -/
def cA (x : AV) : AV := col (cI x 0) (cI x 1) (cI x 2) (cI x 3)
def atC (L : List AV) (i : Int) : AV := cA (L.getD i.toNat .bad)
def meanA (x y z w : AV) : AV := col (mnz (cI x 0) (cI y 0) (cI z 0) (cI w 0)) (mnz (cI x 1) (cI y 1) (cI z 1) (cI w 1)) (mnz (cI x 2) (cI y 2) (cI z 2) (cI w 2)) (mnz (cI x 3) (cI y 3) (cI z 3) (cI w 3))
/-! Round -/
def rnd (k n : Int) : Int := k % n
def roundS : FSpec := ⟨fun args k => match args with
  | [.lit (.int .i64 a), .lit (.int .i64 n)] => bif decide (0 < n) && decide (n ≤ 4294967296) then k (i64 (rnd a n)) else none
  | _ => none⟩
theorem round_eq {a n : Int} (h0 : 0 < n) (h1 : n ≤ 4294967296) : (wi (a.tmod n + n)).tmod n = rnd a n := by
  have hl := Int.lt_tmod_of_pos a h0
  have hu := Int.tmod_lt_of_pos a h0
  rw [wi_id (by omega) (by omega), Int.tmod_eq_emod_of_nonneg (by omega), Int.add_emod_right]
  unfold rnd
  rw [Int.tmod_def, Int.sub_mul_emod_self_left]
/-! Shade -/
def shA (n : Int) : AV := col (wb (wi (rnd n 16777216 * 37))) (wb (wi (wi (rnd n 16777216 * 11) + 5))) (wb (wi (rnd n 16777216 * rnd n 16777216))) (wb (wi (255 - (rnd n 16777216).tmod 3)))
def shadeS : FSpec := ⟨fun args k => match args with
  | [.lit (.int .i64 n)] => k (shA n)
  | _ => none⟩
/-! the i-th of some numbers -/
def nI (L : List AV) (i : Int) : Int := (L.getD i.toNat .bad).getInt
def atZ (L : List AV) (i n : Int) : Int := bif (L.length : Int) == 0 then 0 else rnd (wi (nI L (i.tmod L.length) + wi (i.tdiv L.length))) n
/-! what is painted -/
def xr (x y : Int) : Int := wi ((BitVec.ofInt 64 x ^^^ BitVec.ofInt 64 y).toNat : Nat)
def pix (n kind : Int) (L : List AV) (i : Int) : AV := bif kind == 0 then shA (atZ L i 1000) else bif kind == 1 then shA ((wi (wi ((i.tmod n).tdiv 3) + wi ((wi (i.tdiv n)).tdiv 2))).tmod 5) else
  bif kind == 2 then col (wb (wi (i.tmod n * 8))) (wb (wi (wi (i.tdiv n) * 8))) (wb (xr (i.tmod n) (wi (i.tdiv n)))) 255 else shA 7
def paintL (n kind : Int) (L : List AV) (N : Nat) : List AV := (List.range N).map fun k : Nat => pix n kind L (k : Int)
theorem paintL_len (n kind : Int) (L : List AV) (N : Nat) : (paintL n kind L N).length = N := by simp [paintL]
theorem paintL_succ (n kind : Int) (L : List AV) (N : Nat) : paintL n kind L (N + 1) = paintL n kind L N ++ [pix n kind L (N : Int)] := by simp [paintL, List.range_succ]
/-! what is coarser -/
def coarE (L : List AV) (s k : Nat) : AV := meanA (L.getD (2 * (k / (s / 2)) * s + 2 * (k % (s / 2))) .bad) (L.getD (2 * (k / (s / 2)) * s + 2 * (k % (s / 2)) + 1) .bad) (L.getD (2 * (k / (s / 2)) * s + 2 * (k % (s / 2)) + s) .bad) (L.getD (2 * (k / (s / 2)) * s + 2 * (k % (s / 2)) + s + 1) .bad)
def coarR (L : List AV) (s r N : Nat) : List AV := (List.range N).map fun j => coarE L s (s / 2 * r + j)
def coarP (L : List AV) (s N : Nat) : List AV := (List.range N).map (coarE L s)
def coarL (L : List AV) (s : Nat) : List AV := coarP L s (s / 2 * (s / 2))
theorem coarR_succ (L : List AV) (s r N : Nat) : coarR L s r (N + 1) = coarR L s r N ++ [coarE L s (s / 2 * r + N)] := by simp [coarR, List.range_succ]
theorem coarR_len (L : List AV) (s r N : Nat) : (coarR L s r N).length = N := by simp [coarR]
theorem coarP_len (L : List AV) (s N : Nat) : (coarP L s N).length = N := by simp [coarP]
theorem coarP_row (L : List AV) (s r : Nat) : coarP L s (s / 2 * (r + 1)) = coarP L s (s / 2 * r) ++ coarR L s r (s / 2) := by
  simp only [coarP, coarR, Nat.mul_add, Nat.mul_one, List.range_add, List.map_append, List.map_map]
  rfl
theorem coarE_at {L : List AV} {s r j : Nat} (hj : j < s / 2) : coarE L s (s / 2 * r + j) = meanA (L.getD (2 * r * s + 2 * j) .bad) (L.getD (2 * r * s + 2 * j + 1) .bad) (L.getD (2 * r * s + 2 * j + s) .bad) (L.getD (2 * r * s + 2 * j + s + 1) .bad) := by
  unfold coarE
  rw [Nat.mul_add_div (by omega), Nat.div_eq_of_lt hj, Nat.add_zero, Nat.mul_add_mod, Nat.mod_eq_of_lt hj]
end Go.Fx
