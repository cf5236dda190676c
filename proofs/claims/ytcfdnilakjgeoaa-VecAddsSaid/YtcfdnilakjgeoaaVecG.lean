/- Matrices' functions, told with a branch: the cells are clean on either side. -/
import Derived.Test.YtcfdnilakjgeoaaVecA
set_option linter.unusedVariables false
set_option linter.unusedSimpArgs false
namespace Go.Fx
open Go Go.Sx
/-- g: what is done where it may not be (none: the walk stops; some z: z is told) -/
def orK {R : Type} (b : Bool) (z : AV) (bad : Option AV) (k : AV → Option R) : Option R :=
  bif b then k z else (match bad with
    | some y => k y
    | none => none)
theorem orK_ok {P : Program} {f : FuncId} {args : List AV} {b : Bool} {z y : AV} {bad : Option AV} {R : Type} {k : AV → Option R} {r : R} (h : orK b z bad k = some r) (hb : ∀ x, bad = some x → x = y)
    (hp : PureOk P f args (bif b then z else y)) : ∃ z, k z = some r ∧ PureOk P f args z := by
  unfold orK at h
  cases b with
  | true => exact ⟨z, h, hp⟩
  | false =>
    cases bad with
    | none => cases h
    | some x => exact ⟨x, h, by rw [hb x rfl]; exact hp⟩
theorem heldA_eq (l : List Int) (hl : l.length = 16) : heldA l = bif mayL l then .tup [aL l, i64 0] else badM := by
  unfold heldA
  cases mayL l
  · match l, hl with
    | [a0, a1, a2, a3, a4, a5, a6, a7, a8, a9, a10, a11, a12, a13, a14, a15], _ => rfl
  · simp [cond_true]
theorem list16 {α : Type} {l : List α} (h : l.length = 16) : ∃ a0 a1 a2 a3 a4 a5 a6 a7 a8 a9 a10 a11 a12 a13 a14 a15, l = [a0, a1, a2, a3, a4, a5, a6, a7, a8, a9, a10, a11, a12, a13, a14, a15] := by
  match l, h with
  | [a0, a1, a2, a3, a4, a5, a6, a7, a8, a9, a10, a11, a12, a13, a14, a15], _ => exact ⟨_, _, _, _, _, _, _, _, _, _, _, _, _, _, _, _, rfl⟩
theorem mulA_eq (m n : List Int) (hl : (mulL m n).length = 16) : mulA m n = bif mulB m n then .tup [aL (mulL m n), i64 0] else badM := by
  unfold mulA
  cases mulB m n
  · obtain ⟨a0, a1, a2, a3, a4, a5, a6, a7, a8, a9, a10, a11, a12, a13, a14, a15, e⟩ := list16 hl
    rw [e]; rfl
  · simp [cond_true]
theorem appA_eq (m v : List Int) (hl : (appL m v).length = 4) : appA m v = bif appB m v then .tup [aL (appL m v), i64 0] else badV := by
  unfold appA
  cases appB m v
  · match appL m v, hl with
    | [a0, a1, a2, a3], _ => rfl
  · simp [cond_true]
/-! moves, stretches -/
def i3G (g : Int → Int → Int → List Int) (bad : Bool) : FSpec := ⟨fun args k => match args with
  | [.lit (.int .i64 x), .lit (.int .i64 y), .lit (.int .i64 z)] => orK (mayL (g x y z)) (.tup [aL (g x y z), i64 0]) (bif bad then some badM else none) k
  | _ => none⟩
theorem i3G_ok {P : Program} {f : FuncId} {g : Int → Int → Int → List Int} (bad : Bool) (hg : ∀ x y z, (g x y z).length = 16) (h : (i3S fun x y z => heldA (g x y z)).Ok P f) : (i3G g bad).Ok P f := by
  intro R args k r e
  simp only [i3G] at e
  split at e
  · rename_i x y z
    obtain ⟨u, hu, hp⟩ := h (k := some) (r := heldA (g x y z)) (args := [.lit (.int .i64 x), .lit (.int .i64 y), .lit (.int .i64 z)]) rfl
    simp only [Option.some.injEq] at hu
    subst hu
    exact orK_ok e (y := badM) (fun x hx => by cases bad <;> simp at hx; exact hx.symm) (by rw [← heldA_eq _ (hg x y z)]; exact hp)
  · cases e

def mmG (bad : Bool) : FSpec := ⟨fun args k => match args with
  | [.agg [.lit (.int .i64 a0), .lit (.int .i64 a1), .lit (.int .i64 a2), .lit (.int .i64 a3), .lit (.int .i64 a4), .lit (.int .i64 a5), .lit (.int .i64 a6), .lit (.int .i64 a7), .lit (.int .i64 a8), .lit (.int .i64 a9), .lit (.int .i64 a10), .lit (.int .i64 a11), .lit (.int .i64 a12), .lit (.int .i64 a13), .lit (.int .i64 a14), .lit (.int .i64 a15)], .agg [.lit (.int .i64 b0), .lit (.int .i64 b1), .lit (.int .i64 b2), .lit (.int .i64 b3), .lit (.int .i64 b4), .lit (.int .i64 b5), .lit (.int .i64 b6), .lit (.int .i64 b7), .lit (.int .i64 b8), .lit (.int .i64 b9), .lit (.int .i64 b10), .lit (.int .i64 b11), .lit (.int .i64 b12), .lit (.int .i64 b13), .lit (.int .i64 b14), .lit (.int .i64 b15)]] => orK (mulB [a0, a1, a2, a3, a4, a5, a6, a7, a8, a9, a10, a11, a12, a13, a14, a15] [b0, b1, b2, b3, b4, b5, b6, b7, b8, b9, b10, b11, b12, b13, b14, b15]) (.tup [aL (mulL [a0, a1, a2, a3, a4, a5, a6, a7, a8, a9, a10, a11, a12, a13, a14, a15] [b0, b1, b2, b3, b4, b5, b6, b7, b8, b9, b10, b11, b12, b13, b14, b15]), i64 0]) (bif bad then some badM else none) k
  | _ => none⟩
theorem mmG_ok {P : Program} {f : FuncId} (bad : Bool) (h : (mmS mulA).Ok P f) : (mmG bad).Ok P f := by
  intro R args k r e
  simp only [mmG] at e
  split at e
  · rename_i a0 a1 a2 a3 a4 a5 a6 a7 a8 a9 a10 a11 a12 a13 a14 a15 b0 b1 b2 b3 b4 b5 b6 b7 b8 b9 b10 b11 b12 b13 b14 b15
    obtain ⟨u, hu, hp⟩ := h (k := some) (r := mulA [a0, a1, a2, a3, a4, a5, a6, a7, a8, a9, a10, a11, a12, a13, a14, a15] [b0, b1, b2, b3, b4, b5, b6, b7, b8, b9, b10, b11, b12, b13, b14, b15]) (args := [.agg [.lit (.int .i64 a0), .lit (.int .i64 a1), .lit (.int .i64 a2), .lit (.int .i64 a3), .lit (.int .i64 a4), .lit (.int .i64 a5), .lit (.int .i64 a6), .lit (.int .i64 a7), .lit (.int .i64 a8), .lit (.int .i64 a9), .lit (.int .i64 a10), .lit (.int .i64 a11), .lit (.int .i64 a12), .lit (.int .i64 a13), .lit (.int .i64 a14), .lit (.int .i64 a15)], .agg [.lit (.int .i64 b0), .lit (.int .i64 b1), .lit (.int .i64 b2), .lit (.int .i64 b3), .lit (.int .i64 b4), .lit (.int .i64 b5), .lit (.int .i64 b6), .lit (.int .i64 b7), .lit (.int .i64 b8), .lit (.int .i64 b9), .lit (.int .i64 b10), .lit (.int .i64 b11), .lit (.int .i64 b12), .lit (.int .i64 b13), .lit (.int .i64 b14), .lit (.int .i64 b15)]]) rfl
    simp only [Option.some.injEq] at hu
    subst hu
    exact orK_ok e (y := badM) (fun x hx => by cases bad <;> simp at hx; exact hx.symm) (by rw [← mulA_eq _ _ rfl]; exact hp)
  · cases e

def mvG (bad : Bool) : FSpec := ⟨fun args k => match args with
  | [.agg [.lit (.int .i64 a0), .lit (.int .i64 a1), .lit (.int .i64 a2), .lit (.int .i64 a3), .lit (.int .i64 a4), .lit (.int .i64 a5), .lit (.int .i64 a6), .lit (.int .i64 a7), .lit (.int .i64 a8), .lit (.int .i64 a9), .lit (.int .i64 a10), .lit (.int .i64 a11), .lit (.int .i64 a12), .lit (.int .i64 a13), .lit (.int .i64 a14), .lit (.int .i64 a15)], .agg [.lit (.int .i64 v0), .lit (.int .i64 v1), .lit (.int .i64 v2), .lit (.int .i64 v3)]] => orK (appB [a0, a1, a2, a3, a4, a5, a6, a7, a8, a9, a10, a11, a12, a13, a14, a15] [v0, v1, v2, v3]) (.tup [aL (appL [a0, a1, a2, a3, a4, a5, a6, a7, a8, a9, a10, a11, a12, a13, a14, a15] [v0, v1, v2, v3]), i64 0]) (bif bad then some badV else none) k
  | _ => none⟩
theorem mvG_ok {P : Program} {f : FuncId} (bad : Bool) (h : (mvS appA).Ok P f) : (mvG bad).Ok P f := by
  intro R args k r e
  simp only [mvG] at e
  split at e
  · rename_i a0 a1 a2 a3 a4 a5 a6 a7 a8 a9 a10 a11 a12 a13 a14 a15 v0 v1 v2 v3
    obtain ⟨u, hu, hp⟩ := h (k := some) (r := appA [a0, a1, a2, a3, a4, a5, a6, a7, a8, a9, a10, a11, a12, a13, a14, a15] [v0, v1, v2, v3]) (args := [.agg [.lit (.int .i64 a0), .lit (.int .i64 a1), .lit (.int .i64 a2), .lit (.int .i64 a3), .lit (.int .i64 a4), .lit (.int .i64 a5), .lit (.int .i64 a6), .lit (.int .i64 a7), .lit (.int .i64 a8), .lit (.int .i64 a9), .lit (.int .i64 a10), .lit (.int .i64 a11), .lit (.int .i64 a12), .lit (.int .i64 a13), .lit (.int .i64 a14), .lit (.int .i64 a15)], .agg [.lit (.int .i64 v0), .lit (.int .i64 v1), .lit (.int .i64 v2), .lit (.int .i64 v3)]]) rfl
    simp only [Option.some.injEq] at hu
    subst hu
    exact orK_ok e (y := badV) (fun x hx => by cases bad <;> simp at hx; exact hx.symm) (by rw [← appA_eq _ _ rfl]; exact hp)
  · cases e

end Go.Fx
