/- What is inside of all planes stays (chapter 24), of no program. -/
import Derived.Test.YtplfijdonikaoaaClipE
set_option linter.unusedVariables false
set_option linter.unusedSimpArgs false
namespace Go.Fx
open Go Go.Sx
def v6 (x : AV) : List Int := [vI x 0, vI x 1, vI x 2, vI x 3, vI x 4, vI x 5]
theorem stepX_in {p : Int} {a b : AV} (ha : inB a p = true) (hb : inB b p = true) : stepX p a b = [vx a] := by
  unfold stepX; rw [ha, hb]; rfl
theorem seqX_in (p : Int) : ∀ (l : List AV) (z : AV), (l.all fun x => inB x p) = true → inB z p = true → seqX p l z = l.map vx
  | [], z, _, _ => rfl
  | a :: l, z, h, hz => by
    simp only [List.all_cons, Bool.and_eq_true] at h
    have hh : inB (l.headD z) p = true := by
      cases l with
      | nil => exact hz
      | cons b l => simp only [List.all_cons, Bool.and_eq_true] at h; exact h.2.1
    rw [seqX_cons, stepX_in h.1 hh, seqX_in p l z h.2 hz]; rfl
theorem byX_in (p : Int) (L : List AV) (h : (L.all fun x => inB x p) = true) : byX L p = L.map vx := by
  cases L with
  | nil => rfl
  | cons a l =>
    rw [byX_seq]
    have h1 := h
    simp only [List.all_cons, Bool.and_eq_true] at h1
    exact seqX_in p (a :: l) a h h1.1
theorem vx_vx (x : AV) : vx (vx x) = vx x := rfl
theorem itX_in (L : List AV) : ∀ k, (∀ j, j < k + 1 → (L.all fun x => inB x (j : Nat)) = true) → itX L (k + 1) = L.map vx
  | 0, h => byX_in _ L (h 0 (by omega))
  | k + 1, h => by
    rw [itX, itX_in L k fun j hj => h j (by omega), byX_in, List.map_map]
    · rfl
    · rw [List.all_map]; exact h (k + 1) (by omega)
theorem polX_in (L : List AV) (h3 : ¬ L.length < 3) (h : ∀ j, j < 7 → (L.all fun x => inB x (j : Nat)) = true) : (polX L).map v6 = L.map v6 := by
  have e : itX L 7 = L.map vx := itX_in L 6 h
  unfold polX
  rw [if_neg h3, e, if_neg (by rw [List.length_map]; exact h3), List.map_map]
  rfl
theorem rot_at (L : List AV) (k : Nat) : Rot L (L.drop k ++ L.take k) := ⟨L.take k, L.drop k, (List.take_append_drop k L).symm, rfl⟩
theorem rot_all (L : List AV) (k : Nat) (q : AV → Bool) : (L.drop k ++ L.take k).all q = L.all q := by
  have : L.all q = (L.take k ++ L.drop k).all q := by rw [List.take_append_drop]
  rw [this, List.all_append, List.all_append, Bool.and_comm]
end Go.Fx
