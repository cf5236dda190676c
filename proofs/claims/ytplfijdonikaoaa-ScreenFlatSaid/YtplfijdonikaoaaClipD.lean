/- A row cut by a plane (chapter 24), of no program. -/
import Derived.Test.YtplfijdonikaoaaClipC
set_option linter.unusedVariables false
set_option linter.unusedSimpArgs false
namespace Go.Fx
open Go Go.Sx
abbrev vI (x : AV) (p : Nat) : Int := (x.cellD p).getInt
def vx (x : AV) : AV := .agg [i64 (vI x 0), i64 (vI x 1), i64 (vI x 2), i64 (vI x 3), i64 (vI x 4), i64 (vI x 5)]
def okx (x : AV) : Bool := okv (vI x 0) (vI x 1) (vI x 2) (vI x 3) (vI x 4) (vI x 5)
def insX (x : AV) (p : Int) : Int := insV (vI x 0) (vI x 1) (vI x 2) (vI x 3) p
def inB (x : AV) (p : Int) : Bool := decide (insX x p ≥ 0)
def cutX (a b : AV) (p : Int) : AV := cutA (vI a 0) (vI a 1) (vI a 2) (vI a 3) (vI a 4) (vI a 5) (vI b 0) (vI b 1) (vI b 2) (vI b 3) (vI b 4) (vI b 5) p
def stepX (p : Int) (a b : AV) : List AV := (bif inB a p then [vx a] else []) ++ (bif inB a p && !inB b p then [cutX a b p] else bif inB b p && !inB a p then [cutX b a p] else [])
def goX (L : List AV) (p : Int) : Nat → Nat → List AV
  | 0, _ => []
  | m + 1, j => stepX p (L.getD j .bad) (L.getD ((j + 1) % L.length) .bad) ++ goX L p m (j + 1)
def byX (L : List AV) (p : Int) : List AV := goX L p L.length 0
theorem stepX_len (p : Int) (a b : AV) : (stepX p a b).length ≤ 2 := by
  unfold stepX
  cases inB a p <;> cases inB b p <;> simp
theorem goX_len (L : List AV) (p : Int) : ∀ m j, (goX L p m j).length ≤ 2 * m
  | 0, _ => by simp [goX]
  | m + 1, j => by
    have h1 := stepX_len p (L.getD j .bad) (L.getD ((j + 1) % L.length) .bad)
    have h2 := goX_len L p m (j + 1)
    rw [goX, List.length_append]; omega
theorem okx_at {L : List AV} (h : L.all okx = true) {j : Nat} (hj : j < L.length) : okx (L.getD j .bad) = true := by
  rw [List.all_eq_true] at h
  rw [List.getD_eq_getElem?_getD, List.getElem?_eq_getElem hj]
  exact h _ (List.getElem_mem hj)
theorem wrapI (n : Int) : IntKind.i64.wrap n = wi n := rfl
def itX (L : List AV) : Nat → List AV
  | 0 => L
  | k + 1 => byX (itX L k) (k : Nat)
def polX (L : List AV) : List AV := if L.length < 3 then [] else if (itX L 7).length < 3 then [] else itX L 7
/-- what stays within what is promised -/
theorem vI_agg (a0 a1 a2 a3 a4 a5 : Int) : okx (.agg [i64 a0, i64 a1, i64 a2, i64 a3, i64 a4, i64 a5]) = okv a0 a1 a2 a3 a4 a5 := rfl
theorem okP_on {a b t : Int} (ha : okP a = true) (hb : okP b = true) (h0 : 0 ≤ t) (h1 : t ≤ 65536) : okP (onC a b t) = true := by
  have := onC_bd (a := a) (b := b) h0 h1
  rw [okP_iff] at *; omega
theorem okU_on {a b t : Int} (ha : okU a = true) (hb : okU b = true) (h0 : 0 ≤ t) (h1 : t ≤ 65536) : okU (onC a b t) = true := by
  have := onC_bd (a := a) (b := b) h0 h1
  rw [okU_iff] at *; omega
theorem okx_cut {a b : AV} (p : Int) (ha : okx a = true) (hb : okx b = true) : okx (cutX a b p) = true := by
  unfold cutX cutA
  rw [vI_agg]
  unfold okx at ha hb
  rw [okv_iff] at *
  have ht := tC_bd (insV (vI a 0) (vI a 1) (vI a 2) (vI a 3) p) (insV (vI b 0) (vI b 1) (vI b 2) (vI b 3) p)
  exact ⟨okP_on ha.1 hb.1 ht.1 ht.2, okP_on ha.2.1 hb.2.1 ht.1 ht.2, okP_on ha.2.2.1 hb.2.2.1 ht.1 ht.2, okP_on ha.2.2.2.1 hb.2.2.2.1 ht.1 ht.2, okU_on ha.2.2.2.2.1 hb.2.2.2.2.1 ht.1 ht.2, okU_on ha.2.2.2.2.2 hb.2.2.2.2.2 ht.1 ht.2⟩
theorem okx_vx (a : AV) : okx (vx a) = okx a := rfl
theorem okx_step {a b : AV} (p : Int) (ha : okx a = true) (hb : okx b = true) : (stepX p a b).all okx = true := by
  unfold stepX
  cases inB a p <;> cases inB b p <;> simp [okx_vx, ha, okx_cut p ha hb, okx_cut p hb ha]
theorem okx_go {L : List AV} (p : Int) (h : L.all okx = true) : ∀ m j, j + m = L.length → (goX L p m j).all okx = true
  | 0, _, _ => rfl
  | m + 1, j, hj => by
    rw [goX, List.all_append, okx_step p (okx_at h (by omega)) (okx_at h (Nat.mod_lt _ (by omega))), okx_go p h m (j + 1) (by omega)]; rfl
theorem okx_by {L : List AV} (p : Int) (h : L.all okx = true) : (byX L p).all okx = true := okx_go p h _ _ (Nat.zero_add _)
theorem byX_len (L : List AV) (p : Int) : (byX L p).length ≤ 2 * L.length := goX_len L p _ _
theorem okx_it {L : List AV} (h : L.all okx = true) : ∀ k, (itX L k).all okx = true
  | 0 => h
  | k + 1 => okx_by _ (okx_it h k)
theorem itX_len (L : List AV) : ∀ k, (itX L k).length ≤ 2 ^ k * L.length
  | 0 => by simp [itX]
  | k + 1 => by
    have h1 := byX_len (itX L k) (k : Nat)
    have h2 := itX_len L k
    rw [itX, Nat.pow_succ]
    calc _ ≤ 2 * (itX L k).length := h1
      _ ≤ 2 * (2 ^ k * L.length) := Nat.mul_le_mul_left 2 h2
      _ = 2 ^ k * 2 * L.length := by rw [Nat.mul_comm (2 ^ k) 2, Nat.mul_assoc]
end Go.Fx
