/- MipsWith, outright (chapter 14): what is laid changes what covers it, and nothing else. -/
import Derived.Test.YtfnpnenndbdcpaaL14T
set_option linter.unusedVariables false
set_option linter.unusedSimpArgs false
namespace Go.Proofs.Ytfnpnenndbdcpaa
open Go Go.Sx Go.Fx
set_option maxRecDepth 100000
set_option linter.unusedVariables false
set_option linter.unusedSimpArgs false
/-- the texel (x, y), c finest ones on a side, covers one of them -/
def inC (X Y W H c x y : Nat) : Prop := (x * c < X + W ∧ X < (x + 1) * c) ∧ (y * c < Y + H ∧ Y < (y + 1) * c)
def eqAt (L L' : List AV) (s x y : Nat) : Prop := L'.getD (y * s + x) .bad = L.getD (y * s + x) .bad
theorem inC_sub {X Y W H c x y p q : Nat} (hp : p < 2) (hq : q < 2) (h : inC X Y W H c (2 * x + p) (2 * y + q)) : inC X Y W H (2 * c) x y := by
  obtain ⟨⟨h1, h2⟩, h3, h4⟩ := h
  have key : ∀ x p : Nat, p < 2 → x * (2 * c) ≤ (2 * x + p) * c ∧ (2 * x + p + 1) * c ≤ (x + 1) * (2 * c) := by
    intro x p hp
    have e1 : x * (2 * c) = 2 * x * c := by rw [← Nat.mul_assoc, Nat.mul_comm x 2]
    have e2 : (x + 1) * (2 * c) = (2 * x + 2) * c := by rw [← Nat.mul_assoc, Nat.add_mul, Nat.mul_comm x 2]
    rw [e1, e2]
    exact ⟨Nat.mul_le_mul_right c (by omega), Nat.mul_le_mul_right c (by omega)⟩
  obtain ⟨a1, a2⟩ := key x p hp
  obtain ⟨b1, b2⟩ := key y q hq
  exact ⟨⟨by omega, by omega⟩, by omega, by omega⟩
/-- where the finer level is as it was, the coarser one is -/
theorem eq_coar {X Y W H c m : Nat} {L L' : List AV} (h : ∀ x y, x < 2 * m → y < 2 * m → ¬ inC X Y W H c x y → eqAt L L' (2 * m) x y) : ∀ x y, x < m → y < m → ¬ inC X Y W H (2 * c) x y → eqAt (coarL L (2 * m)) (coarL L' (2 * m)) m x y := by
  intro x y hx hy hn
  have k : ∀ p q, p < 2 → q < 2 → eqAt L L' (2 * m) (2 * x + p) (2 * y + q) := fun p q hp hq => h _ _ (by omega) (by omega) fun hi => hn (inC_sub hp hq hi)
  have k0 := k 0 0 (by omega) (by omega)
  have k1 := k 1 0 (by omega) (by omega)
  have k2 := k 0 1 (by omega) (by omega)
  have k3 := k 1 1 (by omega) (by omega)
  unfold eqAt at *
  have x1 : (2 * y + 0) * (2 * m) + (2 * x + 0) = 2 * y * (2 * m) + 2 * x := rfl
  have x2 : (2 * y + 0) * (2 * m) + (2 * x + 1) = 2 * y * (2 * m) + 2 * x + 1 := rfl
  have x3 : (2 * y + 1) * (2 * m) + (2 * x + 0) = 2 * y * (2 * m) + 2 * x + 2 * m := by rw [Nat.succ_mul]; omega
  have x4 : (2 * y + 1) * (2 * m) + (2 * x + 1) = 2 * y * (2 * m) + 2 * x + 2 * m + 1 := by rw [Nat.succ_mul]; omega
  rw [x1] at k0; rw [x2] at k1; rw [x3] at k2; rw [x4] at k3
  rw [coar_at _ hx hy, coar_at _ hx hy, k0, k1, k2, k3]
theorem getD_of {L : List AV} {i : Nat} {e : Option AV} (h : L[i]? = e) : L.getD i .bad = e.getD .bad := by rw [List.getD_eq_getElem?_getD, h]
/-- the finest level -/
theorem eq_fine {X Y W H N : Nat} {T R : List AV} (hR : R.length = N * N) (hT : T.length = W * H) (hx : X + W ≤ N) (hy : Y + H ≤ N) : ∀ x y, x < N → y < N → ¬ inC X Y W H 1 x y → eqAt R (layR R T N X Y W H) N x y := by
  intro x y h1 h2 hn
  have h := layR_at hR hT hx hy h1 h2 H (Nat.le_refl _)
  rw [if_neg (fun hc => hn ⟨⟨by omega, by omega⟩, by omega, by omega⟩)] at h
  unfold eqAt
  rw [getD_of h, List.getD_eq_getElem?_getD]
theorem eq_in {X Y W H N : Nat} {T R : List AV} (hR : R.length = N * N) (hT : T.length = W * H) (hx : X + W ≤ N) (hy : Y + H ≤ N) {x y : Nat} (h1 : x < N) (h2 : y < N) (hi : inC X Y W H 1 x y) : (layR R T N X Y W H).getD (y * N + x) .bad = T.getD ((y - Y) * W + (x - X)) .bad := by
  obtain ⟨⟨a1, a2⟩, a3, a4⟩ := hi
  have h := layR_at hR hT hx hy h1 h2 H (Nat.le_refl _)
  rw [if_pos ⟨⟨by omega, by omega⟩, by omega, by omega⟩] at h
  rw [getD_of h, List.getD_eq_getElem?_getD]
theorem inB_iff {n : Int} {c x y X Y W H : Nat} (hc : c = 1 ∨ c = 2 ∨ c = 4 ∨ c = 8) (h2 : (2 : Int) ^ min n.toNat 64 = (c : Nat)) (hx : x < 32) (hy : y < 32) (hX : X + W ≤ 32) (hY : Y + H ≤ 32) : inB n (x : Nat) (y : Nat) (X : Nat) (Y : Nat) (W : Nat) (H : Nat) = true ↔ inC X Y W H c x y := by
  have sh : ∀ z : Nat, z ≤ 32 → shl (z : Nat) n = ((z * c : Nat) : Int) := by
    intro z hz
    unfold shl
    rw [h2]
    rcases hc with rfl | rfl | rfl | rfl <;> rw [wi_id (by omega) (by omega)] <;> omega
  have e1 : ∀ z : Nat, z < 32 → wi ((z : Int) + 1) = ((z + 1 : Nat) : Int) := fun z hz => by rw [wi_id (by omega) (by omega)]; omega
  have e2 : wi ((X : Int) + (W : Int)) = ((X + W : Nat) : Int) := by rw [wi_id (by omega) (by omega)]; omega
  have e3 : wi ((Y : Int) + (H : Int)) = ((Y + H : Nat) : Int) := by rw [wi_id (by omega) (by omega)]; omega
  have cb : ∀ a b : Bool, (bif a then b else false) = (a && b) := by intro a b; cases a <;> rfl
  unfold inB inC
  rw [e1 x hx, e1 y hy, sh x (by omega), sh (x + 1) (by omega), sh y (by omega), sh (y + 1) (by omega), e2, e3]
  simp only [cb, Bool.and_eq_true, decide_eq_true_eq, gt_iff_lt, Int.ofNat_lt]
  exact ⟨fun ⟨⟨⟨h1, h2⟩, h3⟩, h4⟩ => ⟨⟨h1, h2⟩, h3, h4⟩, fun ⟨⟨h1, h2⟩, h3, h4⟩ => ⟨⟨⟨h1, h2⟩, h3⟩, h4⟩⟩
theorem fine_one {wr : Bool} {D n : Int} {Ls Ls' : List (List AV)} {T : List AV} {N s c X Y W H x y : Nat} (hc : c = 1 ∨ c = 2 ∨ c = 4 ∨ c = 8) (h2 : (2 : Int) ^ min n.toNat 64 = (c : Nat)) (hn0 : n = 0 → c = 1)
    (ho : outB D n = false) (hs : szl D n = (s : Nat)) (ho0 : outB D 0 = false) (hs0 : szl D 0 = (N : Nat)) (h32 : N ≤ 32) (hsN : s ≤ N) (hx : x < s) (hy : y < s) (hX : X + W ≤ N) (hY : Y + H ≤ N)
    (he : ¬ inC X Y W H c x y → eqAt (Ls.getD n.toNat []) (Ls'.getD n.toNat []) s x y)
    (hT : T.length = W * H) (hi : n = 0 → inC X Y W H 1 x y → (Ls'.getD (0 : Int).toNat []).getD (y * N + x) .bad = T.getD ((y - Y) * W + (x - X)) .bad) :
    fineT wr D Ls Ls' T (X : Nat) (Y : Nat) (W : Nat) (H : Nat) n (y : Nat) (x : Nat) = true := by
  have hib := inB_iff (n := n) hc h2 (x := x) (y := y) (X := X) (Y := Y) (W := W) (H := H) (by omega) (by omega) (by omega) (by omega)
  have part1 : (bif inB n (x : Nat) (y : Nat) (X : Nat) (Y : Nat) (W : Nat) (H : Nat) then true else eqc (txl wr D Ls' n (x : Nat) (y : Nat)) (txl wr D Ls n (x : Nat) (y : Nat))) = true := by
    cases hb : inB n (x : Nat) (y : Nat) (X : Nat) (Y : Nat) (W : Nat) (H : Nat) with
    | true => rfl
    | false =>
      have hne : ¬ inC X Y W H c x y := fun h => by rw [hib.2 h] at hb; cases hb
      have := he hne
      unfold eqAt at this
      rw [cond_false, txl_at ho hs (by omega) hx hy, txl_at ho hs (by omega) hx hy, this]
      exact eqc_refl _
  unfold fineT fineX
  rw [part1]
  by_cases hz : n = 0
  · have hnn : (n == 0) = true := by rw [hz]; rfl
    rw [hnn, Bool.true_and, cond_true]
    have hc1 := hn0 hz
    subst hc1
    cases hb : inB n (x : Nat) (y : Nat) (X : Nat) (Y : Nat) (W : Nat) (H : Nat) with
    | false => rfl
    | true =>
      have hin := hib.1 hb
      obtain ⟨⟨a1, a2⟩, a3, a4⟩ := id hin
      have hsn : s = N := by
        have : szl D n = szl D 0 := by rw [hz]
        omega
      have hw1 : (y - Y) * W + (x - X) < W * H := by
        have : (y - Y + 1) * W ≤ H * W := Nat.mul_le_mul_right W (by omega)
        rw [Nat.succ_mul, Nat.mul_comm H W] at this; omega
      have hwh : W * H ≤ 32 * 32 := Nat.mul_le_mul (by omega) (by omega)
      have hI : ixS (x : Nat) (y : Nat) (X : Nat) (Y : Nat) (W : Nat) = (((y - Y) * W + (x - X) : Nat) : Int) := by
        unfold ixS
        have e1 : wi ((y : Int) - (Y : Int)) = ((y - Y : Nat) : Int) := by rw [wi_id (by omega) (by omega)]; omega
        have e2 : ((y - Y : Nat) : Int) * (W : Int) = (((y - Y) * W : Nat) : Int) := by rw [Int.natCast_mul]
        rw [e1, e2, wi_id (n := (((y - Y) * W : Nat) : Int)) (by omega) (by omega), wi_id (n := (((y - Y) * W : Nat) : Int) + (x : Int)) (by omega) (by omega), wi_id (by omega) (by omega)]
        omega
      rw [cond_true, hI, Int.toNat_natCast, decide_eq_true (show (0 : Int) ≤ (((y - Y) * W + (x - X) : Nat) : Int) by omega), decide_eq_true (show (((y - Y) * W + (x - X) : Nat) : Int) < (T.length : Int) by omega), Bool.true_and, Bool.true_and]
      rw [txl_at ho0 hs0 h32 (by omega) (by omega), hi hz hin]
      exact eqc_refl _
  · have hnn : (n == 0) = false := by simpa using hz
    rw [hnn]; rfl
end Go.Proofs.Ytfnpnenndbdcpaa
