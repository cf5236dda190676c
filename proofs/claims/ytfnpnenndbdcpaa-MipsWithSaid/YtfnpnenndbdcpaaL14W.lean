/- MipsWith's tree is true (chapter 14). -/
import Derived.Test.YtfnpnenndbdcpaaL14U
set_option linter.unusedVariables false
set_option linter.unusedSimpArgs false
namespace Go.Proofs.Ytfnpnenndbdcpaa
open Go Go.Sx Go.Fx
set_option maxRecDepth 100000
set_option linter.unusedVariables false
set_option linter.unusedSimpArgs false
theorem fineA_true {wr : Bool} {D n : Int} {Ls Ls' : List (List AV)} {T : List AV} {N s c X Y W H : Nat} (hc : c = 1 ∨ c = 2 ∨ c = 4 ∨ c = 8) (h2 : (2 : Int) ^ min n.toNat 64 = (c : Nat)) (hn0 : n = 0 → c = 1)
    (ho : outB D n = false) (hs : szl D n = (s : Nat)) (ho0 : outB D 0 = false) (hs0 : szl D 0 = (N : Nat)) (h32 : N ≤ 32) (hsN : s ≤ N) (hX : X + W ≤ N) (hY : Y + H ≤ N)
    (he : ∀ x y, x < s → y < s → ¬ inC X Y W H c x y → eqAt (Ls.getD n.toNat []) (Ls'.getD n.toNat []) s x y)
    (hT : T.length = W * H) (hi : n = 0 → ∀ x y, x < N → y < N → inC X Y W H 1 x y → (Ls'.getD (0 : Int).toNat []).getD (y * N + x) .bad = T.getD ((y - Y) * W + (x - X)) .bad) :
    fineA wr D Ls Ls' T (X : Nat) (Y : Nat) (W : Nat) (H : Nat) n = true := by
  have es : (szl D n).toNat = s := by rw [hs, Int.toNat_natCast]
  unfold fineA
  rw [es]
  refine List.all_eq_true.2 fun y hy => ?_
  have hy := List.mem_range.1 hy
  unfold fineR
  rw [es]
  refine List.all_eq_true.2 fun x hx => ?_
  have hx := List.mem_range.1 hx
  exact fine_one hc h2 hn0 ho hs ho0 hs0 h32 hsN hx hy hX hY (he x y hx hy) hT (fun hz hin => hi hz x y (by omega) (by omega) hin)
theorem okL_lvls {D : Int} (hD : D = 0 ∨ D = 1 ∨ D = 2 ∨ D = 3) {R : List AV} (hR : R.length = sqD D) : okL D (lvls D R) = true := by
  have h1 : ∀ X : List AV, (coarL X 8).length = 16 := fun X => coarL_len (m := 4)
  have h2 : ∀ X : List AV, (coarL X 16).length = 64 := fun X => coarL_len (m := 8)
  have h3 : ∀ X : List AV, (coarL X 32).length = 256 := fun X => coarL_len (m := 16)
  rcases hD with rfl | rfl | rfl | rfl
  · show (R.length == 16 && true) = true
    rw [hR]; rfl
  · show (R.length == 64 && ((coarL R 8).length == 16 && true)) = true
    rw [hR, h1]; rfl
  · show (R.length == 256 && ((coarL R 16).length == 64 && ((coarL (coarL R 16) 8).length == 16 && true))) = true
    rw [hR, h2, h1]; rfl
  · show (R.length == 1024 && ((coarL R 32).length == 256 && ((coarL (coarL R 32) 16).length == 64 && ((coarL (coarL (coarL R 32) 16) 8).length == 16 && true)))) = true
    rw [hR, h3, h2, h1]; rfl
theorem gN_true {wr : Bool} {D n : Int} (hD : D = 0 ∨ D = 1 ∨ D = 2 ∨ D = 3) {R R' T : List AV} {X Y W H : Int} (hn : 0 ≤ n) (hR : R.length = sqD D) (hR' : R'.length = sqD D) (hf : fineA wr D (lvls D R) (lvls D R') T X Y W H n = true) : gN_ okL wr D R R' T X Y W H n = true := by
  unfold gN_ gY
  rw [okL_lvls hD hR, okL_lvls hD hR', hf, decide_eq_true hn]
  cases wr <;> rfl
theorem fine0 (wr : Bool) {R T : List AV} {X Y W H : Nat} (hR : R.length = 4 * 4) (hT : T.length = W * H) (hx : X + W ≤ 4) (hy : Y + H ≤ 4) :
    fineA wr 0 (lvls 0 R) (lvls 0 (layR R T 4 X Y W H)) T (X : Nat) (Y : Nat) (W : Nat) (H : Nat) 0 = true := by
  have f0 := eq_fine hR hT hx hy
  exact fineA_true (N := 4) (s := 4) (c := 1) (by omega) (by decide) (by intro _; rfl) (by decide) (by decide) (by decide) (by decide) (by omega) (by omega) hx hy f0 hT (fun _ x y h1 h2 hin => eq_in hR hT hx hy h1 h2 hin)
theorem fine1 (wr : Bool) {R T : List AV} {X Y W H : Nat} (hR : R.length = 8 * 8) (hT : T.length = W * H) (hx : X + W ≤ 8) (hy : Y + H ≤ 8) :
    fineA wr 1 (lvls 1 R) (lvls 1 (layR R T 8 X Y W H)) T (X : Nat) (Y : Nat) (W : Nat) (H : Nat) 0 = true ∧ fineA wr 1 (lvls 1 R) (lvls 1 (layR R T 8 X Y W H)) T (X : Nat) (Y : Nat) (W : Nat) (H : Nat) 1 = true := by
  have f0 := eq_fine hR hT hx hy
  have f1 := eq_coar (m := 4) (c := 1) f0
  exact ⟨fineA_true (N := 8) (s := 8) (c := 1) (by omega) (by decide) (by intro _; rfl) (by decide) (by decide) (by decide) (by decide) (by omega) (by omega) hx hy f0 hT (fun _ x y h1 h2 hin => eq_in hR hT hx hy h1 h2 hin),
    fineA_true (N := 8) (s := 4) (c := 2) (by omega) (by decide) (by intro h; cases h) (by decide) (by decide) (by decide) (by decide) (by omega) (by omega) hx hy f1 hT (fun h => by cases h)⟩
theorem fine2 (wr : Bool) {R T : List AV} {X Y W H : Nat} (hR : R.length = 16 * 16) (hT : T.length = W * H) (hx : X + W ≤ 16) (hy : Y + H ≤ 16) :
    fineA wr 2 (lvls 2 R) (lvls 2 (layR R T 16 X Y W H)) T (X : Nat) (Y : Nat) (W : Nat) (H : Nat) 0 = true ∧ fineA wr 2 (lvls 2 R) (lvls 2 (layR R T 16 X Y W H)) T (X : Nat) (Y : Nat) (W : Nat) (H : Nat) 1 = true ∧ fineA wr 2 (lvls 2 R) (lvls 2 (layR R T 16 X Y W H)) T (X : Nat) (Y : Nat) (W : Nat) (H : Nat) 2 = true := by
  have f0 := eq_fine hR hT hx hy
  have f1 := eq_coar (m := 8) (c := 1) f0
  have f2 := eq_coar (m := 4) (c := 2) f1
  exact ⟨fineA_true (N := 16) (s := 16) (c := 1) (by omega) (by decide) (by intro _; rfl) (by decide) (by decide) (by decide) (by decide) (by omega) (by omega) hx hy f0 hT (fun _ x y h1 h2 hin => eq_in hR hT hx hy h1 h2 hin),
    fineA_true (N := 16) (s := 8) (c := 2) (by omega) (by decide) (by intro h; cases h) (by decide) (by decide) (by decide) (by decide) (by omega) (by omega) hx hy f1 hT (fun h => by cases h),
    fineA_true (N := 16) (s := 4) (c := 4) (by omega) (by decide) (by intro h; cases h) (by decide) (by decide) (by decide) (by decide) (by omega) (by omega) hx hy f2 hT (fun h => by cases h)⟩
theorem fine3 (wr : Bool) {R T : List AV} {X Y W H : Nat} (hR : R.length = 32 * 32) (hT : T.length = W * H) (hx : X + W ≤ 32) (hy : Y + H ≤ 32) :
    fineA wr 3 (lvls 3 R) (lvls 3 (layR R T 32 X Y W H)) T (X : Nat) (Y : Nat) (W : Nat) (H : Nat) 0 = true ∧ fineA wr 3 (lvls 3 R) (lvls 3 (layR R T 32 X Y W H)) T (X : Nat) (Y : Nat) (W : Nat) (H : Nat) 1 = true ∧ fineA wr 3 (lvls 3 R) (lvls 3 (layR R T 32 X Y W H)) T (X : Nat) (Y : Nat) (W : Nat) (H : Nat) 2 = true ∧ fineA wr 3 (lvls 3 R) (lvls 3 (layR R T 32 X Y W H)) T (X : Nat) (Y : Nat) (W : Nat) (H : Nat) 3 = true := by
  have f0 := eq_fine hR hT hx hy
  have f1 := eq_coar (m := 16) (c := 1) f0
  have f2 := eq_coar (m := 8) (c := 2) f1
  have f3 := eq_coar (m := 4) (c := 4) f2
  exact ⟨fineA_true (N := 32) (s := 32) (c := 1) (by omega) (by decide) (by intro _; rfl) (by decide) (by decide) (by decide) (by decide) (by omega) (by omega) hx hy f0 hT (fun _ x y h1 h2 hin => eq_in hR hT hx hy h1 h2 hin),
    fineA_true (N := 32) (s := 16) (c := 2) (by omega) (by decide) (by intro h; cases h) (by decide) (by decide) (by decide) (by decide) (by omega) (by omega) hx hy f1 hT (fun h => by cases h),
    fineA_true (N := 32) (s := 8) (c := 4) (by omega) (by decide) (by intro h; cases h) (by decide) (by decide) (by decide) (by decide) (by omega) (by omega) hx hy f2 hT (fun h => by cases h),
    fineA_true (N := 32) (s := 4) (c := 8) (by omega) (by decide) (by intro h; cases h) (by decide) (by decide) (by decide) (by decide) (by omega) (by omega) hx hy f3 hT (fun h => by cases h)⟩
theorem loops_true {wr : Bool} {D : Int} (hD : D = 0 ∨ D = 1 ∨ D = 2 ∨ D = 3) {R T : List AV} {X Y W H : Nat} {N : Nat} (hN : sideD D = (N : Nat)) (hR : R.length = sqD D) (hT : T.length = W * H) (hx : X + W ≤ N) (hy : Y + H ≤ N) {Z : Option Bool} :
    loopsW okL wr D R (layR R T N X Y W H) T (X : Nat) (Y : Nat) (W : Nat) (H : Nat) Z = Z := by
  have g : ∀ t (Z : Option Bool), t = true → gd t Z = Z := by intro t Z h; rw [h]; rfl
  rcases hD with rfl | rfl | rfl | rfl
  · obtain rfl : N = 4 := by have : ((4 : Nat) : Int) = (N : Nat) := hN; omega
    have hR0 : R.length = 4 * 4 := hR
    have hR' : (layR R T 4 X Y W H).length = 4 * 4 := layR_len hR0 hT hx hy H (Nat.le_refl _)
    have h0 := fine0 wr hR0 hT hx hy
    unfold loopsW
    rw [gN_true (Or.inl rfl) (by omega) hR hR' h0]
    rfl
  · obtain rfl : N = 8 := by have : ((8 : Nat) : Int) = (N : Nat) := hN; omega
    have hR0 : R.length = 8 * 8 := hR
    have hR' : (layR R T 8 X Y W H).length = 8 * 8 := layR_len hR0 hT hx hy H (Nat.le_refl _)
    obtain ⟨h0, h1⟩ := fine1 wr hR0 hT hx hy
    unfold loopsW
    rw [gN_true (Or.inr (Or.inl rfl)) (by omega) hR hR' h0, gN_true (Or.inr (Or.inl rfl)) (by omega) hR hR' h1]
    rfl
  · obtain rfl : N = 16 := by have : ((16 : Nat) : Int) = (N : Nat) := hN; omega
    have hR0 : R.length = 16 * 16 := hR
    have hR' : (layR R T 16 X Y W H).length = 16 * 16 := layR_len hR0 hT hx hy H (Nat.le_refl _)
    obtain ⟨h0, h1, h2⟩ := fine2 wr hR0 hT hx hy
    unfold loopsW
    rw [gN_true (Or.inr (Or.inr (Or.inl rfl))) (by omega) hR hR' h0, gN_true (Or.inr (Or.inr (Or.inl rfl))) (by omega) hR hR' h1, gN_true (Or.inr (Or.inr (Or.inl rfl))) (by omega) hR hR' h2]
    rfl
  · obtain rfl : N = 32 := by have : ((32 : Nat) : Int) = (N : Nat) := hN; omega
    have hR0 : R.length = 32 * 32 := hR
    have hR' : (layR R T 32 X Y W H).length = 32 * 32 := layR_len hR0 hT hx hy H (Nat.le_refl _)
    obtain ⟨h0, h1, h2, h3⟩ := fine3 wr hR0 hT hx hy
    unfold loopsW
    rw [gN_true (Or.inr (Or.inr (Or.inr rfl))) (by omega) hR hR' h0, gN_true (Or.inr (Or.inr (Or.inr rfl))) (by omega) hR hR' h1, gN_true (Or.inr (Or.inr (Or.inr rfl))) (by omega) hR hR' h2, gN_true (Or.inr (Or.inr (Or.inr rfl))) (by omega) hR hR' h3]
    rfl
theorem eqR_refl {R : List AV} (h : R.length ≤ 16384) : eqR R R = true := by
  unfold eqR; rw [decide_eq_true rfl, decide_eq_true h]; rfl
theorem lawW_true {D a0 : Int} (a1 : Bool) (L2 : List AV) (b0 b1 b2 b3 : Int) (hD : D = 0 ∨ D = 1 ∨ D = 2 ∨ D = 3) (h : rnd a0 4 = D) : lawW okL D a0 a1 L2 b0 b1 b2 b3 = some true := by
  have hs : 1 ≤ sideD D ∧ sideD D ≤ 32 := by rcases hD with rfl | rfl | rfl | rfl <;> exact ⟨by decide, by decide⟩
  obtain ⟨⟨x0, x1, w1, w4⟩, ⟨y0, y1, h1, h4⟩, _⟩ := step_in (l5 b0 b1 b2 b3 3) hs.1 hs.2
  have hTl : (stT (l5 b0 b1 b2 b3 3) (sideD D)).length = (stW (l5 b0 b1 b2 b3 3) (sideD D) * stH (l5 b0 b1 b2 b3 3) (sideD D)).toNat := stepL_len _ _
  have hRl : (wT D L2).length = sqD D := pnt_len _ _ _
  unfold lawW
  by_cases hl : (L2.length : Int) > 50
  · rw [decide_eq_true hl]; rfl
  · rw [decide_eq_false hl, cond_false, h, beq_self_eq_true, cond_true]
    generalize stT (l5 b0 b1 b2 b3 3) (sideD D) = T at *
    generalize stX (l5 b0 b1 b2 b3 3) (sideD D) = X at *
    generalize stY (l5 b0 b1 b2 b3 3) (sideD D) = Y at *
    generalize stW (l5 b0 b1 b2 b3 3) (sideD D) = W at *
    generalize stH (l5 b0 b1 b2 b3 3) (sideD D) = H at *
    obtain ⟨X, rfl⟩ : ∃ k : Nat, X = k := ⟨X.toNat, by omega⟩
    obtain ⟨Y, rfl⟩ : ∃ k : Nat, Y = k := ⟨Y.toNat, by omega⟩
    obtain ⟨W, rfl⟩ : ∃ k : Nat, W = k := ⟨W.toNat, by omega⟩
    obtain ⟨H, rfl⟩ : ∃ k : Nat, H = k := ⟨H.toNat, by omega⟩
    obtain ⟨N, hN⟩ : ∃ k : Nat, sideD D = k := ⟨(sideD D).toNat, by omega⟩
    have hT : T.length = W * H := by
      have e : (W : Int) * (H : Int) = ((W * H : Nat) : Int) := by rw [Int.natCast_mul]
      rw [e, Int.toNat_natCast] at hTl
      exact hTl
    have hok : okW (sideD D) (X : Nat) (Y : Nat) (W : Nat) (H : Nat) T.length = true := by
      unfold okW
      rw [decide_eq_true (show (1 : Int) ≤ (W : Nat) from w1), decide_eq_true (show (1 : Int) ≤ (H : Nat) from h1), decide_eq_true x0, decide_eq_true y0, decide_eq_true x1, decide_eq_true y1, decide_eq_true (show (T.length : Int) = (W : Int) * (H : Int) by rw [hT, Int.natCast_mul])]
      rfl
    rw [hok, cond_true]
    have hw : withL (sideD D) (X : Nat) (Y : Nat) (W : Nat) (H : Nat) T (wT D L2) = layR (wT D L2) T N X Y W H := by
      unfold withL
      rw [hN]
      simp only [Int.toNat_natCast]
    rw [hw, loops_true hD hN hRl hT (by omega) (by omega)]
    have hq : eqR (wT D L2) (wT D L2) = true := eqR_refl (by rw [hRl]; unfold sqD; cases D == 0 <;> cases D == 1 <;> cases D == 2 <;> decide)
    rw [hq]
    cases a1 <;> rfl
/-! the law -/
noncomputable abbrev withB (ok : Int → List (List AV) → Bool) (D : Int) (a0 : Int) (a1 : Bool) (el2 : TypeId) (L2 : List AV) (b0 b1 b2 b3 : Int) : Option Bool := bodyK (cW ok D) Try.prog 9 Try.f5 [.lit (.int .i64 a0), .lit (.bool a1), .vec 0, .agg [.lit (.int .i64 b0), .lit (.int .i64 b1), .lit (.int .i64 b2), .lit (.int .i64 b3)]] ⟨[], [some ⟨el2, false, [.int .i64], 0, false, false, L2⟩]⟩ boolOf
theorem with_tree0 (ok : Int → List (List AV) → Bool) (a0 : Int) (a1 : Bool) (el2 : TypeId) (L2 : List AV) (b0 b1 b2 b3 : Int) : withB ok 0 a0 a1 el2 L2 b0 b1 b2 b3 = lawW ok 0 a0 a1 L2 b0 b1 b2 b3 := by kernel_rfl
theorem with_tree1 (ok : Int → List (List AV) → Bool) (a0 : Int) (a1 : Bool) (el2 : TypeId) (L2 : List AV) (b0 b1 b2 b3 : Int) : withB ok 1 a0 a1 el2 L2 b0 b1 b2 b3 = lawW ok 1 a0 a1 L2 b0 b1 b2 b3 := by kernel_rfl
theorem with_tree2 (ok : Int → List (List AV) → Bool) (a0 : Int) (a1 : Bool) (el2 : TypeId) (L2 : List AV) (b0 b1 b2 b3 : Int) : withB ok 2 a0 a1 el2 L2 b0 b1 b2 b3 = lawW ok 2 a0 a1 L2 b0 b1 b2 b3 := by kernel_rfl
theorem with_tree3 (ok : Int → List (List AV) → Bool) (a0 : Int) (a1 : Bool) (el2 : TypeId) (L2 : List AV) (b0 b1 b2 b3 : Int) : withB ok 3 a0 a1 el2 L2 b0 b1 b2 b3 = lawW ok 3 a0 a1 L2 b0 b1 b2 b3 := by kernel_rfl
theorem depth4 (a0 : Int) : rnd a0 4 = 0 ∨ rnd a0 4 = 1 ∨ rnd a0 4 = 2 ∨ rnd a0 4 = 3 := by unfold rnd; omega
theorem with_true (a0 : Int) (a1 : Bool) (el2 : TypeId) (L2 : List AV) (b0 b1 b2 b3 : Int) : withB okL (rnd a0 4) a0 a1 el2 L2 b0 b1 b2 b3 = some true := by
  have hD := depth4 a0
  have key := lawW_true (a0 := a0) a1 L2 b0 b1 b2 b3 hD rfl
  rcases hD with h | h | h | h <;> rw [h] at key ⊢
  · exact (with_tree0 okL a0 a1 el2 L2 b0 b1 b2 b3).trans key
  · exact (with_tree1 okL a0 a1 el2 L2 b0 b1 b2 b3).trans key
  · exact (with_tree2 okL a0 a1 el2 L2 b0 b1 b2 b3).trans key
  · exact (with_tree3 okL a0 a1 el2 L2 b0 b1 b2 b3).trans key
theorem cW_s (a0 : Int) : (cW okL (rnd a0 4)).Sound Try.prog := cW_sound (fun _ _ h => h) (depth4 a0)
theorem cW_l (a0 : Int) : ∀ c, Try.f5.body = some c → LoopsOk Try.prog (cW okL (rnd a0 4)).loops c := cW_loops (fun _ _ h => h) _
end Go.Proofs.Ytfnpnenndbdcpaa
