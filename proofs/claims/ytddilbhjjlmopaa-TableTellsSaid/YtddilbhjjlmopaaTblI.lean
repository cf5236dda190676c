/- The table and the list say the same (chapter 19), outright. -/
import Derived.Test.YtddilbhjjlmopaaTblH
set_option linter.unusedVariables false
set_option linter.unusedSimpArgs false
namespace Go.Fx
open Go Go.Sx
set_option linter.unusedVariables false
set_option linter.unusedSimpArgs false
structure InvT (T P A : List AV) (d : Int) (n : Nat) : Prop where
  good : goodL d A = true
  dep : dB d = true
  len : (T.length : Int) = cn d
  root : atB T 0 = true
  rep : ∀ k, k < A.length → hasB P (cI (A.getD k .bad) 0) (cI (A.getD k .bad) 1) (cI (A.getD k .bad) 2) = atB T (k : Int)
  few : P.length ≤ n
theorem InvT.at_ {T P A : List AV} {d : Int} {n : Nat} (h : InvT T P A d n) {l x y : Int} (hv : validB d l x y = true) : hasB P l x y = atB T (keyV d l x y) := by
  obtain ⟨k0, k1⟩ := key_lt hv
  have hl := (goodL_len h.good).1
  have hk : (keyV d l x y).toNat < A.length := by omega
  obtain ⟨v1, v2⟩ := goodL_at h.good hk
  have e : ((keyV d l x y).toNat : Int) = keyV d l x y := Int.toNat_of_nonneg k0
  rw [e] at v2
  obtain ⟨a, b, c⟩ := key_inj hv v1 v2.symm
  have := h.rep _ hk
  rw [← a, ← b, ← c, e] at this
  exact this
theorem InvT.there {T P A : List AV} {d : Int} {n : Nat} (h : InvT T P A d n) {l x y : Int} (hv : validB d l x y = true) : thereB T d l x y = hasB P l x y := by
  unfold thereB; rw [hv, h.at_ hv]; rfl
theorem rkF_spec (P : List AV) (d l x y : Int) : ∀ (n : Nat) (m : Int), m + n = d → m ≤ rkF P d l x y n m ∧ rkF P d l x y n m ≤ d ∧ (∀ q, m ≤ q → q < rkF P d l x y n m → hasU P d l x y q = false) ∧ (rkF P d l x y n m = d ∨ hasU P d l x y (rkF P d l x y n m) = true)
  | 0, m, h => by unfold rkF; exact ⟨by omega, Int.le_refl d, fun q h1 h2 => by omega, .inl rfl⟩
  | n + 1, m, h => by
    unfold rkF
    cases hu : hasU P d l x y m with
    | true => simp only [cond_true]; exact ⟨Int.le_refl m, by omega, fun q h1 h2 => by omega, .inr hu⟩
    | false =>
      simp only [cond_false]
      obtain ⟨g1, g2, g3, g4⟩ := rkF_spec P d l x y n (m + 1) (by omega)
      refine ⟨by omega, g2, fun q h1 h2 => ?_, g4⟩
      by_cases e : q = m
      · subst e; exact hu
      · exact g3 q (by omega) h2
theorem InvT.lk {T P A : List AV} {d : Int} {n : Nat} (h : InvT T P A d n) {l x y : Int} (hv : validB d l x y = true) : lk T d l x y = rk P d l x y := by
  obtain ⟨⟨a, b, c, e⟩, _⟩ := validB_iff.1 hv
  obtain ⟨g1, g2, g3, g4⟩ := rkF_spec P d l x y (d - l).toNat l (by omega)
  have hin : ∀ m, l ≤ m → m ≤ d → inT T d l x y m = hasU P d l x y m := fun m h1 h2 => by
    rw [inT_at hv h1 h2]
    unfold hasU
    rw [h.at_ (up_valid hv h1 h2)]
  refine lk_uniq hv h.root g1 g2 ?_ fun q h1 h2 => ?_
  · rcases g4 with g4 | g4
    · unfold rk
      rw [g4]; exact in_root hv h.root
    · rw [show rk P d l x y = rkF P d l x y (d - l).toNat l from rfl, hin _ g1 g2]; exact g4
  · rw [show rk P d l x y = rkF P d l x y (d - l).toNat l from rfl] at h2
    rw [hin q h1 (by omega)]; exact g3 q h1 h2
theorem InvT.okEs {T P A : List AV} {d : Int} {n : Nat} (h : InvT T P A d n) : okEs T P d A = true := by
  simp only [Go.Fx.okEs, List.all_eq_true]
  intro i hi
  have hi := List.mem_range.1 hi
  obtain ⟨hv, _⟩ := goodL_at h.good hi
  obtain ⟨k1, k2, k3, k4, k5⟩ := lk_spec hv h.root
  obtain ⟨q0, q1, q2⟩ := aF_of k1
  unfold okE sameQ b0F b1F b2F
  rw [k1, q0, q1, q2, hv, h.lk hv, h.there hv]
  simp only [cond_true, eq3_refl]
  simp
/-- the first of all pages is the root -/
theorem A0_root {A : List AV} {d : Int} (h : goodL d A = true) : cI (A.getD 0 .bad) 0 = d ∧ cI (A.getD 0 .bad) 1 = 0 ∧ cI (A.getD 0 .bad) 2 = 0 := by
  have hl := goodL_len h
  obtain ⟨v1, v2⟩ := goodL_at h (show 0 < A.length by omega)
  obtain ⟨⟨a, b, _, _⟩, _⟩ := validB_iff.1 v1
  obtain ⟨r1, r2⟩ := root_valid a b
  obtain ⟨e0, e1, e2⟩ := key_inj v1 r1 (by rw [v2, r2]; rfl)
  exact ⟨e0, e1, e2⟩
def gSel (A : List AV) (e0 e1 e2 : Int) (X : AV) (k : Nat) : Int := bif (cI X 1).tmod 11 == 10 then (bif k == 0 then e0 else bif k == 1 then e1 else e2) else cI (A.getD (cI X 0 % (A.length : Int)).toNat .bad) k
def yesX (X : AV) : Bool := (cI X 1).tmod 3 != 0
def nxL (P : List AV) (d g0 g1 g2 : Int) (yes : Bool) : List AV := bif setB d g0 g1 g2 yes then (resL P g0 g1 g2 ++ (bif yes then [.agg [i64 g0, i64 g1, i64 g2]] else [])) else P
theorem has_app (P Q : List AV) (l x y : Int) : hasB (P ++ Q) l x y = (hasB P l x y || hasB Q l x y) := by
  rw [hasB_any, hasB_any, hasB_any, List.any_append]
theorem has_res (P : List AV) (l x y l' x' y' : Int) : hasB (resL P l x y) l' x' y' = (!(eq3 l x y l' x' y') && hasB P l' x' y') := by
  rw [hasB_any]; exact res_any P l x y l' x' y' P.length 0
theorem has_one (l x y l' x' y' : Int) : hasB [.agg [i64 l, i64 x, i64 y]] l' x' y' = eq3 l x y l' x' y' := by
  rw [hasB_any]
  show (eqP _ l' x' y' || false) = _
  rw [Bool.or_false]; rfl
theorem InvT.next {T P A : List AV} {d : Int} {n : Nat} (h : InvT T P A d n) (g0 g1 g2 : Int) (yes : Bool) : InvT (setL T d g0 g1 g2 yes) (nxL P d g0 g1 g2 yes) A d (n + 1) := by
  have hl := goodL_len h.good
  cases hs : setB d g0 g1 g2 yes
  · have e1 : setL T d g0 g1 g2 yes = T := by unfold setL; rw [hs]; rfl
    have e2 : nxL P d g0 g1 g2 yes = P := by unfold nxL; rw [hs]; rfl
    rw [e1, e2]
    exact ⟨h.good, h.dep, h.len, h.root, h.rep, by have := h.few; omega⟩
  · have e1 : setL T d g0 g1 g2 yes = T.set (keyV d g0 g1 g2).toNat (bv yes) := by unfold setL; rw [hs]; rfl
    have e2 : nxL P d g0 g1 g2 yes = resL P g0 g1 g2 ++ (bif yes then [.agg [i64 g0, i64 g1, i64 g2]] else []) := by unfold nxL; rw [hs]; rfl
    have hv : validB d g0 g1 g2 = true := by
      cases hv : validB d g0 g1 g2 with
      | true => rfl
      | false => unfold setB at hs; rw [hv] at hs; cases hs
    obtain ⟨k0, k1⟩ := key_lt hv
    obtain ⟨⟨a, b, c, e⟩, _⟩ := validB_iff.1 hv
    rw [e1, e2]
    refine ⟨h.good, h.dep, by rw [List.length_set]; exact h.len, ?_, fun k hk => ?_, ?_⟩
    · rw [atB_setI yes k0 (Int.le_refl 0) (by have := h.len; omega)]
      split
      · rename_i hk
        cases yes with
        | true => rfl
        | false =>
          exfalso
          obtain ⟨r1, r2⟩ := root_valid a b
          obtain ⟨z0, z1, z2⟩ := key_inj hv r1 (by rw [hk, r2])
          have hr : rootB d g0 g1 g2 = true := by
            unfold rootB; rw [show dB d = true from h.dep, z0, z1, z2]; simp
          unfold setB at hs
          rw [hv, hr] at hs
          cases hs
      · exact h.root
    · obtain ⟨v1, v2⟩ := goodL_at h.good hk
      rw [atB_setI yes k0 (by omega) (by have := h.len; omega), has_app, has_res, h.at_ v1, v2]
      by_cases hkk : keyV d g0 g1 g2 = (k : Int)
      · obtain ⟨z0, z1, z2⟩ := key_inj hv v1 (by rw [hkk, v2])
        rw [if_pos hkk, z0, z1, z2, eq3_refl]
        cases yes
        · rfl
        · simp only [cond_true, has_one, eq3_refl]; simp
      · have hne : eq3 g0 g1 g2 (cI (A.getD k .bad) 0) (cI (A.getD k .bad) 1) (cI (A.getD k .bad) 2) = false := by
          cases he : eq3 g0 g1 g2 (cI (A.getD k .bad) 0) (cI (A.getD k .bad) 1) (cI (A.getD k .bad) 2) with
          | false => rfl
          | true =>
            obtain ⟨z0, z1, z2⟩ := eq3_iff.1 he
            exfalso; apply hkk; rw [z0, z1, z2, v2]
        rw [if_neg hkk, hne]
        cases yes
        · simp [hasB_any]
        · simp only [cond_true, has_one, hne]; simp
    · have := resF_len P g0 g1 g2 P.length 0
      have hf := h.few
      rw [List.length_append]
      show (resF P g0 g1 g2 P.length 0).length + _ ≤ _
      cases yes <;> simp <;> omega
def invB (T P A : List AV) (d : Int) : Bool := goodL d A && dB d && decide ((T.length : Int) = cn d) && atB T 0 && decide (P.length ≤ 100) && (List.range A.length).all fun k => hasB P (cI (A.getD k .bad) 0) (cI (A.getD k .bad) 1) (cI (A.getD k .bad) 2) == atB T (k : Int)
theorem invB_inv {T P A : List AV} {d : Int} (h : invB T P A d = true) : InvT T P A d 100 := by
  simp only [invB, Bool.and_eq_true, decide_eq_true_eq, List.all_eq_true, beq_iff_eq] at h
  exact ⟨h.1.1.1.1.1, h.1.1.1.1.2, h.1.1.1.2, h.1.1.2, fun k hk => h.2 k (List.mem_range.2 hk), h.1.2⟩
def rnT (L A : List AV) (d e0 e1 e2 : Int) : Nat → Nat → List AV → List AV
  | 0, _, T => T
  | n + 1, j, T => rnT L A d e0 e1 e2 n (j + 1) (setL T d (gSel A e0 e1 e2 (L.getD j .bad) 0) (gSel A e0 e1 e2 (L.getD j .bad) 1) (gSel A e0 e1 e2 (L.getD j .bad) 2) (yesX (L.getD j .bad)))
def rnP (L A : List AV) (d e0 e1 e2 : Int) : Nat → Nat → List AV → List AV
  | 0, _, P => P
  | n + 1, j, P => rnP L A d e0 e1 e2 n (j + 1) (nxL P d (gSel A e0 e1 e2 (L.getD j .bad) 0) (gSel A e0 e1 e2 (L.getD j .bad) 1) (gSel A e0 e1 e2 (L.getD j .bad) 2) (yesX (L.getD j .bad)))
theorem run_inv {L A : List AV} {d e0 e1 e2 : Int} : ∀ (n j : Nat) (T P : List AV) (m : Nat), InvT T P A d m → InvT (rnT L A d e0 e1 e2 n j T) (rnP L A d e0 e1 e2 n j P) A d (m + n)
  | 0, _, _, _, _, h => h
  | n + 1, j, T, P, m, h => by
    have := run_inv (L := L) (e0 := e0) (e1 := e1) (e2 := e2) n (j + 1) _ _ (m + 1) (h.next (gSel A e0 e1 e2 (L.getD j .bad) 0) (gSel A e0 e1 e2 (L.getD j .bad) 1) (gSel A e0 e1 e2 (L.getD j .bad) 2) (yesX (L.getD j .bad)))
    rw [show m + (n + 1) = m + 1 + n by omega]
    exact this
end Go.Fx
