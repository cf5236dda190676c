/- page's At and Cmp, the document's Key and Pages (chapter 11). -/
import Derived.Test.YthknakcbkkjhpaaL11A
import Derived.Test.YthknakcbkkjhpaaTblC
set_option linter.unusedVariables false
set_option linter.unusedSimpArgs false
namespace Go.Proofs.Ythknakcbkkjhpaa
open Go Go.Sx Go.Fx
set_option maxRecDepth 100000
set_option linter.unusedVariables false
set_option linter.unusedSimpArgs false
theorem s7 : Enters Try.prog 7 Try.f7 := ⟨Try.func7, by kernel_rfl, by kernel_rfl⟩
theorem s6 : Enters Try.prog 6 Try.f6 := ⟨Try.func6, by kernel_rfl, by kernel_rfl⟩
theorem s11 : Enters Try.prog 11 Try.f11 := ⟨Try.func11, by kernel_rfl, by kernel_rfl⟩
theorem s12 : Enters Try.prog 12 Try.f12 := ⟨Try.func12, by kernel_rfl, by kernel_rfl⟩
theorem s26 : Enters Try.prog 26 Try.f26 := ⟨Try.func26, by kernel_rfl, by kernel_rfl⟩
theorem s29 : Enters Try.prog 29 Try.f29 := ⟨Try.func29, by kernel_rfl, by kernel_rfl⟩
/-! the document's Key -/
def invS : FSpec := ⟨fun args k => match args with
  | [.lit (.int .i64 d), .agg [.lit (.int .i64 l), .lit (.int .i64 x), .lit (.int .i64 y)]] => bif gS d l then none else k (.lit (.bool false))
  | _ => none⟩
theorem validB_out {d l x y : Int} (h : gS d l = false) : validB d l x y = false := by simp [validB, h]
theorem invS_ok : invS.Ok Try.prog 14 := by
  intro R args k r e
  simp only [invS] at e
  split at e
  · rename_i d l x y
    cases hg : gS d l
    · rw [hg] at e
      obtain ⟨z, hz, hp⟩ := ok14 (R := AV) (args := [i64 d, .agg [i64 l, i64 x, i64 y]]) (k := some) (r := .lit (.bool (validB d l x y))) rfl
      simp only [Option.some.injEq] at hz
      subst hz
      rw [validB_out hg] at hp
      exact ⟨_, e, hp⟩
    · rw [hg] at e; cases e
  · cases e
noncomputable def cK1 : CallSem := CallSem.nil.withSpec 14 invS
theorem cK1_sound : cK1.Sound Try.prog := CallSem.withSpec_sound nilS invS_ok
noncomputable def cK2 : CallSem := (CallSem.nil.withSpec 14 validS).withSpec 23 sideS
theorem cK2_sound : cK2.Sound Try.prog := CallSem.withSpec_sound (CallSem.withSpec_sound nilS ok14) ok23
theorem rk_out (d l x y : Int) : pureK cK1 Try.prog 9 Try.f11 [i64 d, .agg [i64 l, i64 x, i64 y]] some = bif gS d l then none else some (i64 (-1)) := by kernel_rfl
theorem rk_eq (d l x y : Int) (hg : gS d l = true) : (bif !validB d l x y then some (i64 (-1)) else some (i64 (wi (wi (ah (d - l) + wi (y * sd (d - l))) + x)))) = some (i64 (keyV d l x y)) := by
  unfold keyV
  cases hv : validB d l x y
  · rfl
  · simp only [Bool.not_true, cond_false, cond_true]
    obtain ⟨⟨h1, h2, h3, h4⟩, hx, hx', hy, hy'⟩ := validB_iff.1 hv
    have hs := sd_cases (d - l)
    have ha := ah_cases (d - l)
    generalize sd (d - l) = s at *
    generalize ah (d - l) = a at *
    have hys : 0 ≤ y * s ∧ y * s ≤ 64 := by
      refine ⟨Int.mul_nonneg hy (by omega), ?_⟩
      have : y * s ≤ 8 * 8 := Int.mul_le_mul (by omega) (by omega) (by omega) (by omega)
      omega
    rw [wi_id (n := y * s) (by omega) (by omega), wi_id (n := a + y * s) (by omega) (by omega), wi_id (by omega) (by omega)]
theorem rk_in {d l : Int} (hg : gS d l = true) : ∀ x y, pureK cK2 Try.prog 12 Try.f11 [i64 d, .agg [i64 l, i64 x, i64 y]] some = bif !validB d l x y then some (i64 (-1)) else some (i64 (wi (wi (ah (d - l) + wi (y * sd (d - l))) + x))) :=
  dl_cases (p := fun d l => ∀ x y, pureK cK2 Try.prog 12 Try.f11 [i64 d, .agg [i64 l, i64 x, i64 y]] some = bif !validB d l x y then some (i64 (-1)) else some (i64 (wi (wi (ah (d - l) + wi (y * sd (d - l))) + x))))
    (fun x y => by kernel_rfl) (fun x y => by kernel_rfl) (fun x y => by kernel_rfl) (fun x y => by kernel_rfl) (fun x y => by kernel_rfl) (fun x y => by kernel_rfl) (fun x y => by kernel_rfl) (fun x y => by kernel_rfl) (fun x y => by kernel_rfl) (fun x y => by kernel_rfl) hg
theorem ok11 : keyS.Ok Try.prog 11 := pageS_ok fun d l x y => by
  cases hg : gS d l
  · have e := rk_out d l x y
    rw [hg] at e
    have hk : keyV d l x y = -1 := by simp [keyV, validB_out hg]
    rw [hk]
    exact pureOk_of (n := 9) cK1_sound mixed s11 e
  · exact pureOk_of (n := 12) cK2_sound mixed s11 ((rk_in hg x y).trans (rk_eq d l x y hg))
/-! At -/
def inR (d key : Int) : Bool := decide (0 ≤ key) && decide (key < cn d)
def atL (d key : Int) : Int := bif inR d key then pL d.toNat key.toNat else 0
def atX (d key : Int) : Int := bif inR d key then pX d.toNat key.toNat else 0
def atY (d key : Int) : Int := bif inR d key then pY d.toNat key.toNat else 0
def atA (d key : Int) : AV := .tup [.agg [i64 (atL d key), i64 (atX d key), i64 (atY d key)], .lit (.bool (inR d key))]
def atS : FSpec := ⟨fun args k => match args with
  | [.lit (.int .i64 d), .lit (.int .i64 key)] => k (atA d key)
  | _ => none⟩
noncomputable def cA1 : CallSem := (CallSem.nil.withSpec 16 (i1S fun d => i64 (cn d))).withJoin
theorem cA1_sound : cA1.Sound Try.prog := CallSem.withJoin_sound (CallSem.withSpec_sound nilS ok16)
noncomputable def cA2 : CallSem := ((CallSem.nil.withSpec 16 (i1S fun d => i64 (cn d))).withSpec 24 aheadS).withSpec 25 sideS
theorem cA2_sound : cA2.Sound Try.prog := CallSem.withSpec_sound (CallSem.withSpec_sound (CallSem.withSpec_sound nilS ok16) ok24) ok25
theorem at_out (d key : Int) : pureK cA1 Try.prog 9 Try.f7 [i64 d, i64 key] some = bif decide (key < 0) then some (.tup [.agg [i64 0, i64 0, i64 0], .lit (.bool false)]) else bif decide (key ≥ cn d) then some (.tup [.agg [i64 0, i64 0, i64 0], .lit (.bool false)]) else none := by kernel_rfl
def atK (d k : Nat) : AV := .tup [.agg [i64 (pL d k), i64 (pX d k), i64 (pY d k)], .lit (.bool true)]
noncomputable def atF (d k : Nat) : Option AV := pureK cA2 Try.prog 12 Try.f7 [i64 d, i64 k] some
noncomputable def atG (d k : Nat) : Option AV := some (atK d k)
theorem at_0 : (List.range 1).map (atF 0) = (List.range 1).map (atG 0) := by kernel_rfl
theorem at_1 : (List.range 5).map (atF 1) = (List.range 5).map (atG 1) := by kernel_rfl
theorem at_2 : (List.range 21).map (atF 2) = (List.range 21).map (atG 2) := by kernel_rfl
theorem at_3 : (List.range 85).map (atF 3) = (List.range 85).map (atG 3) := by kernel_rfl
theorem map_at {f g : Nat → Option AV} {n k : Nat} (h : (List.range n).map f = (List.range n).map g) (hk : k < n) : f k = g k := by
  have := congrArg (fun l => l[k]?) h
  simpa [List.getElem?_range, hk] using this
theorem cn_neg {d : Int} (h : dB d = false) : cn d = 0 := by simp [cn, h]
theorem cn_pgs {d : Nat} (h : d ≤ 3) : cn (d : Int) = (pgs d).length := (pgs_cn h).symm
theorem at_in {d k : Nat} (hd : d ≤ 3) (hk : k < (pgs d).length) : atF d k = atG d k := by
  have hc : d = 0 ∨ d = 1 ∨ d = 2 ∨ d = 3 := by omega
  rcases hc with rfl | rfl | rfl | rfl
  · rw [pgs_len0] at hk; exact map_at at_0 hk
  · rw [pgs_len1] at hk; exact map_at at_1 hk
  · rw [pgs_len2] at hk; exact map_at at_2 hk
  · rw [pgs_len3] at hk; exact map_at at_3 hk
theorem at_ok (d key : Int) : PureOk Try.prog 7 [i64 d, i64 key] (atA d key) := by
  cases hi : inR d key
  · have e := at_out d key
    have e : pureK cA1 Try.prog 9 Try.f7 [i64 d, i64 key] some = some (.tup [.agg [i64 0, i64 0, i64 0], .lit (.bool false)]) := by
      rw [e]
      simp only [inR, Bool.and_eq_false_iff, decide_eq_false_iff_not] at hi
      simp only [cond_eq_ite, decide_eq_true_eq]
      split
      · rfl
      · rw [if_pos (by omega)]
    have h0 : atA d key = .tup [.agg [i64 0, i64 0, i64 0], .lit (.bool false)] := by simp [atA, atL, atX, atY, hi]
    rw [h0]
    exact pureOk_of (n := 9) cA1_sound mixed s7 e
  · have h0 : atA d key = atK d.toNat key.toNat := by simp [atA, atL, atX, atY, hi, atK]
    simp only [inR, Bool.and_eq_true, decide_eq_true_eq] at hi
    have hdB : dB d = true := by
      cases h : dB d
      · rw [cn_neg h] at hi; omega
      · rfl
    simp only [dB, Bool.and_eq_true, decide_eq_true_eq] at hdB
    obtain ⟨dn, rfl⟩ : ∃ dn : Nat, d = dn := ⟨d.toNat, by omega⟩
    obtain ⟨kn, rfl⟩ : ∃ kn : Nat, key = kn := ⟨key.toNat, by omega⟩
    rw [h0]
    simp only [Int.toNat_natCast]
    rw [cn_pgs (by omega)] at hi
    exact pureOk_of (n := 12) cA2_sound mixed s7 (at_in (by omega) (by omega))
theorem ok7 : atS.Ok Try.prog 7 := by
  intro R args k r e
  simp only [atS] at e
  split at e
  · exact ⟨_, e, at_ok _ _⟩
  · cases e
/-! Cmp -/
def cmV (a b : Int) : Int := bif decide (a < b) then -1 else bif decide (a > b) then 1 else 0
def cmpS : FSpec := ⟨fun args k => match args with
  | [.lit (.int .i64 d), .agg [.lit (.int .i64 l), .lit (.int .i64 x), .lit (.int .i64 y)], .agg [.lit (.int .i64 l'), .lit (.int .i64 x'), .lit (.int .i64 y')]] => k (i64 (cmV (keyV d l x y) (keyV d l' x' y')))
  | _ => none⟩
noncomputable def cC1 : CallSem := (((CallSem.nil.withSpec 15 keyS).withBody Try.prog 9 29 Try.f29 true)).withBody Try.prog 9 26 Try.f26 true
theorem cC1_sound : cC1.Sound Try.prog := CallSem.withBody_sound (CallSem.withBody_sound (CallSem.withSpec_sound nilS ok15) mixed 9 s29 true) mixed 9 s26 true
end Go.Proofs.Ythknakcbkkjhpaa
