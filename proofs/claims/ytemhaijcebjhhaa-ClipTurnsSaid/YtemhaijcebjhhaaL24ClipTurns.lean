import Derived.Test.YtemhaijcebjhhaaL24V
import Derived.Test.YtemhaijcebjhhaaClipF
import Derived.Test.YtemhaijcebjhhaaSxAr
set_option linter.unusedVariables false
set_option linter.unusedSimpArgs false
namespace Go.Proofs.Ytemhaijcebjhhaa.clipTurns
open Go Go.Sx Go.ChangeShapes Go.WideShapes Go.ChangeAt Go.RowKit

theorem own : ownKnob Try.prog.godebug = none := by kernel_rfl
theorem mixed : Try.prog.follows .mixedOrders = true := by kernel_rfl
theorem laid : laidOutB Try.prog = true := by kernel_rfl
theorem entersF : Enters Try.prog 6 Try.f6 := ⟨Try.func6, by kernel_rfl, by kernel_rfl⟩


open Go.Fx
theorem bodyTrue (el0 : TypeId) (L0 : List AV) (a1 : Int) (h_L0 : ∀ x, x ∈ L0 → elemOk true [.int .i64, .int .i64, .int .i64, .int .i64, .int .i64, .int .i64] x) (h_a1 : -9223372036854775808 ≤ a1 ∧ a1 ≤ 9223372036854775807) :
    bodyK cU Try.prog 24 Try.f6 [.vec 0, .lit (.int .i64 a1)] ⟨[], [some ⟨el0, true, [.int .i64, .int .i64, .int .i64, .int .i64, .int .i64, .int .i64], 0, false, false, L0⟩]⟩ boolOf = some true := by
  have e : bodyK cU Try.prog 24 Try.f6 [.vec 0, .lit (.int .i64 a1)] ⟨[], [some ⟨el0, true, [.int .i64, .int .i64, .int .i64, .int .i64, .int .i64, .int .i64], 0, false, false, L0⟩]⟩ boolOf =
    (bif decide ((L0.length : Int) < 3) then some true else bif decide ((L0.length : Int) > 10) then some true else bif decide (L0.length ≤ 16384) then (bif !L0.all okx then some true else (if (L0.length : Int) = 0 then none else (if (L0.length : Int) = 0 then none else (if 0 ≤ (wi (a1.tmod (L0.length : Int) + (L0.length : Int))).tmod (L0.length : Int) ∧ (wi (a1.tmod (L0.length : Int) + (L0.length : Int))).tmod (L0.length : Int) ≤ (L0.length : Int) then (if 0 ≤ (wi (a1.tmod (L0.length : Int) + (L0.length : Int))).tmod (L0.length : Int) ∧ (wi (a1.tmod (L0.length : Int) + (L0.length : Int))).tmod (L0.length : Int) ≤ (L0.length : Int) then (bif decide (0 + (L0.drop ((wi (a1.tmod (L0.length : Int) + (L0.length : Int))).tmod (L0.length : Int)).toNat).length ≤ 65536) && true then (bif decide ((L0.drop ((wi (a1.tmod (L0.length : Int) + (L0.length : Int))).tmod (L0.length : Int)).toNat).length + (L0.take ((wi (a1.tmod (L0.length : Int) + (L0.length : Int))).tmod (L0.length : Int)).toNat).length ≤ 65536) && true then (bif decide (L0.length ≤ 64) && L0.all okx then (bif decide ((L0.drop ((wi (a1.tmod (L0.length : Int) + (L0.length : Int))).tmod (L0.length : Int)).toNat ++ L0.take ((wi (a1.tmod (L0.length : Int) + (L0.length : Int))).tmod (L0.length : Int)).toNat).length ≤ 64) && (L0.drop ((wi (a1.tmod (L0.length : Int) + (L0.length : Int))).tmod (L0.length : Int)).toNat ++ L0.take ((wi (a1.tmod (L0.length : Int) + (L0.length : Int))).tmod (L0.length : Int)).toNat).all okx then (bif decide (L0.length ≤ 16384) then (bif decide (L0.length ≤ 16384) then (bif decide (L0.length ≤ 16384) then (bif decide (L0.length ≤ 16384) then (bif decide (L0.length ≤ 16384) then (bif decide (L0.length ≤ 16384) then (bif decide (L0.length ≤ 16384) then (bif ((((((((true) && L0.all fun x => inB x (0 : Nat)) && L0.all fun x => inB x (1 : Nat)) && L0.all fun x => inB x (2 : Nat)) && L0.all fun x => inB x (3 : Nat)) && L0.all fun x => inB x (4 : Nat)) && L0.all fun x => inB x (5 : Nat)) && L0.all fun x => inB x (6 : Nat)) then
      (bif decide ((polX L0).map c6I = L0.map c6I) && decide ((polX L0).length ≤ 16384) then (bif decide ((polX (L0.drop ((wi (a1.tmod (L0.length : Int) + (L0.length : Int))).tmod (L0.length : Int)).toNat ++ L0.take ((wi (a1.tmod (L0.length : Int) + (L0.length : Int))).tmod (L0.length : Int)).toNat)).map c6I = (L0.drop ((wi (a1.tmod (L0.length : Int) + (L0.length : Int))).tmod (L0.length : Int)).toNat ++ L0.take ((wi (a1.tmod (L0.length : Int) + (L0.length : Int))).tmod (L0.length : Int)).toNat).map c6I) && decide ((polX (L0.drop ((wi (a1.tmod (L0.length : Int) + (L0.length : Int))).tmod (L0.length : Int)).toNat ++ L0.take ((wi (a1.tmod (L0.length : Int) + (L0.length : Int))).tmod (L0.length : Int)).toNat)).length ≤ 16384) then some true else none) else none)
     else bif ((polX L0).length : Int) != ((polX (L0.drop ((wi (a1.tmod (L0.length : Int) + (L0.length : Int))).tmod (L0.length : Int)).toNat ++ L0.take ((wi (a1.tmod (L0.length : Int) + (L0.length : Int))).tmod (L0.length : Int)).toNat)).length : Int) then some false else
      bif decide ((polX (L0.drop ((wi (a1.tmod (L0.length : Int) + (L0.length : Int))).tmod (L0.length : Int)).toNat ++ L0.take ((wi (a1.tmod (L0.length : Int) + (L0.length : Int))).tmod (L0.length : Int)).toNat)).length = (polX L0).length) && decide ((polX L0).length ≤ 16384) && ((polX L0).all fun y => decide ((polX L0).countP (fun x => eqB x y) = (polX (L0.drop ((wi (a1.tmod (L0.length : Int) + (L0.length : Int))).tmod (L0.length : Int)).toNat ++ L0.take ((wi (a1.tmod (L0.length : Int) + (L0.length : Int))).tmod (L0.length : Int)).toNat)).countP (fun x => eqB x y))) then some true else none) else none) else none) else none) else none) else none) else none) else none) else none) else none) else none) else none) else none) else none)))) else none) := by kernel_rfl
  rw [e]
  clear e
  by_cases h3 : L0.length < 3
  · rw [decide_eq_true (show (L0.length : Int) < 3 by omega)]; rfl
  rw [decide_eq_false (show ¬ (L0.length : Int) < 3 by omega), cond_false]
  by_cases h10 : L0.length > 10
  · rw [decide_eq_true (show (L0.length : Int) > 10 by omega)]; rfl
  rw [decide_eq_false (show ¬ (L0.length : Int) > 10 by omega), cond_false, decide_eq_true (show L0.length ≤ 16384 by omega), cond_true]
  cases hok : L0.all okx with
  | false => rfl
  | true =>
  rw [Bool.not_true, cond_false, if_neg (show ¬ (L0.length : Int) = 0 by omega), if_neg (show ¬ (L0.length : Int) = 0 by omega)]
  have hk : 0 ≤ (wi (a1.tmod (L0.length : Int) + (L0.length : Int))).tmod (L0.length : Int) ∧ (wi (a1.tmod (L0.length : Int) + (L0.length : Int))).tmod (L0.length : Int) ≤ (L0.length : Int) := by
    have q1 := Int.tmod_lt_of_pos a1 (show (0 : Int) < L0.length by omega)
    have q2 : -(L0.length : Int) < a1.tmod L0.length := by
      have := Int.tmod_lt_of_pos (-a1) (show (0 : Int) < L0.length by omega)
      rw [Int.neg_tmod] at this; omega
    rw [wi_id (by omega) (by omega), Int.tmod_eq_emod_of_nonneg (by omega)]
    exact ⟨Int.emod_nonneg _ (by omega), Int.le_of_lt (Int.emod_lt_of_pos _ (by omega))⟩
  generalize (wi (a1.tmod (L0.length : Int) + (L0.length : Int))).tmod (L0.length : Int) = K at hk ⊢
  rw [if_pos hk, if_pos hk]
  have hlen : (L0.drop K.toNat ++ L0.take K.toNat).length = L0.length := by
    have := (rot_at L0 K.toNat).len
    exact this.symm
  have hlen2 : (L0.drop K.toNat).length + (L0.take K.toNat).length = L0.length := by rw [← List.length_append]; exact hlen
  have hoO : (L0.drop K.toNat ++ L0.take K.toNat).all okx = true := by rw [rot_all]; exact hok
  have hR := (rot_at L0 K.toNat).pol
  rw [decide_eq_true (show 0 + (L0.drop K.toNat).length ≤ 65536 by omega), decide_eq_true (show (L0.drop K.toNat).length + (L0.take K.toNat).length ≤ 65536 by omega), hoO, hlen, decide_eq_true (show L0.length ≤ 64 by omega)]
  simp only [Bool.and_self, cond_true]
  have hpl : (polX L0).length ≤ 16384 := polX_len (by omega)
  have hpO : (polX (L0.drop K.toNat ++ L0.take K.toNat)).length ≤ 16384 := polX_len (by omega)
  rw [decide_eq_true hpl, decide_eq_true hpO, ← hR.len]
  have hcnt : ((polX L0).all fun y => decide ((polX L0).countP (fun x => eqB x y) = (polX (L0.drop K.toNat ++ L0.take K.toNat)).countP (fun x => eqB x y))) = true := by
    rw [List.all_eq_true]
    intro y _
    exact decide_eq_true (hR.count _)
  rw [hcnt]
  cases hin : ((((((((true) && L0.all fun x => inB x (0 : Nat)) && L0.all fun x => inB x (1 : Nat)) && L0.all fun x => inB x (2 : Nat)) && L0.all fun x => inB x (3 : Nat)) && L0.all fun x => inB x (4 : Nat)) && L0.all fun x => inB x (5 : Nat)) && L0.all fun x => inB x (6 : Nat)) with
  | true =>
    simp only [Bool.and_eq_true, Bool.true_and] at hin
    obtain ⟨⟨⟨⟨⟨⟨g0, g1⟩, g2⟩, g3⟩, g4⟩, g5⟩, g6⟩ := hin
    have hall : ∀ j, j < 7 → (L0.all fun x => inB x ((j : Nat) : Int)) = true := fun j hj => by
      have : j = 0 ∨ j = 1 ∨ j = 2 ∨ j = 3 ∨ j = 4 ∨ j = 5 ∨ j = 6 := by omega
      rcases this with rfl | rfl | rfl | rfl | rfl | rfl | rfl
      · exact g0
      · exact g1
      · exact g2
      · exact g3
      · exact g4
      · exact g5
      · exact g6
    have e1 : (polX L0).map c6I = L0.map c6I := polX_in L0 h3 hall
    have e2 : (polX (L0.drop K.toNat ++ L0.take K.toNat)).map c6I = (L0.drop K.toNat ++ L0.take K.toNat).map c6I :=
      polX_in _ (by rw [hlen]; exact h3) fun j hj => by rw [rot_all]; exact hall j hj
    rw [decide_eq_true e1, decide_eq_true e2]
    rfl
  | false => simp

theorem walk (el0 : TypeId) (L0 : List AV) (a1 : Int) (h_L0 : ∀ x, x ∈ L0 → elemOk true [.int .i64, .int .i64, .int .i64, .int .i64, .int .i64, .int .i64] x) (h_a1 : -9223372036854775808 ≤ a1 ∧ a1 ≤ 9223372036854775807) (v0 : Value) (w : World) (hR : RepM (Env.addV ⟨fun _ => 0, fun _ => undef⟩ 0 v0) (Bs.of w) ⟨[], [some ⟨el0, true, [.int .i64, .int .i64, .int .i64, .int .i64, .int .i64, .int .i64], 0, false, false, L0⟩]⟩ w) :
    Calls Try.prog 6 #[v0, .int .i64 a1] w fun e w' => e = .returned (.bool true) ∧ Below w.heap.size w w' := by
  have h := law_of cU_sound mixed entersF (bodyTrue el0 L0 a1 h_L0 h_a1) (E := (Env.addV ⟨fun _ => 0, fun _ => undef⟩ 0 v0)) (w := w) hR (by kernel_rfl) (by kernel_rfl) cU_loops
  exact h

theorem walkV (W : World) (base : Nat) (v0 : Value) (v1 : Value) (hv0 : Value.okWide Try.prog W .any base 22 v0) (hv1 : Value.okWide Try.prog W .any base 3 v1) (hs0 : SliceArg W true [.int .i64, .int .i64, .int .i64, .int .i64, .int .i64, .int .i64] v0) : Calls Try.prog 6 #[v0, v1] W fun e w' => e = .returned (.bool true) ∧ Below W.heap.size W w' := by
  obtain ⟨el0, L0, hL0, hr0⟩ := hs0
  obtain ⟨a1, rfl, b1, b1'⟩ := ok_int Try.underlying3 hv1
  exact walk el0 L0 a1 hL0 ⟨b1, b1'⟩ v0 W (hr0 _ _ (RepM.empty ⟨fun _ => 0, fun _ => undef⟩ W))

set_option maxRecDepth 100000 in
theorem lifted (os : Os) (started : os.Started) (H : Type) (enc : TypeId × Value → H) :
    ReturnsInHanded {} Try.checked os 6 .any (Rows.clipTurnsSpec.pre6 enc Try.prog Try.f6 Rows.clipTurnsRow.domain false) (Rows.clipTurnsSpec.post enc Try.prog Try.f6 false true false false) := by
  refine returnsInHanded_of_change (C := Try.checked) own started (by kernel_rfl) Try.func6
    (ChangeSpec.witness6 (enc := enc) (C := Try.checked) false ⟨#[], #[.slice none 0 0, .int .i64 0], []⟩ 8 (by kernel_rfl) (by kernel_rfl) (by kernel_rfl) (by kernel_rfl)) ?_
  intro W base args ds gs before hval0 hW _ _
  have hval : ∀ (j : Nat) t v, Try.f6.params[j]? = some t → args[j]? = some v → Value.okWide Try.prog W .any base t v := hval0
  have hW' := hW
  obtain ⟨p, q, hA0, _, rfl, _, _⟩ := hW
  have hA : DataW.TrodAll enc Try.prog W 0 (fun _ => true) true Try.f6.params.toList args.toList ds p := hA0
  rw [Try.params6] at hA hval
  obtain ⟨v0, vs0, d0, ds0, p0, q0, hargs, rfl, rfl, h0, r0⟩ := trodAll_cons hA
  obtain ⟨v1, vs1, d1, ds1, p1, q1, rfl, rfl, rfl, h1, r1⟩ := trodAll_cons r0
  obtain ⟨rfl, rfl, rfl⟩ := trodAll_nil r1
  obtain rfl : args = #[v0, v1] := by cases args; simp_all
  refine (walkV W base v0 v1 (hval 0 22 v0 rfl rfl) (hval 1 3 v1 rfl rfl) (arg_slice (d := 9) true Try.underlying22 (by kernel_rfl) (by kernel_rfl) (by decide) (by decide) (hval 0 22 v0 rfl rfl) h0)).mono fun e W' ⟨he, hb⟩ => ?_
  subst he
  exact ⟨_, rfl, law_post (tb := 4) hW' rfl rfl laid (by kernel_rfl) rfl Try.underlying4 hb⟩

theorem over : Rows.clipTurnsRow.holds Try.pinned (OpenSpec.ofChange Rows.clipTurnsSpec) :=
  OpenClaim.holds_of_wide 6 Try.f6 rfl rfl rfl rfl rfl rfl rfl ⟨rfl, rfl, rfl, rfl, rfl⟩ rfl rfl rfl rfl rfl (by kernel_rfl) Try.func6 (by kernel_rfl)
    (of_decide_eq_true (by kernel_rfl)) (by unfold Func.isWrapper; first | (rw [if_pos (by decide +kernel)]; kernel_rfl) | (rw [if_neg (by decide +kernel)]; exact ⟨rfl, rfl⟩))
    (fun os started H enc _ => lifted os started H enc)

theorem proved : Rows.ClipTurnsSaid := over
end Go.Proofs.Ytemhaijcebjhhaa.clipTurns

