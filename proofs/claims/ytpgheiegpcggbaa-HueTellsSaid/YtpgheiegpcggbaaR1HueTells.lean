import Derived.Test.YtpgheiegpcggbaaR1T
set_option linter.unusedVariables false
set_option linter.unusedSimpArgs false
namespace Go.Proofs.Ytpgheiegpcggbaa.hueTells
open Go Go.Sx Go.ChangeShapes Go.WideShapes Go.ChangeAt Go.RowKit

theorem own : ownKnob Try.prog.godebug = none := by kernel_rfl
theorem mixed : Try.prog.follows .mixedOrders = true := by kernel_rfl
theorem laid : laidOutB Try.prog = true := by kernel_rfl
theorem entersF : Enters Try.prog 6 Try.f6 := ⟨Try.func6, by kernel_rfl, by kernel_rfl⟩

theorem list4 {l : List Value} (h : l.length = 4) : ∃ x0 x1 x2 x3, l = [x0, x1, x2, x3] := by
  match l, h with
  | [x0, x1, x2, x3], _ => exact ⟨x0, x1, x2, x3, rfl⟩

theorem lpz_lpr (a b t : Int) : lpz a b t = lpr a b t := by
  unfold lpz lpr
  rw [Int.mul_comm (W (256 - lpt t)) (W a), Int.mul_comm (lpt t) (W b)]
theorem bodyTrue (a0_0 : Int) (a0_1 : Int) (a0_2 : Int) (a0_3 : Int) (a1_0 : Int) (a1_1 : Int) (a1_2 : Int) (a1_3 : Int) (a2_0 : Int) (a2_1 : Int) (a2_2 : Int) (a2_3 : Int) (a3_0 : Int) (a3_1 : Int) (a3_2 : Int) (a3_3 : Int) (a4 : Int) (el5 : TypeId) (L5 : List AV) (h_a0_0 : 0 ≤ a0_0 ∧ a0_0 ≤ 255) (h_a0_1 : 0 ≤ a0_1 ∧ a0_1 ≤ 255) (h_a0_2 : 0 ≤ a0_2 ∧ a0_2 ≤ 255) (h_a0_3 : 0 ≤ a0_3 ∧ a0_3 ≤ 255) (h_a1_0 : 0 ≤ a1_0 ∧ a1_0 ≤ 255) (h_a1_1 : 0 ≤ a1_1 ∧ a1_1 ≤ 255) (h_a1_2 : 0 ≤ a1_2 ∧ a1_2 ≤ 255) (h_a1_3 : 0 ≤ a1_3 ∧ a1_3 ≤ 255) (h_a2_0 : 0 ≤ a2_0 ∧ a2_0 ≤ 255) (h_a2_1 : 0 ≤ a2_1 ∧ a2_1 ≤ 255) (h_a2_2 : 0 ≤ a2_2 ∧ a2_2 ≤ 255) (h_a2_3 : 0 ≤ a2_3 ∧ a2_3 ≤ 255) (h_a3_0 : 0 ≤ a3_0 ∧ a3_0 ≤ 255) (h_a3_1 : 0 ≤ a3_1 ∧ a3_1 ≤ 255) (h_a3_2 : 0 ≤ a3_2 ∧ a3_2 ≤ 255) (h_a3_3 : 0 ≤ a3_3 ∧ a3_3 ≤ 255) (h_a4 : -9223372036854775808 ≤ a4 ∧ a4 ≤ 9223372036854775807) (h_L5 : ∀ x, x ∈ L5 → elemOk false [.int .u8] x) :
    bodyK chm Try.prog 9 Try.f6 [.agg [.lit (.int .u8 a0_0), .lit (.int .u8 a0_1), .lit (.int .u8 a0_2), .lit (.int .u8 a0_3)], .agg [.lit (.int .u8 a1_0), .lit (.int .u8 a1_1), .lit (.int .u8 a1_2), .lit (.int .u8 a1_3)], .agg [.lit (.int .u8 a2_0), .lit (.int .u8 a2_1), .lit (.int .u8 a2_2), .lit (.int .u8 a2_3)], .agg [.lit (.int .u8 a3_0), .lit (.int .u8 a3_1), .lit (.int .u8 a3_2), .lit (.int .u8 a3_3)], .lit (.int .i64 a4), .vec 0] ⟨[], [some ⟨el5, false, [.int .u8], 0, false, false, L5⟩]⟩ boolOf = some true := by
  have e : bodyK chm Try.prog 9 Try.f6 [.agg [.lit (.int .u8 a0_0), .lit (.int .u8 a0_1), .lit (.int .u8 a0_2), .lit (.int .u8 a0_3)], .agg [.lit (.int .u8 a1_0), .lit (.int .u8 a1_1), .lit (.int .u8 a1_2), .lit (.int .u8 a1_3)], .agg [.lit (.int .u8 a2_0), .lit (.int .u8 a2_1), .lit (.int .u8 a2_2), .lit (.int .u8 a2_3)], .agg [.lit (.int .u8 a3_0), .lit (.int .u8 a3_1), .lit (.int .u8 a3_2), .lit (.int .u8 a3_3)], .lit (.int .i64 a4), .vec 0] ⟨[], [some ⟨el5, false, [.int .u8], 0, false, false, L5⟩]⟩ boolOf =
    (bif decide ((L5.length : Int) > 200) then some true else
     bif true && true && decide (L5.length ≤ 65536) then
     bif true && true && decide (L5.length ≤ 65536) then
     bif lpz a0_0 a1_0 a4 == lpr a0_0 a1_0 a4 && (lpz a0_1 a1_1 a4 == lpr a0_1 a1_1 a4 && (lpz a0_2 a1_2 a4 == lpr a0_2 a1_2 a4 && (lpz a0_3 a1_3 a4 == lpr a0_3 a1_3 a4 && true))) then
     bif mnz a0_0 a1_0 a2_0 a3_0 == mnz a0_0 a1_0 a2_0 a3_0 && (mnz a0_1 a1_1 a2_1 a3_1 == mnz a0_1 a1_1 a2_1 a3_1 && (mnz a0_2 a1_2 a2_2 a3_2 == mnz a0_2 a1_2 a2_2 a3_2 && (mnz a0_3 a1_3 a2_3 a3_3 == mnz a0_3 a1_3 a2_3 a3_3 && true))) then
     bif tmz a0_0 a1_0 == tmz a0_0 a1_0 && (tmz a0_1 a1_1 == tmz a0_1 a1_1 && (tmz a0_2 a1_2 == tmz a0_2 a1_2 && (tmz a0_3 a1_3 == tmz a0_3 a1_3 && true))) then
     bif decide (L5.length % 4 = 0) == decide (L5.length % 4 = 0) then
     bif true && true && true && decide ((fromA L5).length ≤ 16384) then
     bif true && true && true && decide ((fromA L5).length ≤ 16384) then
     bif (strOf ((flat (fromA L5)).map AV.getInt)).toList == (strOf ((flat (fromA L5)).map AV.getInt)).toList then some true else some false
     else none else none else some false else some false else some false else some false else none else none) := by kernel_rfl
  rw [e]
  clear e
  by_cases h : (L5.length : Int) > 200
  · rw [decide_eq_true h]; rfl
  · have h1 : (fromA L5).length ≤ 16384 := by
      unfold fromA
      by_cases hm : L5.length % 4 = 0
      · rw [decide_eq_true hm, cond_true, quads_len (L5.length / 4) _ (by simp; omega)]; omega
      · rw [decide_eq_false hm]; simp
    simp only [lpz_lpr, beq_self_eq_true, Bool.and_self, Bool.true_and, cond_true, decide_eq_false h, cond_false, decide_eq_true h1, decide_eq_true (show L5.length ≤ 65536 by omega)]

theorem walk (a0_0 : Int) (a0_1 : Int) (a0_2 : Int) (a0_3 : Int) (a1_0 : Int) (a1_1 : Int) (a1_2 : Int) (a1_3 : Int) (a2_0 : Int) (a2_1 : Int) (a2_2 : Int) (a2_3 : Int) (a3_0 : Int) (a3_1 : Int) (a3_2 : Int) (a3_3 : Int) (a4 : Int) (el5 : TypeId) (L5 : List AV) (h_a0_0 : 0 ≤ a0_0 ∧ a0_0 ≤ 255) (h_a0_1 : 0 ≤ a0_1 ∧ a0_1 ≤ 255) (h_a0_2 : 0 ≤ a0_2 ∧ a0_2 ≤ 255) (h_a0_3 : 0 ≤ a0_3 ∧ a0_3 ≤ 255) (h_a1_0 : 0 ≤ a1_0 ∧ a1_0 ≤ 255) (h_a1_1 : 0 ≤ a1_1 ∧ a1_1 ≤ 255) (h_a1_2 : 0 ≤ a1_2 ∧ a1_2 ≤ 255) (h_a1_3 : 0 ≤ a1_3 ∧ a1_3 ≤ 255) (h_a2_0 : 0 ≤ a2_0 ∧ a2_0 ≤ 255) (h_a2_1 : 0 ≤ a2_1 ∧ a2_1 ≤ 255) (h_a2_2 : 0 ≤ a2_2 ∧ a2_2 ≤ 255) (h_a2_3 : 0 ≤ a2_3 ∧ a2_3 ≤ 255) (h_a3_0 : 0 ≤ a3_0 ∧ a3_0 ≤ 255) (h_a3_1 : 0 ≤ a3_1 ∧ a3_1 ≤ 255) (h_a3_2 : 0 ≤ a3_2 ∧ a3_2 ≤ 255) (h_a3_3 : 0 ≤ a3_3 ∧ a3_3 ≤ 255) (h_a4 : -9223372036854775808 ≤ a4 ∧ a4 ≤ 9223372036854775807) (h_L5 : ∀ x, x ∈ L5 → elemOk false [.int .u8] x) (v5 : Value) (w : World) (hR : RepM (Env.addV ⟨fun _ => 0, fun _ => undef⟩ 0 v5) (Bs.of w) ⟨[], [some ⟨el5, false, [.int .u8], 0, false, false, L5⟩]⟩ w) :
    Calls Try.prog 6 #[.agg #[.int .u8 a0_0, .int .u8 a0_1, .int .u8 a0_2, .int .u8 a0_3], .agg #[.int .u8 a1_0, .int .u8 a1_1, .int .u8 a1_2, .int .u8 a1_3], .agg #[.int .u8 a2_0, .int .u8 a2_1, .int .u8 a2_2, .int .u8 a2_3], .agg #[.int .u8 a3_0, .int .u8 a3_1, .int .u8 a3_2, .int .u8 a3_3], .int .i64 a4, v5] w fun e w' => e = .returned (.bool true) ∧ Below w.heap.size w w' := by
  have h := law_of chm_sound mixed entersF (bodyTrue a0_0 a0_1 a0_2 a0_3 a1_0 a1_1 a1_2 a1_3 a2_0 a2_1 a2_2 a2_3 a3_0 a3_1 a3_2 a3_3 a4 el5 L5 h_a0_0 h_a0_1 h_a0_2 h_a0_3 h_a1_0 h_a1_1 h_a1_2 h_a1_3 h_a2_0 h_a2_1 h_a2_2 h_a2_3 h_a3_0 h_a3_1 h_a3_2 h_a3_3 h_a4 h_L5) (E := (Env.addV ⟨fun _ => 0, fun _ => undef⟩ 0 v5)) (w := w) hR (by kernel_rfl) (by kernel_rfl)
  exact h

theorem walkV (W : World) (base : Nat) (v0 : Value) (v1 : Value) (v2 : Value) (v3 : Value) (v4 : Value) (v5 : Value) (hv0 : Value.okWide Try.prog W .any base 23 v0) (hv1 : Value.okWide Try.prog W .any base 23 v1) (hv2 : Value.okWide Try.prog W .any base 23 v2) (hv3 : Value.okWide Try.prog W .any base 23 v3) (hv4 : Value.okWide Try.prog W .any base 3 v4) (hv5 : Value.okWide Try.prog W .any base 36 v5) (hs5 : SliceArg W false [.int .u8] v5) : Calls Try.prog 6 #[v0, v1, v2, v3, v4, v5] W fun e w' => e = .returned (.bool true) ∧ Below W.heap.size W w' := by
  obtain ⟨cs0, rfl, hl0, hc0⟩ := ok_agg (P := Try.prog) (t := 23) (ts := [5, 5, 5, 5]) (by kernel_rfl) (by kernel_rfl) (by kernel_rfl) hv0
  obtain ⟨c0_0, c0_1, c0_2, c0_3, rfl⟩ := list4 hl0
  obtain ⟨a0_0, rfl, b0_0, b0_0'⟩ := cell_int Try.underlying5 (hc0 0 5 _ rfl rfl)
  obtain ⟨a0_1, rfl, b0_1, b0_1'⟩ := cell_int Try.underlying5 (hc0 1 5 _ rfl rfl)
  obtain ⟨a0_2, rfl, b0_2, b0_2'⟩ := cell_int Try.underlying5 (hc0 2 5 _ rfl rfl)
  obtain ⟨a0_3, rfl, b0_3, b0_3'⟩ := cell_int Try.underlying5 (hc0 3 5 _ rfl rfl)
  obtain ⟨cs1, rfl, hl1, hc1⟩ := ok_agg (P := Try.prog) (t := 23) (ts := [5, 5, 5, 5]) (by kernel_rfl) (by kernel_rfl) (by kernel_rfl) hv1
  obtain ⟨c1_0, c1_1, c1_2, c1_3, rfl⟩ := list4 hl1
  obtain ⟨a1_0, rfl, b1_0, b1_0'⟩ := cell_int Try.underlying5 (hc1 0 5 _ rfl rfl)
  obtain ⟨a1_1, rfl, b1_1, b1_1'⟩ := cell_int Try.underlying5 (hc1 1 5 _ rfl rfl)
  obtain ⟨a1_2, rfl, b1_2, b1_2'⟩ := cell_int Try.underlying5 (hc1 2 5 _ rfl rfl)
  obtain ⟨a1_3, rfl, b1_3, b1_3'⟩ := cell_int Try.underlying5 (hc1 3 5 _ rfl rfl)
  obtain ⟨cs2, rfl, hl2, hc2⟩ := ok_agg (P := Try.prog) (t := 23) (ts := [5, 5, 5, 5]) (by kernel_rfl) (by kernel_rfl) (by kernel_rfl) hv2
  obtain ⟨c2_0, c2_1, c2_2, c2_3, rfl⟩ := list4 hl2
  obtain ⟨a2_0, rfl, b2_0, b2_0'⟩ := cell_int Try.underlying5 (hc2 0 5 _ rfl rfl)
  obtain ⟨a2_1, rfl, b2_1, b2_1'⟩ := cell_int Try.underlying5 (hc2 1 5 _ rfl rfl)
  obtain ⟨a2_2, rfl, b2_2, b2_2'⟩ := cell_int Try.underlying5 (hc2 2 5 _ rfl rfl)
  obtain ⟨a2_3, rfl, b2_3, b2_3'⟩ := cell_int Try.underlying5 (hc2 3 5 _ rfl rfl)
  obtain ⟨cs3, rfl, hl3, hc3⟩ := ok_agg (P := Try.prog) (t := 23) (ts := [5, 5, 5, 5]) (by kernel_rfl) (by kernel_rfl) (by kernel_rfl) hv3
  obtain ⟨c3_0, c3_1, c3_2, c3_3, rfl⟩ := list4 hl3
  obtain ⟨a3_0, rfl, b3_0, b3_0'⟩ := cell_int Try.underlying5 (hc3 0 5 _ rfl rfl)
  obtain ⟨a3_1, rfl, b3_1, b3_1'⟩ := cell_int Try.underlying5 (hc3 1 5 _ rfl rfl)
  obtain ⟨a3_2, rfl, b3_2, b3_2'⟩ := cell_int Try.underlying5 (hc3 2 5 _ rfl rfl)
  obtain ⟨a3_3, rfl, b3_3, b3_3'⟩ := cell_int Try.underlying5 (hc3 3 5 _ rfl rfl)
  obtain ⟨a4, rfl, b4, b4'⟩ := ok_int Try.underlying3 hv4
  obtain ⟨el5, L5, hL5, hr5⟩ := hs5
  exact walk a0_0 a0_1 a0_2 a0_3 a1_0 a1_1 a1_2 a1_3 a2_0 a2_1 a2_2 a2_3 a3_0 a3_1 a3_2 a3_3 a4 el5 L5 ⟨b0_0, b0_0'⟩ ⟨b0_1, b0_1'⟩ ⟨b0_2, b0_2'⟩ ⟨b0_3, b0_3'⟩ ⟨b1_0, b1_0'⟩ ⟨b1_1, b1_1'⟩ ⟨b1_2, b1_2'⟩ ⟨b1_3, b1_3'⟩ ⟨b2_0, b2_0'⟩ ⟨b2_1, b2_1'⟩ ⟨b2_2, b2_2'⟩ ⟨b2_3, b2_3'⟩ ⟨b3_0, b3_0'⟩ ⟨b3_1, b3_1'⟩ ⟨b3_2, b3_2'⟩ ⟨b3_3, b3_3'⟩ ⟨b4, b4'⟩ hL5 v5 W (hr5 _ _ (RepM.empty ⟨fun _ => 0, fun _ => undef⟩ W))

set_option maxRecDepth 100000 in
theorem lifted (os : Os) (started : os.Started) (H : Type) (enc : TypeId × Value → H) :
    ReturnsInHanded {} Try.checked os 6 .any (Rows.hueTellsSpec.pre6 enc Try.prog Try.f6 Rows.hueTellsRow.domain false) (Rows.hueTellsSpec.post enc Try.prog Try.f6 false true false false) := by
  refine returnsInHanded_of_change (C := Try.checked) own started (by kernel_rfl) Try.func6
    (ChangeSpec.witness6 (enc := enc) (C := Try.checked) false ⟨#[], #[.agg #[.int .u8 0, .int .u8 0, .int .u8 0, .int .u8 0], .agg #[.int .u8 0, .int .u8 0, .int .u8 0, .int .u8 0], .agg #[.int .u8 0, .int .u8 0, .int .u8 0, .int .u8 0], .agg #[.int .u8 0, .int .u8 0, .int .u8 0, .int .u8 0], .int .i64 0, .slice none 0 0], []⟩ 8 (by kernel_rfl) (by kernel_rfl) (by kernel_rfl) (by kernel_rfl)) ?_
  intro W base args ds gs before hval0 hW _ _
  have hval : ∀ (j : Nat) t v, Try.f6.params[j]? = some t → args[j]? = some v → Value.okWide Try.prog W .any base t v := hval0
  have hW' := hW
  obtain ⟨p, q, hA0, _, rfl, _, _⟩ := hW
  have hA : DataW.TrodAll enc Try.prog W 0 (fun _ => true) true Try.f6.params.toList args.toList ds p := hA0
  rw [Try.params6] at hA hval
  obtain ⟨v0, vs0, d0, ds0, p0, q0, hargs, rfl, rfl, h0, r0⟩ := trodAll_cons hA
  obtain ⟨v1, vs1, d1, ds1, p1, q1, rfl, rfl, rfl, h1, r1⟩ := trodAll_cons r0
  obtain ⟨v2, vs2, d2, ds2, p2, q2, rfl, rfl, rfl, h2, r2⟩ := trodAll_cons r1
  obtain ⟨v3, vs3, d3, ds3, p3, q3, rfl, rfl, rfl, h3, r3⟩ := trodAll_cons r2
  obtain ⟨v4, vs4, d4, ds4, p4, q4, rfl, rfl, rfl, h4, r4⟩ := trodAll_cons r3
  obtain ⟨v5, vs5, d5, ds5, p5, q5, rfl, rfl, rfl, h5, r5⟩ := trodAll_cons r4
  obtain ⟨rfl, rfl, rfl⟩ := trodAll_nil r5
  obtain rfl : args = #[v0, v1, v2, v3, v4, v5] := by cases args; simp_all
  refine (walkV W base v0 v1 v2 v3 v4 v5 (hval 0 23 v0 rfl rfl) (hval 1 23 v1 rfl rfl) (hval 2 23 v2 rfl rfl) (hval 3 23 v3 rfl rfl) (hval 4 3 v4 rfl rfl) (hval 5 36 v5 rfl rfl) (arg_slice (d := 9) false Try.underlying36 (by kernel_rfl) (by kernel_rfl) (by decide) (by decide) (hval 5 36 v5 rfl rfl) h5)).mono fun e W' ⟨he, hb⟩ => ?_
  subst he
  exact ⟨_, rfl, law_post (tb := 4) hW' rfl rfl laid (by kernel_rfl) rfl Try.underlying4 hb⟩

theorem over : Rows.hueTellsRow.holds Try.pinned (OpenSpec.ofChange Rows.hueTellsSpec) :=
  OpenClaim.holds_of_wide 6 Try.f6 rfl rfl rfl rfl rfl rfl rfl ⟨rfl, rfl, rfl, rfl, rfl⟩ rfl rfl rfl rfl rfl (by kernel_rfl) Try.func6 (by kernel_rfl)
    (of_decide_eq_true (by kernel_rfl)) (by unfold Func.isWrapper; first | (rw [if_pos (by decide +kernel)]; kernel_rfl) | (rw [if_neg (by decide +kernel)]; exact ⟨rfl, rfl⟩))
    (fun os started H enc _ => lifted os started H enc)

theorem proved : Rows.HueTellsSaid := over
end Go.Proofs.Ytpgheiegpcggbaa.hueTells

