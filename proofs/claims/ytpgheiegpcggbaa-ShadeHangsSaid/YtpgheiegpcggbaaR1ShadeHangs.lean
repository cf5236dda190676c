/- Of all inputs the law answers true; no condition. -/
import Derived.Test.YtpgheiegpcggbaaR1X
set_option linter.unusedVariables false
set_option linter.unusedSimpArgs false
namespace Go.Proofs.Ytpgheiegpcggbaa.shadeHangs
open Go Go.Sx Go.ChangeShapes Go.WideShapes Go.ChangeAt Go.RowKit

theorem own : ownKnob Try.prog.godebug = none := by kernel_rfl
theorem mixed : Try.prog.follows .mixedOrders = true := by kernel_rfl
theorem laid : laidOutB Try.prog = true := by kernel_rfl
theorem entersF : Enters Try.prog 4 Try.f4 := ⟨Try.func4, by kernel_rfl, by kernel_rfl⟩

theorem list4 {l : List Value} (h : l.length = 4) : ∃ x0 x1 x2 x3, l = [x0, x1, x2, x3] := by
  match l, h with
  | [x0, x1, x2, x3], _ => exact ⟨x0, x1, x2, x3, rfl⟩

theorem bodyTrue (a0_0 : Int) (a0_1 : Int) (a0_2 : Int) (a0_3 : Int) (a1_0 : Int) (a1_1 : Int) (a1_2 : Int) (a1_3 : Int) (a2_0 : Int) (a2_1 : Int) (a2_2 : Int) (a2_3 : Int) (a3 : Bool) (h_a0_0 : 0 ≤ a0_0 ∧ a0_0 ≤ 255) (h_a0_1 : 0 ≤ a0_1 ∧ a0_1 ≤ 255) (h_a0_2 : 0 ≤ a0_2 ∧ a0_2 ≤ 255) (h_a0_3 : 0 ≤ a0_3 ∧ a0_3 ≤ 255) (h_a1_0 : 0 ≤ a1_0 ∧ a1_0 ≤ 255) (h_a1_1 : 0 ≤ a1_1 ∧ a1_1 ≤ 255) (h_a1_2 : 0 ≤ a1_2 ∧ a1_2 ≤ 255) (h_a1_3 : 0 ≤ a1_3 ∧ a1_3 ≤ 255) (h_a2_0 : 0 ≤ a2_0 ∧ a2_0 ≤ 255) (h_a2_1 : 0 ≤ a2_1 ∧ a2_1 ≤ 255) (h_a2_2 : 0 ≤ a2_2 ∧ a2_2 ≤ 255) (h_a2_3 : 0 ≤ a2_3 ∧ a2_3 ≤ 255) :
    bodyK cx Try.prog 5 Try.f4 [.agg [.lit (.int .u8 a0_0), .lit (.int .u8 a0_1), .lit (.int .u8 a0_2), .lit (.int .u8 a0_3)], .agg [.lit (.int .u8 a1_0), .lit (.int .u8 a1_1), .lit (.int .u8 a1_2), .lit (.int .u8 a1_3)], .agg [.lit (.int .u8 a2_0), .lit (.int .u8 a2_1), .lit (.int .u8 a2_2), .lit (.int .u8 a2_3)], .lit (.bool a3)] Sx.empty boolOf = some true := by
  have e : bodyK cx Try.prog 5 Try.f4 [.agg [.lit (.int .u8 a0_0), .lit (.int .u8 a0_1), .lit (.int .u8 a0_2), .lit (.int .u8 a0_3)], .agg [.lit (.int .u8 a1_0), .lit (.int .u8 a1_1), .lit (.int .u8 a1_2), .lit (.int .u8 a1_3)], .agg [.lit (.int .u8 a2_0), .lit (.int .u8 a2_1), .lit (.int .u8 a2_2), .lit (.int .u8 a2_3)], .lit (.bool a3)] Sx.empty boolOf =
    (bif
        px 1 a0_0 a1_0 a3 == px 1 a0_0 a2_0 !a3 &&
          (px 1 a0_1 a1_1 a3 == px 1 a0_1 a2_1 !a3 &&
            (px 1 a0_2 a1_2 a3 == px 1 a0_2 a2_2 !a3 && (px 1 a0_3 a1_3 a3 == px 1 a0_3 a2_3 !a3 && true))) then
      bif
          px 2 a0_0 a1_0 a3 == a1_0 &&
            (px 2 a0_1 a1_1 a3 == a1_1 && (px 2 a0_2 a1_2 a3 == a1_2 && (px 2 a0_3 a1_3 a3 == a1_3 && true))) then
        bif
            px 3 255 a1_0 a3 == a1_0 &&
              (px 3 255 a1_1 a3 == a1_1 && (px 3 255 a1_2 a3 == a1_2 && (px 3 255 a1_3 a3 == a1_3 && true))) then
          bif
              px 3 a0_0 a1_0 a3 == tmz a1_0 a0_0 &&
                (px 3 a0_1 a1_1 a3 == tmz a1_1 a0_1 &&
                  (px 3 a0_2 a1_2 a3 == tmz a1_2 a0_2 && (px 3 a0_3 a1_3 a3 == tmz a1_3 a0_3 && true))) then
            bif a3 then
              bif
                  (px 4 a0_0 a1_0 a3 == 255 &&
                      (px 4 a0_1 a1_1 a3 == 255 && (px 4 a0_2 a1_2 a3 == 255 && (px 4 a0_3 a1_3 a3 == 255 && true)))) ==
                    true then
                some true
              else some false
            else
              bif
                  (px 4 a0_0 a1_0 a3 == 255 &&
                      (px 4 a0_1 a1_1 a3 == 255 && (px 4 a0_2 a1_2 a3 == 255 && (px 4 a0_3 a1_3 a3 == 255 && true)))) ==
                    (a0_0 == 255 && (a0_1 == 255 && (a0_2 == 255 && (a0_3 == 255 && true)))) then
                some true
              else some false
          else some false
        else some false
      else some false
    else some false) := by kernel_rfl
  rw [e]
  clear e
  have p1 : ∀ t g f, px 1 t g f = t := fun _ _ _ => rfl
  have p2 : ∀ t g f, px 2 t g f = g := fun _ _ _ => rfl
  have p3 : ∀ t g f, px 3 t g f = tmz g t := fun _ _ _ => rfl
  have p4 : ∀ t g, px 4 t g true = 255 := fun _ _ => rfl
  have p5 : ∀ t g, px 4 t g false = t := fun _ _ => rfl
  simp only [p1, p2, p3, tmz_white h_a1_0.1 h_a1_0.2, tmz_white h_a1_1.1 h_a1_1.2, tmz_white h_a1_2.1 h_a1_2.2, tmz_white h_a1_3.1 h_a1_3.2, beq_self_eq_true, Bool.and_true, cond_true]
  cases a3 <;> simp only [p4, p5, cond_true, cond_false, beq_self_eq_true, Bool.and_true]

theorem walk (a0_0 : Int) (a0_1 : Int) (a0_2 : Int) (a0_3 : Int) (a1_0 : Int) (a1_1 : Int) (a1_2 : Int) (a1_3 : Int) (a2_0 : Int) (a2_1 : Int) (a2_2 : Int) (a2_3 : Int) (a3 : Bool) (h_a0_0 : 0 ≤ a0_0 ∧ a0_0 ≤ 255) (h_a0_1 : 0 ≤ a0_1 ∧ a0_1 ≤ 255) (h_a0_2 : 0 ≤ a0_2 ∧ a0_2 ≤ 255) (h_a0_3 : 0 ≤ a0_3 ∧ a0_3 ≤ 255) (h_a1_0 : 0 ≤ a1_0 ∧ a1_0 ≤ 255) (h_a1_1 : 0 ≤ a1_1 ∧ a1_1 ≤ 255) (h_a1_2 : 0 ≤ a1_2 ∧ a1_2 ≤ 255) (h_a1_3 : 0 ≤ a1_3 ∧ a1_3 ≤ 255) (h_a2_0 : 0 ≤ a2_0 ∧ a2_0 ≤ 255) (h_a2_1 : 0 ≤ a2_1 ∧ a2_1 ≤ 255) (h_a2_2 : 0 ≤ a2_2 ∧ a2_2 ≤ 255) (h_a2_3 : 0 ≤ a2_3 ∧ a2_3 ≤ 255) (w : World) :
    Calls Try.prog 4 #[.agg #[.int .u8 a0_0, .int .u8 a0_1, .int .u8 a0_2, .int .u8 a0_3], .agg #[.int .u8 a1_0, .int .u8 a1_1, .int .u8 a1_2, .int .u8 a1_3], .agg #[.int .u8 a2_0, .int .u8 a2_1, .int .u8 a2_2, .int .u8 a2_3], .bool a3] w fun e w' => e = .returned (.bool true) ∧ Below w.heap.size w w' := by
  have h := law_of cx_sound mixed entersF (bodyTrue a0_0 a0_1 a0_2 a0_3 a1_0 a1_1 a1_2 a1_3 a2_0 a2_1 a2_2 a2_3 a3 h_a0_0 h_a0_1 h_a0_2 h_a0_3 h_a1_0 h_a1_1 h_a1_2 h_a1_3 h_a2_0 h_a2_1 h_a2_2 h_a2_3) (E := ⟨fun _ => 0, fun _ => undef⟩) (RepM.empty _ w) (by kernel_rfl) (by kernel_rfl)
  exact h

theorem walkV (W : World) (base : Nat) (v0 : Value) (v1 : Value) (v2 : Value) (v3 : Value) (hv0 : Value.okWide Try.prog W .any base 23 v0) (hv1 : Value.okWide Try.prog W .any base 23 v1) (hv2 : Value.okWide Try.prog W .any base 23 v2) (hv3 : Value.okWide Try.prog W .any base 4 v3) : Calls Try.prog 4 #[v0, v1, v2, v3] W fun e w' => e = .returned (.bool true) ∧ Below W.heap.size W w' := by
  obtain ⟨cs0, rfl, hl0, hc0⟩ := ok_agg (P := Try.prog) (t := 23) (ts := [5, 5, 5, 5]) (by kernel_rfl) (by kernel_rfl) (by kernel_rfl) hv0
  obtain ⟨c0_0, c0_1, c0_2, c0_3, rfl⟩ := list4 hl0
  obtain ⟨a0_0, rfl, b0_0, b0_0'⟩ := cell_int Try.underlying5 (hc0 0 5 _ rfl rfl)
  obtain ⟨a0_1, rfl, b0_1, b0_1'⟩ := cell_int Try.underlying5 (hc0 1 5 _ rfl rfl)
  obtain ⟨a0_2, rfl, b0_2, b0_2'⟩ := cell_int Try.underlying5 (hc0 2 5 _ rfl rfl)
  obtain ⟨a0_3, rfl, b0_3, b0_3'⟩ := cell_int Try.underlying5 (hc0 3 5 _ rfl rfl)
  obtain ⟨cs1, rfl, hl1, hc1⟩ := ok_agg (P := Try.prog) (t := 23) (ts := [5, 5, 5, 5]) (by kernel_rfl) (by kernel_rfl) (by kernel_rfl) hv1
  obtain ⟨c1_0, c1_1, c1_2, c1_3, rfl⟩ := list4 hl1
  obtain ⟨a1_0, rfl, b1_0, b1_0'⟩ := cell_int Try.underlying5 (hc1 0 5 _ rfl rfl)
  obtain ⟨a1_1, rfl, b1_1, b1_1'⟩ := cell_int Try.underlying5 (hc1 1 5 _ rfl rfl)
  obtain ⟨a1_2, rfl, b1_2, b1_2'⟩ := cell_int Try.underlying5 (hc1 2 5 _ rfl rfl)
  obtain ⟨a1_3, rfl, b1_3, b1_3'⟩ := cell_int Try.underlying5 (hc1 3 5 _ rfl rfl)
  obtain ⟨cs2, rfl, hl2, hc2⟩ := ok_agg (P := Try.prog) (t := 23) (ts := [5, 5, 5, 5]) (by kernel_rfl) (by kernel_rfl) (by kernel_rfl) hv2
  obtain ⟨c2_0, c2_1, c2_2, c2_3, rfl⟩ := list4 hl2
  obtain ⟨a2_0, rfl, b2_0, b2_0'⟩ := cell_int Try.underlying5 (hc2 0 5 _ rfl rfl)
  obtain ⟨a2_1, rfl, b2_1, b2_1'⟩ := cell_int Try.underlying5 (hc2 1 5 _ rfl rfl)
  obtain ⟨a2_2, rfl, b2_2, b2_2'⟩ := cell_int Try.underlying5 (hc2 2 5 _ rfl rfl)
  obtain ⟨a2_3, rfl, b2_3, b2_3'⟩ := cell_int Try.underlying5 (hc2 3 5 _ rfl rfl)
  obtain ⟨a3, rfl⟩ := ok_bool Try.underlying4 hv3
  exact walk a0_0 a0_1 a0_2 a0_3 a1_0 a1_1 a1_2 a1_3 a2_0 a2_1 a2_2 a2_3 a3 ⟨b0_0, b0_0'⟩ ⟨b0_1, b0_1'⟩ ⟨b0_2, b0_2'⟩ ⟨b0_3, b0_3'⟩ ⟨b1_0, b1_0'⟩ ⟨b1_1, b1_1'⟩ ⟨b1_2, b1_2'⟩ ⟨b1_3, b1_3'⟩ ⟨b2_0, b2_0'⟩ ⟨b2_1, b2_1'⟩ ⟨b2_2, b2_2'⟩ ⟨b2_3, b2_3'⟩ W

set_option maxRecDepth 100000 in
theorem lifted (os : Os) (started : os.Started) (H : Type) (enc : TypeId × Value → H) :
    ReturnsInHanded {} Try.checked os 4 .any (Rows.shadeHangsSpec.pre6 enc Try.prog Try.f4 Rows.shadeHangsRow.domain false) (Rows.shadeHangsSpec.post enc Try.prog Try.f4 false true false false) := by
  refine returnsInHanded_of_change (C := Try.checked) own started (by kernel_rfl) Try.func4
    (ChangeSpec.witness6 (enc := enc) (C := Try.checked) false ⟨#[], #[.agg #[.int .u8 0, .int .u8 0, .int .u8 0, .int .u8 0], .agg #[.int .u8 0, .int .u8 0, .int .u8 0, .int .u8 0], .agg #[.int .u8 0, .int .u8 0, .int .u8 0, .int .u8 0], .bool false], []⟩ 8 (by kernel_rfl) (by kernel_rfl) (by kernel_rfl) (by kernel_rfl)) ?_
  intro W base args ds gs before hval0 hW _ _
  have hval : ∀ (j : Nat) t v, Try.f4.params[j]? = some t → args[j]? = some v → Value.okWide Try.prog W .any base t v := hval0
  have hW' := hW
  obtain ⟨p, q, hA0, _, rfl, _, _⟩ := hW
  have hA : DataW.TrodAll enc Try.prog W 0 (fun _ => true) true Try.f4.params.toList args.toList ds p := hA0
  rw [Try.params4] at hA hval
  obtain ⟨v0, vs0, d0, ds0, p0, q0, hargs, rfl, rfl, h0, r0⟩ := trodAll_cons hA
  obtain ⟨v1, vs1, d1, ds1, p1, q1, rfl, rfl, rfl, h1, r1⟩ := trodAll_cons r0
  obtain ⟨v2, vs2, d2, ds2, p2, q2, rfl, rfl, rfl, h2, r2⟩ := trodAll_cons r1
  obtain ⟨v3, vs3, d3, ds3, p3, q3, rfl, rfl, rfl, h3, r3⟩ := trodAll_cons r2
  obtain ⟨rfl, rfl, rfl⟩ := trodAll_nil r3
  obtain rfl : args = #[v0, v1, v2, v3] := by cases args; simp_all
  refine (walkV W base v0 v1 v2 v3 (hval 0 23 v0 rfl rfl) (hval 1 23 v1 rfl rfl) (hval 2 23 v2 rfl rfl) (hval 3 4 v3 rfl rfl)).mono fun e W' ⟨he, hb⟩ => ?_
  subst he
  exact ⟨_, rfl, law_post (tb := 4) hW' rfl rfl laid (by kernel_rfl) rfl Try.underlying4 hb⟩

theorem over : Rows.shadeHangsRow.holds Try.pinned (OpenSpec.ofChange Rows.shadeHangsSpec) :=
  OpenClaim.holds_of_wide 4 Try.f4 rfl rfl rfl rfl rfl rfl rfl ⟨rfl, rfl, rfl, rfl, rfl⟩ rfl rfl rfl rfl rfl (by kernel_rfl) Try.func4 (by kernel_rfl)
    (of_decide_eq_true (by kernel_rfl)) (by unfold Func.isWrapper; first | (rw [if_pos (by decide +kernel)]; kernel_rfl) | (rw [if_neg (by decide +kernel)]; exact ⟨rfl, rfl⟩))
    (fun os started H enc _ => lifted os started H enc)

theorem proved : Rows.ShadeHangsSaid := over
end Go.Proofs.Ytpgheiegpcggbaa.shadeHangs

