import Derived.Test.YtemhaijcebjhhaaL24T
import Derived.Test.YtemhaijcebjhhaaSxAr
set_option linter.unusedVariables false
set_option linter.unusedSimpArgs false
namespace Go.Proofs.Ytemhaijcebjhhaa.clipTells
open Go Go.Sx Go.ChangeShapes Go.WideShapes Go.ChangeAt Go.RowKit

theorem own : ownKnob Try.prog.godebug = none := by kernel_rfl
theorem mixed : Try.prog.follows .mixedOrders = true := by kernel_rfl
theorem laid : laidOutB Try.prog = true := by kernel_rfl
theorem entersF : Enters Try.prog 3 Try.f3 := ⟨Try.func3, by kernel_rfl, by kernel_rfl⟩


open Go.Fx
theorem bodyTrue (el0 : TypeId) (L0 : List AV) (a1 : Int) (h_L0 : ∀ x, x ∈ L0 → elemOk true [.int .i64, .int .i64, .int .i64, .int .i64, .int .i64, .int .i64] x) (h_a1 : -9223372036854775808 ≤ a1 ∧ a1 ≤ 9223372036854775807) :
    bodyK cT Try.prog 24 Try.f3 [.vec 0, .lit (.int .i64 a1)] ⟨[], [some ⟨el0, true, [.int .i64, .int .i64, .int .i64, .int .i64, .int .i64, .int .i64], 0, false, false, L0⟩]⟩ boolOf = some true := by
  have e : bodyK cT Try.prog 24 Try.f3 [.vec 0, .lit (.int .i64 a1)] ⟨[], [some ⟨el0, true, [.int .i64, .int .i64, .int .i64, .int .i64, .int .i64, .int .i64], 0, false, false, L0⟩]⟩ boolOf =
    (bif decide ((L0.length : Int) > 12) then some true else
     bif decide (L0.length ≤ 16384) then
     bif !L0.all okx then some true else
     bif L0.all okx && decide (L0.length ≤ 16384) then
     bif decide (L0.length ≤ 64) && L0.all okx then
     bif decide (L0.length ≤ 64) && L0.all okx then
     bif decide ((polX L0).map c6I = (polR L0).map c6I) && decide ((polX L0).length ≤ 16384) then some true else none
     else none else none else none else none) := by kernel_rfl
  rw [e]
  clear e
  by_cases h : (L0.length : Int) > 12
  · rw [decide_eq_true h]; rfl
  · rw [decide_eq_false h, decide_eq_true (show L0.length ≤ 16384 by omega), decide_eq_true (show L0.length ≤ 64 by omega), polR_eq, decide_eq_true rfl, decide_eq_true (polX_len (L := L0) (by omega))]
    cases L0.all okx <;> rfl

theorem walk (el0 : TypeId) (L0 : List AV) (a1 : Int) (h_L0 : ∀ x, x ∈ L0 → elemOk true [.int .i64, .int .i64, .int .i64, .int .i64, .int .i64, .int .i64] x) (h_a1 : -9223372036854775808 ≤ a1 ∧ a1 ≤ 9223372036854775807) (v0 : Value) (w : World) (hR : RepM (Env.addV ⟨fun _ => 0, fun _ => undef⟩ 0 v0) (Bs.of w) ⟨[], [some ⟨el0, true, [.int .i64, .int .i64, .int .i64, .int .i64, .int .i64, .int .i64], 0, false, false, L0⟩]⟩ w) :
    Calls Try.prog 3 #[v0, .int .i64 a1] w fun e w' => e = .returned (.bool true) ∧ Below w.heap.size w w' := by
  have h := law_of cT_sound mixed entersF (bodyTrue el0 L0 a1 h_L0 h_a1) (E := (Env.addV ⟨fun _ => 0, fun _ => undef⟩ 0 v0)) (w := w) hR (by kernel_rfl) (by kernel_rfl) cT_loops
  exact h

theorem walkV (W : World) (base : Nat) (v0 : Value) (v1 : Value) (hv0 : Value.okWide Try.prog W .any base 22 v0) (hv1 : Value.okWide Try.prog W .any base 3 v1) (hs0 : SliceArg W true [.int .i64, .int .i64, .int .i64, .int .i64, .int .i64, .int .i64] v0) : Calls Try.prog 3 #[v0, v1] W fun e w' => e = .returned (.bool true) ∧ Below W.heap.size W w' := by
  obtain ⟨el0, L0, hL0, hr0⟩ := hs0
  obtain ⟨a1, rfl, b1, b1'⟩ := ok_int Try.underlying3 hv1
  exact walk el0 L0 a1 hL0 ⟨b1, b1'⟩ v0 W (hr0 _ _ (RepM.empty ⟨fun _ => 0, fun _ => undef⟩ W))

set_option maxRecDepth 100000 in
theorem lifted (os : Os) (started : os.Started) (H : Type) (enc : TypeId × Value → H) :
    ReturnsInHanded {} Try.checked os 3 .any (Rows.clipTellsSpec.pre6 enc Try.prog Try.f3 Rows.clipTellsRow.domain false) (Rows.clipTellsSpec.post enc Try.prog Try.f3 false true false false) := by
  refine returnsInHanded_of_change (C := Try.checked) own started (by kernel_rfl) Try.func3
    (ChangeSpec.witness6 (enc := enc) (C := Try.checked) false ⟨#[], #[.slice none 0 0, .int .i64 0], []⟩ 8 (by kernel_rfl) (by kernel_rfl) (by kernel_rfl) (by kernel_rfl)) ?_
  intro W base args ds gs before hval0 hW _ _
  have hval : ∀ (j : Nat) t v, Try.f3.params[j]? = some t → args[j]? = some v → Value.okWide Try.prog W .any base t v := hval0
  have hW' := hW
  obtain ⟨p, q, hA0, _, rfl, _, _⟩ := hW
  have hA : DataW.TrodAll enc Try.prog W 0 (fun _ => true) true Try.f3.params.toList args.toList ds p := hA0
  rw [Try.params3] at hA hval
  obtain ⟨v0, vs0, d0, ds0, p0, q0, hargs, rfl, rfl, h0, r0⟩ := trodAll_cons hA
  obtain ⟨v1, vs1, d1, ds1, p1, q1, rfl, rfl, rfl, h1, r1⟩ := trodAll_cons r0
  obtain ⟨rfl, rfl, rfl⟩ := trodAll_nil r1
  obtain rfl : args = #[v0, v1] := by cases args; simp_all
  refine (walkV W base v0 v1 (hval 0 22 v0 rfl rfl) (hval 1 3 v1 rfl rfl) (arg_slice (d := 9) true Try.underlying22 (by kernel_rfl) (by kernel_rfl) (by decide) (by decide) (hval 0 22 v0 rfl rfl) h0)).mono fun e W' ⟨he, hb⟩ => ?_
  subst he
  exact ⟨_, rfl, law_post (tb := 4) hW' rfl rfl laid (by kernel_rfl) rfl Try.underlying4 hb⟩

theorem over : Rows.clipTellsRow.holds Try.pinned (OpenSpec.ofChange Rows.clipTellsSpec) :=
  OpenClaim.holds_of_wide 3 Try.f3 rfl rfl rfl rfl rfl rfl rfl ⟨rfl, rfl, rfl, rfl, rfl⟩ rfl rfl rfl rfl rfl (by kernel_rfl) Try.func3 (by kernel_rfl)
    (of_decide_eq_true (by kernel_rfl)) (by unfold Func.isWrapper; first | (rw [if_pos (by decide +kernel)]; kernel_rfl) | (rw [if_neg (by decide +kernel)]; exact ⟨rfl, rfl⟩))
    (fun os started H enc _ => lifted os started H enc)

theorem proved : Rows.ClipTellsSaid := over
end Go.Proofs.Ytemhaijcebjhhaa.clipTells

