import Derived.Test.YtpgheiegpcggbaaR1U
set_option linter.unusedVariables false
set_option linter.unusedSimpArgs false
namespace Go.Proofs.Ytpgheiegpcggbaa.hueBack
open Go Go.Sx Go.ChangeShapes Go.WideShapes Go.ChangeAt Go.RowKit

theorem own : ownKnob Try.prog.godebug = none := by kernel_rfl
theorem mixed : Try.prog.follows .mixedOrders = true := by kernel_rfl
theorem laid : laidOutB Try.prog = true := by kernel_rfl
theorem entersF : Enters Try.prog 8 Try.f8 := ⟨Try.func8, by kernel_rfl, by kernel_rfl⟩


theorem bodyTrue (el0 : TypeId) (L0 : List AV) (el1 : TypeId) (L1 : List AV) (h_L0 : ∀ x, x ∈ L0 → elemOk true [.int .u8, .int .u8, .int .u8, .int .u8] x) (h_L1 : ∀ x, x ∈ L1 → elemOk false [.int .u8] x) :
    bodyK chb Try.prog 9 Try.f8 [.vec 0, .vec 1] ⟨[], [some ⟨el0, true, [.int .u8, .int .u8, .int .u8, .int .u8], 0, false, false, L0⟩, some ⟨el1, false, [.int .u8], 1, false, false, L1⟩]⟩ boolOf = some true := by
  have e : bodyK chb Try.prog 9 Try.f8 [.vec 0, .vec 1] ⟨[], [some ⟨el0, true, [.int .u8, .int .u8, .int .u8, .int .u8], 0, false, false, L0⟩, some ⟨el1, false, [.int .u8], 1, false, false, L1⟩]⟩ boolOf =
    (bif decide ((L0.length : Int) > 100) then some true else
     bif decide ((L1.length : Int) > 3) then some true else
     bif true && true && true && decide (L0.length ≤ 16384) then
     bif true && true && decide ((flat L0).length ≤ 65536) then
     bif true && true && true && true && true && true && decide (([] : List AV).length + (flat L0).length ≤ 65536) && true then
     bif true && true && true && true && true && true && decide ((flat L0).length + L1.length ≤ 65536) && true then
     bif true && true && decide ((flat L0 ++ L1).length ≤ 65536) then
     bif ((flat L0).length : Int) != W (4 * (L0.length : Int)) then some false else
     bif !decide ((flat L0).length % 4 = 0) then some false else
     bif ((fromA (flat L0)).length : Int) != (L0.length : Int) then some false else
     bif !(decide ((flat L0 ++ L1).length % 4 = 0) == ((L1.length : Int) == 0)) then some false else
     bif true && true && true && true && true && true && true && decide ((fromA (flat L0)).map c4I = L0.map c4I) && decide (L0.length ≤ 16384) then some true else none
     else none else none else none else none else none) := by kernel_rfl
  rw [e]
  clear e
  by_cases h : (L0.length : Int) > 100
  · rw [decide_eq_true h]; rfl
  · by_cases h1 : (L1.length : Int) > 3
    · rw [decide_eq_false h, decide_eq_true h1]; rfl
    · have hf := flat_len L0
      have g1 : ((flat L0).length : Int) = W (4 * (L0.length : Int)) := by rw [W_id (by omega) (by omega), hf]; omega
      have g2 : (decide ((flat L0 ++ L1).length % 4 = 0) == ((L1.length : Int) == 0)) = true := by
        rw [List.length_append, hf]
        by_cases h0 : L1.length = 0
        · simp [h0]
        · have : ¬ (4 * L0.length + L1.length) % 4 = 0 := by omega
          rw [decide_eq_false this, beq_eq_false_iff_ne.2 (show (L1.length : Int) ≠ 0 by omega)]; rfl
      have g3 : ((fromA (flat L0)).length : Int) = (L0.length : Int) := by rw [from_flat]; simp
      rw [decide_eq_false h, decide_eq_false h1, g2, from_same, g3, ← g1]
      simp only [bne_self_eq_false, decide_eq_true (show (flat L0).length % 4 = 0 by omega), decide_eq_true (show L0.length ≤ 16384 by omega), decide_eq_true (show (flat L0).length ≤ 65536 by omega), List.length_append, List.length_nil, Nat.zero_add,
        decide_eq_true (show (flat L0).length + L1.length ≤ 65536 by omega), decide_true, Bool.not_true, Bool.and_self, cond_true, cond_false]

theorem walk (el0 : TypeId) (L0 : List AV) (el1 : TypeId) (L1 : List AV) (h_L0 : ∀ x, x ∈ L0 → elemOk true [.int .u8, .int .u8, .int .u8, .int .u8] x) (h_L1 : ∀ x, x ∈ L1 → elemOk false [.int .u8] x) (v0 : Value) (v1 : Value) (w : World) (hR : RepM (Env.addV (Env.addV ⟨fun _ => 0, fun _ => undef⟩ 0 v0) 1 v1) (Bs.of w) ⟨[], [some ⟨el0, true, [.int .u8, .int .u8, .int .u8, .int .u8], 0, false, false, L0⟩, some ⟨el1, false, [.int .u8], 1, false, false, L1⟩]⟩ w) :
    Calls Try.prog 8 #[v0, v1] w fun e w' => e = .returned (.bool true) ∧ Below w.heap.size w w' := by
  have h := law_of chb_sound mixed entersF (bodyTrue el0 L0 el1 L1 h_L0 h_L1) (E := (Env.addV (Env.addV ⟨fun _ => 0, fun _ => undef⟩ 0 v0) 1 v1)) (w := w) hR (by kernel_rfl) (by kernel_rfl) chb_loops
  exact h

theorem walkV (W : World) (base : Nat) (v0 : Value) (v1 : Value) (hv0 : Value.okWide Try.prog W .any base 37 v0) (hv1 : Value.okWide Try.prog W .any base 36 v1) (hs0 : SliceArg W true [.int .u8, .int .u8, .int .u8, .int .u8] v0) (hs1 : SliceArg W false [.int .u8] v1) : Calls Try.prog 8 #[v0, v1] W fun e w' => e = .returned (.bool true) ∧ Below W.heap.size W w' := by
  obtain ⟨el0, L0, hL0, hr0⟩ := hs0
  obtain ⟨el1, L1, hL1, hr1⟩ := hs1
  exact walk el0 L0 el1 L1 hL0 hL1 v0 v1 W (hr1 _ _ (hr0 _ _ (RepM.empty ⟨fun _ => 0, fun _ => undef⟩ W)))

set_option maxRecDepth 100000 in
theorem lifted (os : Os) (started : os.Started) (H : Type) (enc : TypeId × Value → H) :
    ReturnsInHanded {} Try.checked os 8 .any (Rows.hueBackSpec.pre6 enc Try.prog Try.f8 Rows.hueBackRow.domain false) (Rows.hueBackSpec.post enc Try.prog Try.f8 false true false false) := by
  refine returnsInHanded_of_change (C := Try.checked) own started (by kernel_rfl) Try.func8
    (ChangeSpec.witness6 (enc := enc) (C := Try.checked) false ⟨#[], #[.slice none 0 0, .slice none 0 0], []⟩ 8 (by kernel_rfl) (by kernel_rfl) (by kernel_rfl) (by kernel_rfl)) ?_
  intro W base args ds gs before hval0 hW _ _
  have hval : ∀ (j : Nat) t v, Try.f8.params[j]? = some t → args[j]? = some v → Value.okWide Try.prog W .any base t v := hval0
  have hW' := hW
  obtain ⟨p, q, hA0, _, rfl, _, _⟩ := hW
  have hA : DataW.TrodAll enc Try.prog W 0 (fun _ => true) true Try.f8.params.toList args.toList ds p := hA0
  rw [Try.params8] at hA hval
  obtain ⟨v0, vs0, d0, ds0, p0, q0, hargs, rfl, rfl, h0, r0⟩ := trodAll_cons hA
  obtain ⟨v1, vs1, d1, ds1, p1, q1, rfl, rfl, rfl, h1, r1⟩ := trodAll_cons r0
  obtain ⟨rfl, rfl, rfl⟩ := trodAll_nil r1
  obtain rfl : args = #[v0, v1] := by cases args; simp_all
  refine (walkV W base v0 v1 (hval 0 37 v0 rfl rfl) (hval 1 36 v1 rfl rfl) (arg_slice (d := 9) true Try.underlying37 (by kernel_rfl) (by kernel_rfl) (by decide) (by decide) (hval 0 37 v0 rfl rfl) h0) (arg_slice (d := 9) false Try.underlying36 (by kernel_rfl) (by kernel_rfl) (by decide) (by decide) (hval 1 36 v1 rfl rfl) h1)).mono fun e W' ⟨he, hb⟩ => ?_
  subst he
  exact ⟨_, rfl, law_post (tb := 4) hW' rfl rfl laid (by kernel_rfl) rfl Try.underlying4 hb⟩

theorem over : Rows.hueBackRow.holds Try.pinned (OpenSpec.ofChange Rows.hueBackSpec) :=
  OpenClaim.holds_of_wide 8 Try.f8 rfl rfl rfl rfl rfl rfl rfl ⟨rfl, rfl, rfl, rfl, rfl⟩ rfl rfl rfl rfl rfl (by kernel_rfl) Try.func8 (by kernel_rfl)
    (of_decide_eq_true (by kernel_rfl)) (by unfold Func.isWrapper; first | (rw [if_pos (by decide +kernel)]; kernel_rfl) | (rw [if_neg (by decide +kernel)]; exact ⟨rfl, rfl⟩))
    (fun os started H enc _ => lifted os started H enc)

theorem proved : Rows.HueBackSaid := over
end Go.Proofs.Ytpgheiegpcggbaa.hueBack

