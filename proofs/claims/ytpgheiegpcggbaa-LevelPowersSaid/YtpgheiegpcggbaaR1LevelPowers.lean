/- Of all inputs the law answers true; no condition. -/
import Derived.Test.YtpgheiegpcggbaaR1L
set_option linter.unusedVariables false
set_option linter.unusedSimpArgs false
namespace Go.Proofs.Ytpgheiegpcggbaa.levelPowers
open Go Go.Sx Go.ChangeShapes Go.WideShapes Go.ChangeAt Go.RowKit

theorem own : ownKnob Try.prog.godebug = none := by kernel_rfl
theorem mixed : Try.prog.follows .mixedOrders = true := by kernel_rfl
theorem laid : laidOutB Try.prog = true := by kernel_rfl
theorem entersF : Enters Try.prog 12 Try.f12 := ⟨Try.func12, by kernel_rfl, by kernel_rfl⟩


theorem bodyTrue (a0 : Int) (h_a0 : -9223372036854775808 ≤ a0 ∧ a0 ≤ 9223372036854775807) :
    bodyK cl Try.prog 5 Try.f12 [.lit (.int .i64 a0)] Sx.empty boolOf = some true := by
  have e : bodyK cl Try.prog 5 Try.f12 [.lit (.int .i64 a0)] Sx.empty boolOf =
    (if rnd a0 4 < 0 then none
    else
      if rnd a0 4 < 0 then none
      else
        bif rnd a0 4 == 0 then
          bif
              chL 3 (mx (IntKind.i64.wrap (65536 * 2 ^ min (rnd a0 4).toNat 64)) 0 0 0) == 0 &&
                (chT 3 (mx (IntKind.i64.wrap (65536 * 2 ^ min (rnd a0 4).toNat 64)) 0 0 0) == 0 && true) then
            bif
                chL 3 (mx (IntKind.i64.wrap (IntKind.i64.wrap (65536 * 2 ^ min (rnd a0 4).toNat 64) - 1)) 0 0 0) == 0 &&
                  (chT 3 (mx (IntKind.i64.wrap (IntKind.i64.wrap (65536 * 2 ^ min (rnd a0 4).toNat 64) - 1)) 0 0 0) == 0 &&
                    true) then
              some true
            else some false
          else some false
        else
          bif
              chL 3 (mx (IntKind.i64.wrap (65536 * 2 ^ min (rnd a0 4).toNat 64)) 0 0 0) == rnd a0 4 &&
                (chT 3 (mx (IntKind.i64.wrap (65536 * 2 ^ min (rnd a0 4).toNat 64)) 0 0 0) == 0 && true) then
            bif
                chL 3 (mx (IntKind.i64.wrap (IntKind.i64.wrap (65536 * 2 ^ min (rnd a0 4).toNat 64) - 1)) 0 0 0) ==
                    IntKind.i64.wrap (rnd a0 4 - 1) &&
                  (chT 3 (mx (IntKind.i64.wrap (IntKind.i64.wrap (65536 * 2 ^ min (rnd a0 4).toNat 64) - 1)) 0 0 0) ==
                      255 &&
                    true) then
              some true
            else some false
          else some false) := by kernel_rfl
  rw [e]
  clear e
  obtain ⟨d0, d3⟩ := rnd4 a0
  generalize rnd a0 4 = d at d0 d3 ⊢
  have hd : d = 0 ∨ d = 1 ∨ d = 2 ∨ d = 3 := by omega
  obtain rfl | rfl | rfl | rfl := hd
  · decide +kernel
  · decide +kernel
  · decide +kernel
  · decide +kernel

theorem walk (a0 : Int) (h_a0 : -9223372036854775808 ≤ a0 ∧ a0 ≤ 9223372036854775807) (w : World) :
    Calls Try.prog 12 #[.int .i64 a0] w fun e w' => e = .returned (.bool true) ∧ Below w.heap.size w w' := by
  have h := law_of cl_sound mixed entersF (bodyTrue a0 h_a0) (E := ⟨fun _ => 0, fun _ => undef⟩) (RepM.empty _ w) (by kernel_rfl) (by kernel_rfl)
  exact h

theorem walkV (W : World) (base : Nat) (v0 : Value) (hv0 : Value.okWide Try.prog W .any base 3 v0) : Calls Try.prog 12 #[v0] W fun e w' => e = .returned (.bool true) ∧ Below W.heap.size W w' := by
  obtain ⟨a0, rfl, b0, b0'⟩ := ok_int Try.underlying3 hv0
  exact walk a0 ⟨b0, b0'⟩ W

set_option maxRecDepth 100000 in
theorem lifted (os : Os) (started : os.Started) (H : Type) (enc : TypeId × Value → H) :
    ReturnsInHanded {} Try.checked os 12 .any (Rows.levelPowersSpec.pre6 enc Try.prog Try.f12 Rows.levelPowersRow.domain false) (Rows.levelPowersSpec.post enc Try.prog Try.f12 false true false false) := by
  refine returnsInHanded_of_change (C := Try.checked) own started (by kernel_rfl) Try.func12
    (ChangeSpec.witness6 (enc := enc) (C := Try.checked) false ⟨#[], #[.int .i64 0], []⟩ 8 (by kernel_rfl) (by kernel_rfl) (by kernel_rfl) (by kernel_rfl)) ?_
  intro W base args ds gs before hval0 hW _ _
  have hval : ∀ (j : Nat) t v, Try.f12.params[j]? = some t → args[j]? = some v → Value.okWide Try.prog W .any base t v := hval0
  have hW' := hW
  obtain ⟨p, q, hA0, _, rfl, _, _⟩ := hW
  have hA : DataW.TrodAll enc Try.prog W 0 (fun _ => true) true Try.f12.params.toList args.toList ds p := hA0
  rw [Try.params12] at hA hval
  obtain ⟨v0, vs0, d0, ds0, p0, q0, hargs, rfl, rfl, h0, r0⟩ := trodAll_cons hA
  obtain ⟨rfl, rfl, rfl⟩ := trodAll_nil r0
  obtain rfl : args = #[v0] := by cases args; simp_all
  refine (walkV W base v0 (hval 0 3 v0 rfl rfl)).mono fun e W' ⟨he, hb⟩ => ?_
  subst he
  exact ⟨_, rfl, law_post (tb := 4) hW' rfl rfl laid (by kernel_rfl) rfl Try.underlying4 hb⟩

theorem over : Rows.levelPowersRow.holds Try.pinned (OpenSpec.ofChange Rows.levelPowersSpec) :=
  OpenClaim.holds_of_wide 12 Try.f12 rfl rfl rfl rfl rfl rfl rfl ⟨rfl, rfl, rfl, rfl, rfl⟩ rfl rfl rfl rfl rfl (by kernel_rfl) Try.func12 (by kernel_rfl)
    (of_decide_eq_true (by kernel_rfl)) (by unfold Func.isWrapper; first | (rw [if_pos (by decide +kernel)]; kernel_rfl) | (rw [if_neg (by decide +kernel)]; exact ⟨rfl, rfl⟩))
    (fun os started H enc _ => lifted os started H enc)

theorem proved : Rows.LevelPowersSaid := over
end Go.Proofs.Ytpgheiegpcggbaa.levelPowers

