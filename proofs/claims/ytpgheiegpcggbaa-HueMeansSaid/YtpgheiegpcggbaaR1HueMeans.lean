/- Of all inputs the law answers true; no condition. -/
import Derived.Test.YtpgheiegpcggbaaR1G
set_option linter.unusedVariables false
set_option linter.unusedSimpArgs false
namespace Go.Proofs.Ytpgheiegpcggbaa.hueMeans
open Go Go.Sx Go.ChangeShapes Go.WideShapes Go.ChangeAt Go.RowKit

theorem own : ownKnob Try.prog.godebug = none := by kernel_rfl
theorem mixed : Try.prog.follows .mixedOrders = true := by kernel_rfl
theorem laid : laidOutB Try.prog = true := by kernel_rfl
theorem entersF : Enters Try.prog 10 Try.f10 := ⟨Try.func10, by kernel_rfl, by kernel_rfl⟩

theorem list16 {l : List Value} (h : l.length = 16) : ∃ x0 x1 x2 x3 x4 x5 x6 x7 x8 x9 x10 x11 x12 x13 x14 x15, l = [x0, x1, x2, x3, x4, x5, x6, x7, x8, x9, x10, x11, x12, x13, x14, x15] := by
  match l, h with
  | [x0, x1, x2, x3, x4, x5, x6, x7, x8, x9, x10, x11, x12, x13, x14, x15], _ => exact ⟨x0, x1, x2, x3, x4, x5, x6, x7, x8, x9, x10, x11, x12, x13, x14, x15, rfl⟩

theorem bodyTrue (a0_0 : Int) (a0_1 : Int) (a0_2 : Int) (a0_3 : Int) (a0_4 : Int) (a0_5 : Int) (a0_6 : Int) (a0_7 : Int) (a0_8 : Int) (a0_9 : Int) (a0_10 : Int) (a0_11 : Int) (a0_12 : Int) (a0_13 : Int) (a0_14 : Int) (a0_15 : Int) (a1 : Int) (h_a0_0 : 0 ≤ a0_0 ∧ a0_0 ≤ 255) (h_a0_1 : 0 ≤ a0_1 ∧ a0_1 ≤ 255) (h_a0_2 : 0 ≤ a0_2 ∧ a0_2 ≤ 255) (h_a0_3 : 0 ≤ a0_3 ∧ a0_3 ≤ 255) (h_a0_4 : 0 ≤ a0_4 ∧ a0_4 ≤ 255) (h_a0_5 : 0 ≤ a0_5 ∧ a0_5 ≤ 255) (h_a0_6 : 0 ≤ a0_6 ∧ a0_6 ≤ 255) (h_a0_7 : 0 ≤ a0_7 ∧ a0_7 ≤ 255) (h_a0_8 : 0 ≤ a0_8 ∧ a0_8 ≤ 255) (h_a0_9 : 0 ≤ a0_9 ∧ a0_9 ≤ 255) (h_a0_10 : 0 ≤ a0_10 ∧ a0_10 ≤ 255) (h_a0_11 : 0 ≤ a0_11 ∧ a0_11 ≤ 255) (h_a0_12 : 0 ≤ a0_12 ∧ a0_12 ≤ 255) (h_a0_13 : 0 ≤ a0_13 ∧ a0_13 ≤ 255) (h_a0_14 : 0 ≤ a0_14 ∧ a0_14 ≤ 255) (h_a0_15 : 0 ≤ a0_15 ∧ a0_15 ≤ 255) (h_a1 : 0 ≤ a1 ∧ a1 ≤ 255) :
    bodyK ch Try.prog 9 Try.f10 [.agg [.lit (.int .u8 a0_0), .lit (.int .u8 a0_1), .lit (.int .u8 a0_2), .lit (.int .u8 a0_3), .lit (.int .u8 a0_4), .lit (.int .u8 a0_5), .lit (.int .u8 a0_6), .lit (.int .u8 a0_7), .lit (.int .u8 a0_8), .lit (.int .u8 a0_9), .lit (.int .u8 a0_10), .lit (.int .u8 a0_11), .lit (.int .u8 a0_12), .lit (.int .u8 a0_13), .lit (.int .u8 a0_14), .lit (.int .u8 a0_15)], .lit (.int .u8 a1)] Sx.empty boolOf = some true := by
  have e : bodyK ch Try.prog 9 Try.f10 [.agg [.lit (.int .u8 a0_0), .lit (.int .u8 a0_1), .lit (.int .u8 a0_2), .lit (.int .u8 a0_3), .lit (.int .u8 a0_4), .lit (.int .u8 a0_5), .lit (.int .u8 a0_6), .lit (.int .u8 a0_7), .lit (.int .u8 a0_8), .lit (.int .u8 a0_9), .lit (.int .u8 a0_10), .lit (.int .u8 a0_11), .lit (.int .u8 a0_12), .lit (.int .u8 a0_13), .lit (.int .u8 a0_14), .lit (.int .u8 a0_15)], .lit (.int .u8 a1)] Sx.empty boolOf =
    (bif
        !(mnz a0_0 a0_4 a0_8 a0_12 == mnz a0_12 a0_4 a0_0 a0_8 &&
            (mnz a0_1 a0_5 a0_9 a0_13 == mnz a0_13 a0_5 a0_1 a0_9 &&
              (mnz a0_2 a0_6 a0_10 a0_14 == mnz a0_14 a0_6 a0_2 a0_10 &&
                (mnz a0_3 a0_7 a0_11 a0_15 == mnz a0_15 a0_7 a0_3 a0_11 && true)))) then
      some false
    else
      bif
          !(mnz a0_0 a0_4 a0_8 a0_12 == mnz a0_4 a0_8 a0_12 a0_0 &&
              (mnz a0_1 a0_5 a0_9 a0_13 == mnz a0_5 a0_9 a0_13 a0_1 &&
                (mnz a0_2 a0_6 a0_10 a0_14 == mnz a0_6 a0_10 a0_14 a0_2 &&
                  (mnz a0_3 a0_7 a0_11 a0_15 == mnz a0_7 a0_11 a0_15 a0_3 && true)))) then
        some false
      else
        bif
            decide
              (mnz a0_0 a0_4 a0_8 a0_12 <
                if
                    a0_12 <
                      if a0_8 < if a0_4 < a0_0 then a0_4 else a0_0 then a0_8 else if a0_4 < a0_0 then a0_4 else a0_0 then
                  a0_12
                else if a0_8 < if a0_4 < a0_0 then a0_4 else a0_0 then a0_8 else if a0_4 < a0_0 then a0_4 else a0_0) then
          some false
        else
          bif
              decide
                (mnz a0_0 a0_4 a0_8 a0_12 >
                  if
                      a0_12 >
                        if a0_8 > if a0_4 > a0_0 then a0_4 else a0_0 then a0_8 else if a0_4 > a0_0 then a0_4 else a0_0 then
                    a0_12
                  else if a0_8 > if a0_4 > a0_0 then a0_4 else a0_0 then a0_8 else if a0_4 > a0_0 then a0_4 else a0_0) then
            some false
          else
            bif
                decide
                  (mnz a0_1 a0_5 a0_9 a0_13 <
                    if
                        a0_13 <
                          if a0_9 < if a0_5 < a0_1 then a0_5 else a0_1 then a0_9
                          else if a0_5 < a0_1 then a0_5 else a0_1 then
                      a0_13
                    else
                      if a0_9 < if a0_5 < a0_1 then a0_5 else a0_1 then a0_9 else if a0_5 < a0_1 then a0_5 else a0_1) then
              some false
            else
              bif
                  decide
                    (mnz a0_1 a0_5 a0_9 a0_13 >
                      if
                          a0_13 >
                            if a0_9 > if a0_5 > a0_1 then a0_5 else a0_1 then a0_9
                            else if a0_5 > a0_1 then a0_5 else a0_1 then
                        a0_13
                      else
                        if a0_9 > if a0_5 > a0_1 then a0_5 else a0_1 then a0_9 else if a0_5 > a0_1 then a0_5 else a0_1) then
                some false
              else
                bif
                    decide
                      (mnz a0_2 a0_6 a0_10 a0_14 <
                        if
                            a0_14 <
                              if a0_10 < if a0_6 < a0_2 then a0_6 else a0_2 then a0_10
                              else if a0_6 < a0_2 then a0_6 else a0_2 then
                          a0_14
                        else
                          if a0_10 < if a0_6 < a0_2 then a0_6 else a0_2 then a0_10
                          else if a0_6 < a0_2 then a0_6 else a0_2) then
                  some false
                else
                  bif
                      decide
                        (mnz a0_2 a0_6 a0_10 a0_14 >
                          if
                              a0_14 >
                                if a0_10 > if a0_6 > a0_2 then a0_6 else a0_2 then a0_10
                                else if a0_6 > a0_2 then a0_6 else a0_2 then
                            a0_14
                          else
                            if a0_10 > if a0_6 > a0_2 then a0_6 else a0_2 then a0_10
                            else if a0_6 > a0_2 then a0_6 else a0_2) then
                    some false
                  else
                    bif
                        decide
                          (mnz a0_3 a0_7 a0_11 a0_15 <
                            if
                                a0_15 <
                                  if a0_11 < if a0_7 < a0_3 then a0_7 else a0_3 then a0_11
                                  else if a0_7 < a0_3 then a0_7 else a0_3 then
                              a0_15
                            else
                              if a0_11 < if a0_7 < a0_3 then a0_7 else a0_3 then a0_11
                              else if a0_7 < a0_3 then a0_7 else a0_3) then
                      some false
                    else
                      bif
                          decide
                            (mnz a0_3 a0_7 a0_11 a0_15 >
                              if
                                  a0_15 >
                                    if a0_11 > if a0_7 > a0_3 then a0_7 else a0_3 then a0_11
                                    else if a0_7 > a0_3 then a0_7 else a0_3 then
                                a0_15
                              else
                                if a0_11 > if a0_7 > a0_3 then a0_7 else a0_3 then a0_11
                                else if a0_7 > a0_3 then a0_7 else a0_3) then
                        some false
                      else
                        bif decide (mnz (if a1 > a0_0 then a1 else a0_0) a0_4 a0_8 a0_12 < mnz a0_0 a0_4 a0_8 a0_12) then
                          some false
                        else
                          bif decide (mnz (if a1 > a0_1 then a1 else a0_1) a0_5 a0_9 a0_13 < mnz a0_1 a0_5 a0_9 a0_13) then
                            some false
                          else
                            bif
                                decide
                                  (mnz (if a1 > a0_2 then a1 else a0_2) a0_6 a0_10 a0_14 < mnz a0_2 a0_6 a0_10 a0_14) then
                              some false
                            else
                              bif
                                  decide
                                    (mnz (if a1 > a0_3 then a1 else a0_3) a0_7 a0_11 a0_15 < mnz a0_3 a0_7 a0_11 a0_15) then
                                some false
                              else some true) := by kernel_rfl
  rw [e]
  clear e
  have b0 : By a0_0 := h_a0_0
  have b1 : By a0_1 := h_a0_1
  have b2 : By a0_2 := h_a0_2
  have b3 : By a0_3 := h_a0_3
  have b4 : By a0_4 := h_a0_4
  have b5 : By a0_5 := h_a0_5
  have b6 : By a0_6 := h_a0_6
  have b7 : By a0_7 := h_a0_7
  have b8 : By a0_8 := h_a0_8
  have b9 : By a0_9 := h_a0_9
  have b10 : By a0_10 := h_a0_10
  have b11 : By a0_11 := h_a0_11
  have b12 : By a0_12 := h_a0_12
  have b13 : By a0_13 := h_a0_13
  have b14 : By a0_14 := h_a0_14
  have b15 : By a0_15 := h_a0_15
  have hm : By a1 := h_a1
  simp only [(mn_p b0 b4 b8 b12).1, (mn_p b0 b4 b8 b12).2, mn_ge b0 b4 b8 b12, mn_le b0 b4 b8 b12, mn_up b0 b4 b8 b12 hm, (mn_p b1 b5 b9 b13).1, (mn_p b1 b5 b9 b13).2, mn_ge b1 b5 b9 b13, mn_le b1 b5 b9 b13, mn_up b1 b5 b9 b13 hm, (mn_p b2 b6 b10 b14).1, (mn_p b2 b6 b10 b14).2, mn_ge b2 b6 b10 b14, mn_le b2 b6 b10 b14, mn_up b2 b6 b10 b14 hm, (mn_p b3 b7 b11 b15).1, (mn_p b3 b7 b11 b15).2, mn_ge b3 b7 b11 b15, mn_le b3 b7 b11 b15, mn_up b3 b7 b11 b15 hm, beq_self_eq_true, Bool.and_true, Bool.and_self, Bool.not_true, cond_true, cond_false]

theorem walk (a0_0 : Int) (a0_1 : Int) (a0_2 : Int) (a0_3 : Int) (a0_4 : Int) (a0_5 : Int) (a0_6 : Int) (a0_7 : Int) (a0_8 : Int) (a0_9 : Int) (a0_10 : Int) (a0_11 : Int) (a0_12 : Int) (a0_13 : Int) (a0_14 : Int) (a0_15 : Int) (a1 : Int) (h_a0_0 : 0 ≤ a0_0 ∧ a0_0 ≤ 255) (h_a0_1 : 0 ≤ a0_1 ∧ a0_1 ≤ 255) (h_a0_2 : 0 ≤ a0_2 ∧ a0_2 ≤ 255) (h_a0_3 : 0 ≤ a0_3 ∧ a0_3 ≤ 255) (h_a0_4 : 0 ≤ a0_4 ∧ a0_4 ≤ 255) (h_a0_5 : 0 ≤ a0_5 ∧ a0_5 ≤ 255) (h_a0_6 : 0 ≤ a0_6 ∧ a0_6 ≤ 255) (h_a0_7 : 0 ≤ a0_7 ∧ a0_7 ≤ 255) (h_a0_8 : 0 ≤ a0_8 ∧ a0_8 ≤ 255) (h_a0_9 : 0 ≤ a0_9 ∧ a0_9 ≤ 255) (h_a0_10 : 0 ≤ a0_10 ∧ a0_10 ≤ 255) (h_a0_11 : 0 ≤ a0_11 ∧ a0_11 ≤ 255) (h_a0_12 : 0 ≤ a0_12 ∧ a0_12 ≤ 255) (h_a0_13 : 0 ≤ a0_13 ∧ a0_13 ≤ 255) (h_a0_14 : 0 ≤ a0_14 ∧ a0_14 ≤ 255) (h_a0_15 : 0 ≤ a0_15 ∧ a0_15 ≤ 255) (h_a1 : 0 ≤ a1 ∧ a1 ≤ 255) (w : World) :
    Calls Try.prog 10 #[.agg #[.int .u8 a0_0, .int .u8 a0_1, .int .u8 a0_2, .int .u8 a0_3, .int .u8 a0_4, .int .u8 a0_5, .int .u8 a0_6, .int .u8 a0_7, .int .u8 a0_8, .int .u8 a0_9, .int .u8 a0_10, .int .u8 a0_11, .int .u8 a0_12, .int .u8 a0_13, .int .u8 a0_14, .int .u8 a0_15], .int .u8 a1] w fun e w' => e = .returned (.bool true) ∧ Below w.heap.size w w' := by
  have h := law_of ch_sound mixed entersF (bodyTrue a0_0 a0_1 a0_2 a0_3 a0_4 a0_5 a0_6 a0_7 a0_8 a0_9 a0_10 a0_11 a0_12 a0_13 a0_14 a0_15 a1 h_a0_0 h_a0_1 h_a0_2 h_a0_3 h_a0_4 h_a0_5 h_a0_6 h_a0_7 h_a0_8 h_a0_9 h_a0_10 h_a0_11 h_a0_12 h_a0_13 h_a0_14 h_a0_15 h_a1) (E := ⟨fun _ => 0, fun _ => undef⟩) (RepM.empty _ w) (by kernel_rfl) (by kernel_rfl)
  exact h

theorem walkV (W : World) (base : Nat) (v0 : Value) (v1 : Value) (hv0 : Value.okWide Try.prog W .any base 47 v0) (hv1 : Value.okWide Try.prog W .any base 5 v1) : Calls Try.prog 10 #[v0, v1] W fun e w' => e = .returned (.bool true) ∧ Below W.heap.size W w' := by
  obtain ⟨cs0, rfl, hl0, hc0⟩ := ok_agg (P := Try.prog) (t := 47) (ts := [5, 5, 5, 5, 5, 5, 5, 5, 5, 5, 5, 5, 5, 5, 5, 5]) (by kernel_rfl) (by kernel_rfl) (by kernel_rfl) hv0
  obtain ⟨c0_0, c0_1, c0_2, c0_3, c0_4, c0_5, c0_6, c0_7, c0_8, c0_9, c0_10, c0_11, c0_12, c0_13, c0_14, c0_15, rfl⟩ := list16 hl0
  obtain ⟨a0_0, rfl, b0_0, b0_0'⟩ := cell_int Try.underlying5 (hc0 0 5 _ rfl rfl)
  obtain ⟨a0_1, rfl, b0_1, b0_1'⟩ := cell_int Try.underlying5 (hc0 1 5 _ rfl rfl)
  obtain ⟨a0_2, rfl, b0_2, b0_2'⟩ := cell_int Try.underlying5 (hc0 2 5 _ rfl rfl)
  obtain ⟨a0_3, rfl, b0_3, b0_3'⟩ := cell_int Try.underlying5 (hc0 3 5 _ rfl rfl)
  obtain ⟨a0_4, rfl, b0_4, b0_4'⟩ := cell_int Try.underlying5 (hc0 4 5 _ rfl rfl)
  obtain ⟨a0_5, rfl, b0_5, b0_5'⟩ := cell_int Try.underlying5 (hc0 5 5 _ rfl rfl)
  obtain ⟨a0_6, rfl, b0_6, b0_6'⟩ := cell_int Try.underlying5 (hc0 6 5 _ rfl rfl)
  obtain ⟨a0_7, rfl, b0_7, b0_7'⟩ := cell_int Try.underlying5 (hc0 7 5 _ rfl rfl)
  obtain ⟨a0_8, rfl, b0_8, b0_8'⟩ := cell_int Try.underlying5 (hc0 8 5 _ rfl rfl)
  obtain ⟨a0_9, rfl, b0_9, b0_9'⟩ := cell_int Try.underlying5 (hc0 9 5 _ rfl rfl)
  obtain ⟨a0_10, rfl, b0_10, b0_10'⟩ := cell_int Try.underlying5 (hc0 10 5 _ rfl rfl)
  obtain ⟨a0_11, rfl, b0_11, b0_11'⟩ := cell_int Try.underlying5 (hc0 11 5 _ rfl rfl)
  obtain ⟨a0_12, rfl, b0_12, b0_12'⟩ := cell_int Try.underlying5 (hc0 12 5 _ rfl rfl)
  obtain ⟨a0_13, rfl, b0_13, b0_13'⟩ := cell_int Try.underlying5 (hc0 13 5 _ rfl rfl)
  obtain ⟨a0_14, rfl, b0_14, b0_14'⟩ := cell_int Try.underlying5 (hc0 14 5 _ rfl rfl)
  obtain ⟨a0_15, rfl, b0_15, b0_15'⟩ := cell_int Try.underlying5 (hc0 15 5 _ rfl rfl)
  obtain ⟨a1, rfl, b1, b1'⟩ := ok_int Try.underlying5 hv1
  exact walk a0_0 a0_1 a0_2 a0_3 a0_4 a0_5 a0_6 a0_7 a0_8 a0_9 a0_10 a0_11 a0_12 a0_13 a0_14 a0_15 a1 ⟨b0_0, b0_0'⟩ ⟨b0_1, b0_1'⟩ ⟨b0_2, b0_2'⟩ ⟨b0_3, b0_3'⟩ ⟨b0_4, b0_4'⟩ ⟨b0_5, b0_5'⟩ ⟨b0_6, b0_6'⟩ ⟨b0_7, b0_7'⟩ ⟨b0_8, b0_8'⟩ ⟨b0_9, b0_9'⟩ ⟨b0_10, b0_10'⟩ ⟨b0_11, b0_11'⟩ ⟨b0_12, b0_12'⟩ ⟨b0_13, b0_13'⟩ ⟨b0_14, b0_14'⟩ ⟨b0_15, b0_15'⟩ ⟨b1, b1'⟩ W

set_option maxRecDepth 100000 in
theorem lifted (os : Os) (started : os.Started) (H : Type) (enc : TypeId × Value → H) :
    ReturnsInHanded {} Try.checked os 10 .any (Rows.hueMeansSpec.pre6 enc Try.prog Try.f10 Rows.hueMeansRow.domain false) (Rows.hueMeansSpec.post enc Try.prog Try.f10 false true false false) := by
  refine returnsInHanded_of_change (C := Try.checked) own started (by kernel_rfl) Try.func10
    (ChangeSpec.witness6 (enc := enc) (C := Try.checked) false ⟨#[], #[.agg #[.int .u8 0, .int .u8 0, .int .u8 0, .int .u8 0, .int .u8 0, .int .u8 0, .int .u8 0, .int .u8 0, .int .u8 0, .int .u8 0, .int .u8 0, .int .u8 0, .int .u8 0, .int .u8 0, .int .u8 0, .int .u8 0], .int .u8 0], []⟩ 8 (by kernel_rfl) (by kernel_rfl) (by kernel_rfl) (by kernel_rfl)) ?_
  intro W base args ds gs before hval0 hW _ _
  have hval : ∀ (j : Nat) t v, Try.f10.params[j]? = some t → args[j]? = some v → Value.okWide Try.prog W .any base t v := hval0
  have hW' := hW
  obtain ⟨p, q, hA0, _, rfl, _, _⟩ := hW
  have hA : DataW.TrodAll enc Try.prog W 0 (fun _ => true) true Try.f10.params.toList args.toList ds p := hA0
  rw [Try.params10] at hA hval
  obtain ⟨v0, vs0, d0, ds0, p0, q0, hargs, rfl, rfl, h0, r0⟩ := trodAll_cons hA
  obtain ⟨v1, vs1, d1, ds1, p1, q1, rfl, rfl, rfl, h1, r1⟩ := trodAll_cons r0
  obtain ⟨rfl, rfl, rfl⟩ := trodAll_nil r1
  obtain rfl : args = #[v0, v1] := by cases args; simp_all
  refine (walkV W base v0 v1 (hval 0 47 v0 rfl rfl) (hval 1 5 v1 rfl rfl)).mono fun e W' ⟨he, hb⟩ => ?_
  subst he
  exact ⟨_, rfl, law_post (tb := 4) hW' rfl rfl laid (by kernel_rfl) rfl Try.underlying4 hb⟩

theorem over : Rows.hueMeansRow.holds Try.pinned (OpenSpec.ofChange Rows.hueMeansSpec) :=
  OpenClaim.holds_of_wide 10 Try.f10 rfl rfl rfl rfl rfl rfl rfl ⟨rfl, rfl, rfl, rfl, rfl⟩ rfl rfl rfl rfl rfl (by kernel_rfl) Try.func10 (by kernel_rfl)
    (of_decide_eq_true (by kernel_rfl)) (by unfold Func.isWrapper; first | (rw [if_pos (by decide +kernel)]; kernel_rfl) | (rw [if_neg (by decide +kernel)]; exact ⟨rfl, rfl⟩))
    (fun os started H enc _ => lifted os started H enc)

theorem proved : Rows.HueMeansSaid := over
end Go.Proofs.Ytpgheiegpcggbaa.hueMeans

