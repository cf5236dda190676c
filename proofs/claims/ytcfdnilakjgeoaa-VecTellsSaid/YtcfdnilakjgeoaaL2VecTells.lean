/- Of all inputs the law answers true; no condition. -/
import Derived.Test.YtcfdnilakjgeoaaL2A
set_option linter.unusedVariables false
set_option linter.unusedSimpArgs false
namespace Go.Proofs.Ytcfdnilakjgeoaa.vecTells
open Go Go.Sx Go.ChangeShapes Go.WideShapes Go.ChangeAt Go.RowKit

theorem own : ownKnob Try.prog.godebug = none := by kernel_rfl
theorem mixed : Try.prog.follows .mixedOrders = true := by kernel_rfl
theorem laid : laidOutB Try.prog = true := by kernel_rfl
theorem entersF : Enters Try.prog 3 Try.f3 := ⟨Try.func3, by kernel_rfl, by kernel_rfl⟩

theorem list4 {l : List Value} (h : l.length = 4) : ∃ x0 x1 x2 x3, l = [x0, x1, x2, x3] := by
  match l, h with
  | [x0, x1, x2, x3], _ => exact ⟨x0, x1, x2, x3, rfl⟩
theorem list16 {l : List Value} (h : l.length = 16) : ∃ x0 x1 x2 x3 x4 x5 x6 x7 x8 x9 x10 x11 x12 x13 x14 x15, l = [x0, x1, x2, x3, x4, x5, x6, x7, x8, x9, x10, x11, x12, x13, x14, x15] := by
  match l, h with
  | [x0, x1, x2, x3, x4, x5, x6, x7, x8, x9, x10, x11, x12, x13, x14, x15], _ => exact ⟨x0, x1, x2, x3, x4, x5, x6, x7, x8, x9, x10, x11, x12, x13, x14, x15, rfl⟩

open Go.Fx
theorem bodyTrue (a0_0 : Int) (a0_1 : Int) (a0_2 : Int) (a0_3 : Int) (a0_4 : Int) (a0_5 : Int) (a0_6 : Int) (a0_7 : Int) (a0_8 : Int) (a0_9 : Int) (a0_10 : Int) (a0_11 : Int) (a0_12 : Int) (a0_13 : Int) (a0_14 : Int) (a0_15 : Int) (a1_0 : Int) (a1_1 : Int) (a1_2 : Int) (a1_3 : Int) (a1_4 : Int) (a1_5 : Int) (a1_6 : Int) (a1_7 : Int) (a1_8 : Int) (a1_9 : Int) (a1_10 : Int) (a1_11 : Int) (a1_12 : Int) (a1_13 : Int) (a1_14 : Int) (a1_15 : Int) (a2_0 : Int) (a2_1 : Int) (a2_2 : Int) (a2_3 : Int) (a3 : Int) (a4 : Int) (a5 : Int) (h_a0_0 : -9223372036854775808 ≤ a0_0 ∧ a0_0 ≤ 9223372036854775807) (h_a0_1 : -9223372036854775808 ≤ a0_1 ∧ a0_1 ≤ 9223372036854775807) (h_a0_2 : -9223372036854775808 ≤ a0_2 ∧ a0_2 ≤ 9223372036854775807) (h_a0_3 : -9223372036854775808 ≤ a0_3 ∧ a0_3 ≤ 9223372036854775807) (h_a0_4 : -9223372036854775808 ≤ a0_4 ∧ a0_4 ≤ 9223372036854775807) (h_a0_5 : -9223372036854775808 ≤ a0_5 ∧ a0_5 ≤ 9223372036854775807) (h_a0_6 : -9223372036854775808 ≤ a0_6 ∧ a0_6 ≤ 9223372036854775807) (h_a0_7 : -9223372036854775808 ≤ a0_7 ∧ a0_7 ≤ 9223372036854775807) (h_a0_8 : -9223372036854775808 ≤ a0_8 ∧ a0_8 ≤ 9223372036854775807) (h_a0_9 : -9223372036854775808 ≤ a0_9 ∧ a0_9 ≤ 9223372036854775807) (h_a0_10 : -9223372036854775808 ≤ a0_10 ∧ a0_10 ≤ 9223372036854775807) (h_a0_11 : -9223372036854775808 ≤ a0_11 ∧ a0_11 ≤ 9223372036854775807) (h_a0_12 : -9223372036854775808 ≤ a0_12 ∧ a0_12 ≤ 9223372036854775807) (h_a0_13 : -9223372036854775808 ≤ a0_13 ∧ a0_13 ≤ 9223372036854775807) (h_a0_14 : -9223372036854775808 ≤ a0_14 ∧ a0_14 ≤ 9223372036854775807) (h_a0_15 : -9223372036854775808 ≤ a0_15 ∧ a0_15 ≤ 9223372036854775807) (h_a1_0 : -9223372036854775808 ≤ a1_0 ∧ a1_0 ≤ 9223372036854775807) (h_a1_1 : -9223372036854775808 ≤ a1_1 ∧ a1_1 ≤ 9223372036854775807) (h_a1_2 : -9223372036854775808 ≤ a1_2 ∧ a1_2 ≤ 9223372036854775807) (h_a1_3 : -9223372036854775808 ≤ a1_3 ∧ a1_3 ≤ 9223372036854775807) (h_a1_4 : -9223372036854775808 ≤ a1_4 ∧ a1_4 ≤ 9223372036854775807) (h_a1_5 : -9223372036854775808 ≤ a1_5 ∧ a1_5 ≤ 9223372036854775807) (h_a1_6 : -9223372036854775808 ≤ a1_6 ∧ a1_6 ≤ 9223372036854775807) (h_a1_7 : -9223372036854775808 ≤ a1_7 ∧ a1_7 ≤ 9223372036854775807) (h_a1_8 : -9223372036854775808 ≤ a1_8 ∧ a1_8 ≤ 9223372036854775807) (h_a1_9 : -9223372036854775808 ≤ a1_9 ∧ a1_9 ≤ 9223372036854775807) (h_a1_10 : -9223372036854775808 ≤ a1_10 ∧ a1_10 ≤ 9223372036854775807) (h_a1_11 : -9223372036854775808 ≤ a1_11 ∧ a1_11 ≤ 9223372036854775807) (h_a1_12 : -9223372036854775808 ≤ a1_12 ∧ a1_12 ≤ 9223372036854775807) (h_a1_13 : -9223372036854775808 ≤ a1_13 ∧ a1_13 ≤ 9223372036854775807) (h_a1_14 : -9223372036854775808 ≤ a1_14 ∧ a1_14 ≤ 9223372036854775807) (h_a1_15 : -9223372036854775808 ≤ a1_15 ∧ a1_15 ≤ 9223372036854775807) (h_a2_0 : -9223372036854775808 ≤ a2_0 ∧ a2_0 ≤ 9223372036854775807) (h_a2_1 : -9223372036854775808 ≤ a2_1 ∧ a2_1 ≤ 9223372036854775807) (h_a2_2 : -9223372036854775808 ≤ a2_2 ∧ a2_2 ≤ 9223372036854775807) (h_a2_3 : -9223372036854775808 ≤ a2_3 ∧ a2_3 ≤ 9223372036854775807) (h_a3 : -9223372036854775808 ≤ a3 ∧ a3 ≤ 9223372036854775807) (h_a4 : -9223372036854775808 ≤ a4 ∧ a4 ≤ 9223372036854775807) (h_a5 : -9223372036854775808 ≤ a5 ∧ a5 ≤ 9223372036854775807) :
    bodyK calls Try.prog 5 Try.f3 [.agg [.lit (.int .i64 a0_0), .lit (.int .i64 a0_1), .lit (.int .i64 a0_2), .lit (.int .i64 a0_3), .lit (.int .i64 a0_4), .lit (.int .i64 a0_5), .lit (.int .i64 a0_6), .lit (.int .i64 a0_7), .lit (.int .i64 a0_8), .lit (.int .i64 a0_9), .lit (.int .i64 a0_10), .lit (.int .i64 a0_11), .lit (.int .i64 a0_12), .lit (.int .i64 a0_13), .lit (.int .i64 a0_14), .lit (.int .i64 a0_15)], .agg [.lit (.int .i64 a1_0), .lit (.int .i64 a1_1), .lit (.int .i64 a1_2), .lit (.int .i64 a1_3), .lit (.int .i64 a1_4), .lit (.int .i64 a1_5), .lit (.int .i64 a1_6), .lit (.int .i64 a1_7), .lit (.int .i64 a1_8), .lit (.int .i64 a1_9), .lit (.int .i64 a1_10), .lit (.int .i64 a1_11), .lit (.int .i64 a1_12), .lit (.int .i64 a1_13), .lit (.int .i64 a1_14), .lit (.int .i64 a1_15)], .agg [.lit (.int .i64 a2_0), .lit (.int .i64 a2_1), .lit (.int .i64 a2_2), .lit (.int .i64 a2_3)], .lit (.int .i64 a3), .lit (.int .i64 a4), .lit (.int .i64 a5)] Sx.empty boolOf = some true := by
  have e : bodyK calls Try.prog 5 Try.f3 [.agg [.lit (.int .i64 a0_0), .lit (.int .i64 a0_1), .lit (.int .i64 a0_2), .lit (.int .i64 a0_3), .lit (.int .i64 a0_4), .lit (.int .i64 a0_5), .lit (.int .i64 a0_6), .lit (.int .i64 a0_7), .lit (.int .i64 a0_8), .lit (.int .i64 a0_9), .lit (.int .i64 a0_10), .lit (.int .i64 a0_11), .lit (.int .i64 a0_12), .lit (.int .i64 a0_13), .lit (.int .i64 a0_14), .lit (.int .i64 a0_15)], .agg [.lit (.int .i64 a1_0), .lit (.int .i64 a1_1), .lit (.int .i64 a1_2), .lit (.int .i64 a1_3), .lit (.int .i64 a1_4), .lit (.int .i64 a1_5), .lit (.int .i64 a1_6), .lit (.int .i64 a1_7), .lit (.int .i64 a1_8), .lit (.int .i64 a1_9), .lit (.int .i64 a1_10), .lit (.int .i64 a1_11), .lit (.int .i64 a1_12), .lit (.int .i64 a1_13), .lit (.int .i64 a1_14), .lit (.int .i64 a1_15)], .agg [.lit (.int .i64 a2_0), .lit (.int .i64 a2_1), .lit (.int .i64 a2_2), .lit (.int .i64 a2_3)], .lit (.int .i64 a3), .lit (.int .i64 a4), .lit (.int .i64 a5)] Sx.empty boolOf =
    (bif
        mayL [a0_0, a0_1, a0_2, a0_3, a0_4, a0_5, a0_6, a0_7, a0_8, a0_9, a0_10, a0_11, a0_12, a0_13, a0_14, a0_15] ==
          mayL [a0_0, a0_1, a0_2, a0_3, a0_4, a0_5, a0_6, a0_7, a0_8, a0_9, a0_10, a0_11, a0_12, a0_13, a0_14, a0_15] then
      bif
          ((match
                mulB [a0_0, a0_1, a0_2, a0_3, a0_4, a0_5, a0_6, a0_7, a0_8, a0_9, a0_10, a0_11, a0_12, a0_13, a0_14, a0_15]
                  [a1_0, a1_1, a1_2, a1_3, a1_4, a1_5, a1_6, a1_7, a1_8, a1_9, a1_10, a1_11, a1_12, a1_13, a1_14,
                    a1_15] with
              | true => (fun s => nr s 65536) (sx a0_0 a1_0 a0_1 a1_4 a0_2 a1_8 a0_3 a1_12)
              | false => 0) ==
              match
                mulB [a0_0, a0_1, a0_2, a0_3, a0_4, a0_5, a0_6, a0_7, a0_8, a0_9, a0_10, a0_11, a0_12, a0_13, a0_14, a0_15]
                  [a1_0, a1_1, a1_2, a1_3, a1_4, a1_5, a1_6, a1_7, a1_8, a1_9, a1_10, a1_11, a1_12, a1_13, a1_14,
                    a1_15] with
              | true => (fun s => nr s 65536) (sx a0_0 a1_0 a0_1 a1_4 a0_2 a1_8 a0_3 a1_12)
              | false => 0) &&
            (((match
                  mulB
                    [a0_0, a0_1, a0_2, a0_3, a0_4, a0_5, a0_6, a0_7, a0_8, a0_9, a0_10, a0_11, a0_12, a0_13, a0_14, a0_15]
                    [a1_0, a1_1, a1_2, a1_3, a1_4, a1_5, a1_6, a1_7, a1_8, a1_9, a1_10, a1_11, a1_12, a1_13, a1_14,
                      a1_15] with
                | true => (fun s => nr s 65536) (sx a0_0 a1_1 a0_1 a1_5 a0_2 a1_9 a0_3 a1_13)
                | false => 0) ==
                match
                  mulB
                    [a0_0, a0_1, a0_2, a0_3, a0_4, a0_5, a0_6, a0_7, a0_8, a0_9, a0_10, a0_11, a0_12, a0_13, a0_14, a0_15]
                    [a1_0, a1_1, a1_2, a1_3, a1_4, a1_5, a1_6, a1_7, a1_8, a1_9, a1_10, a1_11, a1_12, a1_13, a1_14,
                      a1_15] with
                | true => (fun s => nr s 65536) (sx a0_0 a1_1 a0_1 a1_5 a0_2 a1_9 a0_3 a1_13)
                | false => 0) &&
              (((match
                    mulB
                      [a0_0, a0_1, a0_2, a0_3, a0_4, a0_5, a0_6, a0_7, a0_8, a0_9, a0_10, a0_11, a0_12, a0_13, a0_14, a0_15]
                      [a1_0, a1_1, a1_2, a1_3, a1_4, a1_5, a1_6, a1_7, a1_8, a1_9, a1_10, a1_11, a1_12, a1_13, a1_14,
                        a1_15] with
                  | true => (fun s => nr s 65536) (sx a0_0 a1_2 a0_1 a1_6 a0_2 a1_10 a0_3 a1_14)
                  | false => 0) ==
                  match
                    mulB
                      [a0_0, a0_1, a0_2, a0_3, a0_4, a0_5, a0_6, a0_7, a0_8, a0_9, a0_10, a0_11, a0_12, a0_13, a0_14, a0_15]
                      [a1_0, a1_1, a1_2, a1_3, a1_4, a1_5, a1_6, a1_7, a1_8, a1_9, a1_10, a1_11, a1_12, a1_13, a1_14,
                        a1_15] with
                  | true => (fun s => nr s 65536) (sx a0_0 a1_2 a0_1 a1_6 a0_2 a1_10 a0_3 a1_14)
                  | false => 0) &&
                (((match
                      mulB
                        [a0_0, a0_1, a0_2, a0_3, a0_4, a0_5, a0_6, a0_7, a0_8, a0_9, a0_10, a0_11, a0_12, a0_13, a0_14,
                          a0_15]
                        [a1_0, a1_1, a1_2, a1_3, a1_4, a1_5, a1_6, a1_7, a1_8, a1_9, a1_10, a1_11, a1_12, a1_13, a1_14,
                          a1_15] with
                    | true => (fun s => nr s 65536) (sx a0_0 a1_3 a0_1 a1_7 a0_2 a1_11 a0_3 a1_15)
                    | false => 0) ==
                    match
                      mulB
                        [a0_0, a0_1, a0_2, a0_3, a0_4, a0_5, a0_6, a0_7, a0_8, a0_9, a0_10, a0_11, a0_12, a0_13, a0_14,
                          a0_15]
                        [a1_0, a1_1, a1_2, a1_3, a1_4, a1_5, a1_6, a1_7, a1_8, a1_9, a1_10, a1_11, a1_12, a1_13, a1_14,
                          a1_15] with
                    | true => (fun s => nr s 65536) (sx a0_0 a1_3 a0_1 a1_7 a0_2 a1_11 a0_3 a1_15)
                    | false => 0) &&
                  (((match
                        mulB
                          [a0_0, a0_1, a0_2, a0_3, a0_4, a0_5, a0_6, a0_7, a0_8, a0_9, a0_10, a0_11, a0_12, a0_13, a0_14,
                            a0_15]
                          [a1_0, a1_1, a1_2, a1_3, a1_4, a1_5, a1_6, a1_7, a1_8, a1_9, a1_10, a1_11, a1_12, a1_13, a1_14,
                            a1_15] with
                      | true => (fun s => nr s 65536) (sx a0_4 a1_0 a0_5 a1_4 a0_6 a1_8 a0_7 a1_12)
                      | false => 0) ==
                      match
                        mulB
                          [a0_0, a0_1, a0_2, a0_3, a0_4, a0_5, a0_6, a0_7, a0_8, a0_9, a0_10, a0_11, a0_12, a0_13, a0_14,
                            a0_15]
                          [a1_0, a1_1, a1_2, a1_3, a1_4, a1_5, a1_6, a1_7, a1_8, a1_9, a1_10, a1_11, a1_12, a1_13, a1_14,
                            a1_15] with
                      | true => (fun s => nr s 65536) (sx a0_4 a1_0 a0_5 a1_4 a0_6 a1_8 a0_7 a1_12)
                      | false => 0) &&
                    (((match
                          mulB
                            [a0_0, a0_1, a0_2, a0_3, a0_4, a0_5, a0_6, a0_7, a0_8, a0_9, a0_10, a0_11, a0_12, a0_13, a0_14,
                              a0_15]
                            [a1_0, a1_1, a1_2, a1_3, a1_4, a1_5, a1_6, a1_7, a1_8, a1_9, a1_10, a1_11, a1_12, a1_13, a1_14,
                              a1_15] with
                        | true => (fun s => nr s 65536) (sx a0_4 a1_1 a0_5 a1_5 a0_6 a1_9 a0_7 a1_13)
                        | false => 0) ==
                        match
                          mulB
                            [a0_0, a0_1, a0_2, a0_3, a0_4, a0_5, a0_6, a0_7, a0_8, a0_9, a0_10, a0_11, a0_12, a0_13, a0_14,
                              a0_15]
                            [a1_0, a1_1, a1_2, a1_3, a1_4, a1_5, a1_6, a1_7, a1_8, a1_9, a1_10, a1_11, a1_12, a1_13, a1_14,
                              a1_15] with
                        | true => (fun s => nr s 65536) (sx a0_4 a1_1 a0_5 a1_5 a0_6 a1_9 a0_7 a1_13)
                        | false => 0) &&
                      (((match
                            mulB
                              [a0_0, a0_1, a0_2, a0_3, a0_4, a0_5, a0_6, a0_7, a0_8, a0_9, a0_10, a0_11, a0_12, a0_13,
                                a0_14, a0_15]
                              [a1_0, a1_1, a1_2, a1_3, a1_4, a1_5, a1_6, a1_7, a1_8, a1_9, a1_10, a1_11, a1_12, a1_13,
                                a1_14, a1_15] with
                          | true => (fun s => nr s 65536) (sx a0_4 a1_2 a0_5 a1_6 a0_6 a1_10 a0_7 a1_14)
                          | false => 0) ==
                          match
                            mulB
                              [a0_0, a0_1, a0_2, a0_3, a0_4, a0_5, a0_6, a0_7, a0_8, a0_9, a0_10, a0_11, a0_12, a0_13,
                                a0_14, a0_15]
                              [a1_0, a1_1, a1_2, a1_3, a1_4, a1_5, a1_6, a1_7, a1_8, a1_9, a1_10, a1_11, a1_12, a1_13,
                                a1_14, a1_15] with
                          | true => (fun s => nr s 65536) (sx a0_4 a1_2 a0_5 a1_6 a0_6 a1_10 a0_7 a1_14)
                          | false => 0) &&
                        (((match
                              mulB
                                [a0_0, a0_1, a0_2, a0_3, a0_4, a0_5, a0_6, a0_7, a0_8, a0_9, a0_10, a0_11, a0_12, a0_13,
                                  a0_14, a0_15]
                                [a1_0, a1_1, a1_2, a1_3, a1_4, a1_5, a1_6, a1_7, a1_8, a1_9, a1_10, a1_11, a1_12, a1_13,
                                  a1_14, a1_15] with
                            | true => (fun s => nr s 65536) (sx a0_4 a1_3 a0_5 a1_7 a0_6 a1_11 a0_7 a1_15)
                            | false => 0) ==
                            match
                              mulB
                                [a0_0, a0_1, a0_2, a0_3, a0_4, a0_5, a0_6, a0_7, a0_8, a0_9, a0_10, a0_11, a0_12, a0_13,
                                  a0_14, a0_15]
                                [a1_0, a1_1, a1_2, a1_3, a1_4, a1_5, a1_6, a1_7, a1_8, a1_9, a1_10, a1_11, a1_12, a1_13,
                                  a1_14, a1_15] with
                            | true => (fun s => nr s 65536) (sx a0_4 a1_3 a0_5 a1_7 a0_6 a1_11 a0_7 a1_15)
                            | false => 0) &&
                          (((match
                                mulB
                                  [a0_0, a0_1, a0_2, a0_3, a0_4, a0_5, a0_6, a0_7, a0_8, a0_9, a0_10, a0_11, a0_12, a0_13,
                                    a0_14, a0_15]
                                  [a1_0, a1_1, a1_2, a1_3, a1_4, a1_5, a1_6, a1_7, a1_8, a1_9, a1_10, a1_11, a1_12, a1_13,
                                    a1_14, a1_15] with
                              | true => (fun s => nr s 65536) (sx a0_8 a1_0 a0_9 a1_4 a0_10 a1_8 a0_11 a1_12)
                              | false => 0) ==
                              match
                                mulB
                                  [a0_0, a0_1, a0_2, a0_3, a0_4, a0_5, a0_6, a0_7, a0_8, a0_9, a0_10, a0_11, a0_12, a0_13,
                                    a0_14, a0_15]
                                  [a1_0, a1_1, a1_2, a1_3, a1_4, a1_5, a1_6, a1_7, a1_8, a1_9, a1_10, a1_11, a1_12, a1_13,
                                    a1_14, a1_15] with
                              | true => (fun s => nr s 65536) (sx a0_8 a1_0 a0_9 a1_4 a0_10 a1_8 a0_11 a1_12)
                              | false => 0) &&
                            (((match
                                  mulB
                                    [a0_0, a0_1, a0_2, a0_3, a0_4, a0_5, a0_6, a0_7, a0_8, a0_9, a0_10, a0_11, a0_12, a0_13,
                                      a0_14, a0_15]
                                    [a1_0, a1_1, a1_2, a1_3, a1_4, a1_5, a1_6, a1_7, a1_8, a1_9, a1_10, a1_11, a1_12, a1_13,
                                      a1_14, a1_15] with
                                | true => (fun s => nr s 65536) (sx a0_8 a1_1 a0_9 a1_5 a0_10 a1_9 a0_11 a1_13)
                                | false => 0) ==
                                match
                                  mulB
                                    [a0_0, a0_1, a0_2, a0_3, a0_4, a0_5, a0_6, a0_7, a0_8, a0_9, a0_10, a0_11, a0_12, a0_13,
                                      a0_14, a0_15]
                                    [a1_0, a1_1, a1_2, a1_3, a1_4, a1_5, a1_6, a1_7, a1_8, a1_9, a1_10, a1_11, a1_12, a1_13,
                                      a1_14, a1_15] with
                                | true => (fun s => nr s 65536) (sx a0_8 a1_1 a0_9 a1_5 a0_10 a1_9 a0_11 a1_13)
                                | false => 0) &&
                              (((match
                                    mulB
                                      [a0_0, a0_1, a0_2, a0_3, a0_4, a0_5, a0_6, a0_7, a0_8, a0_9, a0_10, a0_11, a0_12,
                                        a0_13, a0_14, a0_15]
                                      [a1_0, a1_1, a1_2, a1_3, a1_4, a1_5, a1_6, a1_7, a1_8, a1_9, a1_10, a1_11, a1_12,
                                        a1_13, a1_14, a1_15] with
                                  | true => (fun s => nr s 65536) (sx a0_8 a1_2 a0_9 a1_6 a0_10 a1_10 a0_11 a1_14)
                                  | false => 0) ==
                                  match
                                    mulB
                                      [a0_0, a0_1, a0_2, a0_3, a0_4, a0_5, a0_6, a0_7, a0_8, a0_9, a0_10, a0_11, a0_12,
                                        a0_13, a0_14, a0_15]
                                      [a1_0, a1_1, a1_2, a1_3, a1_4, a1_5, a1_6, a1_7, a1_8, a1_9, a1_10, a1_11, a1_12,
                                        a1_13, a1_14, a1_15] with
                                  | true => (fun s => nr s 65536) (sx a0_8 a1_2 a0_9 a1_6 a0_10 a1_10 a0_11 a1_14)
                                  | false => 0) &&
                                (((match
                                      mulB
                                        [a0_0, a0_1, a0_2, a0_3, a0_4, a0_5, a0_6, a0_7, a0_8, a0_9, a0_10, a0_11, a0_12,
                                          a0_13, a0_14, a0_15]
                                        [a1_0, a1_1, a1_2, a1_3, a1_4, a1_5, a1_6, a1_7, a1_8, a1_9, a1_10, a1_11, a1_12,
                                          a1_13, a1_14, a1_15] with
                                    | true => (fun s => nr s 65536) (sx a0_8 a1_3 a0_9 a1_7 a0_10 a1_11 a0_11 a1_15)
                                    | false => 0) ==
                                    match
                                      mulB
                                        [a0_0, a0_1, a0_2, a0_3, a0_4, a0_5, a0_6, a0_7, a0_8, a0_9, a0_10, a0_11, a0_12,
                                          a0_13, a0_14, a0_15]
                                        [a1_0, a1_1, a1_2, a1_3, a1_4, a1_5, a1_6, a1_7, a1_8, a1_9, a1_10, a1_11, a1_12,
                                          a1_13, a1_14, a1_15] with
                                    | true => (fun s => nr s 65536) (sx a0_8 a1_3 a0_9 a1_7 a0_10 a1_11 a0_11 a1_15)
                                    | false => 0) &&
                                  (((match
                                        mulB
                                          [a0_0, a0_1, a0_2, a0_3, a0_4, a0_5, a0_6, a0_7, a0_8, a0_9, a0_10, a0_11, a0_12,
                                            a0_13, a0_14, a0_15]
                                          [a1_0, a1_1, a1_2, a1_3, a1_4, a1_5, a1_6, a1_7, a1_8, a1_9, a1_10, a1_11, a1_12,
                                            a1_13, a1_14, a1_15] with
                                      | true => (fun s => nr s 65536) (sx a0_12 a1_0 a0_13 a1_4 a0_14 a1_8 a0_15 a1_12)
                                      | false => 0) ==
                                      match
                                        mulB
                                          [a0_0, a0_1, a0_2, a0_3, a0_4, a0_5, a0_6, a0_7, a0_8, a0_9, a0_10, a0_11, a0_12,
                                            a0_13, a0_14, a0_15]
                                          [a1_0, a1_1, a1_2, a1_3, a1_4, a1_5, a1_6, a1_7, a1_8, a1_9, a1_10, a1_11, a1_12,
                                            a1_13, a1_14, a1_15] with
                                      | true => (fun s => nr s 65536) (sx a0_12 a1_0 a0_13 a1_4 a0_14 a1_8 a0_15 a1_12)
                                      | false => 0) &&
                                    (((match
                                          mulB
                                            [a0_0, a0_1, a0_2, a0_3, a0_4, a0_5, a0_6, a0_7, a0_8, a0_9, a0_10, a0_11,
                                              a0_12, a0_13, a0_14, a0_15]
                                            [a1_0, a1_1, a1_2, a1_3, a1_4, a1_5, a1_6, a1_7, a1_8, a1_9, a1_10, a1_11,
                                              a1_12, a1_13, a1_14, a1_15] with
                                        | true => (fun s => nr s 65536) (sx a0_12 a1_1 a0_13 a1_5 a0_14 a1_9 a0_15 a1_13)
                                        | false => 0) ==
                                        match
                                          mulB
                                            [a0_0, a0_1, a0_2, a0_3, a0_4, a0_5, a0_6, a0_7, a0_8, a0_9, a0_10, a0_11,
                                              a0_12, a0_13, a0_14, a0_15]
                                            [a1_0, a1_1, a1_2, a1_3, a1_4, a1_5, a1_6, a1_7, a1_8, a1_9, a1_10, a1_11,
                                              a1_12, a1_13, a1_14, a1_15] with
                                        | true => (fun s => nr s 65536) (sx a0_12 a1_1 a0_13 a1_5 a0_14 a1_9 a0_15 a1_13)
                                        | false => 0) &&
                                      (((match
                                            mulB
                                              [a0_0, a0_1, a0_2, a0_3, a0_4, a0_5, a0_6, a0_7, a0_8, a0_9, a0_10, a0_11,
                                                a0_12, a0_13, a0_14, a0_15]
                                              [a1_0, a1_1, a1_2, a1_3, a1_4, a1_5, a1_6, a1_7, a1_8, a1_9, a1_10, a1_11,
                                                a1_12, a1_13, a1_14, a1_15] with
                                          | true => (fun s => nr s 65536) (sx a0_12 a1_2 a0_13 a1_6 a0_14 a1_10 a0_15 a1_14)
                                          | false => 0) ==
                                          match
                                            mulB
                                              [a0_0, a0_1, a0_2, a0_3, a0_4, a0_5, a0_6, a0_7, a0_8, a0_9, a0_10, a0_11,
                                                a0_12, a0_13, a0_14, a0_15]
                                              [a1_0, a1_1, a1_2, a1_3, a1_4, a1_5, a1_6, a1_7, a1_8, a1_9, a1_10, a1_11,
                                                a1_12, a1_13, a1_14, a1_15] with
                                          | true => (fun s => nr s 65536) (sx a0_12 a1_2 a0_13 a1_6 a0_14 a1_10 a0_15 a1_14)
                                          | false => 0) &&
                                        (((match
                                              mulB
                                                [a0_0, a0_1, a0_2, a0_3, a0_4, a0_5, a0_6, a0_7, a0_8, a0_9, a0_10, a0_11,
                                                  a0_12, a0_13, a0_14, a0_15]
                                                [a1_0, a1_1, a1_2, a1_3, a1_4, a1_5, a1_6, a1_7, a1_8, a1_9, a1_10, a1_11,
                                                  a1_12, a1_13, a1_14, a1_15] with
                                            | true =>
                                              (fun s => nr s 65536) (sx a0_12 a1_3 a0_13 a1_7 a0_14 a1_11 a0_15 a1_15)
                                            | false => 0) ==
                                            match
                                              mulB
                                                [a0_0, a0_1, a0_2, a0_3, a0_4, a0_5, a0_6, a0_7, a0_8, a0_9, a0_10, a0_11,
                                                  a0_12, a0_13, a0_14, a0_15]
                                                [a1_0, a1_1, a1_2, a1_3, a1_4, a1_5, a1_6, a1_7, a1_8, a1_9, a1_10, a1_11,
                                                  a1_12, a1_13, a1_14, a1_15] with
                                            | true =>
                                              (fun s => nr s 65536) (sx a0_12 a1_3 a0_13 a1_7 a0_14 a1_11 a0_15 a1_15)
                                            | false => 0) &&
                                          true))))))))))))))) then
        bif
            (match
                mulB [a0_0, a0_1, a0_2, a0_3, a0_4, a0_5, a0_6, a0_7, a0_8, a0_9, a0_10, a0_11, a0_12, a0_13, a0_14, a0_15]
                  [a1_0, a1_1, a1_2, a1_3, a1_4, a1_5, a1_6, a1_7, a1_8, a1_9, a1_10, a1_11, a1_12, a1_13, a1_14,
                    a1_15] with
              | true => (0 : Int)
              | false => 2) ==
              match
                mulB [a0_0, a0_1, a0_2, a0_3, a0_4, a0_5, a0_6, a0_7, a0_8, a0_9, a0_10, a0_11, a0_12, a0_13, a0_14, a0_15]
                  [a1_0, a1_1, a1_2, a1_3, a1_4, a1_5, a1_6, a1_7, a1_8, a1_9, a1_10, a1_11, a1_12, a1_13, a1_14,
                    a1_15] with
              | true => (0 : Int)
              | false => 2 then
          bif
              ((match
                    appB
                      [a0_0, a0_1, a0_2, a0_3, a0_4, a0_5, a0_6, a0_7, a0_8, a0_9, a0_10, a0_11, a0_12, a0_13, a0_14, a0_15]
                      [a2_0, a2_1, a2_2, a2_3] with
                  | true => (fun s => nr s 65536) (sx a0_0 a2_0 a0_1 a2_1 a0_2 a2_2 a0_3 a2_3)
                  | false => 0) ==
                  match
                    appB
                      [a0_0, a0_1, a0_2, a0_3, a0_4, a0_5, a0_6, a0_7, a0_8, a0_9, a0_10, a0_11, a0_12, a0_13, a0_14, a0_15]
                      [a2_0, a2_1, a2_2, a2_3] with
                  | true => (fun s => nr s 65536) (sx a0_0 a2_0 a0_1 a2_1 a0_2 a2_2 a0_3 a2_3)
                  | false => 0) &&
                (((match
                      appB
                        [a0_0, a0_1, a0_2, a0_3, a0_4, a0_5, a0_6, a0_7, a0_8, a0_9, a0_10, a0_11, a0_12, a0_13, a0_14,
                          a0_15]
                        [a2_0, a2_1, a2_2, a2_3] with
                    | true => (fun s => nr s 65536) (sx a0_4 a2_0 a0_5 a2_1 a0_6 a2_2 a0_7 a2_3)
                    | false => 0) ==
                    match
                      appB
                        [a0_0, a0_1, a0_2, a0_3, a0_4, a0_5, a0_6, a0_7, a0_8, a0_9, a0_10, a0_11, a0_12, a0_13, a0_14,
                          a0_15]
                        [a2_0, a2_1, a2_2, a2_3] with
                    | true => (fun s => nr s 65536) (sx a0_4 a2_0 a0_5 a2_1 a0_6 a2_2 a0_7 a2_3)
                    | false => 0) &&
                  (((match
                        appB
                          [a0_0, a0_1, a0_2, a0_3, a0_4, a0_5, a0_6, a0_7, a0_8, a0_9, a0_10, a0_11, a0_12, a0_13, a0_14,
                            a0_15]
                          [a2_0, a2_1, a2_2, a2_3] with
                      | true => (fun s => nr s 65536) (sx a0_8 a2_0 a0_9 a2_1 a0_10 a2_2 a0_11 a2_3)
                      | false => 0) ==
                      match
                        appB
                          [a0_0, a0_1, a0_2, a0_3, a0_4, a0_5, a0_6, a0_7, a0_8, a0_9, a0_10, a0_11, a0_12, a0_13, a0_14,
                            a0_15]
                          [a2_0, a2_1, a2_2, a2_3] with
                      | true => (fun s => nr s 65536) (sx a0_8 a2_0 a0_9 a2_1 a0_10 a2_2 a0_11 a2_3)
                      | false => 0) &&
                    (((match
                          appB
                            [a0_0, a0_1, a0_2, a0_3, a0_4, a0_5, a0_6, a0_7, a0_8, a0_9, a0_10, a0_11, a0_12, a0_13, a0_14,
                              a0_15]
                            [a2_0, a2_1, a2_2, a2_3] with
                        | true => (fun s => nr s 65536) (sx a0_12 a2_0 a0_13 a2_1 a0_14 a2_2 a0_15 a2_3)
                        | false => 0) ==
                        match
                          appB
                            [a0_0, a0_1, a0_2, a0_3, a0_4, a0_5, a0_6, a0_7, a0_8, a0_9, a0_10, a0_11, a0_12, a0_13, a0_14,
                              a0_15]
                            [a2_0, a2_1, a2_2, a2_3] with
                        | true => (fun s => nr s 65536) (sx a0_12 a2_0 a0_13 a2_1 a0_14 a2_2 a0_15 a2_3)
                        | false => 0) &&
                      true))) then
            bif
                (match
                    appB
                      [a0_0, a0_1, a0_2, a0_3, a0_4, a0_5, a0_6, a0_7, a0_8, a0_9, a0_10, a0_11, a0_12, a0_13, a0_14, a0_15]
                      [a2_0, a2_1, a2_2, a2_3] with
                  | true => (0 : Int)
                  | false => 2) ==
                  match
                    appB
                      [a0_0, a0_1, a0_2, a0_3, a0_4, a0_5, a0_6, a0_7, a0_8, a0_9, a0_10, a0_11, a0_12, a0_13, a0_14, a0_15]
                      [a2_0, a2_1, a2_2, a2_3] with
                  | true => (0 : Int)
                  | false => 2 then
              bif
                  ((match mayL (moveL a3 a4 a5) with
                      | true => (65536 : Int)
                      | false => 0) ==
                      match mayL (moveL a3 a4 a5) with
                      | true => (65536 : Int)
                      | false => 0) &&
                    (((match mayL (moveL a3 a4 a5) with
                        | true => (0 : Int)
                        | false => 0) ==
                        match mayL (moveL a3 a4 a5) with
                        | true => (0 : Int)
                        | false => 0) &&
                      (((match mayL (moveL a3 a4 a5) with
                          | true => (0 : Int)
                          | false => 0) ==
                          match mayL (moveL a3 a4 a5) with
                          | true => (0 : Int)
                          | false => 0) &&
                        (((match mayL (moveL a3 a4 a5) with
                            | true => a3
                            | false => 0) ==
                            match mayL (moveL a3 a4 a5) with
                            | true => a3
                            | false => 0) &&
                          (((match mayL (moveL a3 a4 a5) with
                              | true => (0 : Int)
                              | false => 0) ==
                              match mayL (moveL a3 a4 a5) with
                              | true => (0 : Int)
                              | false => 0) &&
                            (((match mayL (moveL a3 a4 a5) with
                                | true => (65536 : Int)
                                | false => 0) ==
                                match mayL (moveL a3 a4 a5) with
                                | true => (65536 : Int)
                                | false => 0) &&
                              (((match mayL (moveL a3 a4 a5) with
                                  | true => (0 : Int)
                                  | false => 0) ==
                                  match mayL (moveL a3 a4 a5) with
                                  | true => (0 : Int)
                                  | false => 0) &&
                                (((match mayL (moveL a3 a4 a5) with
                                    | true => a4
                                    | false => 0) ==
                                    match mayL (moveL a3 a4 a5) with
                                    | true => a4
                                    | false => 0) &&
                                  (((match mayL (moveL a3 a4 a5) with
                                      | true => (0 : Int)
                                      | false => 0) ==
                                      match mayL (moveL a3 a4 a5) with
                                      | true => (0 : Int)
                                      | false => 0) &&
                                    (((match mayL (moveL a3 a4 a5) with
                                        | true => (0 : Int)
                                        | false => 0) ==
                                        match mayL (moveL a3 a4 a5) with
                                        | true => (0 : Int)
                                        | false => 0) &&
                                      (((match mayL (moveL a3 a4 a5) with
                                          | true => (65536 : Int)
                                          | false => 0) ==
                                          match mayL (moveL a3 a4 a5) with
                                          | true => (65536 : Int)
                                          | false => 0) &&
                                        (((match mayL (moveL a3 a4 a5) with
                                            | true => a5
                                            | false => 0) ==
                                            match mayL (moveL a3 a4 a5) with
                                            | true => a5
                                            | false => 0) &&
                                          (((match mayL (moveL a3 a4 a5) with
                                              | true => (0 : Int)
                                              | false => 0) ==
                                              match mayL (moveL a3 a4 a5) with
                                              | true => (0 : Int)
                                              | false => 0) &&
                                            (((match mayL (moveL a3 a4 a5) with
                                                | true => (0 : Int)
                                                | false => 0) ==
                                                match mayL (moveL a3 a4 a5) with
                                                | true => (0 : Int)
                                                | false => 0) &&
                                              (((match mayL (moveL a3 a4 a5) with
                                                  | true => (0 : Int)
                                                  | false => 0) ==
                                                  match mayL (moveL a3 a4 a5) with
                                                  | true => (0 : Int)
                                                  | false => 0) &&
                                                (((match mayL (moveL a3 a4 a5) with
                                                    | true => (65536 : Int)
                                                    | false => 0) ==
                                                    match mayL (moveL a3 a4 a5) with
                                                    | true => (65536 : Int)
                                                    | false => 0) &&
                                                  true))))))))))))))) then
                bif
                    (match mayL (moveL a3 a4 a5) with
                      | true => (0 : Int)
                      | false => 2) ==
                      match mayL (moveL a3 a4 a5) with
                      | true => (0 : Int)
                      | false => 2 then
                  bif
                      ((match mayL (stretchL a3 a4 a5) with
                          | true => a3
                          | false => 0) ==
                          match mayL (stretchL a3 a4 a5) with
                          | true => a3
                          | false => 0) &&
                        (((match mayL (stretchL a3 a4 a5) with
                            | true => (0 : Int)
                            | false => 0) ==
                            match mayL (stretchL a3 a4 a5) with
                            | true => (0 : Int)
                            | false => 0) &&
                          (((match mayL (stretchL a3 a4 a5) with
                              | true => (0 : Int)
                              | false => 0) ==
                              match mayL (stretchL a3 a4 a5) with
                              | true => (0 : Int)
                              | false => 0) &&
                            (((match mayL (stretchL a3 a4 a5) with
                                | true => (0 : Int)
                                | false => 0) ==
                                match mayL (stretchL a3 a4 a5) with
                                | true => (0 : Int)
                                | false => 0) &&
                              (((match mayL (stretchL a3 a4 a5) with
                                  | true => (0 : Int)
                                  | false => 0) ==
                                  match mayL (stretchL a3 a4 a5) with
                                  | true => (0 : Int)
                                  | false => 0) &&
                                (((match mayL (stretchL a3 a4 a5) with
                                    | true => a4
                                    | false => 0) ==
                                    match mayL (stretchL a3 a4 a5) with
                                    | true => a4
                                    | false => 0) &&
                                  (((match mayL (stretchL a3 a4 a5) with
                                      | true => (0 : Int)
                                      | false => 0) ==
                                      match mayL (stretchL a3 a4 a5) with
                                      | true => (0 : Int)
                                      | false => 0) &&
                                    (((match mayL (stretchL a3 a4 a5) with
                                        | true => (0 : Int)
                                        | false => 0) ==
                                        match mayL (stretchL a3 a4 a5) with
                                        | true => (0 : Int)
                                        | false => 0) &&
                                      (((match mayL (stretchL a3 a4 a5) with
                                          | true => (0 : Int)
                                          | false => 0) ==
                                          match mayL (stretchL a3 a4 a5) with
                                          | true => (0 : Int)
                                          | false => 0) &&
                                        (((match mayL (stretchL a3 a4 a5) with
                                            | true => (0 : Int)
                                            | false => 0) ==
                                            match mayL (stretchL a3 a4 a5) with
                                            | true => (0 : Int)
                                            | false => 0) &&
                                          (((match mayL (stretchL a3 a4 a5) with
                                              | true => a5
                                              | false => 0) ==
                                              match mayL (stretchL a3 a4 a5) with
                                              | true => a5
                                              | false => 0) &&
                                            (((match mayL (stretchL a3 a4 a5) with
                                                | true => (0 : Int)
                                                | false => 0) ==
                                                match mayL (stretchL a3 a4 a5) with
                                                | true => (0 : Int)
                                                | false => 0) &&
                                              (((match mayL (stretchL a3 a4 a5) with
                                                  | true => (0 : Int)
                                                  | false => 0) ==
                                                  match mayL (stretchL a3 a4 a5) with
                                                  | true => (0 : Int)
                                                  | false => 0) &&
                                                (((match mayL (stretchL a3 a4 a5) with
                                                    | true => (0 : Int)
                                                    | false => 0) ==
                                                    match mayL (stretchL a3 a4 a5) with
                                                    | true => (0 : Int)
                                                    | false => 0) &&
                                                  (((match mayL (stretchL a3 a4 a5) with
                                                      | true => (0 : Int)
                                                      | false => 0) ==
                                                      match mayL (stretchL a3 a4 a5) with
                                                      | true => (0 : Int)
                                                      | false => 0) &&
                                                    (((match mayL (stretchL a3 a4 a5) with
                                                        | true => (65536 : Int)
                                                        | false => 0) ==
                                                        match mayL (stretchL a3 a4 a5) with
                                                        | true => (65536 : Int)
                                                        | false => 0) &&
                                                      true))))))))))))))) then
                    bif
                        (match mayL (stretchL a3 a4 a5) with
                          | true => (0 : Int)
                          | false => 2) ==
                          match mayL (stretchL a3 a4 a5) with
                          | true => (0 : Int)
                          | false => 2 then
                      some true
                    else some false
                  else some false
                else some false
              else some false
            else some false
          else some false
        else some false
      else some false
    else some false) := by kernel_rfl
  rw [e]
  simp only [beq_self_eq_true, Bool.and_self, cond_true]

theorem walk (a0_0 : Int) (a0_1 : Int) (a0_2 : Int) (a0_3 : Int) (a0_4 : Int) (a0_5 : Int) (a0_6 : Int) (a0_7 : Int) (a0_8 : Int) (a0_9 : Int) (a0_10 : Int) (a0_11 : Int) (a0_12 : Int) (a0_13 : Int) (a0_14 : Int) (a0_15 : Int) (a1_0 : Int) (a1_1 : Int) (a1_2 : Int) (a1_3 : Int) (a1_4 : Int) (a1_5 : Int) (a1_6 : Int) (a1_7 : Int) (a1_8 : Int) (a1_9 : Int) (a1_10 : Int) (a1_11 : Int) (a1_12 : Int) (a1_13 : Int) (a1_14 : Int) (a1_15 : Int) (a2_0 : Int) (a2_1 : Int) (a2_2 : Int) (a2_3 : Int) (a3 : Int) (a4 : Int) (a5 : Int) (h_a0_0 : -9223372036854775808 ≤ a0_0 ∧ a0_0 ≤ 9223372036854775807) (h_a0_1 : -9223372036854775808 ≤ a0_1 ∧ a0_1 ≤ 9223372036854775807) (h_a0_2 : -9223372036854775808 ≤ a0_2 ∧ a0_2 ≤ 9223372036854775807) (h_a0_3 : -9223372036854775808 ≤ a0_3 ∧ a0_3 ≤ 9223372036854775807) (h_a0_4 : -9223372036854775808 ≤ a0_4 ∧ a0_4 ≤ 9223372036854775807) (h_a0_5 : -9223372036854775808 ≤ a0_5 ∧ a0_5 ≤ 9223372036854775807) (h_a0_6 : -9223372036854775808 ≤ a0_6 ∧ a0_6 ≤ 9223372036854775807) (h_a0_7 : -9223372036854775808 ≤ a0_7 ∧ a0_7 ≤ 9223372036854775807) (h_a0_8 : -9223372036854775808 ≤ a0_8 ∧ a0_8 ≤ 9223372036854775807) (h_a0_9 : -9223372036854775808 ≤ a0_9 ∧ a0_9 ≤ 9223372036854775807) (h_a0_10 : -9223372036854775808 ≤ a0_10 ∧ a0_10 ≤ 9223372036854775807) (h_a0_11 : -9223372036854775808 ≤ a0_11 ∧ a0_11 ≤ 9223372036854775807) (h_a0_12 : -9223372036854775808 ≤ a0_12 ∧ a0_12 ≤ 9223372036854775807) (h_a0_13 : -9223372036854775808 ≤ a0_13 ∧ a0_13 ≤ 9223372036854775807) (h_a0_14 : -9223372036854775808 ≤ a0_14 ∧ a0_14 ≤ 9223372036854775807) (h_a0_15 : -9223372036854775808 ≤ a0_15 ∧ a0_15 ≤ 9223372036854775807) (h_a1_0 : -9223372036854775808 ≤ a1_0 ∧ a1_0 ≤ 9223372036854775807) (h_a1_1 : -9223372036854775808 ≤ a1_1 ∧ a1_1 ≤ 9223372036854775807) (h_a1_2 : -9223372036854775808 ≤ a1_2 ∧ a1_2 ≤ 9223372036854775807) (h_a1_3 : -9223372036854775808 ≤ a1_3 ∧ a1_3 ≤ 9223372036854775807) (h_a1_4 : -9223372036854775808 ≤ a1_4 ∧ a1_4 ≤ 9223372036854775807) (h_a1_5 : -9223372036854775808 ≤ a1_5 ∧ a1_5 ≤ 9223372036854775807) (h_a1_6 : -9223372036854775808 ≤ a1_6 ∧ a1_6 ≤ 9223372036854775807) (h_a1_7 : -9223372036854775808 ≤ a1_7 ∧ a1_7 ≤ 9223372036854775807) (h_a1_8 : -9223372036854775808 ≤ a1_8 ∧ a1_8 ≤ 9223372036854775807) (h_a1_9 : -9223372036854775808 ≤ a1_9 ∧ a1_9 ≤ 9223372036854775807) (h_a1_10 : -9223372036854775808 ≤ a1_10 ∧ a1_10 ≤ 9223372036854775807) (h_a1_11 : -9223372036854775808 ≤ a1_11 ∧ a1_11 ≤ 9223372036854775807) (h_a1_12 : -9223372036854775808 ≤ a1_12 ∧ a1_12 ≤ 9223372036854775807) (h_a1_13 : -9223372036854775808 ≤ a1_13 ∧ a1_13 ≤ 9223372036854775807) (h_a1_14 : -9223372036854775808 ≤ a1_14 ∧ a1_14 ≤ 9223372036854775807) (h_a1_15 : -9223372036854775808 ≤ a1_15 ∧ a1_15 ≤ 9223372036854775807) (h_a2_0 : -9223372036854775808 ≤ a2_0 ∧ a2_0 ≤ 9223372036854775807) (h_a2_1 : -9223372036854775808 ≤ a2_1 ∧ a2_1 ≤ 9223372036854775807) (h_a2_2 : -9223372036854775808 ≤ a2_2 ∧ a2_2 ≤ 9223372036854775807) (h_a2_3 : -9223372036854775808 ≤ a2_3 ∧ a2_3 ≤ 9223372036854775807) (h_a3 : -9223372036854775808 ≤ a3 ∧ a3 ≤ 9223372036854775807) (h_a4 : -9223372036854775808 ≤ a4 ∧ a4 ≤ 9223372036854775807) (h_a5 : -9223372036854775808 ≤ a5 ∧ a5 ≤ 9223372036854775807) (w : World) :
    Calls Try.prog 3 #[.agg #[.int .i64 a0_0, .int .i64 a0_1, .int .i64 a0_2, .int .i64 a0_3, .int .i64 a0_4, .int .i64 a0_5, .int .i64 a0_6, .int .i64 a0_7, .int .i64 a0_8, .int .i64 a0_9, .int .i64 a0_10, .int .i64 a0_11, .int .i64 a0_12, .int .i64 a0_13, .int .i64 a0_14, .int .i64 a0_15], .agg #[.int .i64 a1_0, .int .i64 a1_1, .int .i64 a1_2, .int .i64 a1_3, .int .i64 a1_4, .int .i64 a1_5, .int .i64 a1_6, .int .i64 a1_7, .int .i64 a1_8, .int .i64 a1_9, .int .i64 a1_10, .int .i64 a1_11, .int .i64 a1_12, .int .i64 a1_13, .int .i64 a1_14, .int .i64 a1_15], .agg #[.int .i64 a2_0, .int .i64 a2_1, .int .i64 a2_2, .int .i64 a2_3], .int .i64 a3, .int .i64 a4, .int .i64 a5] w fun e w' => e = .returned (.bool true) ∧ Below w.heap.size w w' := by
  have h := law_of calls_sound mixed entersF (bodyTrue a0_0 a0_1 a0_2 a0_3 a0_4 a0_5 a0_6 a0_7 a0_8 a0_9 a0_10 a0_11 a0_12 a0_13 a0_14 a0_15 a1_0 a1_1 a1_2 a1_3 a1_4 a1_5 a1_6 a1_7 a1_8 a1_9 a1_10 a1_11 a1_12 a1_13 a1_14 a1_15 a2_0 a2_1 a2_2 a2_3 a3 a4 a5 h_a0_0 h_a0_1 h_a0_2 h_a0_3 h_a0_4 h_a0_5 h_a0_6 h_a0_7 h_a0_8 h_a0_9 h_a0_10 h_a0_11 h_a0_12 h_a0_13 h_a0_14 h_a0_15 h_a1_0 h_a1_1 h_a1_2 h_a1_3 h_a1_4 h_a1_5 h_a1_6 h_a1_7 h_a1_8 h_a1_9 h_a1_10 h_a1_11 h_a1_12 h_a1_13 h_a1_14 h_a1_15 h_a2_0 h_a2_1 h_a2_2 h_a2_3 h_a3 h_a4 h_a5) (E := ⟨fun _ => 0, fun _ => undef⟩) (RepM.empty _ w) (by kernel_rfl) (by kernel_rfl)
  exact h

theorem walkV (W : World) (base : Nat) (v0 : Value) (v1 : Value) (v2 : Value) (v3 : Value) (v4 : Value) (v5 : Value) (hv0 : Value.okWide Try.prog W .any base 23 v0) (hv1 : Value.okWide Try.prog W .any base 23 v1) (hv2 : Value.okWide Try.prog W .any base 25 v2) (hv3 : Value.okWide Try.prog W .any base 3 v3) (hv4 : Value.okWide Try.prog W .any base 3 v4) (hv5 : Value.okWide Try.prog W .any base 3 v5) : Calls Try.prog 3 #[v0, v1, v2, v3, v4, v5] W fun e w' => e = .returned (.bool true) ∧ Below W.heap.size W w' := by
  obtain ⟨cs0, rfl, hl0, hc0⟩ := ok_agg (P := Try.prog) (t := 23) (ts := [3, 3, 3, 3, 3, 3, 3, 3, 3, 3, 3, 3, 3, 3, 3, 3]) (by kernel_rfl) (by kernel_rfl) (by kernel_rfl) hv0
  obtain ⟨c0_0, c0_1, c0_2, c0_3, c0_4, c0_5, c0_6, c0_7, c0_8, c0_9, c0_10, c0_11, c0_12, c0_13, c0_14, c0_15, rfl⟩ := list16 hl0
  obtain ⟨a0_0, rfl, b0_0, b0_0'⟩ := cell_int Try.underlying3 (hc0 0 3 _ rfl rfl)
  obtain ⟨a0_1, rfl, b0_1, b0_1'⟩ := cell_int Try.underlying3 (hc0 1 3 _ rfl rfl)
  obtain ⟨a0_2, rfl, b0_2, b0_2'⟩ := cell_int Try.underlying3 (hc0 2 3 _ rfl rfl)
  obtain ⟨a0_3, rfl, b0_3, b0_3'⟩ := cell_int Try.underlying3 (hc0 3 3 _ rfl rfl)
  obtain ⟨a0_4, rfl, b0_4, b0_4'⟩ := cell_int Try.underlying3 (hc0 4 3 _ rfl rfl)
  obtain ⟨a0_5, rfl, b0_5, b0_5'⟩ := cell_int Try.underlying3 (hc0 5 3 _ rfl rfl)
  obtain ⟨a0_6, rfl, b0_6, b0_6'⟩ := cell_int Try.underlying3 (hc0 6 3 _ rfl rfl)
  obtain ⟨a0_7, rfl, b0_7, b0_7'⟩ := cell_int Try.underlying3 (hc0 7 3 _ rfl rfl)
  obtain ⟨a0_8, rfl, b0_8, b0_8'⟩ := cell_int Try.underlying3 (hc0 8 3 _ rfl rfl)
  obtain ⟨a0_9, rfl, b0_9, b0_9'⟩ := cell_int Try.underlying3 (hc0 9 3 _ rfl rfl)
  obtain ⟨a0_10, rfl, b0_10, b0_10'⟩ := cell_int Try.underlying3 (hc0 10 3 _ rfl rfl)
  obtain ⟨a0_11, rfl, b0_11, b0_11'⟩ := cell_int Try.underlying3 (hc0 11 3 _ rfl rfl)
  obtain ⟨a0_12, rfl, b0_12, b0_12'⟩ := cell_int Try.underlying3 (hc0 12 3 _ rfl rfl)
  obtain ⟨a0_13, rfl, b0_13, b0_13'⟩ := cell_int Try.underlying3 (hc0 13 3 _ rfl rfl)
  obtain ⟨a0_14, rfl, b0_14, b0_14'⟩ := cell_int Try.underlying3 (hc0 14 3 _ rfl rfl)
  obtain ⟨a0_15, rfl, b0_15, b0_15'⟩ := cell_int Try.underlying3 (hc0 15 3 _ rfl rfl)
  obtain ⟨cs1, rfl, hl1, hc1⟩ := ok_agg (P := Try.prog) (t := 23) (ts := [3, 3, 3, 3, 3, 3, 3, 3, 3, 3, 3, 3, 3, 3, 3, 3]) (by kernel_rfl) (by kernel_rfl) (by kernel_rfl) hv1
  obtain ⟨c1_0, c1_1, c1_2, c1_3, c1_4, c1_5, c1_6, c1_7, c1_8, c1_9, c1_10, c1_11, c1_12, c1_13, c1_14, c1_15, rfl⟩ := list16 hl1
  obtain ⟨a1_0, rfl, b1_0, b1_0'⟩ := cell_int Try.underlying3 (hc1 0 3 _ rfl rfl)
  obtain ⟨a1_1, rfl, b1_1, b1_1'⟩ := cell_int Try.underlying3 (hc1 1 3 _ rfl rfl)
  obtain ⟨a1_2, rfl, b1_2, b1_2'⟩ := cell_int Try.underlying3 (hc1 2 3 _ rfl rfl)
  obtain ⟨a1_3, rfl, b1_3, b1_3'⟩ := cell_int Try.underlying3 (hc1 3 3 _ rfl rfl)
  obtain ⟨a1_4, rfl, b1_4, b1_4'⟩ := cell_int Try.underlying3 (hc1 4 3 _ rfl rfl)
  obtain ⟨a1_5, rfl, b1_5, b1_5'⟩ := cell_int Try.underlying3 (hc1 5 3 _ rfl rfl)
  obtain ⟨a1_6, rfl, b1_6, b1_6'⟩ := cell_int Try.underlying3 (hc1 6 3 _ rfl rfl)
  obtain ⟨a1_7, rfl, b1_7, b1_7'⟩ := cell_int Try.underlying3 (hc1 7 3 _ rfl rfl)
  obtain ⟨a1_8, rfl, b1_8, b1_8'⟩ := cell_int Try.underlying3 (hc1 8 3 _ rfl rfl)
  obtain ⟨a1_9, rfl, b1_9, b1_9'⟩ := cell_int Try.underlying3 (hc1 9 3 _ rfl rfl)
  obtain ⟨a1_10, rfl, b1_10, b1_10'⟩ := cell_int Try.underlying3 (hc1 10 3 _ rfl rfl)
  obtain ⟨a1_11, rfl, b1_11, b1_11'⟩ := cell_int Try.underlying3 (hc1 11 3 _ rfl rfl)
  obtain ⟨a1_12, rfl, b1_12, b1_12'⟩ := cell_int Try.underlying3 (hc1 12 3 _ rfl rfl)
  obtain ⟨a1_13, rfl, b1_13, b1_13'⟩ := cell_int Try.underlying3 (hc1 13 3 _ rfl rfl)
  obtain ⟨a1_14, rfl, b1_14, b1_14'⟩ := cell_int Try.underlying3 (hc1 14 3 _ rfl rfl)
  obtain ⟨a1_15, rfl, b1_15, b1_15'⟩ := cell_int Try.underlying3 (hc1 15 3 _ rfl rfl)
  obtain ⟨cs2, rfl, hl2, hc2⟩ := ok_agg (P := Try.prog) (t := 25) (ts := [3, 3, 3, 3]) (by kernel_rfl) (by kernel_rfl) (by kernel_rfl) hv2
  obtain ⟨c2_0, c2_1, c2_2, c2_3, rfl⟩ := list4 hl2
  obtain ⟨a2_0, rfl, b2_0, b2_0'⟩ := cell_int Try.underlying3 (hc2 0 3 _ rfl rfl)
  obtain ⟨a2_1, rfl, b2_1, b2_1'⟩ := cell_int Try.underlying3 (hc2 1 3 _ rfl rfl)
  obtain ⟨a2_2, rfl, b2_2, b2_2'⟩ := cell_int Try.underlying3 (hc2 2 3 _ rfl rfl)
  obtain ⟨a2_3, rfl, b2_3, b2_3'⟩ := cell_int Try.underlying3 (hc2 3 3 _ rfl rfl)
  obtain ⟨a3, rfl, b3, b3'⟩ := ok_int Try.underlying3 hv3
  obtain ⟨a4, rfl, b4, b4'⟩ := ok_int Try.underlying3 hv4
  obtain ⟨a5, rfl, b5, b5'⟩ := ok_int Try.underlying3 hv5
  exact walk a0_0 a0_1 a0_2 a0_3 a0_4 a0_5 a0_6 a0_7 a0_8 a0_9 a0_10 a0_11 a0_12 a0_13 a0_14 a0_15 a1_0 a1_1 a1_2 a1_3 a1_4 a1_5 a1_6 a1_7 a1_8 a1_9 a1_10 a1_11 a1_12 a1_13 a1_14 a1_15 a2_0 a2_1 a2_2 a2_3 a3 a4 a5 ⟨b0_0, b0_0'⟩ ⟨b0_1, b0_1'⟩ ⟨b0_2, b0_2'⟩ ⟨b0_3, b0_3'⟩ ⟨b0_4, b0_4'⟩ ⟨b0_5, b0_5'⟩ ⟨b0_6, b0_6'⟩ ⟨b0_7, b0_7'⟩ ⟨b0_8, b0_8'⟩ ⟨b0_9, b0_9'⟩ ⟨b0_10, b0_10'⟩ ⟨b0_11, b0_11'⟩ ⟨b0_12, b0_12'⟩ ⟨b0_13, b0_13'⟩ ⟨b0_14, b0_14'⟩ ⟨b0_15, b0_15'⟩ ⟨b1_0, b1_0'⟩ ⟨b1_1, b1_1'⟩ ⟨b1_2, b1_2'⟩ ⟨b1_3, b1_3'⟩ ⟨b1_4, b1_4'⟩ ⟨b1_5, b1_5'⟩ ⟨b1_6, b1_6'⟩ ⟨b1_7, b1_7'⟩ ⟨b1_8, b1_8'⟩ ⟨b1_9, b1_9'⟩ ⟨b1_10, b1_10'⟩ ⟨b1_11, b1_11'⟩ ⟨b1_12, b1_12'⟩ ⟨b1_13, b1_13'⟩ ⟨b1_14, b1_14'⟩ ⟨b1_15, b1_15'⟩ ⟨b2_0, b2_0'⟩ ⟨b2_1, b2_1'⟩ ⟨b2_2, b2_2'⟩ ⟨b2_3, b2_3'⟩ ⟨b3, b3'⟩ ⟨b4, b4'⟩ ⟨b5, b5'⟩ W

set_option maxRecDepth 100000 in
theorem lifted (os : Os) (started : os.Started) (H : Type) (enc : TypeId × Value → H) :
    ReturnsInHanded {} Try.checked os 3 .any (Rows.vecTellsSpec.pre6 enc Try.prog Try.f3 Rows.vecTellsRow.domain false) (Rows.vecTellsSpec.post enc Try.prog Try.f3 false true false false) := by
  refine returnsInHanded_of_change (C := Try.checked) own started (by kernel_rfl) Try.func3
    (ChangeSpec.witness6 (enc := enc) (C := Try.checked) false ⟨#[], #[.agg #[.int .i64 0, .int .i64 0, .int .i64 0, .int .i64 0, .int .i64 0, .int .i64 0, .int .i64 0, .int .i64 0, .int .i64 0, .int .i64 0, .int .i64 0, .int .i64 0, .int .i64 0, .int .i64 0, .int .i64 0, .int .i64 0], .agg #[.int .i64 0, .int .i64 0, .int .i64 0, .int .i64 0, .int .i64 0, .int .i64 0, .int .i64 0, .int .i64 0, .int .i64 0, .int .i64 0, .int .i64 0, .int .i64 0, .int .i64 0, .int .i64 0, .int .i64 0, .int .i64 0], .agg #[.int .i64 0, .int .i64 0, .int .i64 0, .int .i64 0], .int .i64 0, .int .i64 0, .int .i64 0], []⟩ 8 (by kernel_rfl) (by kernel_rfl) (by kernel_rfl) (by kernel_rfl)) ?_
  intro W base args ds gs before hval0 hW _ _
  have hval : ∀ (j : Nat) t v, Try.f3.params[j]? = some t → args[j]? = some v → Value.okWide Try.prog W .any base t v := hval0
  have hW' := hW
  obtain ⟨p, q, hA0, _, rfl, _, _⟩ := hW
  have hA : DataW.TrodAll enc Try.prog W 0 (fun _ => true) true Try.f3.params.toList args.toList ds p := hA0
  rw [Try.params3] at hA hval
  obtain ⟨v0, vs0, d0, ds0, p0, q0, hargs, rfl, rfl, h0, r0⟩ := trodAll_cons hA
  obtain ⟨v1, vs1, d1, ds1, p1, q1, rfl, rfl, rfl, h1, r1⟩ := trodAll_cons r0
  obtain ⟨v2, vs2, d2, ds2, p2, q2, rfl, rfl, rfl, h2, r2⟩ := trodAll_cons r1
  obtain ⟨v3, vs3, d3, ds3, p3, q3, rfl, rfl, rfl, h3, r3⟩ := trodAll_cons r2
  obtain ⟨v4, vs4, d4, ds4, p4, q4, rfl, rfl, rfl, h4, r4⟩ := trodAll_cons r3
  obtain ⟨v5, vs5, d5, ds5, p5, q5, rfl, rfl, rfl, h5, r5⟩ := trodAll_cons r4
  obtain ⟨rfl, rfl, rfl⟩ := trodAll_nil r5
  obtain rfl : args = #[v0, v1, v2, v3, v4, v5] := by cases args; simp_all
  refine (walkV W base v0 v1 v2 v3 v4 v5 (hval 0 23 v0 rfl rfl) (hval 1 23 v1 rfl rfl) (hval 2 25 v2 rfl rfl) (hval 3 3 v3 rfl rfl) (hval 4 3 v4 rfl rfl) (hval 5 3 v5 rfl rfl)).mono fun e W' ⟨he, hb⟩ => ?_
  subst he
  exact ⟨_, rfl, law_post (tb := 4) hW' rfl rfl laid (by kernel_rfl) rfl Try.underlying4 hb⟩

theorem over : Rows.vecTellsRow.holds Try.pinned (OpenSpec.ofChange Rows.vecTellsSpec) :=
  OpenClaim.holds_of_wide 3 Try.f3 rfl rfl rfl rfl rfl rfl rfl ⟨rfl, rfl, rfl, rfl, rfl⟩ rfl rfl rfl rfl rfl (by kernel_rfl) Try.func3 (by kernel_rfl)
    (of_decide_eq_true (by kernel_rfl)) (by unfold Func.isWrapper; first | (rw [if_pos (by decide +kernel)]; kernel_rfl) | (rw [if_neg (by decide +kernel)]; exact ⟨rfl, rfl⟩))
    (fun os started H enc _ => lifted os started H enc)

theorem proved : Rows.VecTellsSaid := over
end Go.Proofs.Ytcfdnilakjgeoaa.vecTells

