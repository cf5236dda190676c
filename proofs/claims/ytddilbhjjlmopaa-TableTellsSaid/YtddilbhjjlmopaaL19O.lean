/- TableTells' own loop (chapter 19). -/
import Derived.Test.YtddilbhjjlmopaaL19N
set_option linter.unusedVariables false
set_option linter.unusedSimpArgs false
namespace Go.Proofs.Ytddilbhjjlmopaa
open Go Go.Sx Go.Fx
set_option maxRecDepth 100000
set_option linter.unusedVariables false
set_option linter.unusedSimpArgs false
abbrev c2 : List CK := [.int .i64, .int .i64]
noncomputable def L3 : Code := unl (lpOf Try.f3 0)
theorem nodes3 : nodes (Try.f3.body.getD .skip) = [.loop L3, .loop L3b, .loop L3c] := by kernel_rfl
theorem nodes3i : nodes L3 = [.loop L3b, .loop L3c] := by kernel_rfl
noncomputable def cK1 : CallSem := cK0.withLoops (two 23 rest_L3b 31 chk_L3c)
theorem cK1_sound : cK1.Sound Try.prog := CallSem.withLoops_sound cK0_sound _
abbrev k3 : List Nat := [0, 1, 5, 7, 9, 10, 11]
abbrev t3 : List Nat := [6, 10, 11, 12, 13, 14, 15, 16, 17, 18, 19, 20, 21] ++ (List.range 125).map (· + 57)
def S3 (el0 : TypeId) (w0 h0 : Bool) (L : List AV) (el1 : TypeId) (o1 h1 : Bool) (A : List AV) (el : TypeId) (d e0 e1 e2 : Int) (f : Nat → Value) (i : Int) (T P : List AV) : St :=
  ⟨tmF k3 t3 [i64 d, .vec 0, .ptr 0 0, .ptr 1 0, .vec 1, .vec 4, i64 i] f 196 0, ⟨[some ⟨24, true, [i64 e0, i64 e1, i64 e2]⟩, some ⟨48, true, [i64 d, .vec 3]⟩], [some ⟨el0, true, c2, 0, w0, h0, L⟩, some ⟨el1, true, c3, 1, o1, h1, A⟩, none, some ⟨el, false, [.bool], 3, true, true, T⟩, some ⟨24, true, c3, 4, true, true, P⟩]⟩⟩
def chK (el0 : TypeId) (w0 h0 : Bool) (L : List AV) (el1 : TypeId) (o1 h1 : Bool) (A : List AV) (el : TypeId) (d e0 e1 e2 : Int) (f : Nat → Value) (i : Int) (T P : List AV) : Option (Exit × St) :=
  bif decide (d = d) && decide (A.length ≤ 16384) && dB d && decide ((T.length : Int) = cn d) && decide (P.length ≤ 16384) && okEs T P d A then some (.normal, S3 el0 w0 h0 L el1 o1 h1 A el d e0 e1 e2 f (wi (i + 1)) T P) else none
def stK (el0 : TypeId) (w0 h0 : Bool) (L : List AV) (el1 : TypeId) (o1 h1 : Bool) (A : List AV) (el : TypeId) (d e0 e1 e2 : Int) (f : Nat → Value) (i : Int) (T P : List AV) (g0 g1 g2 : Int) (yes good : Bool) : Option (Exit × St) :=
  bif decide ((T.length : Int) = cn d) then
    (bif !(((bif setB d g0 g1 g2 yes then (0 : Int) else 1) == 0) == good) then some (.ret, S3 el0 w0 h0 L el1 o1 h1 A el d e0 e1 e2 f i (setL T d g0 g1 g2 yes) P) else
      (bif good then (bif decide (P.length ≤ 16384) then (bif yes then (bif decide ((resL P g0 g1 g2).length + 1 ≤ 65536) && true && true && true && true then chK el0 w0 h0 L el1 o1 h1 A el d e0 e1 e2 f i (setL T d g0 g1 g2 yes) (resL P g0 g1 g2 ++ [.agg [i64 g0, i64 g1, i64 g2]]) else none) else chK el0 w0 h0 L el1 o1 h1 A el d e0 e1 e2 f i (setL T d g0 g1 g2 yes) (resL P g0 g1 g2)) else none)
       else chK el0 w0 h0 L el1 o1 h1 A el d e0 e1 e2 f i (setL T d g0 g1 g2 yes) P))
  else none
def kK (el0 : TypeId) (w0 h0 : Bool) (L : List AV) (el1 : TypeId) (o1 h1 : Bool) (A : List AV) (el : TypeId) (d e0 e1 e2 : Int) (f : Nat → Value) (i : Int) (T P : List AV) (g0 g1 g2 : Int) : Option (Exit × St) :=
  (if 0 ≤ i ∧ i < (L.length : Int) then (if i.toNat < L.length then
    (bif validB d g0 g1 g2 then (bif (cI (L.getD i.toNat .bad) 1).tmod 3 != 0 then stK el0 w0 h0 L el1 o1 h1 A el d e0 e1 e2 f i T P g0 g1 g2 ((cI (L.getD i.toNat .bad) 1).tmod 3 != 0) true else
      (if (0 : Int) ≤ 0 ∧ (0 : Int) < (A.length : Int) then (if 0 < A.length then stK el0 w0 h0 L el1 o1 h1 A el d e0 e1 e2 f i T P g0 g1 g2 ((cI (L.getD i.toNat .bad) 1).tmod 3 != 0) (!(eq3 g0 g1 g2 (cI (A.getD (Int.toNat 0) .bad) 0) (cI (A.getD (Int.toNat 0) .bad) 1) (cI (A.getD (Int.toNat 0) .bad) 2))) else none) else none))
     else stK el0 w0 h0 L el1 o1 h1 A el d e0 e1 e2 f i T P g0 g1 g2 ((cI (L.getD i.toNat .bad) 1).tmod 3 != 0) false) else none) else none)
theorem raw3 (el0 : TypeId) (w0 h0 : Bool) (L : List AV) (el1 : TypeId) (o1 h1 : Bool) (A : List AV) (el : TypeId) (d e0 e1 e2 : Int) (f : Nat → Value) (i : Int) (T P : List AV) : turnK cK1 Try.prog 1 L3 k3 t3 2 4 (S3 el0 w0 h0 L el1 o1 h1 A el d e0 e1 e2 f i T P) =
    (bif decide (i < (L.length : Int)) then (if 0 ≤ i ∧ i < (L.length : Int) then (if i.toNat < L.length then (bif rG (A.length : Int) then
      (if 0 ≤ cI (L.getD i.toNat .bad) 0 % (A.length : Int) ∧ cI (L.getD i.toNat .bad) 0 % (A.length : Int) < (A.length : Int) then (if (cI (L.getD i.toNat .bad) 0 % (A.length : Int)).toNat < A.length then
      (if 0 ≤ i ∧ i < (L.length : Int) then (if i.toNat < L.length then
      (bif (cI (L.getD i.toNat .bad) 1).tmod 11 == 10 then kK el0 w0 h0 L el1 o1 h1 A el d e0 e1 e2 f i T P e0 e1 e2 else
        kK el0 w0 h0 L el1 o1 h1 A el d e0 e1 e2 f i T P (cI (A.getD (cI (L.getD i.toNat .bad) 0 % (A.length : Int)).toNat .bad) 0) (cI (A.getD (cI (L.getD i.toNat .bad) 0 % (A.length : Int)).toNat .bad) 1) (cI (A.getD (cI (L.getD i.toNat .bad) 0 % (A.length : Int)).toNat .bad) 2))
      else none) else none) else none) else none) else none) else none) else none)
     else some (.exit 0, S3 el0 w0 h0 L el1 o1 h1 A el d e0 e1 e2 f i T P)) := by kernel_rfl
end Go.Proofs.Ytddilbhjjlmopaa
