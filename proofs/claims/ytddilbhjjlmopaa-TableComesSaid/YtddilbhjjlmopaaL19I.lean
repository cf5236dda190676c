/- TableComes' loops (chapter 19). -/
import Derived.Test.YtddilbhjjlmopaaL19H
import Derived.Test.YtddilbhjjlmopaaTblF
set_option linter.unusedVariables false
set_option linter.unusedSimpArgs false
namespace Go.Proofs.Ytddilbhjjlmopaa
open Go Go.Sx Go.Fx
set_option maxRecDepth 100000
set_option linter.unusedVariables false
set_option linter.unusedSimpArgs false
noncomputable def cE2 : CallSem := cE1.withJoin
theorem cE2_sound : cE2.Sound Try.prog := CallSem.withJoin_sound cE1_sound
noncomputable def L5b : Code := unl (lpOf Try.f5 1)
abbrev k5b : List Nat := [8, 10, 14, 15]
abbrev t5b : List Nat := [14, 15, 16, 17] ++ (List.range 19).map (· + 74)
def S5b (el1 : TypeId) (o1 h1 : Bool) (A : List AV) (el : TypeId) (o2 hd : Bool) (T : List AV) (d : Int) (f : Nat → Value) (i : Int) (acc : List AV) : St :=
  ⟨tmF k5b t5b [.ptr 0 0, .vec 0, .vec 3, i64 i] f 179 0, ⟨[some ⟨48, true, [i64 d, .vec 2]⟩], [some ⟨el1, true, c3, 0, o1, h1, A⟩, none, some ⟨el, false, [.bool], 2, o2, hd, T⟩, some ⟨24, true, c3, 3, true, true, acc⟩]⟩⟩
theorem raw5b (el1 : TypeId) (o1 h1 : Bool) (A : List AV) (el : TypeId) (o2 hd : Bool) (T : List AV) (d : Int) (f : Nat → Value) (i : Int) (acc : List AV) : turnK cE2 Try.prog 1 L5b k5b t5b 1 3 (S5b el1 o1 h1 A el o2 hd T d f i acc) =
    (bif decide (i < (A.length : Int)) then (if 0 ≤ i ∧ i < (A.length : Int) then (if i.toNat < A.length then (bif dB d && decide ((T.length : Int) = cn d) then
      (bif decide (acc.length + 1 ≤ 65536) && true && true && true && true then some (.normal, S5b el1 o1 h1 A el o2 hd T d f (wi (i + 1)) (acc ++ [wasA T d (A.getD i.toNat .bad)])) else none) else none) else none) else none)
     else some (.exit 2, S5b el1 o1 h1 A el o2 hd T d f i acc)) := by kernel_rfl
noncomputable def L5c : Code := unl (lpOf Try.f5 2)
abbrev k5c : List Nat := [7, 8, 10, 12, 14, 18]
abbrev t5c : List Nat := [6, 18, 19, 20, 21, 22, 23] ++ (List.range 54).map (· + 97)
def S5c (el1 : TypeId) (o1 h1 : Bool) (A : List AV) (el2 : TypeId) (o3 h3 : Bool) (W : List AV) (el : TypeId) (o2 hd : Bool) (T : List AV) (d l x y : Int) (f : Nat → Value) (i : Int) : St :=
  ⟨tmF k5c t5c [i64 d, .ptr 0 0, .vec 0, .ptr 1 0, .vec 1, i64 i] f 179 0, ⟨[some ⟨48, true, [i64 d, .vec 2]⟩, some ⟨24, true, [i64 l, i64 x, i64 y]⟩], [some ⟨el1, true, c3, 0, o1, h1, A⟩, some ⟨el2, true, c3, 1, o3, h3, W⟩, some ⟨el, false, [.bool], 2, o2, hd, T⟩]⟩⟩
theorem raw5c (el1 : TypeId) (o1 h1 : Bool) (A : List AV) (el2 : TypeId) (o3 h3 : Bool) (W : List AV) (el : TypeId) (o2 hd : Bool) (T : List AV) (d l x y : Int) (f : Nat → Value) (i : Int) : turnK cE2 Try.prog 1 L5c k5c t5c 2 3 (S5c el1 o1 h1 A el2 o3 h3 W el o2 hd T d l x y f i) =
    (bif decide (i < (A.length : Int)) then (if 0 ≤ i ∧ i < (A.length : Int) then (if i.toNat < A.length then (bif dB d && decide ((T.length : Int) = cn d) then
      (if 0 ≤ i ∧ i < (A.length : Int) then (if i.toNat < A.length then (if 0 ≤ i ∧ i < (W.length : Int) then (if i.toNat < W.length then (if 0 ≤ i ∧ i < (W.length : Int) then (if i.toNat < W.length then
      (bif wcB d (A.getD i.toNat .bad) (W.getD i.toNat .bad) l x y then
        (bif badQ T d (A.getD i.toNat .bad) l x y then some (.ret, S5c el1 o1 h1 A el2 o3 h3 W el o2 hd T d l x y f i) else some (.normal, S5c el1 o1 h1 A el2 o3 h3 W el o2 hd T d l x y f (wi (i + 1)))) else
        (bif badQ T d (A.getD i.toNat .bad) (cI (W.getD i.toNat .bad) 0) (cI (W.getD i.toNat .bad) 1) (cI (W.getD i.toNat .bad) 2) then some (.ret, S5c el1 o1 h1 A el2 o3 h3 W el o2 hd T d l x y f i) else some (.normal, S5c el1 o1 h1 A el2 o3 h3 W el o2 hd T d l x y f (wi (i + 1)))))
      else none) else none) else none) else none) else none) else none) else none) else none) else none)
     else some (.exit 4, S5c el1 o1 h1 A el2 o3 h3 W el o2 hd T d l x y f i)) := by kernel_rfl
noncomputable def L5d : Code := unl (lpOf Try.f5 3)
abbrev k5d : List Nat := [8, 10, 14, 24]
abbrev t5d : List Nat := [6, 24, 25, 26] ++ (List.range 21).map (· + 157)
def S5d (el1 : TypeId) (o1 h1 : Bool) (A : List AV) (el2 : TypeId) (o3 h3 : Bool) (W : List AV) (el : TypeId) (o2 hd : Bool) (T : List AV) (d : Int) (f : Nat → Value) (i : Int) : St :=
  ⟨tmF k5d t5d [.ptr 0 0, .vec 0, .vec 1, i64 i] f 179 0, ⟨[some ⟨48, true, [i64 d, .vec 2]⟩], [some ⟨el1, true, c3, 0, o1, h1, A⟩, some ⟨el2, true, c3, 1, o3, h3, W⟩, some ⟨el, false, [.bool], 2, o2, hd, T⟩]⟩⟩
theorem raw5d (el1 : TypeId) (o1 h1 : Bool) (A : List AV) (el2 : TypeId) (o3 h3 : Bool) (W : List AV) (el : TypeId) (o2 hd : Bool) (T : List AV) (d : Int) (f : Nat → Value) (i : Int) : turnK cE2 Try.prog 1 L5d k5d t5d 1 3 (S5d el1 o1 h1 A el2 o3 h3 W el o2 hd T d f i) =
    (bif decide (i < (A.length : Int)) then (if 0 ≤ i ∧ i < (A.length : Int) then (if i.toNat < A.length then (bif dB d && decide ((T.length : Int) = cn d) then
      (if 0 ≤ i ∧ i < (W.length : Int) then (if i.toNat < W.length then
      (bif !okD T d (A.getD i.toNat .bad) (W.getD i.toNat .bad) then some (.ret, S5d el1 o1 h1 A el2 o3 h3 W el o2 hd T d f i) else some (.normal, S5d el1 o1 h1 A el2 o3 h3 W el o2 hd T d f (wi (i + 1))))
      else none) else none) else none) else none) else none)
     else some (.exit 6, S5d el1 o1 h1 A el2 o3 h3 W el o2 hd T d f i)) := by kernel_rfl
end Go.Proofs.Ytddilbhjjlmopaa
