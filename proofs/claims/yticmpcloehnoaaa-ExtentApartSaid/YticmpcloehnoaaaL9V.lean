/- ExtentApart: turns of its inner loops (chapter 9). -/
import Derived.Test.YticmpcloehnoaaaL9S
set_option linter.unusedVariables false
set_option linter.unusedSimpArgs false
namespace Go.Proofs.Yticmpcloehnoaaa
open Go Go.Sx Go.Fx
set_option maxRecDepth 100000
set_option linter.unusedVariables false
set_option linter.unusedSimpArgs false
noncomputable def LM : Code := unl (lpOf Try.f4 0)
noncomputable def LS : Code := unl (lpOf Try.f4 1)
noncomputable def LO : Code := unl (lpOf Try.f4 2)
noncomputable def LZ : Code := unl (lpOf Try.f4 3)
theorem nodes4 : nodes (Try.f4.body.getD .skip) = [.loop LM, .loop LS, .loop LO, .loop LZ] := by kernel_rfl
abbrev cI1 : List CK := [.int .i64]
def gI (O : List AV) (i : Int) : Int := (O.getD i.toNat .bad).getInt
/-! the search -/
abbrev kS : List Nat := [0, 9, 12, 13, 14, 15]
abbrev tS : List Nat := (List.range 23).map (· + 62)
def SS (n k : Int) (el : TypeId) (o h : Bool) (O : List AV) (f : Nat → Value) (want run i : Int) : St :=
  ⟨tmF kS tS [i64 n, .vec 0, i64 k, i64 want, i64 run, i64 i] f 163 0, ⟨[], [some ⟨el, false, cI1, 0, o, h, O⟩]⟩⟩
def tailS (k want r i : Int) : Int := bif r == k then wi (wi (i - k) + 1) else want
theorem rawS (n k : Int) (el : TypeId) (o h : Bool) (O : List AV) (f : Nat → Value) (want run i : Int) : turnK CallSem.nil Try.prog 1 LS kS tS 0 1 (SS n k el o h O f want run i) =
    (bif decide (i < n) then (bif decide (want < 0) then ix O i (bif gI O i != 0 then (bif (0 : Int) == k then some (.normal, SS n k el o h O f (wi (wi (i - k) + 1)) 0 (wi (i + 1))) else some (.normal, SS n k el o h O f want 0 (wi (i + 1)))) else
      (bif wi (run + 1) == k then some (.normal, SS n k el o h O f (wi (wi (i - k) + 1)) (wi (run + 1)) (wi (i + 1))) else some (.normal, SS n k el o h O f want (wi (run + 1)) (wi (i + 1))))) else some (.exit 2, SS n k el o h O f want run i)) else some (.exit 2, SS n k el o h O f want run i)) := by kernel_rfl
/-! the owners -/
abbrev kO : List Nat := [9, 11, 12, 16, 18]
abbrev tO : List Nat := (List.range 12).map (· + 107)
def SO (j k s : Int) (el : TypeId) (h : Bool) (f : Nat → Value) (O : List AV) (i : Int) : St :=
  ⟨tmF kO tO [.vec 0, i64 j, i64 k, i64 s, i64 i] f 163 0, ⟨[], [some ⟨el, false, cI1, 0, true, h, O⟩]⟩⟩
theorem rawO (j k s : Int) (el : TypeId) (h : Bool) (f : Nat → Value) (O : List AV) (i : Int) : turnK CallSem.nil Try.prog 1 LO kO tO 0 1 (SO j k s el h f O i) =
    (bif decide (i < wi (s + k)) then ix O i (some (.normal, SO j k s el h f (O.set i.toNat (i64 (wi (j + 1)))) (wi (i + 1)))) else some (.exit 4, SO j k s el h f O i)) := by kernel_rfl
abbrev kZ : List Nat := [9, 12, 16, 19]
abbrev tZ : List Nat := (List.range 10).map (· + 145)
def SZ (k s : Int) (el : TypeId) (h : Bool) (f : Nat → Value) (O : List AV) (i : Int) : St :=
  ⟨tmF kZ tZ [.vec 0, i64 k, i64 s, i64 i] f 163 0, ⟨[], [some ⟨el, false, cI1, 0, true, h, O⟩]⟩⟩
theorem rawZ (k s : Int) (el : TypeId) (h : Bool) (f : Nat → Value) (O : List AV) (i : Int) : turnK CallSem.nil Try.prog 1 LZ kZ tZ 0 1 (SZ k s el h f O i) =
    (bif decide (i < wi (s + k)) then ix O i (some (.normal, SZ k s el h f (O.set i.toNat (i64 0)) (wi (i + 1)))) else some (.exit 6, SZ k s el h f O i)) := by kernel_rfl
end Go.Proofs.Yticmpcloehnoaaa
