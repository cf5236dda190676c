/- ExtentFree: turns of its loops (chapter 9). -/
import Derived.Test.YticmpcloehnoaaaL9O
set_option linter.unusedVariables false
set_option linter.unusedSimpArgs false
namespace Go.Proofs.Yticmpcloehnoaaa
open Go Go.Sx Go.Fx
set_option maxRecDepth 100000
set_option linter.unusedVariables false
set_option linter.unusedSimpArgs false
noncomputable def LA : Code := unl (lpOf Try.f5 0)
noncomputable def LB : Code := unl (lpOf Try.f5 1)
noncomputable def LC : Code := unl (lpOf Try.f5 2)
theorem nodes5 : nodes (Try.f5.body.getD .skip) = [.loop LA, .loop LB, .loop LC] := by kernel_rfl
abbrev kA : List Nat := [0, 1, 5, 7]
abbrev tA : List Nat := (List.range 22).map (· + 36)
def SA (n : Int) (el1 : TypeId) (o1 h1 : Bool) (l : List AV) (own hd : Bool) (f : Nat → Value) (L : List AV) (i : Int) : St :=
  ⟨tmF kA tA [i64 n, .vec 0, .ptr 0 0, i64 i] f 152 0, ⟨[some ⟨51, own, [.vec 1]⟩], [some ⟨el1, true, cR, 0, o1, h1, l⟩, some ⟨4, false, cB, 1, true, hd, L⟩]⟩⟩
def stepA (n : Int) (L : List AV) (x : AV) : List AV := turnL L (rnd (cI x 0) n) (wi (1 + rnd (cI x 1) 5)) false
theorem rawA (n : Int) (el1 : TypeId) (o1 h1 : Bool) (l : List AV) (own hd : Bool) (f : Nat → Value) (L : List AV) (i : Int) : turnK cX Try.prog 1 LA kA tA 1 2 (SA n el1 o1 h1 l own hd f L i) =
    (bif decide (i < (l.length : Int)) then ix l i (bif decide (0 < n) && decide (n ≤ 4294967296) then ix l i (bif true && decide (L.length ≤ 65536) then some (.normal, SA n el1 o1 h1 l own hd f (stepA n L (l.getD i.toNat .bad)) (wi (i + 1))) else none) else none) else some (.exit 0, SA n el1 o1 h1 l own hd f L i)) := by kernel_rfl
abbrev kB : List Nat := [4, 8, 9, 10]
abbrev tB : List Nat := (List.range 44).map (· + 60)
def SB (z : Bool) (el1 : TypeId) (o1 h1 : Bool) (r : List AV) (f : Nat → Value) (s i : Int) : St :=
  ⟨tmF kB tB [bv z, .vec 0, i64 s, i64 i] f 152 0, ⟨[], [some ⟨el1, true, cR, 0, o1, h1, r⟩]⟩⟩
theorem rawB (z : Bool) (el1 : TypeId) (o1 h1 : Bool) (r : List AV) (f : Nat → Value) (s i : Int) : turnK cX Try.prog 1 LB kB tB 0 1 (SB z el1 o1 h1 r f s i) =
    (bif decide (i < (r.length : Int)) then ix r i (bif decide (cI (r.getD i.toNat .bad) 1 < 1) then some (.ret, SB false el1 o1 h1 r f s i) else
      bif decide (i > 0) then ix r (wi (i - 1)) (ix r (wi (i - 1)) (ix r i (bif decide (wi (cI (r.getD (wi (i - 1)).toNat .bad) 0 + cI (r.getD (wi (i - 1)).toNat .bad) 1) ≥ cI (r.getD i.toNat .bad) 0) then some (.ret, SB false el1 o1 h1 r f s i) else
        ix r i (some (.normal, SB z el1 o1 h1 r f (wi (s + cI (r.getD i.toNat .bad) 1)) (wi (i + 1))))))) else ix r i (some (.normal, SB z el1 o1 h1 r f (wi (s + cI (r.getD i.toNat .bad) 1)) (wi (i + 1))))) else some (.exit 2, SB z el1 o1 h1 r f s i)) := by kernel_rfl
abbrev kC : List Nat := [4, 8, 11, 12]
abbrev tC : List Nat := (List.range 19).map (· + 114)
def SC (z : Bool) (el1 : TypeId) (o1 h1 : Bool) (r : List AV) (own hd : Bool) (f : Nat → Value) (L : List AV) (i : Int) : St :=
  ⟨tmF kC tC [bv z, .vec 0, .ptr 0 0, i64 i] f 152 0, ⟨[some ⟨51, own, [.vec 1]⟩], [some ⟨el1, true, cR, 0, o1, h1, r⟩, some ⟨4, false, cB, 1, true, hd, L⟩]⟩⟩
theorem rawC (z : Bool) (el1 : TypeId) (o1 h1 : Bool) (r : List AV) (own hd : Bool) (f : Nat → Value) (L : List AV) (i : Int) : turnK cX Try.prog 1 LC kC tC 1 2 (SC z el1 o1 h1 r own hd f L i) =
    (bif decide (i < (r.length : Int)) then ix r i (ix r i (bif true && decide (L.length ≤ 65536) then (bif turnE L (cI (r.getD i.toNat .bad) 0) (cI (r.getD i.toNat .bad) 1) false 5 != 0 then some (.ret, SC false el1 o1 h1 r own hd f (turnL L (cI (r.getD i.toNat .bad) 0) (cI (r.getD i.toNat .bad) 1) false) i) else
      some (.normal, SC z el1 o1 h1 r own hd f (turnL L (cI (r.getD i.toNat .bad) 0) (cI (r.getD i.toNat .bad) 1) false) (wi (i + 1)))) else none)) else some (.exit 4, SC z el1 o1 h1 r own hd f L i)) := by kernel_rfl
end Go.Proofs.Yticmpcloehnoaaa
