/- the document's Take and Free: turns (chapter 9). -/
import Derived.Test.YticmpcloehnoaaaL9E
set_option linter.unusedVariables false
set_option linter.unusedSimpArgs false
namespace Go.Proofs.Yticmpcloehnoaaa
open Go Go.Sx Go.Fx
set_option maxRecDepth 100000
set_option linter.unusedVariables false
set_option linter.unusedSimpArgs false
noncomputable def L10 : Code := unl (lpOf Try.f10 0)
noncomputable def L15 : Code := unl (lpOf Try.f15 0)
theorem nodes10 : nodes (Try.f10.body.getD .skip) = [.loop L10] := by kernel_rfl
theorem nodes15 : nodes (Try.f15.body.getD .skip) = [.loop L15] := by kernel_rfl
abbrev k10 : List Nat := [0, 1, 4, 5, 6]
abbrev t10 : List Nat := (List.range 15).map (· + 9)
def S10 (n z4 z5 : Int) (own hd : Bool) (L : List AV) (f : Nat → Value) (i : Int) : St := ⟨tmF k10 t10 [.ptr 0 0, i64 n, i64 z4, i64 z5, i64 i] f 24 0, mW 53 own hd L⟩
theorem raw10 (n z4 z5 : Int) (own hd : Bool) (L : List AV) (f : Nat → Value) (i : Int) : turnK CF Try.prog 1 L10 k10 t10 1 1 (S10 n z4 z5 own hd L f i) =
    (bif true && decide (L.length ≤ 65536) then (bif mayB L i n then (bif true && okS L i n then (bif allN L i.toNat false n.toNat then (bif true && okS L i n then some (.ret, S10 n i 0 own hd (setN L i.toNat true n.toNat) f i) else none) else some (.normal, S10 n z4 z5 own hd L f (wi (i + 1)))) else none) else some (.exit 0, S10 n z4 z5 own hd L f i)) else none) := by kernel_rfl
abbrev k15 : List Nat := [0, 3, 4]
abbrev t15 : List Nat := (List.range 46).map (· + 5)
def S15 (own o2 hd : Bool) (L : List AV) (f : Nat → Value) (acc : List AV) (i : Int) : St := ⟨tmF k15 t15 [.ptr 0 0, .vec 2, i64 i] f 52 0, ⟨[some ⟨53, own, [.vec 1]⟩], [none, some ⟨4, false, cB, 1, o2, hd, L⟩, some ⟨48, true, cR, 2, true, true, acc⟩]⟩⟩
end Go.Proofs.Yticmpcloehnoaaa
