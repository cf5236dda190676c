/- ExtentApart: a turn of its loop (chapter 9). -/
import Derived.Test.YticmpcloehnoaaaL9W
set_option linter.unusedVariables false
set_option linter.unusedSimpArgs false
namespace Go.Proofs.Yticmpcloehnoaaa
open Go Go.Sx Go.Fx
set_option maxRecDepth 100000
set_option linter.unusedVariables false
set_option linter.unusedSimpArgs false
abbrev kM : List Nat := [0, 1, 2, 6, 7, 9, 10, 11]
abbrev tM : List Nat := (List.range 8).map (· + 12) ++ (List.range 112).map (· + 50)
def SM (n : Int) (el1 : TypeId) (o1 h1 : Bool) (sz : List AV) (el2 : TypeId) (o2 h2 : Bool) (bk : List AV) (z ow hO hd : Bool) (f : Nat → Value) (O L : List AV) (used i : Int) : St :=
  ⟨tmF kM tM [i64 n, .vec 0, .vec 1, bv z, .ptr 0 0, .vec 2, i64 used, i64 i] f 163 0,
   ⟨[some ⟨51, ow, [.vec 3]⟩], [some ⟨el1, false, cI1, 0, o1, h1, sz⟩, some ⟨el2, false, cB, 1, o2, h2, bk⟩, some ⟨3, false, cI1, 2, true, hO, O⟩, some ⟨4, false, cB, 3, true, hd, L⟩]⟩⟩
def gM (O : List AV) (n : Int) : Bool := decide (n = (O.length : Int)) && decide (O.length ≤ 65536)
/-- the end of a turn: how much is used -/
def endM {α : Type} (L : List AV) (used : Int) (F A : α) : Option α := bif decide (L.length ≤ 65536) then (bif ((usedN L L.length : Nat) : Int) != used then some F else some A) else none
def giveM {α : Type} (O L : List AV) (s k used : Int) (F A : List AV → List AV → Int → α) : Option α :=
  bif decide (L.length ≤ 65536) then (bif turnE L s k true 4 != 0 then some (F O (turnL L s k true) used) else
    (bif decide ((turnL L s k true).length ≤ 65536) then (bif turnE (turnL L s k true) s k true 4 != 4 then some (F O (turnL (turnL L s k true) s k true) used) else
      (bif decide (s = s) && okS O s k then endM (turnL (turnL L s k true) s k true) (wi (used - k)) (F (setI O s.toNat 0 k.toNat) (turnL (turnL L s k true) s k true) (wi (used - k))) (A (setI O s.toNat 0 k.toNat) (turnL (turnL L s k true) s k true) (wi (used - k))) else none)) else none)) else none
def tookM {α : Type} (bk O L : List AV) (s k used i : Int) (F A : List AV → List AV → Int → α) : Option α :=
  bif decide (s = s) && okS O s k then (bif decide (i < (bk.length : Int)) then ix bk i (bif atB bk i then giveM (setI O s.toNat (wi (i + 1)) k.toNat) L s k (wi (used + k)) F A else endM L (wi (used + k)) (F (setI O s.toNat (wi (i + 1)) k.toNat) L (wi (used + k))) (A (setI O s.toNat (wi (i + 1)) k.toNat) L (wi (used + k))))
    else endM L (wi (used + k)) (F (setI O s.toNat (wi (i + 1)) k.toNat) L (wi (used + k))) (A (setI O s.toNat (wi (i + 1)) k.toNat) L (wi (used + k)))) else none
def kOf (sz : List AV) (i : Int) : Int := wi (1 + rnd (gI sz i) 12)
def treeM {α : Type} (n : Int) (sz bk O L : List AV) (used i : Int) (F A : List AV → List AV → Int → α) : Option α :=
  ix sz i (bif gM O n then (bif decide (0 < L.length) && decide (L.length ≤ 65535) then (
    bif decide ((srchR O (kOf sz i)).1 < 0) then (bif takeE L (kOf sz i) != 6 then some (F O (takeL L (kOf sz i)) used) else (bif takeV L (kOf sz i) != 0 then some (F O (takeL L (kOf sz i)) used) else some (A O (takeL L (kOf sz i)) used))) else
    (bif takeE L (kOf sz i) != 0 then some (F O (takeL L (kOf sz i)) used) else (bif takeV L (kOf sz i) != (srchR O (kOf sz i)).1 then some (F O (takeL L (kOf sz i)) used) else
      tookM bk O (takeL L (kOf sz i)) (takeV L (kOf sz i)) (kOf sz i) used i F A))) else none) else none)
theorem rawM (n : Int) (el1 : TypeId) (o1 h1 : Bool) (sz : List AV) (el2 : TypeId) (o2 h2 : Bool) (bk : List AV) (z ow hO hd : Bool) (f : Nat → Value) (O L : List AV) (used i : Int) : turnK cAi Try.prog 1 LM kM tM 1 4 (SM n el1 o1 h1 sz el2 o2 h2 bk z ow hO hd f O L used i) =
    (bif decide (i < (sz.length : Int)) then treeM n sz bk O L used i (fun O L used => (.ret, SM n el1 o1 h1 sz el2 o2 h2 bk false ow hO hd f O L used i)) (fun O L used => (.normal, SM n el1 o1 h1 sz el2 o2 h2 bk z ow hO hd f O L used (wi (i + 1))))
    else some (.exit 0, SM n el1 o1 h1 sz el2 o2 h2 bk z ow hO hd f O L used i)) := by kernel_rfl
end Go.Proofs.Yticmpcloehnoaaa
