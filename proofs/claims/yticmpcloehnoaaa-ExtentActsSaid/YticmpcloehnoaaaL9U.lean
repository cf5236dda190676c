/- ExtentActs: a turn of its loop (chapter 9). -/
import Derived.Test.YticmpcloehnoaaaL9T
set_option linter.unusedVariables false
set_option linter.unusedSimpArgs false
namespace Go.Proofs.Yticmpcloehnoaaa
open Go Go.Sx Go.Fx
set_option maxRecDepth 100000
set_option linter.unusedVariables false
set_option linter.unusedSimpArgs false
abbrev cAc : List CK := [.int .i64, .int .i64, .int .i64]
noncomputable def L3 : Code := unl (lpOf Try.f3 0)
noncomputable def tab28 : List (Nat × LSpec) := [(1000028, spec28)]
theorem tab28_L3 : LoopsOk Try.prog (tabL tab28) L3 := by
  have h : keyed (tab28.map (·.1)) (nodes L3 ++ parts L3) = [G28] := by kernel_rfl
  exact tab_ok (fn := { Try.f3 with body := some L3 }) (cs := [G28]) h (by kernel_rfl) ⟨⟨by kernel_rfl, spec28_ok⟩, trivial⟩ L3 rfl
noncomputable def cAj : CallSem := (cX.withLoops (tabL tab28)).withJoin
theorem cAj_sound : cAj.Sound Try.prog := CallSem.withJoin_sound (CallSem.withLoops_sound cX_sound _)
abbrev k3 : List Nat := [1, 2, 6, 7, 9, 10, 11, 12]
abbrev t3 : List Nat := (List.range 6).map (· + 13) ++ (List.range 97).map (· + 47)
/-- nothing has been copied yet -/
def SX (el1 : TypeId) (o1 h1 : Bool) (l : List AV) (cop : Int) (z ow ow' hd hd' : Bool) (f : Nat → Value) (L : List AV) (i : Int) : St :=
  ⟨tmF k3 t3 [.vec 0, i64 cop, bv z, .ptr 0 0, .ptr 1 0, nilp, .vec 1, i64 i] f 155 0,
   ⟨[some ⟨51, ow, [.vec 2]⟩, some ⟨53, ow', [.vec 3]⟩], [some ⟨el1, true, cAc, 0, o1, h1, l⟩, some ⟨48, true, cR, 1, true, true, []⟩, some ⟨4, false, cB, 2, true, hd, L⟩, some ⟨4, false, cB, 3, true, hd', L⟩]⟩⟩
/-- a copy stands -/
def SY (el1 : TypeId) (o1 h1 : Bool) (l : List AV) (cop : Int) (z ow ow' hd hd' : Bool) (f : Nat → Value) (L V W : List AV) (i : Int) : St :=
  ⟨tmF k3 t3 [.vec 0, i64 cop, bv z, .ptr 0 0, .ptr 1 0, .ptr 2 0, .vec 4, i64 i] f 155 0,
   ⟨[some ⟨51, ow, [.vec 2]⟩, some ⟨53, ow', [.vec 3]⟩, some ⟨51, true, [.vec 5]⟩], [some ⟨el1, true, cAc, 0, o1, h1, l⟩, some ⟨48, true, cR, 1, true, true, []⟩, some ⟨4, false, cB, 2, true, hd, L⟩, some ⟨4, false, cB, 3, true, hd', L⟩, some ⟨48, true, cR, 4, true, true, W⟩, some ⟨4, false, cB, 5, true, true, V⟩]⟩⟩
noncomputable def rest3 {α : Type} (L : List AV) (cop i : Int) (A B : α) : Option α :=
  bif decide (L.length ≤ 65535) then (bif eqB L L && eqB ((runs L).map rV) (rowF L) && gF L then (bif i == cop then (bif decide (0 < L.length) && decide (L.length ≤ 65536) then some B else none) else some A) else none) else none
/-- the code's and the document's: with what is read for both, before and behind -/
noncomputable def both3 {α : Type} (p q : Int) (L : List AV) (e : Int) (L' : List AV) (cop i : Int) (F A B : List AV → α) : Option α :=
  bif decide (p = p) then (bif decide (q = q) then (bif decide (p = p) then (bif decide (q = q) then (bif decide (L.length ≤ 65536) then (bif decide (p = p) then (bif decide (q = q) then (bif decide (L.length ≤ 65536) then
    (bif e != e then some (F L') else rest3 L' cop i (A L') (B L')) else none) else none) else none) else none) else none) else none) else none) else none
noncomputable def tree3 {α : Type} (l L : List AV) (cop i : Int) (F A B : List AV → α) : Option α :=
  ix l i (bif cI (l.getD i.toNat .bad) 0 == 1 then (bif decide (0 < L.length) && decide (L.length ≤ 65535) then (bif decide (L.length ≤ 65536) then (bif (bif takeV L (cI (l.getD i.toNat .bad) 2) != takeV L (cI (l.getD i.toNat .bad) 2) then true else takeE L (cI (l.getD i.toNat .bad) 2) != takeE L (cI (l.getD i.toNat .bad) 2)) then some (F (takeL L (cI (l.getD i.toNat .bad) 2))) else
        rest3 (takeL L (cI (l.getD i.toNat .bad) 2)) cop i (A (takeL L (cI (l.getD i.toNat .bad) 2))) (B (takeL L (cI (l.getD i.toNat .bad) 2)))) else none) else none) else
    bif cI (l.getD i.toNat .bad) 0 == 2 then both3 (cI (l.getD i.toNat .bad) 1) (cI (l.getD i.toNat .bad) 2) L (turnE L (cI (l.getD i.toNat .bad) 1) (cI (l.getD i.toNat .bad) 2) false 5) (turnL L (cI (l.getD i.toNat .bad) 1) (cI (l.getD i.toNat .bad) 2) false) cop i F A B else
    bif cI (l.getD i.toNat .bad) 0 == 3 then both3 (cI (l.getD i.toNat .bad) 1) (cI (l.getD i.toNat .bad) 2) L (turnE L (cI (l.getD i.toNat .bad) 1) (cI (l.getD i.toNat .bad) 2) true 4) (turnL L (cI (l.getD i.toNat .bad) 1) (cI (l.getD i.toNat .bad) 2) true) cop i F A B else
    rest3 L cop i (A L) (B L))
theorem rawX (el1 : TypeId) (o1 h1 : Bool) (l : List AV) (cop : Int) (z ow ow' hd hd' : Bool) (f : Nat → Value) (L : List AV) (i : Int) : turnK cAj Try.prog 1 L3 k3 t3 2 4 (SX el1 o1 h1 l cop z ow ow' hd hd' f L i) =
    (bif decide (i < (l.length : Int)) then tree3 l L cop i (fun L => (.ret, SX el1 o1 h1 l cop false ow ow' hd hd' f L i)) (fun L => (.normal, SX el1 o1 h1 l cop z ow ow' hd hd' f L (wi (i + 1)))) (fun L => (.normal, SY el1 o1 h1 l cop z ow ow' hd hd' f L L ((runs L).map rV) (wi (i + 1))))
    else some (.exit 0, SX el1 o1 h1 l cop z ow ow' hd hd' f L i)) := by kernel_rfl
theorem rawY (el1 : TypeId) (o1 h1 : Bool) (l : List AV) (cop : Int) (z ow ow' hd hd' : Bool) (f : Nat → Value) (L V W : List AV) (i : Int) : turnK cAj Try.prog 1 L3 k3 t3 2 4 (SY el1 o1 h1 l cop z ow ow' hd hd' f L V W i) =
    (bif decide (i < (l.length : Int)) then tree3 l L cop i (fun L => (.ret, SY el1 o1 h1 l cop false ow ow' hd hd' f L V W i)) (fun L => (.normal, SY el1 o1 h1 l cop z ow ow' hd hd' f L V W (wi (i + 1)))) (fun L => (.normal, SY el1 o1 h1 l cop z ow ow' hd hd' f L L ((runs L).map rV) (wi (i + 1))))
    else some (.exit 0, SY el1 o1 h1 l cop z ow ow' hd hd' f L V W i)) := by kernel_rfl
end Go.Proofs.Yticmpcloehnoaaa
