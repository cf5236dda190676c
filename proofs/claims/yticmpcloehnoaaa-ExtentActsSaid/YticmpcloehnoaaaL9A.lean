/- extent's functions, the code's and the document's: turns of their loops (chapter 9). -/
import Derived.Test.YticmpcloehnoaaaTblC
import Derived.Test.YticmpcloehnoaaaFxB
import Derived.Test.YticmpcloehnoaaaSxThree
import Derived.Test.YticmpcloehnoaaaRows
import Derived.KernelRfl
set_option linter.unusedVariables false
set_option linter.unusedSimpArgs false
namespace Go.Proofs.Yticmpcloehnoaaa
open Go Go.Sx Go.Fx
set_option maxRecDepth 100000
set_option linter.unusedVariables false
set_option linter.unusedSimpArgs false
theorem mixed : Try.prog.follows .mixedOrders = true := by kernel_rfl
theorem nilS : CallSem.nil.Sound Try.prog := CallSem.nil_sound _
theorem jS : CallSem.nil.withJoin.Sound Try.prog := CallSem.withJoin_sound nilS
def nilp : AV := .lit (.pointer none)
abbrev cB : List CK := [.bool]
abbrev cR : List CK := [.int .i64, .int .i64]
def ix {α : Type} (W : List AV) (i : Int) (R : Option α) : Option α := if 0 ≤ i ∧ i < (W.length : Int) then (if i.toNat < W.length then R else none) else none
theorem ix_in {α : Type} {W : List AV} {j : Nat} (h : j < W.length) (R : Option α) : ix W (j : Int) R = R := by
  unfold ix
  rw [if_pos (by omega), if_pos (by simpa using h)]
/-- a map: a block, and its row -/
abbrev mW (bt : TypeId) (own hd : Bool) (L : List AV) : Mem := ⟨[some ⟨bt, own, [.vec 0]⟩], [some ⟨4, false, cB, 0, true, hd, L⟩]⟩
abbrev mR (bt : TypeId) (own o2 hd : Bool) (L : List AV) : Mem := ⟨[some ⟨bt, own, [.vec 0]⟩], [some ⟨4, false, cB, 0, o2, hd, L⟩]⟩
abbrev rB (o2 hd : Bool) (L : List AV) : Mem := ⟨[], [some ⟨4, false, cB, 0, o2, hd, L⟩]⟩
theorem s7 : Sx.Enters Try.prog 7 Try.f7 := ⟨Try.func7, by kernel_rfl, by kernel_rfl⟩
theorem s8 : Sx.Enters Try.prog 8 Try.f8 := ⟨Try.func8, by kernel_rfl, by kernel_rfl⟩
theorem s24 : Sx.Enters Try.prog 24 Try.f24 := ⟨Try.func24, by kernel_rfl, by kernel_rfl⟩
theorem s27 : Sx.Enters Try.prog 27 Try.f27 := ⟨Try.func27, by kernel_rfl, by kernel_rfl⟩
def emp (n : Int) : List AV := List.replicate n.toNat (bv false)
theorem new_raw (n : Int) : fnK CallSem.nil.withJoin Try.prog 5 Try.f7 [i64 n] ⟨[], []⟩ [] =
    (bif (bif decide (n < 1) then true else decide (n > 2048)) then some (.tup [nilp, i64 1], ⟨[], []⟩) else
     bif (true || decide (n = n)) && decide (0 ≤ n) && decide (n ≤ 65536) && true && true && true && true && true then some (.tup [.ptr 0 0, i64 0], mW 51 true true (emp n)) else none) := by kernel_rfl
theorem rnew_raw (n : Int) : fnK CallSem.nil.withJoin Try.prog 5 Try.f8 [i64 n] ⟨[], []⟩ [] =
    (bif (bif decide (n < 1) then true else decide (n > 2048)) then some (nilp, ⟨[], []⟩) else
     bif (true || decide (n = n)) && decide (0 ≤ n) && decide (n ≤ 65536) && true && true && true && true && true then some (.ptr 0 0, mW 53 true true (emp n)) else none) := by kernel_rfl
def mayR (L : List AV) (s n : Int) : Bool := bif (bif (bif decide (n ≥ 1) then decide (s ≥ 0) else false) then decide (s < (L.length : Int)) else false) then decide (n ≤ wi ((L.length : Int) - s)) else false
def inR (L : List AV) (s n : Int) : Bool := bif (bif (bif decide (n ≥ 1) then decide (s ≥ 0) else false) then decide (s ≤ (L.length : Int)) else false) then decide (n ≤ wi ((L.length : Int) - s)) else false
theorem may_raw (own o2 hd : Bool) (L : List AV) (s n : Int) : fnK CallSem.nil.withJoin Try.prog 5 Try.f27 [.ptr 0 0, i64 s, i64 n] (mR 51 own o2 hd L) [] = some (bv (mayR L s n), mR 51 own o2 hd L) := by kernel_rfl
theorem may_nil (s n : Int) : fnK CallSem.nil Try.prog 5 Try.f27 [nilp, i64 s, i64 n] ⟨[], []⟩ [] = some (bv false, ⟨[], []⟩) := by kernel_rfl
theorem in_raw (own o2 hd : Bool) (L : List AV) (s n : Int) : fnK CallSem.nil.withJoin Try.prog 5 Try.f24 [.ptr 0 0, i64 s, i64 n] (mR 53 own o2 hd L) [] = some (bv (inR L s n), mR 53 own o2 hd L) := by kernel_rfl
/-! set, mark -/
noncomputable def L23 : Code := unl (lpOf Try.f23 0)
noncomputable def L26 : Code := unl (lpOf Try.f26 0)
theorem nodes23 : nodes (Try.f23.body.getD .skip) = [.loop L23] := by kernel_rfl
theorem nodes26 : nodes (Try.f26.body.getD .skip) = [.loop L26] := by kernel_rfl
abbrev k23 : List Nat := [0, 1, 3, 9, 10]
abbrev t23 : List Nat := [8] ++ (List.range 12).map (· + 11)
def S23 (s : Int) (v : Bool) (n : Int) (own hd : Bool) (L : List AV) (f : Nat → Value) (i : Int) : St := ⟨tmF k23 t23 [.ptr 0 0, i64 s, bv v, i64 n, i64 i] f 23 0, mW 51 own hd L⟩
theorem raw23 (s : Int) (v : Bool) (n : Int) (own hd : Bool) (L : List AV) (f : Nat → Value) (i : Int) : turnK CallSem.nil Try.prog 1 L23 k23 t23 1 1 (S23 s v n own hd L f i) =
    (bif decide (i < n) then ix L (wi (s + i)) (some (.normal, S23 s v n own hd (L.set (wi (s + i)).toNat (bv v)) f (wi (i + 1)))) else some (.exit 0, S23 s v n own hd L f i)) := by kernel_rfl
abbrev k26 : List Nat := [0, 1, 2, 3, 8]
abbrev t26 : List Nat := (List.range 15).map (· + 9)
def S26 (s n : Int) (v : Bool) (own hd : Bool) (L : List AV) (f : Nat → Value) (i : Int) : St := ⟨tmF k26 t26 [.ptr 0 0, i64 s, i64 n, bv v, i64 i] f 24 0, mW 53 own hd L⟩
theorem raw26 (s n : Int) (v : Bool) (own hd : Bool) (L : List AV) (f : Nat → Value) (i : Int) : turnK CallSem.nil Try.prog 1 L26 k26 t26 1 1 (S26 s n v own hd L f i) =
    (bif decide (i < wi (s + n)) then ix L i (some (.normal, S26 s n v own hd (L.set i.toNat (bv v)) f (wi (i + 1)))) else some (.exit 0, S26 s n v own hd L f i)) := by kernel_rfl
/-! all, Index -/
noncomputable def L25 : Code := unl (lpOf Try.f25 0)
noncomputable def L31 : Code := unl (lpOf Try.f31 0)
theorem nodes25 : nodes (Try.f25.body.getD .skip) = [.loop L25] := by kernel_rfl
theorem nodes31 : nodes (Try.f31.body.getD .skip) = [.loop L31] := by kernel_rfl
abbrev k25 : List Nat := [0, 1, 2, 3, 8, 9]
abbrev t25 : List Nat := (List.range 17).map (· + 10)
def S25 (s n : Int) (v z own o2 hd : Bool) (L : List AV) (f : Nat → Value) (i : Int) : St := ⟨tmF k25 t25 [.ptr 0 0, i64 s, i64 n, bv v, bv z, i64 i] f 27 0, mR 53 own o2 hd L⟩
theorem raw25 (s n : Int) (v z own o2 hd : Bool) (L : List AV) (f : Nat → Value) (i : Int) : turnK CallSem.nil Try.prog 1 L25 k25 t25 1 1 (S25 s n v z own o2 hd L f i) =
    (bif decide (i < wi (s + n)) then ix L i (bif atB L i != v then some (.ret, S25 s n v false own o2 hd L f i) else some (.normal, S25 s n v z own o2 hd L f (wi (i + 1)))) else some (.exit 0, S25 s n v z own o2 hd L f i)) := by kernel_rfl
abbrev k31 : List Nat := [0, 1, 4, 7, 8]
abbrev t31 : List Nat := [5] ++ (List.range 10).map (· + 9)
def S31 (v : Bool) (z n : Int) (o2 hd : Bool) (L : List AV) (f : Nat → Value) (i : Int) : St := ⟨tmF k31 t31 [.vec 0, bv v, i64 z, i64 n, i64 i] f 19 0, rB o2 hd L⟩
theorem raw31 (v : Bool) (z n : Int) (o2 hd : Bool) (L : List AV) (f : Nat → Value) (i : Int) : turnK CallSem.nil Try.prog 1 L31 k31 t31 0 1 (S31 v z n o2 hd L f i) =
    (bif decide (i < n) then ix L i (bif v == atB L i then some (.ret, S31 v i n o2 hd L f i) else some (.normal, S31 v z n o2 hd L f (wi (i + 1)))) else some (.exit 0, S31 v z n o2 hd L f i)) := by kernel_rfl
/-! Used -/
noncomputable def L16 : Code := unl (lpOf Try.f16 0)
noncomputable def L17 : Code := unl (lpOf Try.f17 0)
theorem nodes16 : nodes (Try.f16.body.getD .skip) = [.loop L16] := by kernel_rfl
theorem nodes17 : nodes (Try.f17.body.getD .skip) = [.loop L17] := by kernel_rfl
abbrev k16 : List Nat := [2, 10, 11, 12]
abbrev t16 : List Nat := [4] ++ (List.range 8).map (· + 13)
def S16 (n : Int) (o2 hd : Bool) (L : List AV) (f : Nat → Value) (c i : Int) : St := ⟨tmF k16 t16 [i64 c, .vec 0, i64 n, i64 i] f 21 0, rB o2 hd L⟩
theorem raw16 (n : Int) (o2 hd : Bool) (L : List AV) (f : Nat → Value) (c i : Int) : turnK CallSem.nil Try.prog 1 L16 k16 t16 0 1 (S16 n o2 hd L f c i) =
    (bif decide (i < n) then ix L i (bif atB L i then some (.normal, S16 n o2 hd L f (wi (c + 1)) (wi (i + 1))) else some (.normal, S16 n o2 hd L f c (wi (i + 1)))) else some (.exit 0, S16 n o2 hd L f c i)) := by kernel_rfl
abbrev k17 : List Nat := [0, 3, 4]
abbrev t17 : List Nat := (List.range 19).map (· + 5)
def S17 (own o2 hd : Bool) (L : List AV) (f : Nat → Value) (c i : Int) : St := ⟨tmF k17 t17 [.ptr 0 0, i64 c, i64 i] f 24 0, mR 53 own o2 hd L⟩
theorem raw17 (own o2 hd : Bool) (L : List AV) (f : Nat → Value) (c i : Int) : turnK CallSem.nil Try.prog 1 L17 k17 t17 1 1 (S17 own o2 hd L f c i) =
    (bif decide (i < (L.length : Int)) then ix L i (bif atB L i then some (.normal, S17 own o2 hd L f (wi (c + 1)) (wi (i + 1))) else some (.normal, S17 own o2 hd L f c (wi (i + 1)))) else some (.exit 0, S17 own o2 hd L f c i)) := by kernel_rfl
/-! same -/
noncomputable def L18 : Code := unl (lpOf Try.f18 0)
theorem nodes18 : nodes (Try.f18.body.getD .skip) = [.loop L18] := by kernel_rfl
abbrev k18 : List Nat := [0, 1, 4, 5]
abbrev t18 : List Nat := (List.range 15).map (· + 11)
def S18 (el el' : TypeId) (o h o' h' : Bool) (L X : List AV) (b : Bool) (f : Nat → Value) (i : Int) : St :=
  ⟨tmF k18 t18 [.vec 0, .vec 1, bv b, i64 i] f 26 0, ⟨[], [some ⟨el, true, cR, 0, o, h, L⟩, some ⟨el', true, cR, 1, o', h', X⟩]⟩⟩
theorem raw18 (el el' : TypeId) (o h o' h' : Bool) (L X : List AV) (b : Bool) (f : Nat → Value) (i : Int) : turnK CallSem.nil Try.prog 1 L18 k18 t18 0 2 (S18 el el' o h o' h' L X b f i) =
    (bif decide (i < (L.length : Int)) then ix L i (ix X i (bif !(cI (L.getD i.toNat .bad) 0 == cI (X.getD i.toNat .bad) 0 && (cI (L.getD i.toNat .bad) 1 == cI (X.getD i.toNat .bad) 1 && true)) then some (.ret, S18 el el' o h o' h' L X false f i) else some (.normal, S18 el el' o h o' h' L X b f (wi (i + 1))))) else some (.exit 0, S18 el el' o h o' h' L X b f i)) := by kernel_rfl
end Go.Proofs.Yticmpcloehnoaaa
