/-
  No cell of these rows narrows 'for every input' (looked for: loops, veiled, ifaces, maps, wideKeys, modest, calm, conditions, laid).
  DERIVED. THE GIVEN ROWS OF THIS SEAT. 3 by the template 'for every input the law returns true; each argument reads behind the call as it read before'; 0 by the template 'total and deterministic' (their statements: YticmpcloehnoaaaTotals.lean).
  GIVEN WITH THE SEED: the statements are not yours to turn. If you find one false, say at which input.
  Laid BY PROGRAM, IN A SANDBOX (cutbox-rows.mjs): the forced cells as the released guide's own fill.sh prints them over the translation a18df61c2ef771cc… (all of the seat's roots in one cut). By AI agents, Wed Nov 11 2026. No macro, syntax, notation, axiom, sorry.
-/
import Derived.Test.YticmpcloehnoaaaChecked
import GoSem.Claim
import GoSem.ClaimJoined
import GoSem.ClaimMapViews
import Derived.JoinedTies
import Derived.KernelRfl
namespace Go.Proofs.Yticmpcloehnoaaa
/- THE CELL 'sum', in the pinned program and in every row, IS THE sha256 OF THE DUMP (.gsa) THAT YticmpcloehnoaaaProg.lean LOADS. Nothing in Lean hashes anything: it is a label: what it is worth is what the hold of that sum in a sandbox is worth. -/
noncomputable def Try.pinned : Pinned := { name := "yticmpcloehnoaaa", sum := "a18df61c2ef771cc0e9762b03629aab4b60f2c041cd3bfcb0d1997777700e847", checked := Try.checked }
namespace Rows
def none {H : Type} : Left H := { results := [], args := [] }

/-- 'wainscotlaw9.ExtentActs': WHATEVER THE INPUT: true; the input reads as it did. -/
def extentActsSpec : ChangeSpec := { name := "extentActs", fn := fun _ => fun
  | [d1, d2, d3] => { results := [.lit (.bool true)], args := [d1, d2, d3] }
  | _ => none }
def extentActsRow : OpenClaim := { program := "yticmpcloehnoaaa", sum := "a18df61c2ef771cc0e9762b03629aab4b60f2c041cd3bfcb0d1997777700e847", func := "wainscot/wainscotlaw9.ExtentActs", spec := "extentActs", unfollowed := true, recurses := true, apart := false }
def ExtentActsSaid : Prop := extentActsRow.holds Try.pinned (OpenSpec.ofChange extentActsSpec)

/-- ITS FALSE NEIGHBOUR: 'it returns false'. Refute it at one input. -/
def extentActsWrong : ChangeSpec := { name := "extentActs", fn := fun _ => fun
  | [d1, d2, d3] => { results := [.lit (.bool false)], args := [d1, d2, d3] }
  | _ => none }
def ExtentActsWrongFalsely : Prop := extentActsRow.holds Try.pinned (OpenSpec.ofChange extentActsWrong)

/-- 'wainscotlaw9.ExtentApart': WHATEVER THE INPUT: true; the input reads as it did. -/
def extentApartSpec : ChangeSpec := { name := "extentApart", fn := fun _ => fun
  | [d1, d2, d3] => { results := [.lit (.bool true)], args := [d1, d2, d3] }
  | _ => none }
def extentApartRow : OpenClaim := { program := "yticmpcloehnoaaa", sum := "a18df61c2ef771cc0e9762b03629aab4b60f2c041cd3bfcb0d1997777700e847", func := "wainscot/wainscotlaw9.ExtentApart", spec := "extentApart", unfollowed := true, recurses := true, apart := false }
def ExtentApartSaid : Prop := extentApartRow.holds Try.pinned (OpenSpec.ofChange extentApartSpec)

/-- ITS FALSE NEIGHBOUR: 'it returns false'. Refute it at one input. -/
def extentApartWrong : ChangeSpec := { name := "extentApart", fn := fun _ => fun
  | [d1, d2, d3] => { results := [.lit (.bool false)], args := [d1, d2, d3] }
  | _ => none }
def ExtentApartWrongFalsely : Prop := extentApartRow.holds Try.pinned (OpenSpec.ofChange extentApartWrong)

/-- 'wainscotlaw9.ExtentFree': WHATEVER THE INPUT: true; the input reads as it did. -/
def extentFreeSpec : ChangeSpec := { name := "extentFree", fn := fun _ => fun
  | [d1, d2] => { results := [.lit (.bool true)], args := [d1, d2] }
  | _ => none }
def extentFreeRow : OpenClaim := { program := "yticmpcloehnoaaa", sum := "a18df61c2ef771cc0e9762b03629aab4b60f2c041cd3bfcb0d1997777700e847", func := "wainscot/wainscotlaw9.ExtentFree", spec := "extentFree", unfollowed := true, recurses := true, apart := false }
def ExtentFreeSaid : Prop := extentFreeRow.holds Try.pinned (OpenSpec.ofChange extentFreeSpec)

/-- ITS FALSE NEIGHBOUR: 'it returns false'. Refute it at one input. -/
def extentFreeWrong : ChangeSpec := { name := "extentFree", fn := fun _ => fun
  | [d1, d2] => { results := [.lit (.bool false)], args := [d1, d2] }
  | _ => none }
def ExtentFreeWrongFalsely : Prop := extentFreeRow.holds Try.pinned (OpenSpec.ofChange extentFreeWrong)

/- THE SECOND FORM. 'bulk': how many values and letters a reading holds, each counted each time it is reached (what is shared counts as often as it is met; a slice's spare places count too). A statement '..UptoSaid' is the law's where the arguments, and the package variables that the reading takes, are together of bulk at most 1048576: NARROWER than '..Said'. Prove '..Said' where nothing that the law and all that it calls make is longer than what came in: it says more and counts as full. Else prove '..UptoSaid'. A law counts once. -/
mutual
def uptoBulk {H : Type} : DataW H → Nat
  | .lit (.string bytes) => bytes.length + 1
  | .lit _ => 1
  | .nil => 1
  | .ptr d => uptoBulk d + 1
  | .slice elems spare => uptoBulkAll elems + uptoBulkAll spare + 1
  | .agg parts => uptoBulkAll parts + 1
  | .iface _ d => uptoBulk d + 1
  | .map entries => uptoBulkEntries entries + 1
  | .held _ => 1
def uptoBulkAll {H : Type} : List (DataW H) → Nat
  | [] => 0
  | d :: r => uptoBulk d + uptoBulkAll r
def uptoBulkEntries {H : Type} : List (Lit × DataW H) → Nat
  | [] => 0
  | x :: r => uptoBulkEntry x + uptoBulkEntries r
def uptoBulkEntry {H : Type} : Lit × DataW H → Nat
  | (.string bytes, d) => bytes.length + uptoBulk d + 1
  | (_, d) => uptoBulk d + 1
 end
def uptoSmall : (H : Type) → List (DataW H) → Bool := fun _ ds => decide (uptoBulkAll ds ≤ 1048576)
def OpenSpec.upto (s : _root_.Go.ChangeSpec) : _root_.Go.OpenSpec := { _root_.Go.OpenSpec.ofChange s with cond := some uptoSmall }

/-- 'wainscotlaw9.ExtentActs', WHERE WHAT IT READS IS OF BULK AT MOST 1048576: true; the input reads as it did. -/
def extentActsUptoRow : OpenClaim := { program := "yticmpcloehnoaaa", sum := "a18df61c2ef771cc0e9762b03629aab4b60f2c041cd3bfcb0d1997777700e847", func := "wainscot/wainscotlaw9.ExtentActs", spec := "extentActs", unfollowed := true, recurses := true, apart := false, narrowed := true }
def ExtentActsUptoSaid : Prop := extentActsUptoRow.holds Try.pinned (OpenSpec.upto extentActsSpec)

/-- 'wainscotlaw9.ExtentApart', WHERE WHAT IT READS IS OF BULK AT MOST 1048576: true; the input reads as it did. -/
def extentApartUptoRow : OpenClaim := { program := "yticmpcloehnoaaa", sum := "a18df61c2ef771cc0e9762b03629aab4b60f2c041cd3bfcb0d1997777700e847", func := "wainscot/wainscotlaw9.ExtentApart", spec := "extentApart", unfollowed := true, recurses := true, apart := false, narrowed := true }
def ExtentApartUptoSaid : Prop := extentApartUptoRow.holds Try.pinned (OpenSpec.upto extentApartSpec)

/-- 'wainscotlaw9.ExtentFree', WHERE WHAT IT READS IS OF BULK AT MOST 1048576: true; the input reads as it did. -/
def extentFreeUptoRow : OpenClaim := { program := "yticmpcloehnoaaa", sum := "a18df61c2ef771cc0e9762b03629aab4b60f2c041cd3bfcb0d1997777700e847", func := "wainscot/wainscotlaw9.ExtentFree", spec := "extentFree", unfollowed := true, recurses := true, apart := false, narrowed := true }
def ExtentFreeUptoSaid : Prop := extentFreeUptoRow.holds Try.pinned (OpenSpec.upto extentFreeSpec)

end Rows
end Go.Proofs.Yticmpcloehnoaaa
