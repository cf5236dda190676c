/-
  No cell of these rows narrows 'for every input' (looked for: loops, veiled, ifaces, maps, wideKeys, modest, calm, conditions, laid).
  DERIVED. THE GIVEN ROWS OF THIS SEAT. 3 by the template 'for every input the law returns true; each argument reads behind the call as it read before'; 0 by the template 'total and deterministic' (their statements: YthknakcbkkjhpaaTotals.lean).
  GIVEN WITH THE SEED: the statements are not yours to turn. If you find one false, say at which input.
  Laid BY PROGRAM, IN A SANDBOX (cutbox-rows.mjs): the forced cells as the released guide's own fill.sh prints them over the translation aefa870aaf865d27… (all of the seat's roots in one cut). By AI agents, Wed Nov 11 2026. No macro, syntax, notation, axiom, sorry.
-/
import Derived.Test.YthknakcbkkjhpaaChecked
import GoSem.Claim
import GoSem.ClaimJoined
import GoSem.ClaimMapViews
import Derived.JoinedTies
import Derived.KernelRfl
namespace Go.Proofs.Ythknakcbkkjhpaa
/- THE CELL 'sum', in the pinned program and in every row, IS THE sha256 OF THE DUMP (.gsa) THAT YthknakcbkkjhpaaProg.lean LOADS. Nothing in Lean hashes anything: it is a label: what it is worth is what the hold of that sum in a sandbox is worth. -/
noncomputable def Try.pinned : Pinned := { name := "ythknakcbkkjhpaa", sum := "aefa870aaf865d27f802780f08154b1ea06668ae42aad3084ba8f9b93a8b6e0e", checked := Try.checked }
namespace Rows
def none {H : Type} : Left H := { results := [], args := [] }

/-- 'wainscotlaw11.PageTells': WHATEVER THE INPUT: true; the input reads as it did. -/
def pageTellsSpec : ChangeSpec := { name := "pageTells", fn := fun _ => fun
  | [d1, d2, d3, d4, d5, d6] => { results := [.lit (.bool true)], args := [d1, d2, d3, d4, d5, d6] }
  | _ => none }
def pageTellsRow : OpenClaim := { program := "ythknakcbkkjhpaa", sum := "aefa870aaf865d27f802780f08154b1ea06668ae42aad3084ba8f9b93a8b6e0e", func := "wainscot/wainscotlaw11.PageTells", spec := "pageTells", unfollowed := true, recurses := true, apart := false }
def PageTellsSaid : Prop := pageTellsRow.holds Try.pinned (OpenSpec.ofChange pageTellsSpec)

/-- ITS FALSE NEIGHBOUR: 'it returns false'. Refute it at one input. -/
def pageTellsWrong : ChangeSpec := { name := "pageTells", fn := fun _ => fun
  | [d1, d2, d3, d4, d5, d6] => { results := [.lit (.bool false)], args := [d1, d2, d3, d4, d5, d6] }
  | _ => none }
def PageTellsWrongFalsely : Prop := pageTellsRow.holds Try.pinned (OpenSpec.ofChange pageTellsWrong)

/-- 'wainscotlaw11.PageParents': WHATEVER THE INPUT: true; the input reads as it did. -/
def pageParentsSpec : ChangeSpec := { name := "pageParents", fn := fun _ => fun
  | [d1, d2] => { results := [.lit (.bool true)], args := [d1, d2] }
  | _ => none }
def pageParentsRow : OpenClaim := { program := "ythknakcbkkjhpaa", sum := "aefa870aaf865d27f802780f08154b1ea06668ae42aad3084ba8f9b93a8b6e0e", func := "wainscot/wainscotlaw11.PageParents", spec := "pageParents", unfollowed := true, recurses := true, apart := false }
def PageParentsSaid : Prop := pageParentsRow.holds Try.pinned (OpenSpec.ofChange pageParentsSpec)

/-- ITS FALSE NEIGHBOUR: 'it returns false'. Refute it at one input. -/
def pageParentsWrong : ChangeSpec := { name := "pageParents", fn := fun _ => fun
  | [d1, d2] => { results := [.lit (.bool false)], args := [d1, d2] }
  | _ => none }
def PageParentsWrongFalsely : Prop := pageParentsRow.holds Try.pinned (OpenSpec.ofChange pageParentsWrong)

/-- 'wainscotlaw11.PageOrder': WHATEVER THE INPUT: true; the input reads as it did. -/
def pageOrderSpec : ChangeSpec := { name := "pageOrder", fn := fun _ => fun
  | [d1, d2, d3] => { results := [.lit (.bool true)], args := [d1, d2, d3] }
  | _ => none }
def pageOrderRow : OpenClaim := { program := "ythknakcbkkjhpaa", sum := "aefa870aaf865d27f802780f08154b1ea06668ae42aad3084ba8f9b93a8b6e0e", func := "wainscot/wainscotlaw11.PageOrder", spec := "pageOrder", unfollowed := true, recurses := true, apart := false }
def PageOrderSaid : Prop := pageOrderRow.holds Try.pinned (OpenSpec.ofChange pageOrderSpec)

/-- ITS FALSE NEIGHBOUR: 'it returns false'. Refute it at one input. -/
def pageOrderWrong : ChangeSpec := { name := "pageOrder", fn := fun _ => fun
  | [d1, d2, d3] => { results := [.lit (.bool false)], args := [d1, d2, d3] }
  | _ => none }
def PageOrderWrongFalsely : Prop := pageOrderRow.holds Try.pinned (OpenSpec.ofChange pageOrderWrong)

/- THE SECOND FORM. 'bulk': how many values and letters a reading holds, each counted each time it is reached (what is shared counts as often as it is met; a slice's spare places count too). A statement '..UptoSaid' is the law's where the arguments, and the package variables that the reading takes, are together of bulk at most 1048576: NARROWER than '..Said'. Prove '..Said' where nothing that the law and all that it calls make is longer than what came in: it says more and counts as full. Else prove '..UptoSaid'. A law counts once. -/
mutual
def uptoBulk {H : Type} : DataW H → Nat
  | .lit (.string bytes) => bytes.length + 1
  | .lit _ => 1
  | .nil => 1
  | .ptr d => uptoBulk d + 1
  | .slice elems spare => uptoBulkAll elems + uptoBulkAll spare + 1
  | .agg parts => uptoBulkAll parts + 1
  | .iface _ d => uptoBulk d + 1
  | .map entries => uptoBulkEntries entries + 1
  | .held _ => 1
def uptoBulkAll {H : Type} : List (DataW H) → Nat
  | [] => 0
  | d :: r => uptoBulk d + uptoBulkAll r
def uptoBulkEntries {H : Type} : List (Lit × DataW H) → Nat
  | [] => 0
  | x :: r => uptoBulkEntry x + uptoBulkEntries r
def uptoBulkEntry {H : Type} : Lit × DataW H → Nat
  | (.string bytes, d) => bytes.length + uptoBulk d + 1
  | (_, d) => uptoBulk d + 1
 end
def uptoSmall : (H : Type) → List (DataW H) → Bool := fun _ ds => decide (uptoBulkAll ds ≤ 1048576)
def OpenSpec.upto (s : _root_.Go.ChangeSpec) : _root_.Go.OpenSpec := { _root_.Go.OpenSpec.ofChange s with cond := some uptoSmall }

/-- 'wainscotlaw11.PageTells', WHERE WHAT IT READS IS OF BULK AT MOST 1048576: true; the input reads as it did. -/
def pageTellsUptoRow : OpenClaim := { program := "ythknakcbkkjhpaa", sum := "aefa870aaf865d27f802780f08154b1ea06668ae42aad3084ba8f9b93a8b6e0e", func := "wainscot/wainscotlaw11.PageTells", spec := "pageTells", unfollowed := true, recurses := true, apart := false, narrowed := true }
def PageTellsUptoSaid : Prop := pageTellsUptoRow.holds Try.pinned (OpenSpec.upto pageTellsSpec)

/-- 'wainscotlaw11.PageParents', WHERE WHAT IT READS IS OF BULK AT MOST 1048576: true; the input reads as it did. -/
def pageParentsUptoRow : OpenClaim := { program := "ythknakcbkkjhpaa", sum := "aefa870aaf865d27f802780f08154b1ea06668ae42aad3084ba8f9b93a8b6e0e", func := "wainscot/wainscotlaw11.PageParents", spec := "pageParents", unfollowed := true, recurses := true, apart := false, narrowed := true }
def PageParentsUptoSaid : Prop := pageParentsUptoRow.holds Try.pinned (OpenSpec.upto pageParentsSpec)

/-- 'wainscotlaw11.PageOrder', WHERE WHAT IT READS IS OF BULK AT MOST 1048576: true; the input reads as it did. -/
def pageOrderUptoRow : OpenClaim := { program := "ythknakcbkkjhpaa", sum := "aefa870aaf865d27f802780f08154b1ea06668ae42aad3084ba8f9b93a8b6e0e", func := "wainscot/wainscotlaw11.PageOrder", spec := "pageOrder", unfollowed := true, recurses := true, apart := false, narrowed := true }
def PageOrderUptoSaid : Prop := pageOrderUptoRow.holds Try.pinned (OpenSpec.upto pageOrderSpec)

end Rows
end Go.Proofs.Ythknakcbkkjhpaa
