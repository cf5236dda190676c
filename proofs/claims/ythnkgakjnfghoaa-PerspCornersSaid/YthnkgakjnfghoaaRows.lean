/-
  No cell of these rows narrows 'for every input' (looked for: loops, veiled, ifaces, maps, wideKeys, modest, calm, conditions, laid).
  DERIVED. THE GIVEN ROWS OF THIS SEAT. 5 by the template 'for every input the law returns true; each argument reads behind the call as it read before'; 0 by the template 'total and deterministic' (their statements: YthnkgakjnfghoaaTotals.lean).
  GIVEN WITH THE SEED: the statements are not yours to turn. If you find one false, say at which input.
  Laid BY PROGRAM, IN A SANDBOX (cutbox-rows.mjs): the forced cells as the released guide's own fill.sh prints them over the translation aad8af1188d73734… (all of the seat's roots in one cut). By AI agents, Wed Nov 11 2026. No macro, syntax, notation, axiom, sorry.
-/
import Derived.Test.YthnkgakjnfghoaaChecked
import GoSem.Claim
import GoSem.ClaimJoined
import GoSem.ClaimMapViews
import Derived.JoinedTies
import Derived.KernelRfl
namespace Go.Proofs.Ythnkgakjnfghoaa
/- THE CELL 'sum', in the pinned program and in every row, IS THE sha256 OF THE DUMP (.gsa) THAT YthnkgakjnfghoaaProg.lean LOADS. Nothing in Lean hashes anything: it is a label: what it is worth is what the hold of that sum in a sandbox is worth. -/
noncomputable def Try.pinned : Pinned := { name := "ythnkgakjnfghoaa", sum := "aad8af1188d73734ecdf7e5ce370b04ae8d66347b66338e2760d40f14a29f760", checked := Try.checked }
namespace Rows
def none {H : Type} : Left H := { results := [], args := [] }

/-- 'wainscotlaw27.PerspTells': WHATEVER THE INPUT: true; the input reads as it did. -/
def perspTellsSpec : ChangeSpec := { name := "perspTells", fn := fun _ => fun
  | [d1, d2, d3, d4, d5] => { results := [.lit (.bool true)], args := [d1, d2, d3, d4, d5] }
  | _ => none }
def perspTellsRow : OpenClaim := { program := "ythnkgakjnfghoaa", sum := "aad8af1188d73734ecdf7e5ce370b04ae8d66347b66338e2760d40f14a29f760", func := "wainscot/wainscotlaw27.PerspTells", spec := "perspTells", unfollowed := true, recurses := true, apart := false }
def PerspTellsSaid : Prop := perspTellsRow.holds Try.pinned (OpenSpec.ofChange perspTellsSpec)

/-- ITS FALSE NEIGHBOUR: 'it returns false'. Refute it at one input. -/
def perspTellsWrong : ChangeSpec := { name := "perspTells", fn := fun _ => fun
  | [d1, d2, d3, d4, d5] => { results := [.lit (.bool false)], args := [d1, d2, d3, d4, d5] }
  | _ => none }
def PerspTellsWrongFalsely : Prop := perspTellsRow.holds Try.pinned (OpenSpec.ofChange perspTellsWrong)

/-- 'wainscotlaw27.PerspCorners': WHATEVER THE INPUT: true; the input reads as it did. -/
def perspCornersSpec : ChangeSpec := { name := "perspCorners", fn := fun _ => fun
  | [d1, d2, d3] => { results := [.lit (.bool true)], args := [d1, d2, d3] }
  | _ => none }
def perspCornersRow : OpenClaim := { program := "ythnkgakjnfghoaa", sum := "aad8af1188d73734ecdf7e5ce370b04ae8d66347b66338e2760d40f14a29f760", func := "wainscot/wainscotlaw27.PerspCorners", spec := "perspCorners", unfollowed := true, recurses := true, apart := false }
def PerspCornersSaid : Prop := perspCornersRow.holds Try.pinned (OpenSpec.ofChange perspCornersSpec)

/-- ITS FALSE NEIGHBOUR: 'it returns false'. Refute it at one input. -/
def perspCornersWrong : ChangeSpec := { name := "perspCorners", fn := fun _ => fun
  | [d1, d2, d3] => { results := [.lit (.bool false)], args := [d1, d2, d3] }
  | _ => none }
def PerspCornersWrongFalsely : Prop := perspCornersRow.holds Try.pinned (OpenSpec.ofChange perspCornersWrong)

/-- 'wainscotlaw27.PerspFlat': WHATEVER THE INPUT: true; the input reads as it did. -/
def perspFlatSpec : ChangeSpec := { name := "perspFlat", fn := fun _ => fun
  | [d1, d2, d3, d4, d5] => { results := [.lit (.bool true)], args := [d1, d2, d3, d4, d5] }
  | _ => none }
def perspFlatRow : OpenClaim := { program := "ythnkgakjnfghoaa", sum := "aad8af1188d73734ecdf7e5ce370b04ae8d66347b66338e2760d40f14a29f760", func := "wainscot/wainscotlaw27.PerspFlat", spec := "perspFlat", unfollowed := true, recurses := true, apart := false }
def PerspFlatSaid : Prop := perspFlatRow.holds Try.pinned (OpenSpec.ofChange perspFlatSpec)

/-- ITS FALSE NEIGHBOUR: 'it returns false'. Refute it at one input. -/
def perspFlatWrong : ChangeSpec := { name := "perspFlat", fn := fun _ => fun
  | [d1, d2, d3, d4, d5] => { results := [.lit (.bool false)], args := [d1, d2, d3, d4, d5] }
  | _ => none }
def PerspFlatWrongFalsely : Prop := perspFlatRow.holds Try.pinned (OpenSpec.ofChange perspFlatWrong)

/-- 'wainscotlaw27.PerspStraight': WHATEVER THE INPUT: true; the input reads as it did. -/
def perspStraightSpec : ChangeSpec := { name := "perspStraight", fn := fun _ => fun
  | [d1, d2, d3, d4] => { results := [.lit (.bool true)], args := [d1, d2, d3, d4] }
  | _ => none }
def perspStraightRow : OpenClaim := { program := "ythnkgakjnfghoaa", sum := "aad8af1188d73734ecdf7e5ce370b04ae8d66347b66338e2760d40f14a29f760", func := "wainscot/wainscotlaw27.PerspStraight", spec := "perspStraight", unfollowed := true, recurses := true, apart := false }
def PerspStraightSaid : Prop := perspStraightRow.holds Try.pinned (OpenSpec.ofChange perspStraightSpec)

/-- ITS FALSE NEIGHBOUR: 'it returns false'. Refute it at one input. -/
def perspStraightWrong : ChangeSpec := { name := "perspStraight", fn := fun _ => fun
  | [d1, d2, d3, d4] => { results := [.lit (.bool false)], args := [d1, d2, d3, d4] }
  | _ => none }
def PerspStraightWrongFalsely : Prop := perspStraightRow.holds Try.pinned (OpenSpec.ofChange perspStraightWrong)

/-- 'wainscotlaw27.PerspMoves': WHATEVER THE INPUT: true; the input reads as it did. -/
def perspMovesSpec : ChangeSpec := { name := "perspMoves", fn := fun _ => fun
  | [d1, d2, d3, d4, d5] => { results := [.lit (.bool true)], args := [d1, d2, d3, d4, d5] }
  | _ => none }
def perspMovesRow : OpenClaim := { program := "ythnkgakjnfghoaa", sum := "aad8af1188d73734ecdf7e5ce370b04ae8d66347b66338e2760d40f14a29f760", func := "wainscot/wainscotlaw27.PerspMoves", spec := "perspMoves", unfollowed := true, recurses := true, apart := false }
def PerspMovesSaid : Prop := perspMovesRow.holds Try.pinned (OpenSpec.ofChange perspMovesSpec)

/-- ITS FALSE NEIGHBOUR: 'it returns false'. Refute it at one input. -/
def perspMovesWrong : ChangeSpec := { name := "perspMoves", fn := fun _ => fun
  | [d1, d2, d3, d4, d5] => { results := [.lit (.bool false)], args := [d1, d2, d3, d4, d5] }
  | _ => none }
def PerspMovesWrongFalsely : Prop := perspMovesRow.holds Try.pinned (OpenSpec.ofChange perspMovesWrong)

/- THE SECOND FORM. 'bulk': how many values and letters a reading holds, each counted each time it is reached (what is shared counts as often as it is met; a slice's spare places count too). A statement '..UptoSaid' is the law's where the arguments, and the package variables that the reading takes, are together of bulk at most 1048576: NARROWER than '..Said'. Prove '..Said' where nothing that the law and all that it calls make is longer than what came in: it says more and counts as full. Else prove '..UptoSaid'. A law counts once. -/
mutual
def uptoBulk {H : Type} : DataW H → Nat
  | .lit (.string bytes) => bytes.length + 1
  | .lit _ => 1
  | .nil => 1
  | .ptr d => uptoBulk d + 1
  | .slice elems spare => uptoBulkAll elems + uptoBulkAll spare + 1
  | .agg parts => uptoBulkAll parts + 1
  | .iface _ d => uptoBulk d + 1
  | .map entries => uptoBulkEntries entries + 1
  | .held _ => 1
def uptoBulkAll {H : Type} : List (DataW H) → Nat
  | [] => 0
  | d :: r => uptoBulk d + uptoBulkAll r
def uptoBulkEntries {H : Type} : List (Lit × DataW H) → Nat
  | [] => 0
  | x :: r => uptoBulkEntry x + uptoBulkEntries r
def uptoBulkEntry {H : Type} : Lit × DataW H → Nat
  | (.string bytes, d) => bytes.length + uptoBulk d + 1
  | (_, d) => uptoBulk d + 1
 end
def uptoSmall : (H : Type) → List (DataW H) → Bool := fun _ ds => decide (uptoBulkAll ds ≤ 1048576)
def OpenSpec.upto (s : _root_.Go.ChangeSpec) : _root_.Go.OpenSpec := { _root_.Go.OpenSpec.ofChange s with cond := some uptoSmall }

/-- 'wainscotlaw27.PerspTells', WHERE WHAT IT READS IS OF BULK AT MOST 1048576: true; the input reads as it did. -/
def perspTellsUptoRow : OpenClaim := { program := "ythnkgakjnfghoaa", sum := "aad8af1188d73734ecdf7e5ce370b04ae8d66347b66338e2760d40f14a29f760", func := "wainscot/wainscotlaw27.PerspTells", spec := "perspTells", unfollowed := true, recurses := true, apart := false, narrowed := true }
def PerspTellsUptoSaid : Prop := perspTellsUptoRow.holds Try.pinned (OpenSpec.upto perspTellsSpec)

/-- 'wainscotlaw27.PerspCorners', WHERE WHAT IT READS IS OF BULK AT MOST 1048576: true; the input reads as it did. -/
def perspCornersUptoRow : OpenClaim := { program := "ythnkgakjnfghoaa", sum := "aad8af1188d73734ecdf7e5ce370b04ae8d66347b66338e2760d40f14a29f760", func := "wainscot/wainscotlaw27.PerspCorners", spec := "perspCorners", unfollowed := true, recurses := true, apart := false, narrowed := true }
def PerspCornersUptoSaid : Prop := perspCornersUptoRow.holds Try.pinned (OpenSpec.upto perspCornersSpec)

/-- 'wainscotlaw27.PerspFlat', WHERE WHAT IT READS IS OF BULK AT MOST 1048576: true; the input reads as it did. -/
def perspFlatUptoRow : OpenClaim := { program := "ythnkgakjnfghoaa", sum := "aad8af1188d73734ecdf7e5ce370b04ae8d66347b66338e2760d40f14a29f760", func := "wainscot/wainscotlaw27.PerspFlat", spec := "perspFlat", unfollowed := true, recurses := true, apart := false, narrowed := true }
def PerspFlatUptoSaid : Prop := perspFlatUptoRow.holds Try.pinned (OpenSpec.upto perspFlatSpec)

/-- 'wainscotlaw27.PerspStraight', WHERE WHAT IT READS IS OF BULK AT MOST 1048576: true; the input reads as it did. -/
def perspStraightUptoRow : OpenClaim := { program := "ythnkgakjnfghoaa", sum := "aad8af1188d73734ecdf7e5ce370b04ae8d66347b66338e2760d40f14a29f760", func := "wainscot/wainscotlaw27.PerspStraight", spec := "perspStraight", unfollowed := true, recurses := true, apart := false, narrowed := true }
def PerspStraightUptoSaid : Prop := perspStraightUptoRow.holds Try.pinned (OpenSpec.upto perspStraightSpec)

/-- 'wainscotlaw27.PerspMoves', WHERE WHAT IT READS IS OF BULK AT MOST 1048576: true; the input reads as it did. -/
def perspMovesUptoRow : OpenClaim := { program := "ythnkgakjnfghoaa", sum := "aad8af1188d73734ecdf7e5ce370b04ae8d66347b66338e2760d40f14a29f760", func := "wainscot/wainscotlaw27.PerspMoves", spec := "perspMoves", unfollowed := true, recurses := true, apart := false, narrowed := true }
def PerspMovesUptoSaid : Prop := perspMovesUptoRow.holds Try.pinned (OpenSpec.upto perspMovesSpec)

end Rows
end Go.Proofs.Ythnkgakjnfghoaa
