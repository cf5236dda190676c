/-
  No cell of these rows narrows 'for every input' (looked for: loops, veiled, ifaces, maps, wideKeys, modest, calm, conditions, laid).
  DERIVED. THE GIVEN ROWS OF THIS SEAT. 5 by the template 'for every input the law returns true; each argument reads behind the call as it read before'; 0 by the template 'total and deterministic' (their statements: YtcfdnilakjgeoaaTotals.lean).
  GIVEN WITH THE SEED: the statements are not yours to turn. If you find one false, say at which input.
  Laid BY PROGRAM, IN A SANDBOX (cutbox-rows.mjs): the forced cells as the released guide's own fill.sh prints them over the translation af66c1fbcd158df4… (all of the seat's roots in one cut). By AI agents, Wed Nov 11 2026. No macro, syntax, notation, axiom, sorry.
-/
import Derived.Test.YtcfdnilakjgeoaaChecked
import GoSem.Claim
import GoSem.ClaimJoined
import GoSem.ClaimMapViews
import Derived.JoinedTies
import Derived.KernelRfl
namespace Go.Proofs.Ytcfdnilakjgeoaa
/- THE CELL 'sum', in the pinned program and in every row, IS THE sha256 OF THE DUMP (.gsa) THAT YtcfdnilakjgeoaaProg.lean LOADS. Nothing in Lean hashes anything: it is a label: what it is worth is what the hold of that sum in a sandbox is worth. -/
noncomputable def Try.pinned : Pinned := { name := "ytcfdnilakjgeoaa", sum := "af66c1fbcd158df4f7d5a05973766370734de3ee04390f0d04f752b638161dd5", checked := Try.checked }
namespace Rows
def none {H : Type} : Left H := { results := [], args := [] }

/-- 'wainscotlaw2.VecTells': WHATEVER THE INPUT: true; the input reads as it did. -/
def vecTellsSpec : ChangeSpec := { name := "vecTells", fn := fun _ => fun
  | [d1, d2, d3, d4, d5, d6] => { results := [.lit (.bool true)], args := [d1, d2, d3, d4, d5, d6] }
  | _ => none }
def vecTellsRow : OpenClaim := { program := "ytcfdnilakjgeoaa", sum := "af66c1fbcd158df4f7d5a05973766370734de3ee04390f0d04f752b638161dd5", func := "wainscot/wainscotlaw2.VecTells", spec := "vecTells", unfollowed := true, recurses := true, apart := false }
def VecTellsSaid : Prop := vecTellsRow.holds Try.pinned (OpenSpec.ofChange vecTellsSpec)

/-- ITS FALSE NEIGHBOUR: 'it returns false'. Refute it at one input. -/
def vecTellsWrong : ChangeSpec := { name := "vecTells", fn := fun _ => fun
  | [d1, d2, d3, d4, d5, d6] => { results := [.lit (.bool false)], args := [d1, d2, d3, d4, d5, d6] }
  | _ => none }
def VecTellsWrongFalsely : Prop := vecTellsRow.holds Try.pinned (OpenSpec.ofChange vecTellsWrong)

/-- 'wainscotlaw2.VecOne': WHATEVER THE INPUT: true; the input reads as it did. -/
def vecOneSpec : ChangeSpec := { name := "vecOne", fn := fun _ => fun
  | [d1, d2] => { results := [.lit (.bool true)], args := [d1, d2] }
  | _ => none }
def vecOneRow : OpenClaim := { program := "ytcfdnilakjgeoaa", sum := "af66c1fbcd158df4f7d5a05973766370734de3ee04390f0d04f752b638161dd5", func := "wainscot/wainscotlaw2.VecOne", spec := "vecOne", unfollowed := true, recurses := true, apart := false }
def VecOneSaid : Prop := vecOneRow.holds Try.pinned (OpenSpec.ofChange vecOneSpec)

/-- ITS FALSE NEIGHBOUR: 'it returns false'. Refute it at one input. -/
def vecOneWrong : ChangeSpec := { name := "vecOne", fn := fun _ => fun
  | [d1, d2] => { results := [.lit (.bool false)], args := [d1, d2] }
  | _ => none }
def VecOneWrongFalsely : Prop := vecOneRow.holds Try.pinned (OpenSpec.ofChange vecOneWrong)

/-- 'wainscotlaw2.VecMoves': WHATEVER THE INPUT: true; the input reads as it did. -/
def vecMovesSpec : ChangeSpec := { name := "vecMoves", fn := fun _ => fun
  | [d1, d2, d3, d4] => { results := [.lit (.bool true)], args := [d1, d2, d3, d4] }
  | _ => none }
def vecMovesRow : OpenClaim := { program := "ytcfdnilakjgeoaa", sum := "af66c1fbcd158df4f7d5a05973766370734de3ee04390f0d04f752b638161dd5", func := "wainscot/wainscotlaw2.VecMoves", spec := "vecMoves", unfollowed := true, recurses := true, apart := false }
def VecMovesSaid : Prop := vecMovesRow.holds Try.pinned (OpenSpec.ofChange vecMovesSpec)

/-- ITS FALSE NEIGHBOUR: 'it returns false'. Refute it at one input. -/
def vecMovesWrong : ChangeSpec := { name := "vecMoves", fn := fun _ => fun
  | [d1, d2, d3, d4] => { results := [.lit (.bool false)], args := [d1, d2, d3, d4] }
  | _ => none }
def VecMovesWrongFalsely : Prop := vecMovesRow.holds Try.pinned (OpenSpec.ofChange vecMovesWrong)

/-- 'wainscotlaw2.VecAdds': WHATEVER THE INPUT: true; the input reads as it did. -/
def vecAddsSpec : ChangeSpec := { name := "vecAdds", fn := fun _ => fun
  | [d1, d2, d3] => { results := [.lit (.bool true)], args := [d1, d2, d3] }
  | _ => none }
def vecAddsRow : OpenClaim := { program := "ytcfdnilakjgeoaa", sum := "af66c1fbcd158df4f7d5a05973766370734de3ee04390f0d04f752b638161dd5", func := "wainscot/wainscotlaw2.VecAdds", spec := "vecAdds", unfollowed := true, recurses := true, apart := false }
def VecAddsSaid : Prop := vecAddsRow.holds Try.pinned (OpenSpec.ofChange vecAddsSpec)

/-- ITS FALSE NEIGHBOUR: 'it returns false'. Refute it at one input. -/
def vecAddsWrong : ChangeSpec := { name := "vecAdds", fn := fun _ => fun
  | [d1, d2, d3] => { results := [.lit (.bool false)], args := [d1, d2, d3] }
  | _ => none }
def VecAddsWrongFalsely : Prop := vecAddsRow.holds Try.pinned (OpenSpec.ofChange vecAddsWrong)

/-- 'wainscotlaw2.VecStretches': WHATEVER THE INPUT: true; the input reads as it did. -/
def vecStretchesSpec : ChangeSpec := { name := "vecStretches", fn := fun _ => fun
  | [d1, d2, d3, d4] => { results := [.lit (.bool true)], args := [d1, d2, d3, d4] }
  | _ => none }
def vecStretchesRow : OpenClaim := { program := "ytcfdnilakjgeoaa", sum := "af66c1fbcd158df4f7d5a05973766370734de3ee04390f0d04f752b638161dd5", func := "wainscot/wainscotlaw2.VecStretches", spec := "vecStretches", unfollowed := true, recurses := true, apart := false }
def VecStretchesSaid : Prop := vecStretchesRow.holds Try.pinned (OpenSpec.ofChange vecStretchesSpec)

/-- ITS FALSE NEIGHBOUR: 'it returns false'. Refute it at one input. -/
def vecStretchesWrong : ChangeSpec := { name := "vecStretches", fn := fun _ => fun
  | [d1, d2, d3, d4] => { results := [.lit (.bool false)], args := [d1, d2, d3, d4] }
  | _ => none }
def VecStretchesWrongFalsely : Prop := vecStretchesRow.holds Try.pinned (OpenSpec.ofChange vecStretchesWrong)

/- THE SECOND FORM. 'bulk': how many values and letters a reading holds, each counted each time it is reached (what is shared counts as often as it is met; a slice's spare places count too). A statement '..UptoSaid' is the law's where the arguments, and the package variables that the reading takes, are together of bulk at most 1048576: NARROWER than '..Said'. Prove '..Said' where nothing that the law and all that it calls make is longer than what came in: it says more and counts as full. Else prove '..UptoSaid'. A law counts once. -/
mutual
def uptoBulk {H : Type} : DataW H → Nat
  | .lit (.string bytes) => bytes.length + 1
  | .lit _ => 1
  | .nil => 1
  | .ptr d => uptoBulk d + 1
  | .slice elems spare => uptoBulkAll elems + uptoBulkAll spare + 1
  | .agg parts => uptoBulkAll parts + 1
  | .iface _ d => uptoBulk d + 1
  | .map entries => uptoBulkEntries entries + 1
  | .held _ => 1
def uptoBulkAll {H : Type} : List (DataW H) → Nat
  | [] => 0
  | d :: r => uptoBulk d + uptoBulkAll r
def uptoBulkEntries {H : Type} : List (Lit × DataW H) → Nat
  | [] => 0
  | x :: r => uptoBulkEntry x + uptoBulkEntries r
def uptoBulkEntry {H : Type} : Lit × DataW H → Nat
  | (.string bytes, d) => bytes.length + uptoBulk d + 1
  | (_, d) => uptoBulk d + 1
 end
def uptoSmall : (H : Type) → List (DataW H) → Bool := fun _ ds => decide (uptoBulkAll ds ≤ 1048576)
def OpenSpec.upto (s : _root_.Go.ChangeSpec) : _root_.Go.OpenSpec := { _root_.Go.OpenSpec.ofChange s with cond := some uptoSmall }

/-- 'wainscotlaw2.VecTells', WHERE WHAT IT READS IS OF BULK AT MOST 1048576: true; the input reads as it did. -/
def vecTellsUptoRow : OpenClaim := { program := "ytcfdnilakjgeoaa", sum := "af66c1fbcd158df4f7d5a05973766370734de3ee04390f0d04f752b638161dd5", func := "wainscot/wainscotlaw2.VecTells", spec := "vecTells", unfollowed := true, recurses := true, apart := false, narrowed := true }
def VecTellsUptoSaid : Prop := vecTellsUptoRow.holds Try.pinned (OpenSpec.upto vecTellsSpec)

/-- 'wainscotlaw2.VecOne', WHERE WHAT IT READS IS OF BULK AT MOST 1048576: true; the input reads as it did. -/
def vecOneUptoRow : OpenClaim := { program := "ytcfdnilakjgeoaa", sum := "af66c1fbcd158df4f7d5a05973766370734de3ee04390f0d04f752b638161dd5", func := "wainscot/wainscotlaw2.VecOne", spec := "vecOne", unfollowed := true, recurses := true, apart := false, narrowed := true }
def VecOneUptoSaid : Prop := vecOneUptoRow.holds Try.pinned (OpenSpec.upto vecOneSpec)

/-- 'wainscotlaw2.VecMoves', WHERE WHAT IT READS IS OF BULK AT MOST 1048576: true; the input reads as it did. -/
def vecMovesUptoRow : OpenClaim := { program := "ytcfdnilakjgeoaa", sum := "af66c1fbcd158df4f7d5a05973766370734de3ee04390f0d04f752b638161dd5", func := "wainscot/wainscotlaw2.VecMoves", spec := "vecMoves", unfollowed := true, recurses := true, apart := false, narrowed := true }
def VecMovesUptoSaid : Prop := vecMovesUptoRow.holds Try.pinned (OpenSpec.upto vecMovesSpec)

/-- 'wainscotlaw2.VecAdds', WHERE WHAT IT READS IS OF BULK AT MOST 1048576: true; the input reads as it did. -/
def vecAddsUptoRow : OpenClaim := { program := "ytcfdnilakjgeoaa", sum := "af66c1fbcd158df4f7d5a05973766370734de3ee04390f0d04f752b638161dd5", func := "wainscot/wainscotlaw2.VecAdds", spec := "vecAdds", unfollowed := true, recurses := true, apart := false, narrowed := true }
def VecAddsUptoSaid : Prop := vecAddsUptoRow.holds Try.pinned (OpenSpec.upto vecAddsSpec)

/-- 'wainscotlaw2.VecStretches', WHERE WHAT IT READS IS OF BULK AT MOST 1048576: true; the input reads as it did. -/
def vecStretchesUptoRow : OpenClaim := { program := "ytcfdnilakjgeoaa", sum := "af66c1fbcd158df4f7d5a05973766370734de3ee04390f0d04f752b638161dd5", func := "wainscot/wainscotlaw2.VecStretches", spec := "vecStretches", unfollowed := true, recurses := true, apart := false, narrowed := true }
def VecStretchesUptoSaid : Prop := vecStretchesUptoRow.holds Try.pinned (OpenSpec.upto vecStretchesSpec)

end Rows
end Go.Proofs.Ytcfdnilakjgeoaa
