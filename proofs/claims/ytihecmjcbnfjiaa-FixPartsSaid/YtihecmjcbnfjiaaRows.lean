/-
  No cell of these rows narrows 'for every input' (looked for: loops, veiled, ifaces, maps, wideKeys, modest, calm, conditions, laid).
  DERIVED. THE GIVEN ROWS OF THIS SEAT. 6 by the template 'for every input the law returns true; each argument reads behind the call as it read before'; 0 by the template 'total and deterministic' (their statements: YtihecmjcbnfjiaaTotals.lean).
  GIVEN WITH THE SEED: the statements are not yours to turn. If you find one false, say at which input.
  Laid BY PROGRAM, IN A SANDBOX (cutbox-rows.mjs): the forced cells as the released guide's own fill.sh prints them over the translation 1e1e2654b79e5fe9… (all of the seat's roots in one cut). By AI agents, Wed Nov 11 2026. No macro, syntax, notation, axiom, sorry.
-/
import Derived.Test.YtihecmjcbnfjiaaChecked
import GoSem.Claim
import GoSem.ClaimJoined
import GoSem.ClaimMapViews
import Derived.JoinedTies
import Derived.KernelRfl
namespace Go.Proofs.Ytihecmjcbnfjiaa
/- THE CELL 'sum', in the pinned program and in every row, IS THE sha256 OF THE DUMP (.gsa) THAT YtihecmjcbnfjiaaProg.lean LOADS. Nothing in Lean hashes anything: it is a label: what it is worth is what the hold of that sum in a sandbox is worth. -/
noncomputable def Try.pinned : Pinned := { name := "ytihecmjcbnfjiaa", sum := "1e1e2654b79e5fe9316a1df0f92d46dc80099be1e97170ce930423dae4813b5e", checked := Try.checked }
namespace Rows
def none {H : Type} : Left H := { results := [], args := [] }

/-- 'wainscotlaw1.FixTells': WHATEVER THE INPUT: true; the input reads as it did. -/
def fixTellsSpec : ChangeSpec := { name := "fixTells", fn := fun _ => fun
  | [d1, d2, d3, d4, d5] => { results := [.lit (.bool true)], args := [d1, d2, d3, d4, d5] }
  | _ => none }
def fixTellsRow : OpenClaim := { program := "ytihecmjcbnfjiaa", sum := "1e1e2654b79e5fe9316a1df0f92d46dc80099be1e97170ce930423dae4813b5e", func := "wainscot/wainscotlaw1.FixTells", spec := "fixTells", apart := false }
def FixTellsSaid : Prop := fixTellsRow.holds Try.pinned (OpenSpec.ofChange fixTellsSpec)

/-- ITS FALSE NEIGHBOUR: 'it returns false'. Refute it at one input. -/
def fixTellsWrong : ChangeSpec := { name := "fixTells", fn := fun _ => fun
  | [d1, d2, d3, d4, d5] => { results := [.lit (.bool false)], args := [d1, d2, d3, d4, d5] }
  | _ => none }
def FixTellsWrongFalsely : Prop := fixTellsRow.holds Try.pinned (OpenSpec.ofChange fixTellsWrong)

/-- 'wainscotlaw1.FixNear': WHATEVER THE INPUT: true; the input reads as it did. -/
def fixNearSpec : ChangeSpec := { name := "fixNear", fn := fun _ => fun
  | [d1, d2] => { results := [.lit (.bool true)], args := [d1, d2] }
  | _ => none }
def fixNearRow : OpenClaim := { program := "ytihecmjcbnfjiaa", sum := "1e1e2654b79e5fe9316a1df0f92d46dc80099be1e97170ce930423dae4813b5e", func := "wainscot/wainscotlaw1.FixNear", spec := "fixNear", apart := false }
def FixNearSaid : Prop := fixNearRow.holds Try.pinned (OpenSpec.ofChange fixNearSpec)

/-- ITS FALSE NEIGHBOUR: 'it returns false'. Refute it at one input. -/
def fixNearWrong : ChangeSpec := { name := "fixNear", fn := fun _ => fun
  | [d1, d2] => { results := [.lit (.bool false)], args := [d1, d2] }
  | _ => none }
def FixNearWrongFalsely : Prop := fixNearRow.holds Try.pinned (OpenSpec.ofChange fixNearWrong)

/-- 'wainscotlaw1.FixLerps': WHATEVER THE INPUT: true; the input reads as it did. -/
def fixLerpsSpec : ChangeSpec := { name := "fixLerps", fn := fun _ => fun
  | [d1, d2, d3, d4] => { results := [.lit (.bool true)], args := [d1, d2, d3, d4] }
  | _ => none }
def fixLerpsRow : OpenClaim := { program := "ytihecmjcbnfjiaa", sum := "1e1e2654b79e5fe9316a1df0f92d46dc80099be1e97170ce930423dae4813b5e", func := "wainscot/wainscotlaw1.FixLerps", spec := "fixLerps", apart := false }
def FixLerpsSaid : Prop := fixLerpsRow.holds Try.pinned (OpenSpec.ofChange fixLerpsSpec)

/-- ITS FALSE NEIGHBOUR: 'it returns false'. Refute it at one input. -/
def fixLerpsWrong : ChangeSpec := { name := "fixLerps", fn := fun _ => fun
  | [d1, d2, d3, d4] => { results := [.lit (.bool false)], args := [d1, d2, d3, d4] }
  | _ => none }
def FixLerpsWrongFalsely : Prop := fixLerpsRow.holds Try.pinned (OpenSpec.ofChange fixLerpsWrong)

/-- 'wainscotlaw1.FixOnes': WHATEVER THE INPUT: true; the input reads as it did. -/
def fixOnesSpec : ChangeSpec := { name := "fixOnes", fn := fun _ => fun
  | [d1, d2] => { results := [.lit (.bool true)], args := [d1, d2] }
  | _ => none }
def fixOnesRow : OpenClaim := { program := "ytihecmjcbnfjiaa", sum := "1e1e2654b79e5fe9316a1df0f92d46dc80099be1e97170ce930423dae4813b5e", func := "wainscot/wainscotlaw1.FixOnes", spec := "fixOnes", apart := false }
def FixOnesSaid : Prop := fixOnesRow.holds Try.pinned (OpenSpec.ofChange fixOnesSpec)

/-- ITS FALSE NEIGHBOUR: 'it returns false'. Refute it at one input. -/
def fixOnesWrong : ChangeSpec := { name := "fixOnes", fn := fun _ => fun
  | [d1, d2] => { results := [.lit (.bool false)], args := [d1, d2] }
  | _ => none }
def FixOnesWrongFalsely : Prop := fixOnesRow.holds Try.pinned (OpenSpec.ofChange fixOnesWrong)

/-- 'wainscotlaw1.FixSums': WHATEVER THE INPUT: true; the input reads as it did. -/
def fixSumsSpec : ChangeSpec := { name := "fixSums", fn := fun _ => fun
  | [d1, d2, d3] => { results := [.lit (.bool true)], args := [d1, d2, d3] }
  | _ => none }
def fixSumsRow : OpenClaim := { program := "ytihecmjcbnfjiaa", sum := "1e1e2654b79e5fe9316a1df0f92d46dc80099be1e97170ce930423dae4813b5e", func := "wainscot/wainscotlaw1.FixSums", spec := "fixSums", apart := false }
def FixSumsSaid : Prop := fixSumsRow.holds Try.pinned (OpenSpec.ofChange fixSumsSpec)

/-- ITS FALSE NEIGHBOUR: 'it returns false'. Refute it at one input. -/
def fixSumsWrong : ChangeSpec := { name := "fixSums", fn := fun _ => fun
  | [d1, d2, d3] => { results := [.lit (.bool false)], args := [d1, d2, d3] }
  | _ => none }
def FixSumsWrongFalsely : Prop := fixSumsRow.holds Try.pinned (OpenSpec.ofChange fixSumsWrong)

/-- 'wainscotlaw1.FixParts': WHATEVER THE INPUT: true; the input reads as it did. -/
def fixPartsSpec : ChangeSpec := { name := "fixParts", fn := fun _ => fun
  | [d1, d2] => { results := [.lit (.bool true)], args := [d1, d2] }
  | _ => none }
def fixPartsRow : OpenClaim := { program := "ytihecmjcbnfjiaa", sum := "1e1e2654b79e5fe9316a1df0f92d46dc80099be1e97170ce930423dae4813b5e", func := "wainscot/wainscotlaw1.FixParts", spec := "fixParts", apart := false }
def FixPartsSaid : Prop := fixPartsRow.holds Try.pinned (OpenSpec.ofChange fixPartsSpec)

/-- ITS FALSE NEIGHBOUR: 'it returns false'. Refute it at one input. -/
def fixPartsWrong : ChangeSpec := { name := "fixParts", fn := fun _ => fun
  | [d1, d2] => { results := [.lit (.bool false)], args := [d1, d2] }
  | _ => none }
def FixPartsWrongFalsely : Prop := fixPartsRow.holds Try.pinned (OpenSpec.ofChange fixPartsWrong)

/- THE SECOND FORM. 'bulk': how many values and letters a reading holds, each counted each time it is reached (what is shared counts as often as it is met; a slice's spare places count too). A statement '..UptoSaid' is the law's where the arguments, and the package variables that the reading takes, are together of bulk at most 1048576: NARROWER than '..Said'. Prove '..Said' where nothing that the law and all that it calls make is longer than what came in: it says more and counts as full. Else prove '..UptoSaid'. A law counts once. -/
mutual
def uptoBulk {H : Type} : DataW H → Nat
  | .lit (.string bytes) => bytes.length + 1
  | .lit _ => 1
  | .nil => 1
  | .ptr d => uptoBulk d + 1
  | .slice elems spare => uptoBulkAll elems + uptoBulkAll spare + 1
  | .agg parts => uptoBulkAll parts + 1
  | .iface _ d => uptoBulk d + 1
  | .map entries => uptoBulkEntries entries + 1
  | .held _ => 1
def uptoBulkAll {H : Type} : List (DataW H) → Nat
  | [] => 0
  | d :: r => uptoBulk d + uptoBulkAll r
def uptoBulkEntries {H : Type} : List (Lit × DataW H) → Nat
  | [] => 0
  | x :: r => uptoBulkEntry x + uptoBulkEntries r
def uptoBulkEntry {H : Type} : Lit × DataW H → Nat
  | (.string bytes, d) => bytes.length + uptoBulk d + 1
  | (_, d) => uptoBulk d + 1
 end
def uptoSmall : (H : Type) → List (DataW H) → Bool := fun _ ds => decide (uptoBulkAll ds ≤ 1048576)
def OpenSpec.upto (s : _root_.Go.ChangeSpec) : _root_.Go.OpenSpec := { _root_.Go.OpenSpec.ofChange s with cond := some uptoSmall }

/-- 'wainscotlaw1.FixTells', WHERE WHAT IT READS IS OF BULK AT MOST 1048576: true; the input reads as it did. -/
def fixTellsUptoRow : OpenClaim := { program := "ytihecmjcbnfjiaa", sum := "1e1e2654b79e5fe9316a1df0f92d46dc80099be1e97170ce930423dae4813b5e", func := "wainscot/wainscotlaw1.FixTells", spec := "fixTells", apart := false, narrowed := true }
def FixTellsUptoSaid : Prop := fixTellsUptoRow.holds Try.pinned (OpenSpec.upto fixTellsSpec)

/-- 'wainscotlaw1.FixNear', WHERE WHAT IT READS IS OF BULK AT MOST 1048576: true; the input reads as it did. -/
def fixNearUptoRow : OpenClaim := { program := "ytihecmjcbnfjiaa", sum := "1e1e2654b79e5fe9316a1df0f92d46dc80099be1e97170ce930423dae4813b5e", func := "wainscot/wainscotlaw1.FixNear", spec := "fixNear", apart := false, narrowed := true }
def FixNearUptoSaid : Prop := fixNearUptoRow.holds Try.pinned (OpenSpec.upto fixNearSpec)

/-- 'wainscotlaw1.FixLerps', WHERE WHAT IT READS IS OF BULK AT MOST 1048576: true; the input reads as it did. -/
def fixLerpsUptoRow : OpenClaim := { program := "ytihecmjcbnfjiaa", sum := "1e1e2654b79e5fe9316a1df0f92d46dc80099be1e97170ce930423dae4813b5e", func := "wainscot/wainscotlaw1.FixLerps", spec := "fixLerps", apart := false, narrowed := true }
def FixLerpsUptoSaid : Prop := fixLerpsUptoRow.holds Try.pinned (OpenSpec.upto fixLerpsSpec)

/-- 'wainscotlaw1.FixOnes', WHERE WHAT IT READS IS OF BULK AT MOST 1048576: true; the input reads as it did. -/
def fixOnesUptoRow : OpenClaim := { program := "ytihecmjcbnfjiaa", sum := "1e1e2654b79e5fe9316a1df0f92d46dc80099be1e97170ce930423dae4813b5e", func := "wainscot/wainscotlaw1.FixOnes", spec := "fixOnes", apart := false, narrowed := true }
def FixOnesUptoSaid : Prop := fixOnesUptoRow.holds Try.pinned (OpenSpec.upto fixOnesSpec)

/-- 'wainscotlaw1.FixSums', WHERE WHAT IT READS IS OF BULK AT MOST 1048576: true; the input reads as it did. -/
def fixSumsUptoRow : OpenClaim := { program := "ytihecmjcbnfjiaa", sum := "1e1e2654b79e5fe9316a1df0f92d46dc80099be1e97170ce930423dae4813b5e", func := "wainscot/wainscotlaw1.FixSums", spec := "fixSums", apart := false, narrowed := true }
def FixSumsUptoSaid : Prop := fixSumsUptoRow.holds Try.pinned (OpenSpec.upto fixSumsSpec)

/-- 'wainscotlaw1.FixParts', WHERE WHAT IT READS IS OF BULK AT MOST 1048576: true; the input reads as it did. -/
def fixPartsUptoRow : OpenClaim := { program := "ytihecmjcbnfjiaa", sum := "1e1e2654b79e5fe9316a1df0f92d46dc80099be1e97170ce930423dae4813b5e", func := "wainscot/wainscotlaw1.FixParts", spec := "fixParts", apart := false, narrowed := true }
def FixPartsUptoSaid : Prop := fixPartsUptoRow.holds Try.pinned (OpenSpec.upto fixPartsSpec)

end Rows
end Go.Proofs.Ytihecmjcbnfjiaa
