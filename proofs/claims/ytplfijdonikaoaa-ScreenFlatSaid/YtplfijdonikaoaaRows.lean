/-
  No cell of these rows narrows 'for every input' (looked for: loops, veiled, ifaces, maps, wideKeys, modest, calm, conditions, laid).
  DERIVED. THE GIVEN ROWS OF THIS SEAT. 5 by the template 'for every input the law returns true; each argument reads behind the call as it read before'; 0 by the template 'total and deterministic' (their statements: YtplfijdonikaoaaTotals.lean).
  GIVEN WITH THE SEED: the statements are not yours to turn. If you find one false, say at which input.
  Laid BY PROGRAM, IN A SANDBOX (cutbox-rows.mjs): the forced cells as the released guide's own fill.sh prints them over the translation f6abebea9093cce4… (all of the seat's roots in one cut). By AI agents, Wed Nov 11 2026. No macro, syntax, notation, axiom, sorry.
-/
import Derived.Test.YtplfijdonikaoaaChecked
import GoSem.Claim
import GoSem.ClaimJoined
import GoSem.ClaimMapViews
import Derived.JoinedTies
import Derived.KernelRfl
namespace Go.Proofs.Ytplfijdonikaoaa
/- THE CELL 'sum', in the pinned program and in every row, IS THE sha256 OF THE DUMP (.gsa) THAT YtplfijdonikaoaaProg.lean LOADS. Nothing in Lean hashes anything: it is a label: what it is worth is what the hold of that sum in a sandbox is worth. -/
noncomputable def Try.pinned : Pinned := { name := "ytplfijdonikaoaa", sum := "f6abebea9093cce478993c3c132570b0db671818c0dbf05ce2086264bb113c70", checked := Try.checked }
namespace Rows
def none {H : Type} : Left H := { results := [], args := [] }

/-- 'wainscotlaw25.ScreenTells': WHATEVER THE INPUT: true; the input reads as it did. -/
def screenTellsSpec : ChangeSpec := { name := "screenTells", fn := fun _ => fun
  | [d1, d2, d3, d4, d5] => { results := [.lit (.bool true)], args := [d1, d2, d3, d4, d5] }
  | _ => none }
def screenTellsRow : OpenClaim := { program := "ytplfijdonikaoaa", sum := "f6abebea9093cce478993c3c132570b0db671818c0dbf05ce2086264bb113c70", func := "wainscot/wainscotlaw25.ScreenTells", spec := "screenTells", unfollowed := true, recurses := true, apart := false }
def ScreenTellsSaid : Prop := screenTellsRow.holds Try.pinned (OpenSpec.ofChange screenTellsSpec)

/-- ITS FALSE NEIGHBOUR: 'it returns false'. Refute it at one input. -/
def screenTellsWrong : ChangeSpec := { name := "screenTells", fn := fun _ => fun
  | [d1, d2, d3, d4, d5] => { results := [.lit (.bool false)], args := [d1, d2, d3, d4, d5] }
  | _ => none }
def ScreenTellsWrongFalsely : Prop := screenTellsRow.holds Try.pinned (OpenSpec.ofChange screenTellsWrong)

/-- 'wainscotlaw25.ScreenWithin': WHATEVER THE INPUT: true; the input reads as it did. -/
def screenWithinSpec : ChangeSpec := { name := "screenWithin", fn := fun _ => fun
  | [d1, d2, d3, d4] => { results := [.lit (.bool true)], args := [d1, d2, d3, d4] }
  | _ => none }
def screenWithinRow : OpenClaim := { program := "ytplfijdonikaoaa", sum := "f6abebea9093cce478993c3c132570b0db671818c0dbf05ce2086264bb113c70", func := "wainscot/wainscotlaw25.ScreenWithin", spec := "screenWithin", unfollowed := true, recurses := true, apart := false }
def ScreenWithinSaid : Prop := screenWithinRow.holds Try.pinned (OpenSpec.ofChange screenWithinSpec)

/-- ITS FALSE NEIGHBOUR: 'it returns false'. Refute it at one input. -/
def screenWithinWrong : ChangeSpec := { name := "screenWithin", fn := fun _ => fun
  | [d1, d2, d3, d4] => { results := [.lit (.bool false)], args := [d1, d2, d3, d4] }
  | _ => none }
def ScreenWithinWrongFalsely : Prop := screenWithinRow.holds Try.pinned (OpenSpec.ofChange screenWithinWrong)

/-- 'wainscotlaw25.ScreenMirrors': WHATEVER THE INPUT: true; the input reads as it did. -/
def screenMirrorsSpec : ChangeSpec := { name := "screenMirrors", fn := fun _ => fun
  | [d1, d2, d3] => { results := [.lit (.bool true)], args := [d1, d2, d3] }
  | _ => none }
def screenMirrorsRow : OpenClaim := { program := "ytplfijdonikaoaa", sum := "f6abebea9093cce478993c3c132570b0db671818c0dbf05ce2086264bb113c70", func := "wainscot/wainscotlaw25.ScreenMirrors", spec := "screenMirrors", unfollowed := true, recurses := true, apart := false }
def ScreenMirrorsSaid : Prop := screenMirrorsRow.holds Try.pinned (OpenSpec.ofChange screenMirrorsSpec)

/-- ITS FALSE NEIGHBOUR: 'it returns false'. Refute it at one input. -/
def screenMirrorsWrong : ChangeSpec := { name := "screenMirrors", fn := fun _ => fun
  | [d1, d2, d3] => { results := [.lit (.bool false)], args := [d1, d2, d3] }
  | _ => none }
def ScreenMirrorsWrongFalsely : Prop := screenMirrorsRow.holds Try.pinned (OpenSpec.ofChange screenMirrorsWrong)

/-- 'wainscotlaw25.ScreenFlat': WHATEVER THE INPUT: true; the input reads as it did. -/
def screenFlatSpec : ChangeSpec := { name := "screenFlat", fn := fun _ => fun
  | [d1, d2, d3] => { results := [.lit (.bool true)], args := [d1, d2, d3] }
  | _ => none }
def screenFlatRow : OpenClaim := { program := "ytplfijdonikaoaa", sum := "f6abebea9093cce478993c3c132570b0db671818c0dbf05ce2086264bb113c70", func := "wainscot/wainscotlaw25.ScreenFlat", spec := "screenFlat", unfollowed := true, recurses := true, apart := false }
def ScreenFlatSaid : Prop := screenFlatRow.holds Try.pinned (OpenSpec.ofChange screenFlatSpec)

/-- ITS FALSE NEIGHBOUR: 'it returns false'. Refute it at one input. -/
def screenFlatWrong : ChangeSpec := { name := "screenFlat", fn := fun _ => fun
  | [d1, d2, d3] => { results := [.lit (.bool false)], args := [d1, d2, d3] }
  | _ => none }
def ScreenFlatWrongFalsely : Prop := screenFlatRow.holds Try.pinned (OpenSpec.ofChange screenFlatWrong)

/-- 'wainscotlaw25.ScreenGrows': WHATEVER THE INPUT: true; the input reads as it did. -/
def screenGrowsSpec : ChangeSpec := { name := "screenGrows", fn := fun _ => fun
  | [d1, d2, d3] => { results := [.lit (.bool true)], args := [d1, d2, d3] }
  | _ => none }
def screenGrowsRow : OpenClaim := { program := "ytplfijdonikaoaa", sum := "f6abebea9093cce478993c3c132570b0db671818c0dbf05ce2086264bb113c70", func := "wainscot/wainscotlaw25.ScreenGrows", spec := "screenGrows", unfollowed := true, recurses := true, apart := false }
def ScreenGrowsSaid : Prop := screenGrowsRow.holds Try.pinned (OpenSpec.ofChange screenGrowsSpec)

/-- ITS FALSE NEIGHBOUR: 'it returns false'. Refute it at one input. -/
def screenGrowsWrong : ChangeSpec := { name := "screenGrows", fn := fun _ => fun
  | [d1, d2, d3] => { results := [.lit (.bool false)], args := [d1, d2, d3] }
  | _ => none }
def ScreenGrowsWrongFalsely : Prop := screenGrowsRow.holds Try.pinned (OpenSpec.ofChange screenGrowsWrong)

/- THE SECOND FORM. 'bulk': how many values and letters a reading holds, each counted each time it is reached (what is shared counts as often as it is met; a slice's spare places count too). A statement '..UptoSaid' is the law's where the arguments, and the package variables that the reading takes, are together of bulk at most 1048576: NARROWER than '..Said'. Prove '..Said' where nothing that the law and all that it calls make is longer than what came in: it says more and counts as full. Else prove '..UptoSaid'. A law counts once. -/
mutual
def uptoBulk {H : Type} : DataW H → Nat
  | .lit (.string bytes) => bytes.length + 1
  | .lit _ => 1
  | .nil => 1
  | .ptr d => uptoBulk d + 1
  | .slice elems spare => uptoBulkAll elems + uptoBulkAll spare + 1
  | .agg parts => uptoBulkAll parts + 1
  | .iface _ d => uptoBulk d + 1
  | .map entries => uptoBulkEntries entries + 1
  | .held _ => 1
def uptoBulkAll {H : Type} : List (DataW H) → Nat
  | [] => 0
  | d :: r => uptoBulk d + uptoBulkAll r
def uptoBulkEntries {H : Type} : List (Lit × DataW H) → Nat
  | [] => 0
  | x :: r => uptoBulkEntry x + uptoBulkEntries r
def uptoBulkEntry {H : Type} : Lit × DataW H → Nat
  | (.string bytes, d) => bytes.length + uptoBulk d + 1
  | (_, d) => uptoBulk d + 1
 end
def uptoSmall : (H : Type) → List (DataW H) → Bool := fun _ ds => decide (uptoBulkAll ds ≤ 1048576)
def OpenSpec.upto (s : _root_.Go.ChangeSpec) : _root_.Go.OpenSpec := { _root_.Go.OpenSpec.ofChange s with cond := some uptoSmall }

/-- 'wainscotlaw25.ScreenTells', WHERE WHAT IT READS IS OF BULK AT MOST 1048576: true; the input reads as it did. -/
def screenTellsUptoRow : OpenClaim := { program := "ytplfijdonikaoaa", sum := "f6abebea9093cce478993c3c132570b0db671818c0dbf05ce2086264bb113c70", func := "wainscot/wainscotlaw25.ScreenTells", spec := "screenTells", unfollowed := true, recurses := true, apart := false, narrowed := true }
def ScreenTellsUptoSaid : Prop := screenTellsUptoRow.holds Try.pinned (OpenSpec.upto screenTellsSpec)

/-- 'wainscotlaw25.ScreenWithin', WHERE WHAT IT READS IS OF BULK AT MOST 1048576: true; the input reads as it did. -/
def screenWithinUptoRow : OpenClaim := { program := "ytplfijdonikaoaa", sum := "f6abebea9093cce478993c3c132570b0db671818c0dbf05ce2086264bb113c70", func := "wainscot/wainscotlaw25.ScreenWithin", spec := "screenWithin", unfollowed := true, recurses := true, apart := false, narrowed := true }
def ScreenWithinUptoSaid : Prop := screenWithinUptoRow.holds Try.pinned (OpenSpec.upto screenWithinSpec)

/-- 'wainscotlaw25.ScreenMirrors', WHERE WHAT IT READS IS OF BULK AT MOST 1048576: true; the input reads as it did. -/
def screenMirrorsUptoRow : OpenClaim := { program := "ytplfijdonikaoaa", sum := "f6abebea9093cce478993c3c132570b0db671818c0dbf05ce2086264bb113c70", func := "wainscot/wainscotlaw25.ScreenMirrors", spec := "screenMirrors", unfollowed := true, recurses := true, apart := false, narrowed := true }
def ScreenMirrorsUptoSaid : Prop := screenMirrorsUptoRow.holds Try.pinned (OpenSpec.upto screenMirrorsSpec)

/-- 'wainscotlaw25.ScreenFlat', WHERE WHAT IT READS IS OF BULK AT MOST 1048576: true; the input reads as it did. -/
def screenFlatUptoRow : OpenClaim := { program := "ytplfijdonikaoaa", sum := "f6abebea9093cce478993c3c132570b0db671818c0dbf05ce2086264bb113c70", func := "wainscot/wainscotlaw25.ScreenFlat", spec := "screenFlat", unfollowed := true, recurses := true, apart := false, narrowed := true }
def ScreenFlatUptoSaid : Prop := screenFlatUptoRow.holds Try.pinned (OpenSpec.upto screenFlatSpec)

/-- 'wainscotlaw25.ScreenGrows', WHERE WHAT IT READS IS OF BULK AT MOST 1048576: true; the input reads as it did. -/
def screenGrowsUptoRow : OpenClaim := { program := "ytplfijdonikaoaa", sum := "f6abebea9093cce478993c3c132570b0db671818c0dbf05ce2086264bb113c70", func := "wainscot/wainscotlaw25.ScreenGrows", spec := "screenGrows", unfollowed := true, recurses := true, apart := false, narrowed := true }
def ScreenGrowsUptoSaid : Prop := screenGrowsUptoRow.holds Try.pinned (OpenSpec.upto screenGrowsSpec)

end Rows
end Go.Proofs.Ytplfijdonikaoaa
