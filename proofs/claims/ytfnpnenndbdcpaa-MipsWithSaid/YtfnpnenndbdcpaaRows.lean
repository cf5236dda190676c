/-
  No cell of these rows narrows 'for every input' (looked for: loops, veiled, ifaces, maps, wideKeys, modest, calm, conditions, laid).
  DERIVED. THE GIVEN ROWS OF THIS SEAT. 3 by the template 'for every input the law returns true; each argument reads behind the call as it read before'; 0 by the template 'total and deterministic' (their statements: YtfnpnenndbdcpaaTotals.lean).
  GIVEN WITH THE SEED: the statements are not yours to turn. If you find one false, say at which input.
  Laid BY PROGRAM, IN A SANDBOX (cutbox-rows.mjs): the forced cells as the released guide's own fill.sh prints them over the translation e161c4d094f23553… (all of the seat's roots in one cut). By AI agents, Wed Nov 11 2026. No macro, syntax, notation, axiom, sorry.
-/
import Derived.Test.YtfnpnenndbdcpaaChecked
import GoSem.Claim
import GoSem.ClaimJoined
import GoSem.ClaimMapViews
import Derived.JoinedTies
import Derived.KernelRfl
namespace Go.Proofs.Ytfnpnenndbdcpaa
/- THE CELL 'sum', in the pinned program and in every row, IS THE sha256 OF THE DUMP (.gsa) THAT YtfnpnenndbdcpaaProg.lean LOADS. Nothing in Lean hashes anything: it is a label: what it is worth is what the hold of that sum in a sandbox is worth. -/
noncomputable def Try.pinned : Pinned := { name := "ytfnpnenndbdcpaa", sum := "e161c4d094f2355364c1716d5ecd5df9cc5bbdda7d61facf51b4c3298ecec610", checked := Try.checked }
namespace Rows
def none {H : Type} : Left H := { results := [], args := [] }

/-- 'wainscotlaw14.MipsTells': WHATEVER THE INPUT: true; the input reads as it did. -/
def mipsTellsSpec : ChangeSpec := { name := "mipsTells", fn := fun _ => fun
  | [d1, d2, d3, d4, d5, d6, d7, d8, d9, d10] => { results := [.lit (.bool true)], args := [d1, d2, d3, d4, d5, d6, d7, d8, d9, d10] }
  | _ => none }
def mipsTellsRow : OpenClaim := { program := "ytfnpnenndbdcpaa", sum := "e161c4d094f2355364c1716d5ecd5df9cc5bbdda7d61facf51b4c3298ecec610", func := "wainscot/wainscotlaw14.MipsTells", spec := "mipsTells", apart := false }
def MipsTellsSaid : Prop := mipsTellsRow.holds Try.pinned (OpenSpec.ofChange mipsTellsSpec)

/-- ITS FALSE NEIGHBOUR: 'it returns false'. Refute it at one input. -/
def mipsTellsWrong : ChangeSpec := { name := "mipsTells", fn := fun _ => fun
  | [d1, d2, d3, d4, d5, d6, d7, d8, d9, d10] => { results := [.lit (.bool false)], args := [d1, d2, d3, d4, d5, d6, d7, d8, d9, d10] }
  | _ => none }
def MipsTellsWrongFalsely : Prop := mipsTellsRow.holds Try.pinned (OpenSpec.ofChange mipsTellsWrong)

/-- 'wainscotlaw14.MipsMeans': WHATEVER THE INPUT: true; the input reads as it did. -/
def mipsMeansSpec : ChangeSpec := { name := "mipsMeans", fn := fun _ => fun
  | [d1, d2, d3, d4, d5, d6, d7] => { results := [.lit (.bool true)], args := [d1, d2, d3, d4, d5, d6, d7] }
  | _ => none }
def mipsMeansRow : OpenClaim := { program := "ytfnpnenndbdcpaa", sum := "e161c4d094f2355364c1716d5ecd5df9cc5bbdda7d61facf51b4c3298ecec610", func := "wainscot/wainscotlaw14.MipsMeans", spec := "mipsMeans", apart := false }
def MipsMeansSaid : Prop := mipsMeansRow.holds Try.pinned (OpenSpec.ofChange mipsMeansSpec)

/-- ITS FALSE NEIGHBOUR: 'it returns false'. Refute it at one input. -/
def mipsMeansWrong : ChangeSpec := { name := "mipsMeans", fn := fun _ => fun
  | [d1, d2, d3, d4, d5, d6, d7] => { results := [.lit (.bool false)], args := [d1, d2, d3, d4, d5, d6, d7] }
  | _ => none }
def MipsMeansWrongFalsely : Prop := mipsMeansRow.holds Try.pinned (OpenSpec.ofChange mipsMeansWrong)

/-- 'wainscotlaw14.MipsWith': WHATEVER THE INPUT: true; the input reads as it did. -/
def mipsWithSpec : ChangeSpec := { name := "mipsWith", fn := fun _ => fun
  | [d1, d2, d3, d4] => { results := [.lit (.bool true)], args := [d1, d2, d3, d4] }
  | _ => none }
def mipsWithRow : OpenClaim := { program := "ytfnpnenndbdcpaa", sum := "e161c4d094f2355364c1716d5ecd5df9cc5bbdda7d61facf51b4c3298ecec610", func := "wainscot/wainscotlaw14.MipsWith", spec := "mipsWith", apart := false }
def MipsWithSaid : Prop := mipsWithRow.holds Try.pinned (OpenSpec.ofChange mipsWithSpec)

/-- ITS FALSE NEIGHBOUR: 'it returns false'. Refute it at one input. -/
def mipsWithWrong : ChangeSpec := { name := "mipsWith", fn := fun _ => fun
  | [d1, d2, d3, d4] => { results := [.lit (.bool false)], args := [d1, d2, d3, d4] }
  | _ => none }
def MipsWithWrongFalsely : Prop := mipsWithRow.holds Try.pinned (OpenSpec.ofChange mipsWithWrong)

/- THE SECOND FORM. 'bulk': how many values and letters a reading holds, each counted each time it is reached (what is shared counts as often as it is met; a slice's spare places count too). A statement '..UptoSaid' is the law's where the arguments, and the package variables that the reading takes, are together of bulk at most 1048576: NARROWER than '..Said'. Prove '..Said' where nothing that the law and all that it calls make is longer than what came in: it says more and counts as full. Else prove '..UptoSaid'. A law counts once. -/
mutual
def uptoBulk {H : Type} : DataW H → Nat
  | .lit (.string bytes) => bytes.length + 1
  | .lit _ => 1
  | .nil => 1
  | .ptr d => uptoBulk d + 1
  | .slice elems spare => uptoBulkAll elems + uptoBulkAll spare + 1
  | .agg parts => uptoBulkAll parts + 1
  | .iface _ d => uptoBulk d + 1
  | .map entries => uptoBulkEntries entries + 1
  | .held _ => 1
def uptoBulkAll {H : Type} : List (DataW H) → Nat
  | [] => 0
  | d :: r => uptoBulk d + uptoBulkAll r
def uptoBulkEntries {H : Type} : List (Lit × DataW H) → Nat
  | [] => 0
  | x :: r => uptoBulkEntry x + uptoBulkEntries r
def uptoBulkEntry {H : Type} : Lit × DataW H → Nat
  | (.string bytes, d) => bytes.length + uptoBulk d + 1
  | (_, d) => uptoBulk d + 1
 end
def uptoSmall : (H : Type) → List (DataW H) → Bool := fun _ ds => decide (uptoBulkAll ds ≤ 1048576)
def OpenSpec.upto (s : _root_.Go.ChangeSpec) : _root_.Go.OpenSpec := { _root_.Go.OpenSpec.ofChange s with cond := some uptoSmall }

/-- 'wainscotlaw14.MipsTells', WHERE WHAT IT READS IS OF BULK AT MOST 1048576: true; the input reads as it did. -/
def mipsTellsUptoRow : OpenClaim := { program := "ytfnpnenndbdcpaa", sum := "e161c4d094f2355364c1716d5ecd5df9cc5bbdda7d61facf51b4c3298ecec610", func := "wainscot/wainscotlaw14.MipsTells", spec := "mipsTells", apart := false, narrowed := true }
def MipsTellsUptoSaid : Prop := mipsTellsUptoRow.holds Try.pinned (OpenSpec.upto mipsTellsSpec)

/-- 'wainscotlaw14.MipsMeans', WHERE WHAT IT READS IS OF BULK AT MOST 1048576: true; the input reads as it did. -/
def mipsMeansUptoRow : OpenClaim := { program := "ytfnpnenndbdcpaa", sum := "e161c4d094f2355364c1716d5ecd5df9cc5bbdda7d61facf51b4c3298ecec610", func := "wainscot/wainscotlaw14.MipsMeans", spec := "mipsMeans", apart := false, narrowed := true }
def MipsMeansUptoSaid : Prop := mipsMeansUptoRow.holds Try.pinned (OpenSpec.upto mipsMeansSpec)

/-- 'wainscotlaw14.MipsWith', WHERE WHAT IT READS IS OF BULK AT MOST 1048576: true; the input reads as it did. -/
def mipsWithUptoRow : OpenClaim := { program := "ytfnpnenndbdcpaa", sum := "e161c4d094f2355364c1716d5ecd5df9cc5bbdda7d61facf51b4c3298ecec610", func := "wainscot/wainscotlaw14.MipsWith", spec := "mipsWith", apart := false, narrowed := true }
def MipsWithUptoSaid : Prop := mipsWithUptoRow.holds Try.pinned (OpenSpec.upto mipsWithSpec)

end Rows
end Go.Proofs.Ytfnpnenndbdcpaa
