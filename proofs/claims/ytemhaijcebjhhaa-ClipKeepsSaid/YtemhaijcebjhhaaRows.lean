/-
  No cell of these rows narrows 'for every input' (looked for: loops, veiled, ifaces, maps, wideKeys, modest, calm, conditions, laid).
  DERIVED. THE GIVEN ROWS OF THIS SEAT. 4 by the template 'for every input the law returns true; each argument reads behind the call as it read before'; 0 by the template 'total and deterministic' (their statements: YtemhaijcebjhhaaTotals.lean).
  GIVEN WITH THE SEED: the statements are not yours to turn. If you find one false, say at which input.
  Laid BY PROGRAM, IN A SANDBOX (cutbox-rows.mjs): the forced cells as the released guide's own fill.sh prints them over the translation 63de4264bba62f19… (all of the seat's roots in one cut). By AI agents, Wed Nov 11 2026. No macro, syntax, notation, axiom, sorry.
-/
import Derived.Test.YtemhaijcebjhhaaChecked
import GoSem.Claim
import GoSem.ClaimJoined
import GoSem.ClaimMapViews
import Derived.JoinedTies
import Derived.KernelRfl
namespace Go.Proofs.Ytemhaijcebjhhaa
/- THE CELL 'sum', in the pinned program and in every row, IS THE sha256 OF THE DUMP (.gsa) THAT YtemhaijcebjhhaaProg.lean LOADS. Nothing in Lean hashes anything: it is a label: what it is worth is what the hold of that sum in a sandbox is worth. -/
noncomputable def Try.pinned : Pinned := { name := "ytemhaijcebjhhaa", sum := "63de4264bba62f19b384c576d42887a2f578db65ae1477e3be1542db44aad55a", checked := Try.checked }
namespace Rows
def none {H : Type} : Left H := { results := [], args := [] }

/-- 'wainscotlaw24.ClipTells': WHATEVER THE INPUT: true; the input reads as it did. -/
def clipTellsSpec : ChangeSpec := { name := "clipTells", fn := fun _ => fun
  | [d1, d2] => { results := [.lit (.bool true)], args := [d1, d2] }
  | _ => none }
def clipTellsRow : OpenClaim := { program := "ytemhaijcebjhhaa", sum := "63de4264bba62f19b384c576d42887a2f578db65ae1477e3be1542db44aad55a", func := "wainscot/wainscotlaw24.ClipTells", spec := "clipTells", apart := false }
def ClipTellsSaid : Prop := clipTellsRow.holds Try.pinned (OpenSpec.ofChange clipTellsSpec)

/-- ITS FALSE NEIGHBOUR: 'it returns false'. Refute it at one input. -/
def clipTellsWrong : ChangeSpec := { name := "clipTells", fn := fun _ => fun
  | [d1, d2] => { results := [.lit (.bool false)], args := [d1, d2] }
  | _ => none }
def ClipTellsWrongFalsely : Prop := clipTellsRow.holds Try.pinned (OpenSpec.ofChange clipTellsWrong)

/-- 'wainscotlaw24.ClipKeeps': WHATEVER THE INPUT: true; the input reads as it did. -/
def clipKeepsSpec : ChangeSpec := { name := "clipKeeps", fn := fun _ => fun
  | [d] => { results := [.lit (.bool true)], args := [d] }
  | _ => none }
def clipKeepsRow : OpenClaim := { program := "ytemhaijcebjhhaa", sum := "63de4264bba62f19b384c576d42887a2f578db65ae1477e3be1542db44aad55a", func := "wainscot/wainscotlaw24.ClipKeeps", spec := "clipKeeps", apart := false }
def ClipKeepsSaid : Prop := clipKeepsRow.holds Try.pinned (OpenSpec.ofChange clipKeepsSpec)

/-- ITS FALSE NEIGHBOUR: 'it returns false'. Refute it at one input. -/
def clipKeepsWrong : ChangeSpec := { name := "clipKeeps", fn := fun _ => fun
  | [d] => { results := [.lit (.bool false)], args := [d] }
  | _ => none }
def ClipKeepsWrongFalsely : Prop := clipKeepsRow.holds Try.pinned (OpenSpec.ofChange clipKeepsWrong)

/-- 'wainscotlaw24.ClipCuts': WHATEVER THE INPUT: true; the input reads as it did. -/
def clipCutsSpec : ChangeSpec := { name := "clipCuts", fn := fun _ => fun
  | [d1, d2, d3] => { results := [.lit (.bool true)], args := [d1, d2, d3] }
  | _ => none }
def clipCutsRow : OpenClaim := { program := "ytemhaijcebjhhaa", sum := "63de4264bba62f19b384c576d42887a2f578db65ae1477e3be1542db44aad55a", func := "wainscot/wainscotlaw24.ClipCuts", spec := "clipCuts", apart := false }
def ClipCutsSaid : Prop := clipCutsRow.holds Try.pinned (OpenSpec.ofChange clipCutsSpec)

/-- ITS FALSE NEIGHBOUR: 'it returns false'. Refute it at one input. -/
def clipCutsWrong : ChangeSpec := { name := "clipCuts", fn := fun _ => fun
  | [d1, d2, d3] => { results := [.lit (.bool false)], args := [d1, d2, d3] }
  | _ => none }
def ClipCutsWrongFalsely : Prop := clipCutsRow.holds Try.pinned (OpenSpec.ofChange clipCutsWrong)

/-- 'wainscotlaw24.ClipTurns': WHATEVER THE INPUT: true; the input reads as it did. -/
def clipTurnsSpec : ChangeSpec := { name := "clipTurns", fn := fun _ => fun
  | [d1, d2] => { results := [.lit (.bool true)], args := [d1, d2] }
  | _ => none }
def clipTurnsRow : OpenClaim := { program := "ytemhaijcebjhhaa", sum := "63de4264bba62f19b384c576d42887a2f578db65ae1477e3be1542db44aad55a", func := "wainscot/wainscotlaw24.ClipTurns", spec := "clipTurns", apart := false }
def ClipTurnsSaid : Prop := clipTurnsRow.holds Try.pinned (OpenSpec.ofChange clipTurnsSpec)

/-- ITS FALSE NEIGHBOUR: 'it returns false'. Refute it at one input. -/
def clipTurnsWrong : ChangeSpec := { name := "clipTurns", fn := fun _ => fun
  | [d1, d2] => { results := [.lit (.bool false)], args := [d1, d2] }
  | _ => none }
def ClipTurnsWrongFalsely : Prop := clipTurnsRow.holds Try.pinned (OpenSpec.ofChange clipTurnsWrong)

/- THE SECOND FORM. 'bulk': how many values and letters a reading holds, each counted each time it is reached (what is shared counts as often as it is met; a slice's spare places count too). A statement '..UptoSaid' is the law's where the arguments, and the package variables that the reading takes, are together of bulk at most 1048576: NARROWER than '..Said'. Prove '..Said' where nothing that the law and all that it calls make is longer than what came in: it says more and counts as full. Else prove '..UptoSaid'. A law counts once. -/
mutual
def uptoBulk {H : Type} : DataW H → Nat
  | .lit (.string bytes) => bytes.length + 1
  | .lit _ => 1
  | .nil => 1
  | .ptr d => uptoBulk d + 1
  | .slice elems spare => uptoBulkAll elems + uptoBulkAll spare + 1
  | .agg parts => uptoBulkAll parts + 1
  | .iface _ d => uptoBulk d + 1
  | .map entries => uptoBulkEntries entries + 1
  | .held _ => 1
def uptoBulkAll {H : Type} : List (DataW H) → Nat
  | [] => 0
  | d :: r => uptoBulk d + uptoBulkAll r
def uptoBulkEntries {H : Type} : List (Lit × DataW H) → Nat
  | [] => 0
  | x :: r => uptoBulkEntry x + uptoBulkEntries r
def uptoBulkEntry {H : Type} : Lit × DataW H → Nat
  | (.string bytes, d) => bytes.length + uptoBulk d + 1
  | (_, d) => uptoBulk d + 1
 end
def uptoSmall : (H : Type) → List (DataW H) → Bool := fun _ ds => decide (uptoBulkAll ds ≤ 1048576)
def OpenSpec.upto (s : _root_.Go.ChangeSpec) : _root_.Go.OpenSpec := { _root_.Go.OpenSpec.ofChange s with cond := some uptoSmall }

/-- 'wainscotlaw24.ClipTells', WHERE WHAT IT READS IS OF BULK AT MOST 1048576: true; the input reads as it did. -/
def clipTellsUptoRow : OpenClaim := { program := "ytemhaijcebjhhaa", sum := "63de4264bba62f19b384c576d42887a2f578db65ae1477e3be1542db44aad55a", func := "wainscot/wainscotlaw24.ClipTells", spec := "clipTells", apart := false, narrowed := true }
def ClipTellsUptoSaid : Prop := clipTellsUptoRow.holds Try.pinned (OpenSpec.upto clipTellsSpec)

/-- 'wainscotlaw24.ClipKeeps', WHERE WHAT IT READS IS OF BULK AT MOST 1048576: true; the input reads as it did. -/
def clipKeepsUptoRow : OpenClaim := { program := "ytemhaijcebjhhaa", sum := "63de4264bba62f19b384c576d42887a2f578db65ae1477e3be1542db44aad55a", func := "wainscot/wainscotlaw24.ClipKeeps", spec := "clipKeeps", apart := false, narrowed := true }
def ClipKeepsUptoSaid : Prop := clipKeepsUptoRow.holds Try.pinned (OpenSpec.upto clipKeepsSpec)

/-- 'wainscotlaw24.ClipCuts', WHERE WHAT IT READS IS OF BULK AT MOST 1048576: true; the input reads as it did. -/
def clipCutsUptoRow : OpenClaim := { program := "ytemhaijcebjhhaa", sum := "63de4264bba62f19b384c576d42887a2f578db65ae1477e3be1542db44aad55a", func := "wainscot/wainscotlaw24.ClipCuts", spec := "clipCuts", apart := false, narrowed := true }
def ClipCutsUptoSaid : Prop := clipCutsUptoRow.holds Try.pinned (OpenSpec.upto clipCutsSpec)

/-- 'wainscotlaw24.ClipTurns', WHERE WHAT IT READS IS OF BULK AT MOST 1048576: true; the input reads as it did. -/
def clipTurnsUptoRow : OpenClaim := { program := "ytemhaijcebjhhaa", sum := "63de4264bba62f19b384c576d42887a2f578db65ae1477e3be1542db44aad55a", func := "wainscot/wainscotlaw24.ClipTurns", spec := "clipTurns", apart := false, narrowed := true }
def ClipTurnsUptoSaid : Prop := clipTurnsUptoRow.holds Try.pinned (OpenSpec.upto clipTurnsSpec)

end Rows
end Go.Proofs.Ytemhaijcebjhhaa
