/-
  No cell of these rows narrows 'for every input' (looked for: loops, veiled, ifaces, maps, wideKeys, modest, calm, conditions, laid).
  DERIVED. THE GIVEN ROWS OF THIS SEAT. 11 by the template 'for every input the law returns true; each argument reads behind the call as it read before'; 0 by the template 'total and deterministic' (their statements: YtpgheiegpcggbaaTotals.lean).
  GIVEN WITH THE SEED: the statements are not yours to turn. If you find one false, say at which input.
  Laid BY PROGRAM, IN A SANDBOX (cutbox-rows.mjs): the forced cells as the released guide's own fill.sh prints them over the translation d638719393263739… (all of the seat's roots in one cut). By AI agents, Wed Nov 11 2026. No macro, syntax, notation, axiom, sorry.
-/
import Derived.Test.YtpgheiegpcggbaaChecked
import GoSem.Claim
import GoSem.ClaimJoined
import GoSem.ClaimMapViews
import Derived.JoinedTies
import Derived.KernelRfl
namespace Go.Proofs.Ytpgheiegpcggbaa
/- THE CELL 'sum', in the pinned program and in every row, IS THE sha256 OF THE DUMP (.gsa) THAT YtpgheiegpcggbaaProg.lean LOADS. Nothing in Lean hashes anything: it is a label: what it is worth is what the hold of that sum in a sandbox is worth. -/
noncomputable def Try.pinned : Pinned := { name := "ytpgheiegpcggbaa", sum := "d638719393263739e9923663b0bbe8f5675404d9fd8dc1b0356317ff3a0f6d3f", checked := Try.checked }
namespace Rows
def none {H : Type} : Left H := { results := [], args := [] }

/-- 'wainscotlaw28.ShadeTells': WHATEVER THE INPUT: true; the input reads as it did. -/
def shadeTellsSpec : ChangeSpec := { name := "shadeTells", fn := fun _ => fun
  | [d1, d2, d3, d4] => { results := [.lit (.bool true)], args := [d1, d2, d3, d4] }
  | _ => none }
def shadeTellsRow : OpenClaim := { program := "ytpgheiegpcggbaa", sum := "d638719393263739e9923663b0bbe8f5675404d9fd8dc1b0356317ff3a0f6d3f", func := "wainscot/wainscotlaw28.ShadeTells", spec := "shadeTells", apart := false }
def ShadeTellsSaid : Prop := shadeTellsRow.holds Try.pinned (OpenSpec.ofChange shadeTellsSpec)

/-- ITS FALSE NEIGHBOUR: 'it returns false'. Refute it at one input. -/
def shadeTellsWrong : ChangeSpec := { name := "shadeTells", fn := fun _ => fun
  | [d1, d2, d3, d4] => { results := [.lit (.bool false)], args := [d1, d2, d3, d4] }
  | _ => none }
def ShadeTellsWrongFalsely : Prop := shadeTellsRow.holds Try.pinned (OpenSpec.ofChange shadeTellsWrong)

/-- 'wainscotlaw28.ShadeHangs': WHATEVER THE INPUT: true; the input reads as it did. -/
def shadeHangsSpec : ChangeSpec := { name := "shadeHangs", fn := fun _ => fun
  | [d1, d2, d3, d4] => { results := [.lit (.bool true)], args := [d1, d2, d3, d4] }
  | _ => none }
def shadeHangsRow : OpenClaim := { program := "ytpgheiegpcggbaa", sum := "d638719393263739e9923663b0bbe8f5675404d9fd8dc1b0356317ff3a0f6d3f", func := "wainscot/wainscotlaw28.ShadeHangs", spec := "shadeHangs", apart := false }
def ShadeHangsSaid : Prop := shadeHangsRow.holds Try.pinned (OpenSpec.ofChange shadeHangsSpec)

/-- ITS FALSE NEIGHBOUR: 'it returns false'. Refute it at one input. -/
def shadeHangsWrong : ChangeSpec := { name := "shadeHangs", fn := fun _ => fun
  | [d1, d2, d3, d4] => { results := [.lit (.bool false)], args := [d1, d2, d3, d4] }
  | _ => none }
def ShadeHangsWrongFalsely : Prop := shadeHangsRow.holds Try.pinned (OpenSpec.ofChange shadeHangsWrong)

/-- 'wainscotlaw28.ShadeDark': WHATEVER THE INPUT: true; the input reads as it did. -/
def shadeDarkSpec : ChangeSpec := { name := "shadeDark", fn := fun _ => fun
  | [d1, d2, d3] => { results := [.lit (.bool true)], args := [d1, d2, d3] }
  | _ => none }
def shadeDarkRow : OpenClaim := { program := "ytpgheiegpcggbaa", sum := "d638719393263739e9923663b0bbe8f5675404d9fd8dc1b0356317ff3a0f6d3f", func := "wainscot/wainscotlaw28.ShadeDark", spec := "shadeDark", apart := false }
def ShadeDarkSaid : Prop := shadeDarkRow.holds Try.pinned (OpenSpec.ofChange shadeDarkSpec)

/-- ITS FALSE NEIGHBOUR: 'it returns false'. Refute it at one input. -/
def shadeDarkWrong : ChangeSpec := { name := "shadeDark", fn := fun _ => fun
  | [d1, d2, d3] => { results := [.lit (.bool false)], args := [d1, d2, d3] }
  | _ => none }
def ShadeDarkWrongFalsely : Prop := shadeDarkRow.holds Try.pinned (OpenSpec.ofChange shadeDarkWrong)

/-- 'wainscotlaw3.HueTells': WHATEVER THE INPUT: true; the input reads as it did. -/
def hueTellsSpec : ChangeSpec := { name := "hueTells", fn := fun _ => fun
  | [d1, d2, d3, d4, d5, d6] => { results := [.lit (.bool true)], args := [d1, d2, d3, d4, d5, d6] }
  | _ => none }
def hueTellsRow : OpenClaim := { program := "ytpgheiegpcggbaa", sum := "d638719393263739e9923663b0bbe8f5675404d9fd8dc1b0356317ff3a0f6d3f", func := "wainscot/wainscotlaw3.HueTells", spec := "hueTells", apart := false }
def HueTellsSaid : Prop := hueTellsRow.holds Try.pinned (OpenSpec.ofChange hueTellsSpec)

/-- ITS FALSE NEIGHBOUR: 'it returns false'. Refute it at one input. -/
def hueTellsWrong : ChangeSpec := { name := "hueTells", fn := fun _ => fun
  | [d1, d2, d3, d4, d5, d6] => { results := [.lit (.bool false)], args := [d1, d2, d3, d4, d5, d6] }
  | _ => none }
def HueTellsWrongFalsely : Prop := hueTellsRow.holds Try.pinned (OpenSpec.ofChange hueTellsWrong)

/-- 'wainscotlaw3.HueKeeps': WHATEVER THE INPUT: true; the input reads as it did. -/
def hueKeepsSpec : ChangeSpec := { name := "hueKeeps", fn := fun _ => fun
  | [d1, d2, d3] => { results := [.lit (.bool true)], args := [d1, d2, d3] }
  | _ => none }
def hueKeepsRow : OpenClaim := { program := "ytpgheiegpcggbaa", sum := "d638719393263739e9923663b0bbe8f5675404d9fd8dc1b0356317ff3a0f6d3f", func := "wainscot/wainscotlaw3.HueKeeps", spec := "hueKeeps", apart := false }
def HueKeepsSaid : Prop := hueKeepsRow.holds Try.pinned (OpenSpec.ofChange hueKeepsSpec)

/-- ITS FALSE NEIGHBOUR: 'it returns false'. Refute it at one input. -/
def hueKeepsWrong : ChangeSpec := { name := "hueKeeps", fn := fun _ => fun
  | [d1, d2, d3] => { results := [.lit (.bool false)], args := [d1, d2, d3] }
  | _ => none }
def HueKeepsWrongFalsely : Prop := hueKeepsRow.holds Try.pinned (OpenSpec.ofChange hueKeepsWrong)

/-- 'wainscotlaw3.HueBack': WHATEVER THE INPUT: true; the input reads as it did. -/
def hueBackSpec : ChangeSpec := { name := "hueBack", fn := fun _ => fun
  | [d1, d2] => { results := [.lit (.bool true)], args := [d1, d2] }
  | _ => none }
def hueBackRow : OpenClaim := { program := "ytpgheiegpcggbaa", sum := "d638719393263739e9923663b0bbe8f5675404d9fd8dc1b0356317ff3a0f6d3f", func := "wainscot/wainscotlaw3.HueBack", spec := "hueBack", apart := false }
def HueBackSaid : Prop := hueBackRow.holds Try.pinned (OpenSpec.ofChange hueBackSpec)

/-- ITS FALSE NEIGHBOUR: 'it returns false'. Refute it at one input. -/
def hueBackWrong : ChangeSpec := { name := "hueBack", fn := fun _ => fun
  | [d1, d2] => { results := [.lit (.bool false)], args := [d1, d2] }
  | _ => none }
def HueBackWrongFalsely : Prop := hueBackRow.holds Try.pinned (OpenSpec.ofChange hueBackWrong)

/-- 'wainscotlaw3.HueGoes': WHATEVER THE INPUT: true; the input reads as it did. -/
def hueGoesSpec : ChangeSpec := { name := "hueGoes", fn := fun _ => fun
  | [d1, d2, d3, d4] => { results := [.lit (.bool true)], args := [d1, d2, d3, d4] }
  | _ => none }
def hueGoesRow : OpenClaim := { program := "ytpgheiegpcggbaa", sum := "d638719393263739e9923663b0bbe8f5675404d9fd8dc1b0356317ff3a0f6d3f", func := "wainscot/wainscotlaw3.HueGoes", spec := "hueGoes", apart := false }
def HueGoesSaid : Prop := hueGoesRow.holds Try.pinned (OpenSpec.ofChange hueGoesSpec)

/-- ITS FALSE NEIGHBOUR: 'it returns false'. Refute it at one input. -/
def hueGoesWrong : ChangeSpec := { name := "hueGoes", fn := fun _ => fun
  | [d1, d2, d3, d4] => { results := [.lit (.bool false)], args := [d1, d2, d3, d4] }
  | _ => none }
def HueGoesWrongFalsely : Prop := hueGoesRow.holds Try.pinned (OpenSpec.ofChange hueGoesWrong)

/-- 'wainscotlaw3.HueMeans': WHATEVER THE INPUT: true; the input reads as it did. -/
def hueMeansSpec : ChangeSpec := { name := "hueMeans", fn := fun _ => fun
  | [d1, d2] => { results := [.lit (.bool true)], args := [d1, d2] }
  | _ => none }
def hueMeansRow : OpenClaim := { program := "ytpgheiegpcggbaa", sum := "d638719393263739e9923663b0bbe8f5675404d9fd8dc1b0356317ff3a0f6d3f", func := "wainscot/wainscotlaw3.HueMeans", spec := "hueMeans", apart := false }
def HueMeansSaid : Prop := hueMeansRow.holds Try.pinned (OpenSpec.ofChange hueMeansSpec)

/-- ITS FALSE NEIGHBOUR: 'it returns false'. Refute it at one input. -/
def hueMeansWrong : ChangeSpec := { name := "hueMeans", fn := fun _ => fun
  | [d1, d2] => { results := [.lit (.bool false)], args := [d1, d2] }
  | _ => none }
def HueMeansWrongFalsely : Prop := hueMeansRow.holds Try.pinned (OpenSpec.ofChange hueMeansWrong)

/-- 'wainscotlaw22.LevelGrows': WHATEVER THE INPUT: true; the input reads as it did. -/
def levelGrowsSpec : ChangeSpec := { name := "levelGrows", fn := fun _ => fun
  | [d1, d2, d3] => { results := [.lit (.bool true)], args := [d1, d2, d3] }
  | _ => none }
def levelGrowsRow : OpenClaim := { program := "ytpgheiegpcggbaa", sum := "d638719393263739e9923663b0bbe8f5675404d9fd8dc1b0356317ff3a0f6d3f", func := "wainscot/wainscotlaw22.LevelGrows", spec := "levelGrows", apart := false }
def LevelGrowsSaid : Prop := levelGrowsRow.holds Try.pinned (OpenSpec.ofChange levelGrowsSpec)

/-- ITS FALSE NEIGHBOUR: 'it returns false'. Refute it at one input. -/
def levelGrowsWrong : ChangeSpec := { name := "levelGrows", fn := fun _ => fun
  | [d1, d2, d3] => { results := [.lit (.bool false)], args := [d1, d2, d3] }
  | _ => none }
def LevelGrowsWrongFalsely : Prop := levelGrowsRow.holds Try.pinned (OpenSpec.ofChange levelGrowsWrong)

/-- 'wainscotlaw22.LevelPowers': WHATEVER THE INPUT: true; the input reads as it did. -/
def levelPowersSpec : ChangeSpec := { name := "levelPowers", fn := fun _ => fun
  | [d] => { results := [.lit (.bool true)], args := [d] }
  | _ => none }
def levelPowersRow : OpenClaim := { program := "ytpgheiegpcggbaa", sum := "d638719393263739e9923663b0bbe8f5675404d9fd8dc1b0356317ff3a0f6d3f", func := "wainscot/wainscotlaw22.LevelPowers", spec := "levelPowers", apart := false }
def LevelPowersSaid : Prop := levelPowersRow.holds Try.pinned (OpenSpec.ofChange levelPowersSpec)

/-- ITS FALSE NEIGHBOUR: 'it returns false'. Refute it at one input. -/
def levelPowersWrong : ChangeSpec := { name := "levelPowers", fn := fun _ => fun
  | [d] => { results := [.lit (.bool false)], args := [d] }
  | _ => none }
def LevelPowersWrongFalsely : Prop := levelPowersRow.holds Try.pinned (OpenSpec.ofChange levelPowersWrong)

/-- 'wainscotlaw22.LevelTwo': WHATEVER THE INPUT: true; the input reads as it did. -/
def levelTwoSpec : ChangeSpec := { name := "levelTwo", fn := fun _ => fun
  | [d1, d2, d3, d4, d5, d6] => { results := [.lit (.bool true)], args := [d1, d2, d3, d4, d5, d6] }
  | _ => none }
def levelTwoRow : OpenClaim := { program := "ytpgheiegpcggbaa", sum := "d638719393263739e9923663b0bbe8f5675404d9fd8dc1b0356317ff3a0f6d3f", func := "wainscot/wainscotlaw22.LevelTwo", spec := "levelTwo", apart := false }
def LevelTwoSaid : Prop := levelTwoRow.holds Try.pinned (OpenSpec.ofChange levelTwoSpec)

/-- ITS FALSE NEIGHBOUR: 'it returns false'. Refute it at one input. -/
def levelTwoWrong : ChangeSpec := { name := "levelTwo", fn := fun _ => fun
  | [d1, d2, d3, d4, d5, d6] => { results := [.lit (.bool false)], args := [d1, d2, d3, d4, d5, d6] }
  | _ => none }
def LevelTwoWrongFalsely : Prop := levelTwoRow.holds Try.pinned (OpenSpec.ofChange levelTwoWrong)

/- THE SECOND FORM. 'bulk': how many values and letters a reading holds, each counted each time it is reached (what is shared counts as often as it is met; a slice's spare places count too). A statement '..UptoSaid' is the law's where the arguments, and the package variables that the reading takes, are together of bulk at most 1048576: NARROWER than '..Said'. Prove '..Said' where nothing that the law and all that it calls make is longer than what came in: it says more and counts as full. Else prove '..UptoSaid'. A law counts once. -/
mutual
def uptoBulk {H : Type} : DataW H → Nat
  | .lit (.string bytes) => bytes.length + 1
  | .lit _ => 1
  | .nil => 1
  | .ptr d => uptoBulk d + 1
  | .slice elems spare => uptoBulkAll elems + uptoBulkAll spare + 1
  | .agg parts => uptoBulkAll parts + 1
  | .iface _ d => uptoBulk d + 1
  | .map entries => uptoBulkEntries entries + 1
  | .held _ => 1
def uptoBulkAll {H : Type} : List (DataW H) → Nat
  | [] => 0
  | d :: r => uptoBulk d + uptoBulkAll r
def uptoBulkEntries {H : Type} : List (Lit × DataW H) → Nat
  | [] => 0
  | x :: r => uptoBulkEntry x + uptoBulkEntries r
def uptoBulkEntry {H : Type} : Lit × DataW H → Nat
  | (.string bytes, d) => bytes.length + uptoBulk d + 1
  | (_, d) => uptoBulk d + 1
 end
def uptoSmall : (H : Type) → List (DataW H) → Bool := fun _ ds => decide (uptoBulkAll ds ≤ 1048576)
def OpenSpec.upto (s : _root_.Go.ChangeSpec) : _root_.Go.OpenSpec := { _root_.Go.OpenSpec.ofChange s with cond := some uptoSmall }

/-- 'wainscotlaw28.ShadeTells', WHERE WHAT IT READS IS OF BULK AT MOST 1048576: true; the input reads as it did. -/
def shadeTellsUptoRow : OpenClaim := { program := "ytpgheiegpcggbaa", sum := "d638719393263739e9923663b0bbe8f5675404d9fd8dc1b0356317ff3a0f6d3f", func := "wainscot/wainscotlaw28.ShadeTells", spec := "shadeTells", apart := false, narrowed := true }
def ShadeTellsUptoSaid : Prop := shadeTellsUptoRow.holds Try.pinned (OpenSpec.upto shadeTellsSpec)

/-- 'wainscotlaw28.ShadeHangs', WHERE WHAT IT READS IS OF BULK AT MOST 1048576: true; the input reads as it did. -/
def shadeHangsUptoRow : OpenClaim := { program := "ytpgheiegpcggbaa", sum := "d638719393263739e9923663b0bbe8f5675404d9fd8dc1b0356317ff3a0f6d3f", func := "wainscot/wainscotlaw28.ShadeHangs", spec := "shadeHangs", apart := false, narrowed := true }
def ShadeHangsUptoSaid : Prop := shadeHangsUptoRow.holds Try.pinned (OpenSpec.upto shadeHangsSpec)

/-- 'wainscotlaw28.ShadeDark', WHERE WHAT IT READS IS OF BULK AT MOST 1048576: true; the input reads as it did. -/
def shadeDarkUptoRow : OpenClaim := { program := "ytpgheiegpcggbaa", sum := "d638719393263739e9923663b0bbe8f5675404d9fd8dc1b0356317ff3a0f6d3f", func := "wainscot/wainscotlaw28.ShadeDark", spec := "shadeDark", apart := false, narrowed := true }
def ShadeDarkUptoSaid : Prop := shadeDarkUptoRow.holds Try.pinned (OpenSpec.upto shadeDarkSpec)

/-- 'wainscotlaw3.HueTells', WHERE WHAT IT READS IS OF BULK AT MOST 1048576: true; the input reads as it did. -/
def hueTellsUptoRow : OpenClaim := { program := "ytpgheiegpcggbaa", sum := "d638719393263739e9923663b0bbe8f5675404d9fd8dc1b0356317ff3a0f6d3f", func := "wainscot/wainscotlaw3.HueTells", spec := "hueTells", apart := false, narrowed := true }
def HueTellsUptoSaid : Prop := hueTellsUptoRow.holds Try.pinned (OpenSpec.upto hueTellsSpec)

/-- 'wainscotlaw3.HueKeeps', WHERE WHAT IT READS IS OF BULK AT MOST 1048576: true; the input reads as it did. -/
def hueKeepsUptoRow : OpenClaim := { program := "ytpgheiegpcggbaa", sum := "d638719393263739e9923663b0bbe8f5675404d9fd8dc1b0356317ff3a0f6d3f", func := "wainscot/wainscotlaw3.HueKeeps", spec := "hueKeeps", apart := false, narrowed := true }
def HueKeepsUptoSaid : Prop := hueKeepsUptoRow.holds Try.pinned (OpenSpec.upto hueKeepsSpec)

/-- 'wainscotlaw3.HueBack', WHERE WHAT IT READS IS OF BULK AT MOST 1048576: true; the input reads as it did. -/
def hueBackUptoRow : OpenClaim := { program := "ytpgheiegpcggbaa", sum := "d638719393263739e9923663b0bbe8f5675404d9fd8dc1b0356317ff3a0f6d3f", func := "wainscot/wainscotlaw3.HueBack", spec := "hueBack", apart := false, narrowed := true }
def HueBackUptoSaid : Prop := hueBackUptoRow.holds Try.pinned (OpenSpec.upto hueBackSpec)

/-- 'wainscotlaw3.HueGoes', WHERE WHAT IT READS IS OF BULK AT MOST 1048576: true; the input reads as it did. -/
def hueGoesUptoRow : OpenClaim := { program := "ytpgheiegpcggbaa", sum := "d638719393263739e9923663b0bbe8f5675404d9fd8dc1b0356317ff3a0f6d3f", func := "wainscot/wainscotlaw3.HueGoes", spec := "hueGoes", apart := false, narrowed := true }
def HueGoesUptoSaid : Prop := hueGoesUptoRow.holds Try.pinned (OpenSpec.upto hueGoesSpec)

/-- 'wainscotlaw3.HueMeans', WHERE WHAT IT READS IS OF BULK AT MOST 1048576: true; the input reads as it did. -/
def hueMeansUptoRow : OpenClaim := { program := "ytpgheiegpcggbaa", sum := "d638719393263739e9923663b0bbe8f5675404d9fd8dc1b0356317ff3a0f6d3f", func := "wainscot/wainscotlaw3.HueMeans", spec := "hueMeans", apart := false, narrowed := true }
def HueMeansUptoSaid : Prop := hueMeansUptoRow.holds Try.pinned (OpenSpec.upto hueMeansSpec)

/-- 'wainscotlaw22.LevelGrows', WHERE WHAT IT READS IS OF BULK AT MOST 1048576: true; the input reads as it did. -/
def levelGrowsUptoRow : OpenClaim := { program := "ytpgheiegpcggbaa", sum := "d638719393263739e9923663b0bbe8f5675404d9fd8dc1b0356317ff3a0f6d3f", func := "wainscot/wainscotlaw22.LevelGrows", spec := "levelGrows", apart := false, narrowed := true }
def LevelGrowsUptoSaid : Prop := levelGrowsUptoRow.holds Try.pinned (OpenSpec.upto levelGrowsSpec)

/-- 'wainscotlaw22.LevelPowers', WHERE WHAT IT READS IS OF BULK AT MOST 1048576: true; the input reads as it did. -/
def levelPowersUptoRow : OpenClaim := { program := "ytpgheiegpcggbaa", sum := "d638719393263739e9923663b0bbe8f5675404d9fd8dc1b0356317ff3a0f6d3f", func := "wainscot/wainscotlaw22.LevelPowers", spec := "levelPowers", apart := false, narrowed := true }
def LevelPowersUptoSaid : Prop := levelPowersUptoRow.holds Try.pinned (OpenSpec.upto levelPowersSpec)

/-- 'wainscotlaw22.LevelTwo', WHERE WHAT IT READS IS OF BULK AT MOST 1048576: true; the input reads as it did. -/
def levelTwoUptoRow : OpenClaim := { program := "ytpgheiegpcggbaa", sum := "d638719393263739e9923663b0bbe8f5675404d9fd8dc1b0356317ff3a0f6d3f", func := "wainscot/wainscotlaw22.LevelTwo", spec := "levelTwo", apart := false, narrowed := true }
def LevelTwoUptoSaid : Prop := levelTwoUptoRow.holds Try.pinned (OpenSpec.upto levelTwoSpec)

end Rows
end Go.Proofs.Ytpgheiegpcggbaa
