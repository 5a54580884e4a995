/-
  No cell of these rows narrows 'for every input' (looked for: loops, veiled, ifaces, maps, wideKeys, modest, calm, conditions, laid).
  DERIVED. THE GIVEN ROWS OF THIS SEAT. 8 by the template 'for every input the law returns true; each argument reads behind the call as it read before'; 0 by the template 'total and deterministic' (their statements: YtmkfgbmnbdcnbaaTotals.lean).
  GIVEN WITH THE SEED: the statements are not yours to turn. If you find one false, say at which input.
  Laid BY PROGRAM, IN A SANDBOX (cutbox-rows.mjs): the forced cells as the released guide's own fill.sh prints them over the translation 2e28f048146f059f… (all of the seat's roots in one cut). By AI agents, Wed Nov 11 2026. No macro, syntax, notation, axiom, sorry.
-/
import Derived.Test.YtmkfgbmnbdcnbaaChecked
import GoSem.Claim
import GoSem.ClaimJoined
import GoSem.ClaimMapViews
import Derived.JoinedTies
import Derived.KernelRfl
namespace Go.Proofs.Ytmkfgbmnbdcnbaa
/- THE CELL 'sum', in the pinned program and in every row, IS THE sha256 OF THE DUMP (.gsa) THAT YtmkfgbmnbdcnbaaProg.lean LOADS. Nothing in Lean hashes anything: it is a label: what it is worth is what the hold of that sum in a sandbox is worth. -/
noncomputable def Try.pinned : Pinned := { name := "ytmkfgbmnbdcnbaa", sum := "2e28f048146f059f3afe43242411903327a2e987100285638a9d15580d759e65", checked := Try.checked }
namespace Rows
def none {H : Type} : Left H := { results := [], args := [] }

/-- 'laws.FnSeals': WHATEVER THE INPUT: true; the input reads as it did. -/
def fnSealsSpec : ChangeSpec := { name := "fnSeals", fn := fun _ => fun
  | [d1, d2] => { results := [.lit (.bool true)], args := [d1, d2] }
  | _ => none }
def fnSealsRow : OpenClaim := { program := "ytmkfgbmnbdcnbaa", sum := "2e28f048146f059f3afe43242411903327a2e987100285638a9d15580d759e65", func := "loop.example/g00908/laws.FnSeals", spec := "fnSeals", apart := false }
def FnSealsSaid : Prop := fnSealsRow.holds Try.pinned (OpenSpec.ofChange fnSealsSpec)

/-- ITS FALSE NEIGHBOUR: 'it returns false'. Refute it at one input. -/
def fnSealsWrong : ChangeSpec := { name := "fnSeals", fn := fun _ => fun
  | [d1, d2] => { results := [.lit (.bool false)], args := [d1, d2] }
  | _ => none }
def FnSealsWrongFalsely : Prop := fnSealsRow.holds Try.pinned (OpenSpec.ofChange fnSealsWrong)

/-- 'laws.FnChains': WHATEVER THE INPUT: true; the input reads as it did. -/
def fnChainsSpec : ChangeSpec := { name := "fnChains", fn := fun _ => fun
  | [d1, d2] => { results := [.lit (.bool true)], args := [d1, d2] }
  | _ => none }
def fnChainsRow : OpenClaim := { program := "ytmkfgbmnbdcnbaa", sum := "2e28f048146f059f3afe43242411903327a2e987100285638a9d15580d759e65", func := "loop.example/g00908/laws.FnChains", spec := "fnChains", apart := false }
def FnChainsSaid : Prop := fnChainsRow.holds Try.pinned (OpenSpec.ofChange fnChainsSpec)

/-- ITS FALSE NEIGHBOUR: 'it returns false'. Refute it at one input. -/
def fnChainsWrong : ChangeSpec := { name := "fnChains", fn := fun _ => fun
  | [d1, d2] => { results := [.lit (.bool false)], args := [d1, d2] }
  | _ => none }
def FnChainsWrongFalsely : Prop := fnChainsRow.holds Try.pinned (OpenSpec.ofChange fnChainsWrong)

/-- 'laws.FnStreams': WHATEVER THE INPUT: true; the input reads as it did. -/
def fnStreamsSpec : ChangeSpec := { name := "fnStreams", fn := fun _ => fun
  | [d1, d2] => { results := [.lit (.bool true)], args := [d1, d2] }
  | _ => none }
def fnStreamsRow : OpenClaim := { program := "ytmkfgbmnbdcnbaa", sum := "2e28f048146f059f3afe43242411903327a2e987100285638a9d15580d759e65", func := "loop.example/g00908/laws.FnStreams", spec := "fnStreams", apart := false }
def FnStreamsSaid : Prop := fnStreamsRow.holds Try.pinned (OpenSpec.ofChange fnStreamsSpec)

/-- ITS FALSE NEIGHBOUR: 'it returns false'. Refute it at one input. -/
def fnStreamsWrong : ChangeSpec := { name := "fnStreams", fn := fun _ => fun
  | [d1, d2] => { results := [.lit (.bool false)], args := [d1, d2] }
  | _ => none }
def FnStreamsWrongFalsely : Prop := fnStreamsRow.holds Try.pinned (OpenSpec.ofChange fnStreamsWrong)

/-- 'laws.FnExactRecordKey': WHATEVER THE INPUT: true; the input reads as it did. -/
def fnExactRecordKeySpec : ChangeSpec := { name := "fnExactRecordKey", fn := fun _ => fun
  | [d1, d2, d3] => { results := [.lit (.bool true)], args := [d1, d2, d3] }
  | _ => none }
def fnExactRecordKeyRow : OpenClaim := { program := "ytmkfgbmnbdcnbaa", sum := "2e28f048146f059f3afe43242411903327a2e987100285638a9d15580d759e65", func := "loop.example/g00908/laws.FnExactRecordKey", spec := "fnExactRecordKey", apart := false }
def FnExactRecordKeySaid : Prop := fnExactRecordKeyRow.holds Try.pinned (OpenSpec.ofChange fnExactRecordKeySpec)

/-- ITS FALSE NEIGHBOUR: 'it returns false'. Refute it at one input. -/
def fnExactRecordKeyWrong : ChangeSpec := { name := "fnExactRecordKey", fn := fun _ => fun
  | [d1, d2, d3] => { results := [.lit (.bool false)], args := [d1, d2, d3] }
  | _ => none }
def FnExactRecordKeyWrongFalsely : Prop := fnExactRecordKeyRow.holds Try.pinned (OpenSpec.ofChange fnExactRecordKeyWrong)

/-- 'laws.FnExactKeyedCells': WHATEVER THE INPUT: true; the input reads as it did. -/
def fnExactKeyedCellsSpec : ChangeSpec := { name := "fnExactKeyedCells", fn := fun _ => fun
  | [d1, d2, d3, d4] => { results := [.lit (.bool true)], args := [d1, d2, d3, d4] }
  | _ => none }
def fnExactKeyedCellsRow : OpenClaim := { program := "ytmkfgbmnbdcnbaa", sum := "2e28f048146f059f3afe43242411903327a2e987100285638a9d15580d759e65", func := "loop.example/g00908/laws.FnExactKeyedCells", spec := "fnExactKeyedCells", apart := false }
def FnExactKeyedCellsSaid : Prop := fnExactKeyedCellsRow.holds Try.pinned (OpenSpec.ofChange fnExactKeyedCellsSpec)

/-- ITS FALSE NEIGHBOUR: 'it returns false'. Refute it at one input. -/
def fnExactKeyedCellsWrong : ChangeSpec := { name := "fnExactKeyedCells", fn := fun _ => fun
  | [d1, d2, d3, d4] => { results := [.lit (.bool false)], args := [d1, d2, d3, d4] }
  | _ => none }
def FnExactKeyedCellsWrongFalsely : Prop := fnExactKeyedCellsRow.holds Try.pinned (OpenSpec.ofChange fnExactKeyedCellsWrong)

/-- 'laws.FnExactKeyedTable': WHATEVER THE INPUT: true; the input reads as it did. -/
def fnExactKeyedTableSpec : ChangeSpec := { name := "fnExactKeyedTable", fn := fun _ => fun
  | [d1, d2, d3, d4, d5] => { results := [.lit (.bool true)], args := [d1, d2, d3, d4, d5] }
  | _ => none }
def fnExactKeyedTableRow : OpenClaim := { program := "ytmkfgbmnbdcnbaa", sum := "2e28f048146f059f3afe43242411903327a2e987100285638a9d15580d759e65", func := "loop.example/g00908/laws.FnExactKeyedTable", spec := "fnExactKeyedTable", apart := false }
def FnExactKeyedTableSaid : Prop := fnExactKeyedTableRow.holds Try.pinned (OpenSpec.ofChange fnExactKeyedTableSpec)

/-- ITS FALSE NEIGHBOUR: 'it returns false'. Refute it at one input. -/
def fnExactKeyedTableWrong : ChangeSpec := { name := "fnExactKeyedTable", fn := fun _ => fun
  | [d1, d2, d3, d4, d5] => { results := [.lit (.bool false)], args := [d1, d2, d3, d4, d5] }
  | _ => none }
def FnExactKeyedTableWrongFalsely : Prop := fnExactKeyedTableRow.holds Try.pinned (OpenSpec.ofChange fnExactKeyedTableWrong)

/-- 'laws.FnCellKeys': WHATEVER THE INPUT: true; the input reads as it did. -/
def fnCellKeysSpec : ChangeSpec := { name := "fnCellKeys", fn := fun _ => fun
  | [d1, d2] => { results := [.lit (.bool true)], args := [d1, d2] }
  | _ => none }
def fnCellKeysRow : OpenClaim := { program := "ytmkfgbmnbdcnbaa", sum := "2e28f048146f059f3afe43242411903327a2e987100285638a9d15580d759e65", func := "loop.example/g00908/laws.FnCellKeys", spec := "fnCellKeys", apart := false }
def FnCellKeysSaid : Prop := fnCellKeysRow.holds Try.pinned (OpenSpec.ofChange fnCellKeysSpec)

/-- ITS FALSE NEIGHBOUR: 'it returns false'. Refute it at one input. -/
def fnCellKeysWrong : ChangeSpec := { name := "fnCellKeys", fn := fun _ => fun
  | [d1, d2] => { results := [.lit (.bool false)], args := [d1, d2] }
  | _ => none }
def FnCellKeysWrongFalsely : Prop := fnCellKeysRow.holds Try.pinned (OpenSpec.ofChange fnCellKeysWrong)

/-- 'laws.FnExactFewestIn': WHATEVER THE INPUT: true; the input reads as it did. -/
def fnExactFewestInSpec : ChangeSpec := { name := "fnExactFewestIn", fn := fun _ => fun
  | [d] => { results := [.lit (.bool true)], args := [d] }
  | _ => none }
def fnExactFewestInRow : OpenClaim := { program := "ytmkfgbmnbdcnbaa", sum := "2e28f048146f059f3afe43242411903327a2e987100285638a9d15580d759e65", func := "loop.example/g00908/laws.FnExactFewestIn", spec := "fnExactFewestIn", apart := false }
def FnExactFewestInSaid : Prop := fnExactFewestInRow.holds Try.pinned (OpenSpec.ofChange fnExactFewestInSpec)

/-- ITS FALSE NEIGHBOUR: 'it returns false'. Refute it at one input. -/
def fnExactFewestInWrong : ChangeSpec := { name := "fnExactFewestIn", fn := fun _ => fun
  | [d] => { results := [.lit (.bool false)], args := [d] }
  | _ => none }
def FnExactFewestInWrongFalsely : Prop := fnExactFewestInRow.holds Try.pinned (OpenSpec.ofChange fnExactFewestInWrong)

/- THE SECOND FORM. 'bulk': how many values and letters a reading holds, each counted each time it is reached (what is shared counts as often as it is met; a slice's spare places count too). A statement '..UptoSaid' is the law's where the arguments, and the package variables that the reading takes, are together of bulk at most 1048576: NARROWER than '..Said'. Prove '..Said' where nothing that the law and all that it calls make is longer than what came in: it says more and counts as full. Else prove '..UptoSaid'. A law counts once. -/
mutual
def uptoBulk {H : Type} : DataW H → Nat
  | .lit (.string bytes) => bytes.length + 1
  | .lit _ => 1
  | .nil => 1
  | .ptr d => uptoBulk d + 1
  | .slice elems spare => uptoBulkAll elems + uptoBulkAll spare + 1
  | .agg parts => uptoBulkAll parts + 1
  | .iface _ d => uptoBulk d + 1
  | .map entries => uptoBulkEntries entries + 1
  | .held _ => 1
def uptoBulkAll {H : Type} : List (DataW H) → Nat
  | [] => 0
  | d :: r => uptoBulk d + uptoBulkAll r
def uptoBulkEntries {H : Type} : List (Lit × DataW H) → Nat
  | [] => 0
  | x :: r => uptoBulkEntry x + uptoBulkEntries r
def uptoBulkEntry {H : Type} : Lit × DataW H → Nat
  | (.string bytes, d) => bytes.length + uptoBulk d + 1
  | (_, d) => uptoBulk d + 1
 end
def uptoSmall : (H : Type) → List (DataW H) → Bool := fun _ ds => decide (uptoBulkAll ds ≤ 1048576)
def OpenSpec.upto (s : _root_.Go.ChangeSpec) : _root_.Go.OpenSpec := { _root_.Go.OpenSpec.ofChange s with cond := some uptoSmall }

/-- 'laws.FnSeals', WHERE WHAT IT READS IS OF BULK AT MOST 1048576: true; the input reads as it did. -/
def fnSealsUptoRow : OpenClaim := { program := "ytmkfgbmnbdcnbaa", sum := "2e28f048146f059f3afe43242411903327a2e987100285638a9d15580d759e65", func := "loop.example/g00908/laws.FnSeals", spec := "fnSeals", apart := false, narrowed := true }
def FnSealsUptoSaid : Prop := fnSealsUptoRow.holds Try.pinned (OpenSpec.upto fnSealsSpec)

/-- 'laws.FnChains', WHERE WHAT IT READS IS OF BULK AT MOST 1048576: true; the input reads as it did. -/
def fnChainsUptoRow : OpenClaim := { program := "ytmkfgbmnbdcnbaa", sum := "2e28f048146f059f3afe43242411903327a2e987100285638a9d15580d759e65", func := "loop.example/g00908/laws.FnChains", spec := "fnChains", apart := false, narrowed := true }
def FnChainsUptoSaid : Prop := fnChainsUptoRow.holds Try.pinned (OpenSpec.upto fnChainsSpec)

/-- 'laws.FnStreams', WHERE WHAT IT READS IS OF BULK AT MOST 1048576: true; the input reads as it did. -/
def fnStreamsUptoRow : OpenClaim := { program := "ytmkfgbmnbdcnbaa", sum := "2e28f048146f059f3afe43242411903327a2e987100285638a9d15580d759e65", func := "loop.example/g00908/laws.FnStreams", spec := "fnStreams", apart := false, narrowed := true }
def FnStreamsUptoSaid : Prop := fnStreamsUptoRow.holds Try.pinned (OpenSpec.upto fnStreamsSpec)

/-- 'laws.FnExactRecordKey', WHERE WHAT IT READS IS OF BULK AT MOST 1048576: true; the input reads as it did. -/
def fnExactRecordKeyUptoRow : OpenClaim := { program := "ytmkfgbmnbdcnbaa", sum := "2e28f048146f059f3afe43242411903327a2e987100285638a9d15580d759e65", func := "loop.example/g00908/laws.FnExactRecordKey", spec := "fnExactRecordKey", apart := false, narrowed := true }
def FnExactRecordKeyUptoSaid : Prop := fnExactRecordKeyUptoRow.holds Try.pinned (OpenSpec.upto fnExactRecordKeySpec)

/-- 'laws.FnExactKeyedCells', WHERE WHAT IT READS IS OF BULK AT MOST 1048576: true; the input reads as it did. -/
def fnExactKeyedCellsUptoRow : OpenClaim := { program := "ytmkfgbmnbdcnbaa", sum := "2e28f048146f059f3afe43242411903327a2e987100285638a9d15580d759e65", func := "loop.example/g00908/laws.FnExactKeyedCells", spec := "fnExactKeyedCells", apart := false, narrowed := true }
def FnExactKeyedCellsUptoSaid : Prop := fnExactKeyedCellsUptoRow.holds Try.pinned (OpenSpec.upto fnExactKeyedCellsSpec)

/-- 'laws.FnExactKeyedTable', WHERE WHAT IT READS IS OF BULK AT MOST 1048576: true; the input reads as it did. -/
def fnExactKeyedTableUptoRow : OpenClaim := { program := "ytmkfgbmnbdcnbaa", sum := "2e28f048146f059f3afe43242411903327a2e987100285638a9d15580d759e65", func := "loop.example/g00908/laws.FnExactKeyedTable", spec := "fnExactKeyedTable", apart := false, narrowed := true }
def FnExactKeyedTableUptoSaid : Prop := fnExactKeyedTableUptoRow.holds Try.pinned (OpenSpec.upto fnExactKeyedTableSpec)

/-- 'laws.FnCellKeys', WHERE WHAT IT READS IS OF BULK AT MOST 1048576: true; the input reads as it did. -/
def fnCellKeysUptoRow : OpenClaim := { program := "ytmkfgbmnbdcnbaa", sum := "2e28f048146f059f3afe43242411903327a2e987100285638a9d15580d759e65", func := "loop.example/g00908/laws.FnCellKeys", spec := "fnCellKeys", apart := false, narrowed := true }
def FnCellKeysUptoSaid : Prop := fnCellKeysUptoRow.holds Try.pinned (OpenSpec.upto fnCellKeysSpec)

/-- 'laws.FnExactFewestIn', WHERE WHAT IT READS IS OF BULK AT MOST 1048576: true; the input reads as it did. -/
def fnExactFewestInUptoRow : OpenClaim := { program := "ytmkfgbmnbdcnbaa", sum := "2e28f048146f059f3afe43242411903327a2e987100285638a9d15580d759e65", func := "loop.example/g00908/laws.FnExactFewestIn", spec := "fnExactFewestIn", apart := false, narrowed := true }
def FnExactFewestInUptoSaid : Prop := fnExactFewestInUptoRow.holds Try.pinned (OpenSpec.upto fnExactFewestInSpec)

end Rows
end Go.Proofs.Ytmkfgbmnbdcnbaa
