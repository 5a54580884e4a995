/-
  No cell of these rows narrows 'for every input' (looked for: loops, veiled, ifaces, maps, wideKeys, modest, calm, conditions, laid).
  DERIVED. THE GIVEN ROWS OF THIS SEAT. 3 by the template 'for every input the law returns true; each argument reads behind the call as it read before'; 0 by the template 'total and deterministic' (their statements: YtgeilnkglbcmeaaTotals.lean).
  GIVEN WITH THE SEED: the statements are not yours to turn. If you find one false, say at which input.
  Laid BY PROGRAM, IN A SANDBOX (cutbox-rows.mjs): the forced cells as the released guide's own fill.sh prints them over the translation 35bd754e72757b68… (all of the seat's roots in one cut). By AI agents, Wed Nov 11 2026. No macro, syntax, notation, axiom, sorry.
-/
import Derived.Test.YtgeilnkglbcmeaaChecked
import GoSem.Claim
import GoSem.ClaimJoined
import GoSem.ClaimMapViews
import Derived.JoinedTies
import Derived.KernelRfl
namespace Go.Proofs.Ytgeilnkglbcmeaa
/- THE CELL 'sum', in the pinned program and in every row, IS THE sha256 OF THE DUMP (.gsa) THAT YtgeilnkglbcmeaaProg.lean LOADS. Nothing in Lean hashes anything: it is a label: what it is worth is what the hold of that sum in a sandbox is worth. -/
noncomputable def Try.pinned : Pinned := { name := "ytgeilnkglbcmeaa", sum := "35bd754e72757b689be0a3e75d612c70b5ae892bfdec8ef3b412bdf1660e075f", checked := Try.checked }
namespace Rows
def none {H : Type} : Left H := { results := [], args := [] }

/-- 'laws.FnExactKeyedTable': WHATEVER THE INPUT: true; the input reads as it did. -/
def fnExactKeyedTableSpec : ChangeSpec := { name := "fnExactKeyedTable", fn := fun _ => fun
  | [d1, d2, d3, d4, d5] => { results := [.lit (.bool true)], args := [d1, d2, d3, d4, d5] }
  | _ => none }
def fnExactKeyedTableRow : OpenClaim := { program := "ytgeilnkglbcmeaa", sum := "35bd754e72757b689be0a3e75d612c70b5ae892bfdec8ef3b412bdf1660e075f", func := "loop.example/g00908/laws.FnExactKeyedTable", spec := "fnExactKeyedTable", apart := false }
def FnExactKeyedTableSaid : Prop := fnExactKeyedTableRow.holds Try.pinned (OpenSpec.ofChange fnExactKeyedTableSpec)

/-- ITS FALSE NEIGHBOUR: 'it returns false'. Refute it at one input. -/
def fnExactKeyedTableWrong : ChangeSpec := { name := "fnExactKeyedTable", fn := fun _ => fun
  | [d1, d2, d3, d4, d5] => { results := [.lit (.bool false)], args := [d1, d2, d3, d4, d5] }
  | _ => none }
def FnExactKeyedTableWrongFalsely : Prop := fnExactKeyedTableRow.holds Try.pinned (OpenSpec.ofChange fnExactKeyedTableWrong)

/-- 'laws.FnCellKeys': WHATEVER THE INPUT: true; the input reads as it did. -/
def fnCellKeysSpec : ChangeSpec := { name := "fnCellKeys", fn := fun _ => fun
  | [d1, d2] => { results := [.lit (.bool true)], args := [d1, d2] }
  | _ => none }
def fnCellKeysRow : OpenClaim := { program := "ytgeilnkglbcmeaa", sum := "35bd754e72757b689be0a3e75d612c70b5ae892bfdec8ef3b412bdf1660e075f", func := "loop.example/g00908/laws.FnCellKeys", spec := "fnCellKeys", apart := false }
def FnCellKeysSaid : Prop := fnCellKeysRow.holds Try.pinned (OpenSpec.ofChange fnCellKeysSpec)

/-- ITS FALSE NEIGHBOUR: 'it returns false'. Refute it at one input. -/
def fnCellKeysWrong : ChangeSpec := { name := "fnCellKeys", fn := fun _ => fun
  | [d1, d2] => { results := [.lit (.bool false)], args := [d1, d2] }
  | _ => none }
def FnCellKeysWrongFalsely : Prop := fnCellKeysRow.holds Try.pinned (OpenSpec.ofChange fnCellKeysWrong)

/-- 'laws.FnLinks': WHATEVER THE INPUT: true; the input reads as it did. -/
def fnLinksSpec : ChangeSpec := { name := "fnLinks", fn := fun _ => fun
  | [d1, d2] => { results := [.lit (.bool true)], args := [d1, d2] }
  | _ => none }
def fnLinksRow : OpenClaim := { program := "ytgeilnkglbcmeaa", sum := "35bd754e72757b689be0a3e75d612c70b5ae892bfdec8ef3b412bdf1660e075f", func := "loop.example/g00908/laws.FnLinks", spec := "fnLinks", apart := false }
def FnLinksSaid : Prop := fnLinksRow.holds Try.pinned (OpenSpec.ofChange fnLinksSpec)

/-- ITS FALSE NEIGHBOUR: 'it returns false'. Refute it at one input. -/
def fnLinksWrong : ChangeSpec := { name := "fnLinks", fn := fun _ => fun
  | [d1, d2] => { results := [.lit (.bool false)], args := [d1, d2] }
  | _ => none }
def FnLinksWrongFalsely : Prop := fnLinksRow.holds Try.pinned (OpenSpec.ofChange fnLinksWrong)

/- THE SECOND FORM. 'bulk': how many values and letters a reading holds, each counted each time it is reached (what is shared counts as often as it is met; a slice's spare places count too). A statement '..UptoSaid' is the law's where the arguments, and the package variables that the reading takes, are together of bulk at most 1048576: NARROWER than '..Said'. Prove '..Said' where nothing that the law and all that it calls make is longer than what came in: it says more and counts as full. Else prove '..UptoSaid'. A law counts once. -/
mutual
def uptoBulk {H : Type} : DataW H → Nat
  | .lit (.string bytes) => bytes.length + 1
  | .lit _ => 1
  | .nil => 1
  | .ptr d => uptoBulk d + 1
  | .slice elems spare => uptoBulkAll elems + uptoBulkAll spare + 1
  | .agg parts => uptoBulkAll parts + 1
  | .iface _ d => uptoBulk d + 1
  | .map entries => uptoBulkEntries entries + 1
  | .held _ => 1
def uptoBulkAll {H : Type} : List (DataW H) → Nat
  | [] => 0
  | d :: r => uptoBulk d + uptoBulkAll r
def uptoBulkEntries {H : Type} : List (Lit × DataW H) → Nat
  | [] => 0
  | x :: r => uptoBulkEntry x + uptoBulkEntries r
def uptoBulkEntry {H : Type} : Lit × DataW H → Nat
  | (.string bytes, d) => bytes.length + uptoBulk d + 1
  | (_, d) => uptoBulk d + 1
 end
def uptoSmall : (H : Type) → List (DataW H) → Bool := fun _ ds => decide (uptoBulkAll ds ≤ 1048576)
def OpenSpec.upto (s : _root_.Go.ChangeSpec) : _root_.Go.OpenSpec := { _root_.Go.OpenSpec.ofChange s with cond := some uptoSmall }

/-- 'laws.FnExactKeyedTable', WHERE WHAT IT READS IS OF BULK AT MOST 1048576: true; the input reads as it did. -/
def fnExactKeyedTableUptoRow : OpenClaim := { program := "ytgeilnkglbcmeaa", sum := "35bd754e72757b689be0a3e75d612c70b5ae892bfdec8ef3b412bdf1660e075f", func := "loop.example/g00908/laws.FnExactKeyedTable", spec := "fnExactKeyedTable", apart := false, narrowed := true }
def FnExactKeyedTableUptoSaid : Prop := fnExactKeyedTableUptoRow.holds Try.pinned (OpenSpec.upto fnExactKeyedTableSpec)

/-- 'laws.FnCellKeys', WHERE WHAT IT READS IS OF BULK AT MOST 1048576: true; the input reads as it did. -/
def fnCellKeysUptoRow : OpenClaim := { program := "ytgeilnkglbcmeaa", sum := "35bd754e72757b689be0a3e75d612c70b5ae892bfdec8ef3b412bdf1660e075f", func := "loop.example/g00908/laws.FnCellKeys", spec := "fnCellKeys", apart := false, narrowed := true }
def FnCellKeysUptoSaid : Prop := fnCellKeysUptoRow.holds Try.pinned (OpenSpec.upto fnCellKeysSpec)

/-- 'laws.FnLinks', WHERE WHAT IT READS IS OF BULK AT MOST 1048576: true; the input reads as it did. -/
def fnLinksUptoRow : OpenClaim := { program := "ytgeilnkglbcmeaa", sum := "35bd754e72757b689be0a3e75d612c70b5ae892bfdec8ef3b412bdf1660e075f", func := "loop.example/g00908/laws.FnLinks", spec := "fnLinks", apart := false, narrowed := true }
def FnLinksUptoSaid : Prop := fnLinksUptoRow.holds Try.pinned (OpenSpec.upto fnLinksSpec)

end Rows
end Go.Proofs.Ytgeilnkglbcmeaa
