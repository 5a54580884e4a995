/-
  No cell of these rows narrows 'for every input' (looked for: loops, veiled, ifaces, maps, wideKeys, modest, calm, conditions, laid).
  DERIVED. THE GIVEN ROWS OF THIS SEAT. 12 by the template 'for every input the law returns true; each argument reads behind the call as it read before'; 0 by the template 'total and deterministic' (their statements: YthphjfelpbfdmaaTotals.lean).
  GIVEN WITH THE SEED: the statements are not yours to turn. If you find one false, say at which input.
  Laid BY PROGRAM, IN A SANDBOX (cutbox-rows.mjs): the forced cells as the released guide's own fill.sh prints them over the translation 65ddd77c581e4ea5… (all of the seat's roots in one cut). By AI agents, Wed Nov 11 2026. No macro, syntax, notation, axiom, sorry.
-/
import Derived.Test.YthphjfelpbfdmaaChecked
import GoSem.Claim
import GoSem.ClaimJoined
import GoSem.ClaimMapViews
import Derived.JoinedTies
import Derived.KernelRfl
namespace Go.Proofs.Ythphjfelpbfdmaa
/- THE CELL 'sum', in the pinned program and in every row, IS THE sha256 OF THE DUMP (.gsa) THAT YthphjfelpbfdmaaProg.lean LOADS. Nothing in Lean hashes anything: it is a label: what it is worth is what the hold of that sum in a sandbox is worth. -/
noncomputable def Try.pinned : Pinned := { name := "ythphjfelpbfdmaa", sum := "65ddd77c581e4ea5297c72e45f5485126372ec0ce7ec330566535d92b3f798d5", checked := Try.checked }
namespace Rows
def none {H : Type} : Left H := { results := [], args := [] }

/-- 'laws.FnExactRecordKey': WHATEVER THE INPUT: true; the input reads as it did. -/
def fnExactRecordKeySpec : ChangeSpec := { name := "fnExactRecordKey", fn := fun _ => fun
  | [d1, d2, d3] => { results := [.lit (.bool true)], args := [d1, d2, d3] }
  | _ => none }
def fnExactRecordKeyRow : OpenClaim := { program := "ythphjfelpbfdmaa", sum := "65ddd77c581e4ea5297c72e45f5485126372ec0ce7ec330566535d92b3f798d5", func := "loop.example/g00908/laws.FnExactRecordKey", spec := "fnExactRecordKey", apart := false }
def FnExactRecordKeySaid : Prop := fnExactRecordKeyRow.holds Try.pinned (OpenSpec.ofChange fnExactRecordKeySpec)

/-- ITS FALSE NEIGHBOUR: 'it returns false'. Refute it at one input. -/
def fnExactRecordKeyWrong : ChangeSpec := { name := "fnExactRecordKey", fn := fun _ => fun
  | [d1, d2, d3] => { results := [.lit (.bool false)], args := [d1, d2, d3] }
  | _ => none }
def FnExactRecordKeyWrongFalsely : Prop := fnExactRecordKeyRow.holds Try.pinned (OpenSpec.ofChange fnExactRecordKeyWrong)

/-- 'laws.FnExactKeyedCells': WHATEVER THE INPUT: true; the input reads as it did. -/
def fnExactKeyedCellsSpec : ChangeSpec := { name := "fnExactKeyedCells", fn := fun _ => fun
  | [d1, d2, d3, d4] => { results := [.lit (.bool true)], args := [d1, d2, d3, d4] }
  | _ => none }
def fnExactKeyedCellsRow : OpenClaim := { program := "ythphjfelpbfdmaa", sum := "65ddd77c581e4ea5297c72e45f5485126372ec0ce7ec330566535d92b3f798d5", func := "loop.example/g00908/laws.FnExactKeyedCells", spec := "fnExactKeyedCells", apart := false }
def FnExactKeyedCellsSaid : Prop := fnExactKeyedCellsRow.holds Try.pinned (OpenSpec.ofChange fnExactKeyedCellsSpec)

/-- ITS FALSE NEIGHBOUR: 'it returns false'. Refute it at one input. -/
def fnExactKeyedCellsWrong : ChangeSpec := { name := "fnExactKeyedCells", fn := fun _ => fun
  | [d1, d2, d3, d4] => { results := [.lit (.bool false)], args := [d1, d2, d3, d4] }
  | _ => none }
def FnExactKeyedCellsWrongFalsely : Prop := fnExactKeyedCellsRow.holds Try.pinned (OpenSpec.ofChange fnExactKeyedCellsWrong)

/-- 'laws.FnExactKeyedTable': WHATEVER THE INPUT: true; the input reads as it did. -/
def fnExactKeyedTableSpec : ChangeSpec := { name := "fnExactKeyedTable", fn := fun _ => fun
  | [d1, d2, d3, d4, d5] => { results := [.lit (.bool true)], args := [d1, d2, d3, d4, d5] }
  | _ => none }
def fnExactKeyedTableRow : OpenClaim := { program := "ythphjfelpbfdmaa", sum := "65ddd77c581e4ea5297c72e45f5485126372ec0ce7ec330566535d92b3f798d5", func := "loop.example/g00908/laws.FnExactKeyedTable", spec := "fnExactKeyedTable", apart := false }
def FnExactKeyedTableSaid : Prop := fnExactKeyedTableRow.holds Try.pinned (OpenSpec.ofChange fnExactKeyedTableSpec)

/-- ITS FALSE NEIGHBOUR: 'it returns false'. Refute it at one input. -/
def fnExactKeyedTableWrong : ChangeSpec := { name := "fnExactKeyedTable", fn := fun _ => fun
  | [d1, d2, d3, d4, d5] => { results := [.lit (.bool false)], args := [d1, d2, d3, d4, d5] }
  | _ => none }
def FnExactKeyedTableWrongFalsely : Prop := fnExactKeyedTableRow.holds Try.pinned (OpenSpec.ofChange fnExactKeyedTableWrong)

/-- 'laws.FnExactUniqueRecords': WHATEVER THE INPUT: true; the input reads as it did. -/
def fnExactUniqueRecordsSpec : ChangeSpec := { name := "fnExactUniqueRecords", fn := fun _ => fun
  | [d1, d2, d3] => { results := [.lit (.bool true)], args := [d1, d2, d3] }
  | _ => none }
def fnExactUniqueRecordsRow : OpenClaim := { program := "ythphjfelpbfdmaa", sum := "65ddd77c581e4ea5297c72e45f5485126372ec0ce7ec330566535d92b3f798d5", func := "loop.example/g00908/laws.FnExactUniqueRecords", spec := "fnExactUniqueRecords", apart := false }
def FnExactUniqueRecordsSaid : Prop := fnExactUniqueRecordsRow.holds Try.pinned (OpenSpec.ofChange fnExactUniqueRecordsSpec)

/-- ITS FALSE NEIGHBOUR: 'it returns false'. Refute it at one input. -/
def fnExactUniqueRecordsWrong : ChangeSpec := { name := "fnExactUniqueRecords", fn := fun _ => fun
  | [d1, d2, d3] => { results := [.lit (.bool false)], args := [d1, d2, d3] }
  | _ => none }
def FnExactUniqueRecordsWrongFalsely : Prop := fnExactUniqueRecordsRow.holds Try.pinned (OpenSpec.ofChange fnExactUniqueRecordsWrong)

/-- 'laws.FnExactClassSizes': WHATEVER THE INPUT: true; the input reads as it did. -/
def fnExactClassSizesSpec : ChangeSpec := { name := "fnExactClassSizes", fn := fun _ => fun
  | [d1, d2, d3] => { results := [.lit (.bool true)], args := [d1, d2, d3] }
  | _ => none }
def fnExactClassSizesRow : OpenClaim := { program := "ythphjfelpbfdmaa", sum := "65ddd77c581e4ea5297c72e45f5485126372ec0ce7ec330566535d92b3f798d5", func := "loop.example/g00908/laws.FnExactClassSizes", spec := "fnExactClassSizes", apart := false }
def FnExactClassSizesSaid : Prop := fnExactClassSizesRow.holds Try.pinned (OpenSpec.ofChange fnExactClassSizesSpec)

/-- ITS FALSE NEIGHBOUR: 'it returns false'. Refute it at one input. -/
def fnExactClassSizesWrong : ChangeSpec := { name := "fnExactClassSizes", fn := fun _ => fun
  | [d1, d2, d3] => { results := [.lit (.bool false)], args := [d1, d2, d3] }
  | _ => none }
def FnExactClassSizesWrongFalsely : Prop := fnExactClassSizesRow.holds Try.pinned (OpenSpec.ofChange fnExactClassSizesWrong)

/-- 'laws.FnExactLeastDiversity': WHATEVER THE INPUT: true; the input reads as it did. -/
def fnExactLeastDiversitySpec : ChangeSpec := { name := "fnExactLeastDiversity", fn := fun _ => fun
  | [d1, d2, d3, d4] => { results := [.lit (.bool true)], args := [d1, d2, d3, d4] }
  | _ => none }
def fnExactLeastDiversityRow : OpenClaim := { program := "ythphjfelpbfdmaa", sum := "65ddd77c581e4ea5297c72e45f5485126372ec0ce7ec330566535d92b3f798d5", func := "loop.example/g00908/laws.FnExactLeastDiversity", spec := "fnExactLeastDiversity", apart := false }
def FnExactLeastDiversitySaid : Prop := fnExactLeastDiversityRow.holds Try.pinned (OpenSpec.ofChange fnExactLeastDiversitySpec)

/-- ITS FALSE NEIGHBOUR: 'it returns false'. Refute it at one input. -/
def fnExactLeastDiversityWrong : ChangeSpec := { name := "fnExactLeastDiversity", fn := fun _ => fun
  | [d1, d2, d3, d4] => { results := [.lit (.bool false)], args := [d1, d2, d3, d4] }
  | _ => none }
def FnExactLeastDiversityWrongFalsely : Prop := fnExactLeastDiversityRow.holds Try.pinned (OpenSpec.ofChange fnExactLeastDiversityWrong)

/-- 'laws.FnExactNearestLinks': WHATEVER THE INPUT: true; the input reads as it did. -/
def fnExactNearestLinksSpec : ChangeSpec := { name := "fnExactNearestLinks", fn := fun _ => fun
  | [d1, d2, d3, d4] => { results := [.lit (.bool true)], args := [d1, d2, d3, d4] }
  | _ => none }
def fnExactNearestLinksRow : OpenClaim := { program := "ythphjfelpbfdmaa", sum := "65ddd77c581e4ea5297c72e45f5485126372ec0ce7ec330566535d92b3f798d5", func := "loop.example/g00908/laws.FnExactNearestLinks", spec := "fnExactNearestLinks", apart := false }
def FnExactNearestLinksSaid : Prop := fnExactNearestLinksRow.holds Try.pinned (OpenSpec.ofChange fnExactNearestLinksSpec)

/-- ITS FALSE NEIGHBOUR: 'it returns false'. Refute it at one input. -/
def fnExactNearestLinksWrong : ChangeSpec := { name := "fnExactNearestLinks", fn := fun _ => fun
  | [d1, d2, d3, d4] => { results := [.lit (.bool false)], args := [d1, d2, d3, d4] }
  | _ => none }
def FnExactNearestLinksWrongFalsely : Prop := fnExactNearestLinksRow.holds Try.pinned (OpenSpec.ofChange fnExactNearestLinksWrong)

/-- 'laws.FnExactLinkSets': WHATEVER THE INPUT: true; the input reads as it did. -/
def fnExactLinkSetsSpec : ChangeSpec := { name := "fnExactLinkSets", fn := fun _ => fun
  | [d1, d2, d3, d4] => { results := [.lit (.bool true)], args := [d1, d2, d3, d4] }
  | _ => none }
def fnExactLinkSetsRow : OpenClaim := { program := "ythphjfelpbfdmaa", sum := "65ddd77c581e4ea5297c72e45f5485126372ec0ce7ec330566535d92b3f798d5", func := "loop.example/g00908/laws.FnExactLinkSets", spec := "fnExactLinkSets", apart := false }
def FnExactLinkSetsSaid : Prop := fnExactLinkSetsRow.holds Try.pinned (OpenSpec.ofChange fnExactLinkSetsSpec)

/-- ITS FALSE NEIGHBOUR: 'it returns false'. Refute it at one input. -/
def fnExactLinkSetsWrong : ChangeSpec := { name := "fnExactLinkSets", fn := fun _ => fun
  | [d1, d2, d3, d4] => { results := [.lit (.bool false)], args := [d1, d2, d3, d4] }
  | _ => none }
def FnExactLinkSetsWrongFalsely : Prop := fnExactLinkSetsRow.holds Try.pinned (OpenSpec.ofChange fnExactLinkSetsWrong)

/-- 'laws.FnExactCertainLinks': WHATEVER THE INPUT: true; the input reads as it did. -/
def fnExactCertainLinksSpec : ChangeSpec := { name := "fnExactCertainLinks", fn := fun _ => fun
  | [d1, d2, d3, d4] => { results := [.lit (.bool true)], args := [d1, d2, d3, d4] }
  | _ => none }
def fnExactCertainLinksRow : OpenClaim := { program := "ythphjfelpbfdmaa", sum := "65ddd77c581e4ea5297c72e45f5485126372ec0ce7ec330566535d92b3f798d5", func := "loop.example/g00908/laws.FnExactCertainLinks", spec := "fnExactCertainLinks", apart := false }
def FnExactCertainLinksSaid : Prop := fnExactCertainLinksRow.holds Try.pinned (OpenSpec.ofChange fnExactCertainLinksSpec)

/-- ITS FALSE NEIGHBOUR: 'it returns false'. Refute it at one input. -/
def fnExactCertainLinksWrong : ChangeSpec := { name := "fnExactCertainLinks", fn := fun _ => fun
  | [d1, d2, d3, d4] => { results := [.lit (.bool false)], args := [d1, d2, d3, d4] }
  | _ => none }
def FnExactCertainLinksWrongFalsely : Prop := fnExactCertainLinksRow.holds Try.pinned (OpenSpec.ofChange fnExactCertainLinksWrong)

/-- 'laws.FnExactLinkRisk': WHATEVER THE INPUT: true; the input reads as it did. -/
def fnExactLinkRiskSpec : ChangeSpec := { name := "fnExactLinkRisk", fn := fun _ => fun
  | [d1, d2, d3, d4] => { results := [.lit (.bool true)], args := [d1, d2, d3, d4] }
  | _ => none }
def fnExactLinkRiskRow : OpenClaim := { program := "ythphjfelpbfdmaa", sum := "65ddd77c581e4ea5297c72e45f5485126372ec0ce7ec330566535d92b3f798d5", func := "loop.example/g00908/laws.FnExactLinkRisk", spec := "fnExactLinkRisk", unfollowed := true, recurses := true, apart := false }
def FnExactLinkRiskSaid : Prop := fnExactLinkRiskRow.holds Try.pinned (OpenSpec.ofChange fnExactLinkRiskSpec)

/-- ITS FALSE NEIGHBOUR: 'it returns false'. Refute it at one input. -/
def fnExactLinkRiskWrong : ChangeSpec := { name := "fnExactLinkRisk", fn := fun _ => fun
  | [d1, d2, d3, d4] => { results := [.lit (.bool false)], args := [d1, d2, d3, d4] }
  | _ => none }
def FnExactLinkRiskWrongFalsely : Prop := fnExactLinkRiskRow.holds Try.pinned (OpenSpec.ofChange fnExactLinkRiskWrong)

/-- 'laws.FnExactExpectedHits': WHATEVER THE INPUT: true; the input reads as it did. -/
def fnExactExpectedHitsSpec : ChangeSpec := { name := "fnExactExpectedHits", fn := fun _ => fun
  | [d1, d2, d3, d4] => { results := [.lit (.bool true)], args := [d1, d2, d3, d4] }
  | _ => none }
def fnExactExpectedHitsRow : OpenClaim := { program := "ythphjfelpbfdmaa", sum := "65ddd77c581e4ea5297c72e45f5485126372ec0ce7ec330566535d92b3f798d5", func := "loop.example/g00908/laws.FnExactExpectedHits", spec := "fnExactExpectedHits", unfollowed := true, recurses := true, apart := false }
def FnExactExpectedHitsSaid : Prop := fnExactExpectedHitsRow.holds Try.pinned (OpenSpec.ofChange fnExactExpectedHitsSpec)

/-- ITS FALSE NEIGHBOUR: 'it returns false'. Refute it at one input. -/
def fnExactExpectedHitsWrong : ChangeSpec := { name := "fnExactExpectedHits", fn := fun _ => fun
  | [d1, d2, d3, d4] => { results := [.lit (.bool false)], args := [d1, d2, d3, d4] }
  | _ => none }
def FnExactExpectedHitsWrongFalsely : Prop := fnExactExpectedHitsRow.holds Try.pinned (OpenSpec.ofChange fnExactExpectedHitsWrong)

/-- 'laws.FnExactLeastIdentifying': WHATEVER THE INPUT: true; the input reads as it did. -/
def fnExactLeastIdentifyingSpec : ChangeSpec := { name := "fnExactLeastIdentifying", fn := fun _ => fun
  | [d1, d2, d3] => { results := [.lit (.bool true)], args := [d1, d2, d3] }
  | _ => none }
def fnExactLeastIdentifyingRow : OpenClaim := { program := "ythphjfelpbfdmaa", sum := "65ddd77c581e4ea5297c72e45f5485126372ec0ce7ec330566535d92b3f798d5", func := "loop.example/g00908/laws.FnExactLeastIdentifying", spec := "fnExactLeastIdentifying", apart := false }
def FnExactLeastIdentifyingSaid : Prop := fnExactLeastIdentifyingRow.holds Try.pinned (OpenSpec.ofChange fnExactLeastIdentifyingSpec)

/-- ITS FALSE NEIGHBOUR: 'it returns false'. Refute it at one input. -/
def fnExactLeastIdentifyingWrong : ChangeSpec := { name := "fnExactLeastIdentifying", fn := fun _ => fun
  | [d1, d2, d3] => { results := [.lit (.bool false)], args := [d1, d2, d3] }
  | _ => none }
def FnExactLeastIdentifyingWrongFalsely : Prop := fnExactLeastIdentifyingRow.holds Try.pinned (OpenSpec.ofChange fnExactLeastIdentifyingWrong)

/- THE SECOND FORM. 'bulk': how many values and letters a reading holds, each counted each time it is reached (what is shared counts as often as it is met; a slice's spare places count too). A statement '..UptoSaid' is the law's where the arguments, and the package variables that the reading takes, are together of bulk at most 1048576: NARROWER than '..Said'. Prove '..Said' where nothing that the law and all that it calls make is longer than what came in: it says more and counts as full. Else prove '..UptoSaid'. A law counts once. -/
mutual
def uptoBulk {H : Type} : DataW H → Nat
  | .lit (.string bytes) => bytes.length + 1
  | .lit _ => 1
  | .nil => 1
  | .ptr d => uptoBulk d + 1
  | .slice elems spare => uptoBulkAll elems + uptoBulkAll spare + 1
  | .agg parts => uptoBulkAll parts + 1
  | .iface _ d => uptoBulk d + 1
  | .map entries => uptoBulkEntries entries + 1
  | .held _ => 1
def uptoBulkAll {H : Type} : List (DataW H) → Nat
  | [] => 0
  | d :: r => uptoBulk d + uptoBulkAll r
def uptoBulkEntries {H : Type} : List (Lit × DataW H) → Nat
  | [] => 0
  | x :: r => uptoBulkEntry x + uptoBulkEntries r
def uptoBulkEntry {H : Type} : Lit × DataW H → Nat
  | (.string bytes, d) => bytes.length + uptoBulk d + 1
  | (_, d) => uptoBulk d + 1
 end
def uptoSmall : (H : Type) → List (DataW H) → Bool := fun _ ds => decide (uptoBulkAll ds ≤ 1048576)
def OpenSpec.upto (s : _root_.Go.ChangeSpec) : _root_.Go.OpenSpec := { _root_.Go.OpenSpec.ofChange s with cond := some uptoSmall }

/-- 'laws.FnExactRecordKey', WHERE WHAT IT READS IS OF BULK AT MOST 1048576: true; the input reads as it did. -/
def fnExactRecordKeyUptoRow : OpenClaim := { program := "ythphjfelpbfdmaa", sum := "65ddd77c581e4ea5297c72e45f5485126372ec0ce7ec330566535d92b3f798d5", func := "loop.example/g00908/laws.FnExactRecordKey", spec := "fnExactRecordKey", apart := false, narrowed := true }
def FnExactRecordKeyUptoSaid : Prop := fnExactRecordKeyUptoRow.holds Try.pinned (OpenSpec.upto fnExactRecordKeySpec)

/-- 'laws.FnExactKeyedCells', WHERE WHAT IT READS IS OF BULK AT MOST 1048576: true; the input reads as it did. -/
def fnExactKeyedCellsUptoRow : OpenClaim := { program := "ythphjfelpbfdmaa", sum := "65ddd77c581e4ea5297c72e45f5485126372ec0ce7ec330566535d92b3f798d5", func := "loop.example/g00908/laws.FnExactKeyedCells", spec := "fnExactKeyedCells", apart := false, narrowed := true }
def FnExactKeyedCellsUptoSaid : Prop := fnExactKeyedCellsUptoRow.holds Try.pinned (OpenSpec.upto fnExactKeyedCellsSpec)

/-- 'laws.FnExactKeyedTable', WHERE WHAT IT READS IS OF BULK AT MOST 1048576: true; the input reads as it did. -/
def fnExactKeyedTableUptoRow : OpenClaim := { program := "ythphjfelpbfdmaa", sum := "65ddd77c581e4ea5297c72e45f5485126372ec0ce7ec330566535d92b3f798d5", func := "loop.example/g00908/laws.FnExactKeyedTable", spec := "fnExactKeyedTable", apart := false, narrowed := true }
def FnExactKeyedTableUptoSaid : Prop := fnExactKeyedTableUptoRow.holds Try.pinned (OpenSpec.upto fnExactKeyedTableSpec)

/-- 'laws.FnExactUniqueRecords', WHERE WHAT IT READS IS OF BULK AT MOST 1048576: true; the input reads as it did. -/
def fnExactUniqueRecordsUptoRow : OpenClaim := { program := "ythphjfelpbfdmaa", sum := "65ddd77c581e4ea5297c72e45f5485126372ec0ce7ec330566535d92b3f798d5", func := "loop.example/g00908/laws.FnExactUniqueRecords", spec := "fnExactUniqueRecords", apart := false, narrowed := true }
def FnExactUniqueRecordsUptoSaid : Prop := fnExactUniqueRecordsUptoRow.holds Try.pinned (OpenSpec.upto fnExactUniqueRecordsSpec)

/-- 'laws.FnExactClassSizes', WHERE WHAT IT READS IS OF BULK AT MOST 1048576: true; the input reads as it did. -/
def fnExactClassSizesUptoRow : OpenClaim := { program := "ythphjfelpbfdmaa", sum := "65ddd77c581e4ea5297c72e45f5485126372ec0ce7ec330566535d92b3f798d5", func := "loop.example/g00908/laws.FnExactClassSizes", spec := "fnExactClassSizes", apart := false, narrowed := true }
def FnExactClassSizesUptoSaid : Prop := fnExactClassSizesUptoRow.holds Try.pinned (OpenSpec.upto fnExactClassSizesSpec)

/-- 'laws.FnExactLeastDiversity', WHERE WHAT IT READS IS OF BULK AT MOST 1048576: true; the input reads as it did. -/
def fnExactLeastDiversityUptoRow : OpenClaim := { program := "ythphjfelpbfdmaa", sum := "65ddd77c581e4ea5297c72e45f5485126372ec0ce7ec330566535d92b3f798d5", func := "loop.example/g00908/laws.FnExactLeastDiversity", spec := "fnExactLeastDiversity", apart := false, narrowed := true }
def FnExactLeastDiversityUptoSaid : Prop := fnExactLeastDiversityUptoRow.holds Try.pinned (OpenSpec.upto fnExactLeastDiversitySpec)

/-- 'laws.FnExactNearestLinks', WHERE WHAT IT READS IS OF BULK AT MOST 1048576: true; the input reads as it did. -/
def fnExactNearestLinksUptoRow : OpenClaim := { program := "ythphjfelpbfdmaa", sum := "65ddd77c581e4ea5297c72e45f5485126372ec0ce7ec330566535d92b3f798d5", func := "loop.example/g00908/laws.FnExactNearestLinks", spec := "fnExactNearestLinks", apart := false, narrowed := true }
def FnExactNearestLinksUptoSaid : Prop := fnExactNearestLinksUptoRow.holds Try.pinned (OpenSpec.upto fnExactNearestLinksSpec)

/-- 'laws.FnExactLinkSets', WHERE WHAT IT READS IS OF BULK AT MOST 1048576: true; the input reads as it did. -/
def fnExactLinkSetsUptoRow : OpenClaim := { program := "ythphjfelpbfdmaa", sum := "65ddd77c581e4ea5297c72e45f5485126372ec0ce7ec330566535d92b3f798d5", func := "loop.example/g00908/laws.FnExactLinkSets", spec := "fnExactLinkSets", apart := false, narrowed := true }
def FnExactLinkSetsUptoSaid : Prop := fnExactLinkSetsUptoRow.holds Try.pinned (OpenSpec.upto fnExactLinkSetsSpec)

/-- 'laws.FnExactCertainLinks', WHERE WHAT IT READS IS OF BULK AT MOST 1048576: true; the input reads as it did. -/
def fnExactCertainLinksUptoRow : OpenClaim := { program := "ythphjfelpbfdmaa", sum := "65ddd77c581e4ea5297c72e45f5485126372ec0ce7ec330566535d92b3f798d5", func := "loop.example/g00908/laws.FnExactCertainLinks", spec := "fnExactCertainLinks", apart := false, narrowed := true }
def FnExactCertainLinksUptoSaid : Prop := fnExactCertainLinksUptoRow.holds Try.pinned (OpenSpec.upto fnExactCertainLinksSpec)

/-- 'laws.FnExactLinkRisk', WHERE WHAT IT READS IS OF BULK AT MOST 1048576: true; the input reads as it did. -/
def fnExactLinkRiskUptoRow : OpenClaim := { program := "ythphjfelpbfdmaa", sum := "65ddd77c581e4ea5297c72e45f5485126372ec0ce7ec330566535d92b3f798d5", func := "loop.example/g00908/laws.FnExactLinkRisk", spec := "fnExactLinkRisk", unfollowed := true, recurses := true, apart := false, narrowed := true }
def FnExactLinkRiskUptoSaid : Prop := fnExactLinkRiskUptoRow.holds Try.pinned (OpenSpec.upto fnExactLinkRiskSpec)

/-- 'laws.FnExactExpectedHits', WHERE WHAT IT READS IS OF BULK AT MOST 1048576: true; the input reads as it did. -/
def fnExactExpectedHitsUptoRow : OpenClaim := { program := "ythphjfelpbfdmaa", sum := "65ddd77c581e4ea5297c72e45f5485126372ec0ce7ec330566535d92b3f798d5", func := "loop.example/g00908/laws.FnExactExpectedHits", spec := "fnExactExpectedHits", unfollowed := true, recurses := true, apart := false, narrowed := true }
def FnExactExpectedHitsUptoSaid : Prop := fnExactExpectedHitsUptoRow.holds Try.pinned (OpenSpec.upto fnExactExpectedHitsSpec)

/-- 'laws.FnExactLeastIdentifying', WHERE WHAT IT READS IS OF BULK AT MOST 1048576: true; the input reads as it did. -/
def fnExactLeastIdentifyingUptoRow : OpenClaim := { program := "ythphjfelpbfdmaa", sum := "65ddd77c581e4ea5297c72e45f5485126372ec0ce7ec330566535d92b3f798d5", func := "loop.example/g00908/laws.FnExactLeastIdentifying", spec := "fnExactLeastIdentifying", apart := false, narrowed := true }
def FnExactLeastIdentifyingUptoSaid : Prop := fnExactLeastIdentifyingUptoRow.holds Try.pinned (OpenSpec.upto fnExactLeastIdentifyingSpec)

end Rows
end Go.Proofs.Ythphjfelpbfdmaa
