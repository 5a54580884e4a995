/-
  No cell of these rows narrows 'for every input' (looked for: loops, veiled, ifaces, maps, wideKeys, modest, calm, conditions, laid).
  DERIVED. THE GIVEN ROWS OF THIS SEAT. 12 by the template 'for every input the law returns true; each argument reads behind the call as it read before'; 0 by the template 'total and deterministic' (their statements: YtnacabofhjjjpaaTotals.lean).
  GIVEN WITH THE SEED: the statements are not yours to turn. If you find one false, say at which input.
  Laid BY PROGRAM, IN A SANDBOX (cutbox-rows.mjs): the forced cells as the released guide's own fill.sh prints them over the translation 3b2a45e10c1a9b67… (all of the seat's roots in one cut). By AI agents, Wed Nov 11 2026. No macro, syntax, notation, axiom, sorry.
-/
import Derived.Test.YtnacabofhjjjpaaChecked
import GoSem.Claim
import GoSem.ClaimJoined
import GoSem.ClaimMapViews
import Derived.JoinedTies
import Derived.KernelRfl
namespace Go.Proofs.Ytnacabofhjjjpaa
/- THE CELL 'sum', in the pinned program and in every row, IS THE sha256 OF THE DUMP (.gsa) THAT YtnacabofhjjjpaaProg.lean LOADS. Nothing in Lean hashes anything: it is a label: what it is worth is what the hold of that sum in a sandbox is worth. -/
noncomputable def Try.pinned : Pinned := { name := "ytnacabofhjjjpaa", sum := "3b2a45e10c1a9b67fd9938790044b76be298e702c546b095efb8efd582cb4029", checked := Try.checked }
namespace Rows
def none {H : Type} : Left H := { results := [], args := [] }

/-- 'laws.FnExactBitsFrom': WHATEVER THE INPUT: true; the input reads as it did. -/
def fnExactBitsFromSpec : ChangeSpec := { name := "fnExactBitsFrom", fn := fun _ => fun
  | [d1, d2] => { results := [.lit (.bool true)], args := [d1, d2] }
  | _ => none }
def fnExactBitsFromRow : OpenClaim := { program := "ytnacabofhjjjpaa", sum := "3b2a45e10c1a9b67fd9938790044b76be298e702c546b095efb8efd582cb4029", func := "loop.example/g00908/laws.FnExactBitsFrom", spec := "fnExactBitsFrom", apart := false }
def FnExactBitsFromSaid : Prop := fnExactBitsFromRow.holds Try.pinned (OpenSpec.ofChange fnExactBitsFromSpec)

/-- ITS FALSE NEIGHBOUR: 'it returns false'. Refute it at one input. -/
def fnExactBitsFromWrong : ChangeSpec := { name := "fnExactBitsFrom", fn := fun _ => fun
  | [d1, d2] => { results := [.lit (.bool false)], args := [d1, d2] }
  | _ => none }
def FnExactBitsFromWrongFalsely : Prop := fnExactBitsFromRow.holds Try.pinned (OpenSpec.ofChange fnExactBitsFromWrong)

/-- 'laws.FnExactUniformBelow': WHATEVER THE INPUT: true; the input reads as it did. -/
def fnExactUniformBelowSpec : ChangeSpec := { name := "fnExactUniformBelow", fn := fun _ => fun
  | [d1, d2] => { results := [.lit (.bool true)], args := [d1, d2] }
  | _ => none }
def fnExactUniformBelowRow : OpenClaim := { program := "ytnacabofhjjjpaa", sum := "3b2a45e10c1a9b67fd9938790044b76be298e702c546b095efb8efd582cb4029", func := "loop.example/g00908/laws.FnExactUniformBelow", spec := "fnExactUniformBelow", apart := false }
def FnExactUniformBelowSaid : Prop := fnExactUniformBelowRow.holds Try.pinned (OpenSpec.ofChange fnExactUniformBelowSpec)

/-- ITS FALSE NEIGHBOUR: 'it returns false'. Refute it at one input. -/
def fnExactUniformBelowWrong : ChangeSpec := { name := "fnExactUniformBelow", fn := fun _ => fun
  | [d1, d2] => { results := [.lit (.bool false)], args := [d1, d2] }
  | _ => none }
def FnExactUniformBelowWrongFalsely : Prop := fnExactUniformBelowRow.holds Try.pinned (OpenSpec.ofChange fnExactUniformBelowWrong)

/-- 'laws.FnExactShuffleWith': WHATEVER THE INPUT: true; the input reads as it did. -/
def fnExactShuffleWithSpec : ChangeSpec := { name := "fnExactShuffleWith", fn := fun _ => fun
  | [d1, d2] => { results := [.lit (.bool true)], args := [d1, d2] }
  | _ => none }
def fnExactShuffleWithRow : OpenClaim := { program := "ytnacabofhjjjpaa", sum := "3b2a45e10c1a9b67fd9938790044b76be298e702c546b095efb8efd582cb4029", func := "loop.example/g00908/laws.FnExactShuffleWith", spec := "fnExactShuffleWith", apart := false }
def FnExactShuffleWithSaid : Prop := fnExactShuffleWithRow.holds Try.pinned (OpenSpec.ofChange fnExactShuffleWithSpec)

/-- ITS FALSE NEIGHBOUR: 'it returns false'. Refute it at one input. -/
def fnExactShuffleWithWrong : ChangeSpec := { name := "fnExactShuffleWith", fn := fun _ => fun
  | [d1, d2] => { results := [.lit (.bool false)], args := [d1, d2] }
  | _ => none }
def FnExactShuffleWithWrongFalsely : Prop := fnExactShuffleWithRow.holds Try.pinned (OpenSpec.ofChange fnExactShuffleWithWrong)

/-- 'laws.FnExactPickOf': WHATEVER THE INPUT: true; the input reads as it did. -/
def fnExactPickOfSpec : ChangeSpec := { name := "fnExactPickOf", fn := fun _ => fun
  | [d1, d2] => { results := [.lit (.bool true)], args := [d1, d2] }
  | _ => none }
def fnExactPickOfRow : OpenClaim := { program := "ytnacabofhjjjpaa", sum := "3b2a45e10c1a9b67fd9938790044b76be298e702c546b095efb8efd582cb4029", func := "loop.example/g00908/laws.FnExactPickOf", spec := "fnExactPickOf", apart := false }
def FnExactPickOfSaid : Prop := fnExactPickOfRow.holds Try.pinned (OpenSpec.ofChange fnExactPickOfSpec)

/-- ITS FALSE NEIGHBOUR: 'it returns false'. Refute it at one input. -/
def fnExactPickOfWrong : ChangeSpec := { name := "fnExactPickOf", fn := fun _ => fun
  | [d1, d2] => { results := [.lit (.bool false)], args := [d1, d2] }
  | _ => none }
def FnExactPickOfWrongFalsely : Prop := fnExactPickOfRow.holds Try.pinned (OpenSpec.ofChange fnExactPickOfWrong)

/-- 'laws.FnExactCoinOf': WHATEVER THE INPUT: true; the input reads as it did. -/
def fnExactCoinOfSpec : ChangeSpec := { name := "fnExactCoinOf", fn := fun _ => fun
  | [d1, d2] => { results := [.lit (.bool true)], args := [d1, d2] }
  | _ => none }
def fnExactCoinOfRow : OpenClaim := { program := "ytnacabofhjjjpaa", sum := "3b2a45e10c1a9b67fd9938790044b76be298e702c546b095efb8efd582cb4029", func := "loop.example/g00908/laws.FnExactCoinOf", spec := "fnExactCoinOf", apart := false }
def FnExactCoinOfSaid : Prop := fnExactCoinOfRow.holds Try.pinned (OpenSpec.ofChange fnExactCoinOfSpec)

/-- ITS FALSE NEIGHBOUR: 'it returns false'. Refute it at one input. -/
def fnExactCoinOfWrong : ChangeSpec := { name := "fnExactCoinOf", fn := fun _ => fun
  | [d1, d2] => { results := [.lit (.bool false)], args := [d1, d2] }
  | _ => none }
def FnExactCoinOfWrongFalsely : Prop := fnExactCoinOfRow.holds Try.pinned (OpenSpec.ofChange fnExactCoinOfWrong)

/-- 'laws.FnExactExpCoin': WHATEVER THE INPUT: true; the input reads as it did. -/
def fnExactExpCoinSpec : ChangeSpec := { name := "fnExactExpCoin", fn := fun _ => fun
  | [d1, d2] => { results := [.lit (.bool true)], args := [d1, d2] }
  | _ => none }
def fnExactExpCoinRow : OpenClaim := { program := "ytnacabofhjjjpaa", sum := "3b2a45e10c1a9b67fd9938790044b76be298e702c546b095efb8efd582cb4029", func := "loop.example/g00908/laws.FnExactExpCoin", spec := "fnExactExpCoin", apart := false }
def FnExactExpCoinSaid : Prop := fnExactExpCoinRow.holds Try.pinned (OpenSpec.ofChange fnExactExpCoinSpec)

/-- ITS FALSE NEIGHBOUR: 'it returns false'. Refute it at one input. -/
def fnExactExpCoinWrong : ChangeSpec := { name := "fnExactExpCoin", fn := fun _ => fun
  | [d1, d2] => { results := [.lit (.bool false)], args := [d1, d2] }
  | _ => none }
def FnExactExpCoinWrongFalsely : Prop := fnExactExpCoinRow.holds Try.pinned (OpenSpec.ofChange fnExactExpCoinWrong)

/-- 'laws.FnExactGeoSample': WHATEVER THE INPUT: true; the input reads as it did. -/
def fnExactGeoSampleSpec : ChangeSpec := { name := "fnExactGeoSample", fn := fun _ => fun
  | [d1, d2] => { results := [.lit (.bool true)], args := [d1, d2] }
  | _ => none }
def fnExactGeoSampleRow : OpenClaim := { program := "ytnacabofhjjjpaa", sum := "3b2a45e10c1a9b67fd9938790044b76be298e702c546b095efb8efd582cb4029", func := "loop.example/g00908/laws.FnExactGeoSample", spec := "fnExactGeoSample", apart := false }
def FnExactGeoSampleSaid : Prop := fnExactGeoSampleRow.holds Try.pinned (OpenSpec.ofChange fnExactGeoSampleSpec)

/-- ITS FALSE NEIGHBOUR: 'it returns false'. Refute it at one input. -/
def fnExactGeoSampleWrong : ChangeSpec := { name := "fnExactGeoSample", fn := fun _ => fun
  | [d1, d2] => { results := [.lit (.bool false)], args := [d1, d2] }
  | _ => none }
def FnExactGeoSampleWrongFalsely : Prop := fnExactGeoSampleRow.holds Try.pinned (OpenSpec.ofChange fnExactGeoSampleWrong)

/-- 'laws.FnExactAddGeo': WHATEVER THE INPUT: true; the input reads as it did. -/
def fnExactAddGeoSpec : ChangeSpec := { name := "fnExactAddGeo", fn := fun _ => fun
  | [d1, d2, d3] => { results := [.lit (.bool true)], args := [d1, d2, d3] }
  | _ => none }
def fnExactAddGeoRow : OpenClaim := { program := "ytnacabofhjjjpaa", sum := "3b2a45e10c1a9b67fd9938790044b76be298e702c546b095efb8efd582cb4029", func := "loop.example/g00908/laws.FnExactAddGeo", spec := "fnExactAddGeo", unfollowed := true, recurses := true, apart := false }
def FnExactAddGeoSaid : Prop := fnExactAddGeoRow.holds Try.pinned (OpenSpec.ofChange fnExactAddGeoSpec)

/-- ITS FALSE NEIGHBOUR: 'it returns false'. Refute it at one input. -/
def fnExactAddGeoWrong : ChangeSpec := { name := "fnExactAddGeo", fn := fun _ => fun
  | [d1, d2, d3] => { results := [.lit (.bool false)], args := [d1, d2, d3] }
  | _ => none }
def FnExactAddGeoWrongFalsely : Prop := fnExactAddGeoRow.holds Try.pinned (OpenSpec.ofChange fnExactAddGeoWrong)

/-- 'laws.FnExactLaplaceSample': WHATEVER THE INPUT: true; the input reads as it did. -/
def fnExactLaplaceSampleSpec : ChangeSpec := { name := "fnExactLaplaceSample", fn := fun _ => fun
  | [d1, d2] => { results := [.lit (.bool true)], args := [d1, d2] }
  | _ => none }
def fnExactLaplaceSampleRow : OpenClaim := { program := "ytnacabofhjjjpaa", sum := "3b2a45e10c1a9b67fd9938790044b76be298e702c546b095efb8efd582cb4029", func := "loop.example/g00908/laws.FnExactLaplaceSample", spec := "fnExactLaplaceSample", apart := false }
def FnExactLaplaceSampleSaid : Prop := fnExactLaplaceSampleRow.holds Try.pinned (OpenSpec.ofChange fnExactLaplaceSampleSpec)

/-- ITS FALSE NEIGHBOUR: 'it returns false'. Refute it at one input. -/
def fnExactLaplaceSampleWrong : ChangeSpec := { name := "fnExactLaplaceSample", fn := fun _ => fun
  | [d1, d2] => { results := [.lit (.bool false)], args := [d1, d2] }
  | _ => none }
def FnExactLaplaceSampleWrongFalsely : Prop := fnExactLaplaceSampleRow.holds Try.pinned (OpenSpec.ofChange fnExactLaplaceSampleWrong)

/-- 'laws.FnExactBitsUsed': WHATEVER THE INPUT: true; the input reads as it did. -/
def fnExactBitsUsedSpec : ChangeSpec := { name := "fnExactBitsUsed", fn := fun _ => fun
  | [d1, d2, d3] => { results := [.lit (.bool true)], args := [d1, d2, d3] }
  | _ => none }
def fnExactBitsUsedRow : OpenClaim := { program := "ytnacabofhjjjpaa", sum := "3b2a45e10c1a9b67fd9938790044b76be298e702c546b095efb8efd582cb4029", func := "loop.example/g00908/laws.FnExactBitsUsed", spec := "fnExactBitsUsed", apart := false }
def FnExactBitsUsedSaid : Prop := fnExactBitsUsedRow.holds Try.pinned (OpenSpec.ofChange fnExactBitsUsedSpec)

/-- ITS FALSE NEIGHBOUR: 'it returns false'. Refute it at one input. -/
def fnExactBitsUsedWrong : ChangeSpec := { name := "fnExactBitsUsed", fn := fun _ => fun
  | [d1, d2, d3] => { results := [.lit (.bool false)], args := [d1, d2, d3] }
  | _ => none }
def FnExactBitsUsedWrongFalsely : Prop := fnExactBitsUsedRow.holds Try.pinned (OpenSpec.ofChange fnExactBitsUsedWrong)

/-- 'laws.FnExactGaussSample': WHATEVER THE INPUT: true; the input reads as it did. -/
def fnExactGaussSampleSpec : ChangeSpec := { name := "fnExactGaussSample", fn := fun _ => fun
  | [d1, d2] => { results := [.lit (.bool true)], args := [d1, d2] }
  | _ => none }
def fnExactGaussSampleRow : OpenClaim := { program := "ytnacabofhjjjpaa", sum := "3b2a45e10c1a9b67fd9938790044b76be298e702c546b095efb8efd582cb4029", func := "loop.example/g00908/laws.FnExactGaussSample", spec := "fnExactGaussSample", apart := false }
def FnExactGaussSampleSaid : Prop := fnExactGaussSampleRow.holds Try.pinned (OpenSpec.ofChange fnExactGaussSampleSpec)

/-- ITS FALSE NEIGHBOUR: 'it returns false'. Refute it at one input. -/
def fnExactGaussSampleWrong : ChangeSpec := { name := "fnExactGaussSample", fn := fun _ => fun
  | [d1, d2] => { results := [.lit (.bool false)], args := [d1, d2] }
  | _ => none }
def FnExactGaussSampleWrongFalsely : Prop := fnExactGaussSampleRow.holds Try.pinned (OpenSpec.ofChange fnExactGaussSampleWrong)

/-- 'laws.FnExactAddGauss': WHATEVER THE INPUT: true; the input reads as it did. -/
def fnExactAddGaussSpec : ChangeSpec := { name := "fnExactAddGauss", fn := fun _ => fun
  | [d1, d2, d3] => { results := [.lit (.bool true)], args := [d1, d2, d3] }
  | _ => none }
def fnExactAddGaussRow : OpenClaim := { program := "ytnacabofhjjjpaa", sum := "3b2a45e10c1a9b67fd9938790044b76be298e702c546b095efb8efd582cb4029", func := "loop.example/g00908/laws.FnExactAddGauss", spec := "fnExactAddGauss", unfollowed := true, recurses := true, apart := false }
def FnExactAddGaussSaid : Prop := fnExactAddGaussRow.holds Try.pinned (OpenSpec.ofChange fnExactAddGaussSpec)

/-- ITS FALSE NEIGHBOUR: 'it returns false'. Refute it at one input. -/
def fnExactAddGaussWrong : ChangeSpec := { name := "fnExactAddGauss", fn := fun _ => fun
  | [d1, d2, d3] => { results := [.lit (.bool false)], args := [d1, d2, d3] }
  | _ => none }
def FnExactAddGaussWrongFalsely : Prop := fnExactAddGaussRow.holds Try.pinned (OpenSpec.ofChange fnExactAddGaussWrong)

/- THE SECOND FORM. 'bulk': how many values and letters a reading holds, each counted each time it is reached (what is shared counts as often as it is met; a slice's spare places count too). A statement '..UptoSaid' is the law's where the arguments, and the package variables that the reading takes, are together of bulk at most 1048576: NARROWER than '..Said'. Prove '..Said' where nothing that the law and all that it calls make is longer than what came in: it says more and counts as full. Else prove '..UptoSaid'. A law counts once. -/
mutual
def uptoBulk {H : Type} : DataW H → Nat
  | .lit (.string bytes) => bytes.length + 1
  | .lit _ => 1
  | .nil => 1
  | .ptr d => uptoBulk d + 1
  | .slice elems spare => uptoBulkAll elems + uptoBulkAll spare + 1
  | .agg parts => uptoBulkAll parts + 1
  | .iface _ d => uptoBulk d + 1
  | .map entries => uptoBulkEntries entries + 1
  | .held _ => 1
def uptoBulkAll {H : Type} : List (DataW H) → Nat
  | [] => 0
  | d :: r => uptoBulk d + uptoBulkAll r
def uptoBulkEntries {H : Type} : List (Lit × DataW H) → Nat
  | [] => 0
  | x :: r => uptoBulkEntry x + uptoBulkEntries r
def uptoBulkEntry {H : Type} : Lit × DataW H → Nat
  | (.string bytes, d) => bytes.length + uptoBulk d + 1
  | (_, d) => uptoBulk d + 1
 end
def uptoSmall : (H : Type) → List (DataW H) → Bool := fun _ ds => decide (uptoBulkAll ds ≤ 1048576)
def OpenSpec.upto (s : _root_.Go.ChangeSpec) : _root_.Go.OpenSpec := { _root_.Go.OpenSpec.ofChange s with cond := some uptoSmall }

/-- 'laws.FnExactBitsFrom', WHERE WHAT IT READS IS OF BULK AT MOST 1048576: true; the input reads as it did. -/
def fnExactBitsFromUptoRow : OpenClaim := { program := "ytnacabofhjjjpaa", sum := "3b2a45e10c1a9b67fd9938790044b76be298e702c546b095efb8efd582cb4029", func := "loop.example/g00908/laws.FnExactBitsFrom", spec := "fnExactBitsFrom", apart := false, narrowed := true }
def FnExactBitsFromUptoSaid : Prop := fnExactBitsFromUptoRow.holds Try.pinned (OpenSpec.upto fnExactBitsFromSpec)

/-- 'laws.FnExactUniformBelow', WHERE WHAT IT READS IS OF BULK AT MOST 1048576: true; the input reads as it did. -/
def fnExactUniformBelowUptoRow : OpenClaim := { program := "ytnacabofhjjjpaa", sum := "3b2a45e10c1a9b67fd9938790044b76be298e702c546b095efb8efd582cb4029", func := "loop.example/g00908/laws.FnExactUniformBelow", spec := "fnExactUniformBelow", apart := false, narrowed := true }
def FnExactUniformBelowUptoSaid : Prop := fnExactUniformBelowUptoRow.holds Try.pinned (OpenSpec.upto fnExactUniformBelowSpec)

/-- 'laws.FnExactShuffleWith', WHERE WHAT IT READS IS OF BULK AT MOST 1048576: true; the input reads as it did. -/
def fnExactShuffleWithUptoRow : OpenClaim := { program := "ytnacabofhjjjpaa", sum := "3b2a45e10c1a9b67fd9938790044b76be298e702c546b095efb8efd582cb4029", func := "loop.example/g00908/laws.FnExactShuffleWith", spec := "fnExactShuffleWith", apart := false, narrowed := true }
def FnExactShuffleWithUptoSaid : Prop := fnExactShuffleWithUptoRow.holds Try.pinned (OpenSpec.upto fnExactShuffleWithSpec)

/-- 'laws.FnExactPickOf', WHERE WHAT IT READS IS OF BULK AT MOST 1048576: true; the input reads as it did. -/
def fnExactPickOfUptoRow : OpenClaim := { program := "ytnacabofhjjjpaa", sum := "3b2a45e10c1a9b67fd9938790044b76be298e702c546b095efb8efd582cb4029", func := "loop.example/g00908/laws.FnExactPickOf", spec := "fnExactPickOf", apart := false, narrowed := true }
def FnExactPickOfUptoSaid : Prop := fnExactPickOfUptoRow.holds Try.pinned (OpenSpec.upto fnExactPickOfSpec)

/-- 'laws.FnExactCoinOf', WHERE WHAT IT READS IS OF BULK AT MOST 1048576: true; the input reads as it did. -/
def fnExactCoinOfUptoRow : OpenClaim := { program := "ytnacabofhjjjpaa", sum := "3b2a45e10c1a9b67fd9938790044b76be298e702c546b095efb8efd582cb4029", func := "loop.example/g00908/laws.FnExactCoinOf", spec := "fnExactCoinOf", apart := false, narrowed := true }
def FnExactCoinOfUptoSaid : Prop := fnExactCoinOfUptoRow.holds Try.pinned (OpenSpec.upto fnExactCoinOfSpec)

/-- 'laws.FnExactExpCoin', WHERE WHAT IT READS IS OF BULK AT MOST 1048576: true; the input reads as it did. -/
def fnExactExpCoinUptoRow : OpenClaim := { program := "ytnacabofhjjjpaa", sum := "3b2a45e10c1a9b67fd9938790044b76be298e702c546b095efb8efd582cb4029", func := "loop.example/g00908/laws.FnExactExpCoin", spec := "fnExactExpCoin", apart := false, narrowed := true }
def FnExactExpCoinUptoSaid : Prop := fnExactExpCoinUptoRow.holds Try.pinned (OpenSpec.upto fnExactExpCoinSpec)

/-- 'laws.FnExactGeoSample', WHERE WHAT IT READS IS OF BULK AT MOST 1048576: true; the input reads as it did. -/
def fnExactGeoSampleUptoRow : OpenClaim := { program := "ytnacabofhjjjpaa", sum := "3b2a45e10c1a9b67fd9938790044b76be298e702c546b095efb8efd582cb4029", func := "loop.example/g00908/laws.FnExactGeoSample", spec := "fnExactGeoSample", apart := false, narrowed := true }
def FnExactGeoSampleUptoSaid : Prop := fnExactGeoSampleUptoRow.holds Try.pinned (OpenSpec.upto fnExactGeoSampleSpec)

/-- 'laws.FnExactAddGeo', WHERE WHAT IT READS IS OF BULK AT MOST 1048576: true; the input reads as it did. -/
def fnExactAddGeoUptoRow : OpenClaim := { program := "ytnacabofhjjjpaa", sum := "3b2a45e10c1a9b67fd9938790044b76be298e702c546b095efb8efd582cb4029", func := "loop.example/g00908/laws.FnExactAddGeo", spec := "fnExactAddGeo", unfollowed := true, recurses := true, apart := false, narrowed := true }
def FnExactAddGeoUptoSaid : Prop := fnExactAddGeoUptoRow.holds Try.pinned (OpenSpec.upto fnExactAddGeoSpec)

/-- 'laws.FnExactLaplaceSample', WHERE WHAT IT READS IS OF BULK AT MOST 1048576: true; the input reads as it did. -/
def fnExactLaplaceSampleUptoRow : OpenClaim := { program := "ytnacabofhjjjpaa", sum := "3b2a45e10c1a9b67fd9938790044b76be298e702c546b095efb8efd582cb4029", func := "loop.example/g00908/laws.FnExactLaplaceSample", spec := "fnExactLaplaceSample", apart := false, narrowed := true }
def FnExactLaplaceSampleUptoSaid : Prop := fnExactLaplaceSampleUptoRow.holds Try.pinned (OpenSpec.upto fnExactLaplaceSampleSpec)

/-- 'laws.FnExactBitsUsed', WHERE WHAT IT READS IS OF BULK AT MOST 1048576: true; the input reads as it did. -/
def fnExactBitsUsedUptoRow : OpenClaim := { program := "ytnacabofhjjjpaa", sum := "3b2a45e10c1a9b67fd9938790044b76be298e702c546b095efb8efd582cb4029", func := "loop.example/g00908/laws.FnExactBitsUsed", spec := "fnExactBitsUsed", apart := false, narrowed := true }
def FnExactBitsUsedUptoSaid : Prop := fnExactBitsUsedUptoRow.holds Try.pinned (OpenSpec.upto fnExactBitsUsedSpec)

/-- 'laws.FnExactGaussSample', WHERE WHAT IT READS IS OF BULK AT MOST 1048576: true; the input reads as it did. -/
def fnExactGaussSampleUptoRow : OpenClaim := { program := "ytnacabofhjjjpaa", sum := "3b2a45e10c1a9b67fd9938790044b76be298e702c546b095efb8efd582cb4029", func := "loop.example/g00908/laws.FnExactGaussSample", spec := "fnExactGaussSample", apart := false, narrowed := true }
def FnExactGaussSampleUptoSaid : Prop := fnExactGaussSampleUptoRow.holds Try.pinned (OpenSpec.upto fnExactGaussSampleSpec)

/-- 'laws.FnExactAddGauss', WHERE WHAT IT READS IS OF BULK AT MOST 1048576: true; the input reads as it did. -/
def fnExactAddGaussUptoRow : OpenClaim := { program := "ytnacabofhjjjpaa", sum := "3b2a45e10c1a9b67fd9938790044b76be298e702c546b095efb8efd582cb4029", func := "loop.example/g00908/laws.FnExactAddGauss", spec := "fnExactAddGauss", unfollowed := true, recurses := true, apart := false, narrowed := true }
def FnExactAddGaussUptoSaid : Prop := fnExactAddGaussUptoRow.holds Try.pinned (OpenSpec.upto fnExactAddGaussSpec)

end Rows
end Go.Proofs.Ytnacabofhjjjpaa
