/-
  No cell of these rows narrows 'for every input' (looked for: loops, veiled, ifaces, maps, wideKeys, modest, calm, conditions, laid).
  DERIVED. THE GIVEN ROWS OF THIS SEAT. 8 by the template 'for every input the law returns true; each argument reads behind the call as it read before'; 0 by the template 'total and deterministic' (their statements: YtfkdmddfadkjoaaTotals.lean).
  GIVEN WITH THE SEED: the statements are not yours to turn. If you find one false, say at which input.
  Laid BY PROGRAM, IN A SANDBOX (cutbox-rows.mjs): the forced cells as the released guide's own fill.sh prints them over the translation 78111868a0338f00… (all of the seat's roots in one cut). By AI agents, Wed Nov 11 2026. No macro, syntax, notation, axiom, sorry.
-/
import Derived.Test.YtfkdmddfadkjoaaChecked
import GoSem.Claim
import GoSem.ClaimJoined
import GoSem.ClaimMapViews
import Derived.JoinedTies
import Derived.KernelRfl
namespace Go.Proofs.Ytfkdmddfadkjoaa
/- THE CELL 'sum', in the pinned program and in every row, IS THE sha256 OF THE DUMP (.gsa) THAT YtfkdmddfadkjoaaProg.lean LOADS. Nothing in Lean hashes anything: it is a label: what it is worth is what the hold of that sum in a sandbox is worth. -/
noncomputable def Try.pinned : Pinned := { name := "ytfkdmddfadkjoaa", sum := "78111868a0338f0018739e825ca1bac1c3b588f32577e0d71a10d455c8ec438a", checked := Try.checked }
namespace Rows
def none {H : Type} : Left H := { results := [], args := [] }

/-- 'laws.FnExactAddGeo': WHATEVER THE INPUT: true; the input reads as it did. -/
def fnExactAddGeoSpec : ChangeSpec := { name := "fnExactAddGeo", fn := fun _ => fun
  | [d1, d2, d3] => { results := [.lit (.bool true)], args := [d1, d2, d3] }
  | _ => none }
def fnExactAddGeoRow : OpenClaim := { program := "ytfkdmddfadkjoaa", sum := "78111868a0338f0018739e825ca1bac1c3b588f32577e0d71a10d455c8ec438a", func := "loop.example/g00908/laws.FnExactAddGeo", spec := "fnExactAddGeo", unfollowed := true, recurses := true, apart := false }
def FnExactAddGeoSaid : Prop := fnExactAddGeoRow.holds Try.pinned (OpenSpec.ofChange fnExactAddGeoSpec)

/-- ITS FALSE NEIGHBOUR: 'it returns false'. Refute it at one input. -/
def fnExactAddGeoWrong : ChangeSpec := { name := "fnExactAddGeo", fn := fun _ => fun
  | [d1, d2, d3] => { results := [.lit (.bool false)], args := [d1, d2, d3] }
  | _ => none }
def FnExactAddGeoWrongFalsely : Prop := fnExactAddGeoRow.holds Try.pinned (OpenSpec.ofChange fnExactAddGeoWrong)

/-- 'laws.FnExactBitsUsed': WHATEVER THE INPUT: true; the input reads as it did. -/
def fnExactBitsUsedSpec : ChangeSpec := { name := "fnExactBitsUsed", fn := fun _ => fun
  | [d1, d2, d3] => { results := [.lit (.bool true)], args := [d1, d2, d3] }
  | _ => none }
def fnExactBitsUsedRow : OpenClaim := { program := "ytfkdmddfadkjoaa", sum := "78111868a0338f0018739e825ca1bac1c3b588f32577e0d71a10d455c8ec438a", func := "loop.example/g00908/laws.FnExactBitsUsed", spec := "fnExactBitsUsed", apart := false }
def FnExactBitsUsedSaid : Prop := fnExactBitsUsedRow.holds Try.pinned (OpenSpec.ofChange fnExactBitsUsedSpec)

/-- ITS FALSE NEIGHBOUR: 'it returns false'. Refute it at one input. -/
def fnExactBitsUsedWrong : ChangeSpec := { name := "fnExactBitsUsed", fn := fun _ => fun
  | [d1, d2, d3] => { results := [.lit (.bool false)], args := [d1, d2, d3] }
  | _ => none }
def FnExactBitsUsedWrongFalsely : Prop := fnExactBitsUsedRow.holds Try.pinned (OpenSpec.ofChange fnExactBitsUsedWrong)

/-- 'laws.FnExactGaussSample': WHATEVER THE INPUT: true; the input reads as it did. -/
def fnExactGaussSampleSpec : ChangeSpec := { name := "fnExactGaussSample", fn := fun _ => fun
  | [d1, d2] => { results := [.lit (.bool true)], args := [d1, d2] }
  | _ => none }
def fnExactGaussSampleRow : OpenClaim := { program := "ytfkdmddfadkjoaa", sum := "78111868a0338f0018739e825ca1bac1c3b588f32577e0d71a10d455c8ec438a", func := "loop.example/g00908/laws.FnExactGaussSample", spec := "fnExactGaussSample", apart := false }
def FnExactGaussSampleSaid : Prop := fnExactGaussSampleRow.holds Try.pinned (OpenSpec.ofChange fnExactGaussSampleSpec)

/-- ITS FALSE NEIGHBOUR: 'it returns false'. Refute it at one input. -/
def fnExactGaussSampleWrong : ChangeSpec := { name := "fnExactGaussSample", fn := fun _ => fun
  | [d1, d2] => { results := [.lit (.bool false)], args := [d1, d2] }
  | _ => none }
def FnExactGaussSampleWrongFalsely : Prop := fnExactGaussSampleRow.holds Try.pinned (OpenSpec.ofChange fnExactGaussSampleWrong)

/-- 'laws.FnExactAddGauss': WHATEVER THE INPUT: true; the input reads as it did. -/
def fnExactAddGaussSpec : ChangeSpec := { name := "fnExactAddGauss", fn := fun _ => fun
  | [d1, d2, d3] => { results := [.lit (.bool true)], args := [d1, d2, d3] }
  | _ => none }
def fnExactAddGaussRow : OpenClaim := { program := "ytfkdmddfadkjoaa", sum := "78111868a0338f0018739e825ca1bac1c3b588f32577e0d71a10d455c8ec438a", func := "loop.example/g00908/laws.FnExactAddGauss", spec := "fnExactAddGauss", unfollowed := true, recurses := true, apart := false }
def FnExactAddGaussSaid : Prop := fnExactAddGaussRow.holds Try.pinned (OpenSpec.ofChange fnExactAddGaussSpec)

/-- ITS FALSE NEIGHBOUR: 'it returns false'. Refute it at one input. -/
def fnExactAddGaussWrong : ChangeSpec := { name := "fnExactAddGauss", fn := fun _ => fun
  | [d1, d2, d3] => { results := [.lit (.bool false)], args := [d1, d2, d3] }
  | _ => none }
def FnExactAddGaussWrongFalsely : Prop := fnExactAddGaussRow.holds Try.pinned (OpenSpec.ofChange fnExactAddGaussWrong)

/-- 'laws.FnStreams': WHATEVER THE INPUT: true; the input reads as it did. -/
def fnStreamsSpec : ChangeSpec := { name := "fnStreams", fn := fun _ => fun
  | [d1, d2] => { results := [.lit (.bool true)], args := [d1, d2] }
  | _ => none }
def fnStreamsRow : OpenClaim := { program := "ytfkdmddfadkjoaa", sum := "78111868a0338f0018739e825ca1bac1c3b588f32577e0d71a10d455c8ec438a", func := "loop.example/g00908/laws.FnStreams", spec := "fnStreams", apart := false }
def FnStreamsSaid : Prop := fnStreamsRow.holds Try.pinned (OpenSpec.ofChange fnStreamsSpec)

/-- ITS FALSE NEIGHBOUR: 'it returns false'. Refute it at one input. -/
def fnStreamsWrong : ChangeSpec := { name := "fnStreams", fn := fun _ => fun
  | [d1, d2] => { results := [.lit (.bool false)], args := [d1, d2] }
  | _ => none }
def FnStreamsWrongFalsely : Prop := fnStreamsRow.holds Try.pinned (OpenSpec.ofChange fnStreamsWrong)

/-- 'laws.FnCoins': WHATEVER THE INPUT: true; the input reads as it did. -/
def fnCoinsSpec : ChangeSpec := { name := "fnCoins", fn := fun _ => fun
  | [d1, d2] => { results := [.lit (.bool true)], args := [d1, d2] }
  | _ => none }
def fnCoinsRow : OpenClaim := { program := "ytfkdmddfadkjoaa", sum := "78111868a0338f0018739e825ca1bac1c3b588f32577e0d71a10d455c8ec438a", func := "loop.example/g00908/laws.FnCoins", spec := "fnCoins", apart := false }
def FnCoinsSaid : Prop := fnCoinsRow.holds Try.pinned (OpenSpec.ofChange fnCoinsSpec)

/-- ITS FALSE NEIGHBOUR: 'it returns false'. Refute it at one input. -/
def fnCoinsWrong : ChangeSpec := { name := "fnCoins", fn := fun _ => fun
  | [d1, d2] => { results := [.lit (.bool false)], args := [d1, d2] }
  | _ => none }
def FnCoinsWrongFalsely : Prop := fnCoinsRow.holds Try.pinned (OpenSpec.ofChange fnCoinsWrong)

/-- 'laws.FnNoise': WHATEVER THE INPUT: true; the input reads as it did. -/
def fnNoiseSpec : ChangeSpec := { name := "fnNoise", fn := fun _ => fun
  | [d1, d2] => { results := [.lit (.bool true)], args := [d1, d2] }
  | _ => none }
def fnNoiseRow : OpenClaim := { program := "ytfkdmddfadkjoaa", sum := "78111868a0338f0018739e825ca1bac1c3b588f32577e0d71a10d455c8ec438a", func := "loop.example/g00908/laws.FnNoise", spec := "fnNoise", unfollowed := true, recurses := true, apart := false }
def FnNoiseSaid : Prop := fnNoiseRow.holds Try.pinned (OpenSpec.ofChange fnNoiseSpec)

/-- ITS FALSE NEIGHBOUR: 'it returns false'. Refute it at one input. -/
def fnNoiseWrong : ChangeSpec := { name := "fnNoise", fn := fun _ => fun
  | [d1, d2] => { results := [.lit (.bool false)], args := [d1, d2] }
  | _ => none }
def FnNoiseWrongFalsely : Prop := fnNoiseRow.holds Try.pinned (OpenSpec.ofChange fnNoiseWrong)

/-- 'laws.FnGauss': WHATEVER THE INPUT: true; the input reads as it did. -/
def fnGaussSpec : ChangeSpec := { name := "fnGauss", fn := fun _ => fun
  | [d1, d2] => { results := [.lit (.bool true)], args := [d1, d2] }
  | _ => none }
def fnGaussRow : OpenClaim := { program := "ytfkdmddfadkjoaa", sum := "78111868a0338f0018739e825ca1bac1c3b588f32577e0d71a10d455c8ec438a", func := "loop.example/g00908/laws.FnGauss", spec := "fnGauss", apart := false }
def FnGaussSaid : Prop := fnGaussRow.holds Try.pinned (OpenSpec.ofChange fnGaussSpec)

/-- ITS FALSE NEIGHBOUR: 'it returns false'. Refute it at one input. -/
def fnGaussWrong : ChangeSpec := { name := "fnGauss", fn := fun _ => fun
  | [d1, d2] => { results := [.lit (.bool false)], args := [d1, d2] }
  | _ => none }
def FnGaussWrongFalsely : Prop := fnGaussRow.holds Try.pinned (OpenSpec.ofChange fnGaussWrong)

/- THE SECOND FORM. 'bulk': how many values and letters a reading holds, each counted each time it is reached (what is shared counts as often as it is met; a slice's spare places count too). A statement '..UptoSaid' is the law's where the arguments, and the package variables that the reading takes, are together of bulk at most 1048576: NARROWER than '..Said'. Prove '..Said' where nothing that the law and all that it calls make is longer than what came in: it says more and counts as full. Else prove '..UptoSaid'. A law counts once. -/
mutual
def uptoBulk {H : Type} : DataW H → Nat
  | .lit (.string bytes) => bytes.length + 1
  | .lit _ => 1
  | .nil => 1
  | .ptr d => uptoBulk d + 1
  | .slice elems spare => uptoBulkAll elems + uptoBulkAll spare + 1
  | .agg parts => uptoBulkAll parts + 1
  | .iface _ d => uptoBulk d + 1
  | .map entries => uptoBulkEntries entries + 1
  | .held _ => 1
def uptoBulkAll {H : Type} : List (DataW H) → Nat
  | [] => 0
  | d :: r => uptoBulk d + uptoBulkAll r
def uptoBulkEntries {H : Type} : List (Lit × DataW H) → Nat
  | [] => 0
  | x :: r => uptoBulkEntry x + uptoBulkEntries r
def uptoBulkEntry {H : Type} : Lit × DataW H → Nat
  | (.string bytes, d) => bytes.length + uptoBulk d + 1
  | (_, d) => uptoBulk d + 1
 end
def uptoSmall : (H : Type) → List (DataW H) → Bool := fun _ ds => decide (uptoBulkAll ds ≤ 1048576)
def OpenSpec.upto (s : _root_.Go.ChangeSpec) : _root_.Go.OpenSpec := { _root_.Go.OpenSpec.ofChange s with cond := some uptoSmall }

/-- 'laws.FnExactAddGeo', WHERE WHAT IT READS IS OF BULK AT MOST 1048576: true; the input reads as it did. -/
def fnExactAddGeoUptoRow : OpenClaim := { program := "ytfkdmddfadkjoaa", sum := "78111868a0338f0018739e825ca1bac1c3b588f32577e0d71a10d455c8ec438a", func := "loop.example/g00908/laws.FnExactAddGeo", spec := "fnExactAddGeo", unfollowed := true, recurses := true, apart := false, narrowed := true }
def FnExactAddGeoUptoSaid : Prop := fnExactAddGeoUptoRow.holds Try.pinned (OpenSpec.upto fnExactAddGeoSpec)

/-- 'laws.FnExactBitsUsed', WHERE WHAT IT READS IS OF BULK AT MOST 1048576: true; the input reads as it did. -/
def fnExactBitsUsedUptoRow : OpenClaim := { program := "ytfkdmddfadkjoaa", sum := "78111868a0338f0018739e825ca1bac1c3b588f32577e0d71a10d455c8ec438a", func := "loop.example/g00908/laws.FnExactBitsUsed", spec := "fnExactBitsUsed", apart := false, narrowed := true }
def FnExactBitsUsedUptoSaid : Prop := fnExactBitsUsedUptoRow.holds Try.pinned (OpenSpec.upto fnExactBitsUsedSpec)

/-- 'laws.FnExactGaussSample', WHERE WHAT IT READS IS OF BULK AT MOST 1048576: true; the input reads as it did. -/
def fnExactGaussSampleUptoRow : OpenClaim := { program := "ytfkdmddfadkjoaa", sum := "78111868a0338f0018739e825ca1bac1c3b588f32577e0d71a10d455c8ec438a", func := "loop.example/g00908/laws.FnExactGaussSample", spec := "fnExactGaussSample", apart := false, narrowed := true }
def FnExactGaussSampleUptoSaid : Prop := fnExactGaussSampleUptoRow.holds Try.pinned (OpenSpec.upto fnExactGaussSampleSpec)

/-- 'laws.FnExactAddGauss', WHERE WHAT IT READS IS OF BULK AT MOST 1048576: true; the input reads as it did. -/
def fnExactAddGaussUptoRow : OpenClaim := { program := "ytfkdmddfadkjoaa", sum := "78111868a0338f0018739e825ca1bac1c3b588f32577e0d71a10d455c8ec438a", func := "loop.example/g00908/laws.FnExactAddGauss", spec := "fnExactAddGauss", unfollowed := true, recurses := true, apart := false, narrowed := true }
def FnExactAddGaussUptoSaid : Prop := fnExactAddGaussUptoRow.holds Try.pinned (OpenSpec.upto fnExactAddGaussSpec)

/-- 'laws.FnStreams', WHERE WHAT IT READS IS OF BULK AT MOST 1048576: true; the input reads as it did. -/
def fnStreamsUptoRow : OpenClaim := { program := "ytfkdmddfadkjoaa", sum := "78111868a0338f0018739e825ca1bac1c3b588f32577e0d71a10d455c8ec438a", func := "loop.example/g00908/laws.FnStreams", spec := "fnStreams", apart := false, narrowed := true }
def FnStreamsUptoSaid : Prop := fnStreamsUptoRow.holds Try.pinned (OpenSpec.upto fnStreamsSpec)

/-- 'laws.FnCoins', WHERE WHAT IT READS IS OF BULK AT MOST 1048576: true; the input reads as it did. -/
def fnCoinsUptoRow : OpenClaim := { program := "ytfkdmddfadkjoaa", sum := "78111868a0338f0018739e825ca1bac1c3b588f32577e0d71a10d455c8ec438a", func := "loop.example/g00908/laws.FnCoins", spec := "fnCoins", apart := false, narrowed := true }
def FnCoinsUptoSaid : Prop := fnCoinsUptoRow.holds Try.pinned (OpenSpec.upto fnCoinsSpec)

/-- 'laws.FnNoise', WHERE WHAT IT READS IS OF BULK AT MOST 1048576: true; the input reads as it did. -/
def fnNoiseUptoRow : OpenClaim := { program := "ytfkdmddfadkjoaa", sum := "78111868a0338f0018739e825ca1bac1c3b588f32577e0d71a10d455c8ec438a", func := "loop.example/g00908/laws.FnNoise", spec := "fnNoise", unfollowed := true, recurses := true, apart := false, narrowed := true }
def FnNoiseUptoSaid : Prop := fnNoiseUptoRow.holds Try.pinned (OpenSpec.upto fnNoiseSpec)

/-- 'laws.FnGauss', WHERE WHAT IT READS IS OF BULK AT MOST 1048576: true; the input reads as it did. -/
def fnGaussUptoRow : OpenClaim := { program := "ytfkdmddfadkjoaa", sum := "78111868a0338f0018739e825ca1bac1c3b588f32577e0d71a10d455c8ec438a", func := "loop.example/g00908/laws.FnGauss", spec := "fnGauss", apart := false, narrowed := true }
def FnGaussUptoSaid : Prop := fnGaussUptoRow.holds Try.pinned (OpenSpec.upto fnGaussSpec)

end Rows
end Go.Proofs.Ytfkdmddfadkjoaa
