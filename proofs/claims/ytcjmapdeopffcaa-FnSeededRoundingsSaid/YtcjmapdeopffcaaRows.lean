/-
  No cell of these rows narrows 'for every input' (looked for: loops, veiled, ifaces, maps, wideKeys, modest, calm, conditions, laid).
  DERIVED. THE GIVEN ROWS OF THIS SEAT. 2 by the template 'for every input the law returns true; each argument reads behind the call as it read before'; 0 by the template 'total and deterministic' (their statements: YtcjmapdeopffcaaTotals.lean).
  GIVEN WITH THE SEED: the statements are not yours to turn. If you find one false, say at which input.
  Laid BY PROGRAM, IN A SANDBOX (cutbox-rows.mjs): the forced cells as the released guide's own fill.sh prints them over the translation 010c69dca4e0f92c… (all of the seat's roots in one cut). By AI agents, Wed Nov 11 2026. No macro, syntax, notation, axiom, sorry.
-/
import Derived.Test.YtcjmapdeopffcaaChecked
import GoSem.Claim
import GoSem.ClaimJoined
import GoSem.ClaimMapViews
import Derived.JoinedTies
import Derived.KernelRfl
namespace Go.Proofs.Ytcjmapdeopffcaa
/- THE CELL 'sum', in the pinned program and in every row, IS THE sha256 OF THE DUMP (.gsa) THAT YtcjmapdeopffcaaProg.lean LOADS. Nothing in Lean hashes anything: it is a label: what it is worth is what the hold of that sum in a sandbox is worth. -/
noncomputable def Try.pinned : Pinned := { name := "ytcjmapdeopffcaa", sum := "010c69dca4e0f92caa64fe7fe399ff30eecc0a7ec8986e1a8ecac41f2cdd5d8d", checked := Try.checked }
namespace Rows
def none {H : Type} : Left H := { results := [], args := [] }

/-- 'laws.FnExactSeededRounding': WHATEVER THE INPUT: true; the input reads as it did. -/
def fnExactSeededRoundingSpec : ChangeSpec := { name := "fnExactSeededRounding", fn := fun _ => fun
  | [d1, d2, d3] => { results := [.lit (.bool true)], args := [d1, d2, d3] }
  | _ => none }
def fnExactSeededRoundingRow : OpenClaim := { program := "ytcjmapdeopffcaa", sum := "010c69dca4e0f92caa64fe7fe399ff30eecc0a7ec8986e1a8ecac41f2cdd5d8d", func := "loop.example/g00908/laws.FnExactSeededRounding", spec := "fnExactSeededRounding", unfollowed := true, recurses := true, apart := false }
def FnExactSeededRoundingSaid : Prop := fnExactSeededRoundingRow.holds Try.pinned (OpenSpec.ofChange fnExactSeededRoundingSpec)

/-- ITS FALSE NEIGHBOUR: 'it returns false'. Refute it at one input. -/
def fnExactSeededRoundingWrong : ChangeSpec := { name := "fnExactSeededRounding", fn := fun _ => fun
  | [d1, d2, d3] => { results := [.lit (.bool false)], args := [d1, d2, d3] }
  | _ => none }
def FnExactSeededRoundingWrongFalsely : Prop := fnExactSeededRoundingRow.holds Try.pinned (OpenSpec.ofChange fnExactSeededRoundingWrong)

/-- 'laws.FnSeededRoundings': WHATEVER THE INPUT: true; the input reads as it did. -/
def fnSeededRoundingsSpec : ChangeSpec := { name := "fnSeededRoundings", fn := fun _ => fun
  | [d1, d2] => { results := [.lit (.bool true)], args := [d1, d2] }
  | _ => none }
def fnSeededRoundingsRow : OpenClaim := { program := "ytcjmapdeopffcaa", sum := "010c69dca4e0f92caa64fe7fe399ff30eecc0a7ec8986e1a8ecac41f2cdd5d8d", func := "loop.example/g00908/laws.FnSeededRoundings", spec := "fnSeededRoundings", unfollowed := true, recurses := true, apart := false }
def FnSeededRoundingsSaid : Prop := fnSeededRoundingsRow.holds Try.pinned (OpenSpec.ofChange fnSeededRoundingsSpec)

/-- ITS FALSE NEIGHBOUR: 'it returns false'. Refute it at one input. -/
def fnSeededRoundingsWrong : ChangeSpec := { name := "fnSeededRoundings", fn := fun _ => fun
  | [d1, d2] => { results := [.lit (.bool false)], args := [d1, d2] }
  | _ => none }
def FnSeededRoundingsWrongFalsely : Prop := fnSeededRoundingsRow.holds Try.pinned (OpenSpec.ofChange fnSeededRoundingsWrong)

/- THE SECOND FORM. 'bulk': how many values and letters a reading holds, each counted each time it is reached (what is shared counts as often as it is met; a slice's spare places count too). A statement '..UptoSaid' is the law's where the arguments, and the package variables that the reading takes, are together of bulk at most 1048576: NARROWER than '..Said'. Prove '..Said' where nothing that the law and all that it calls make is longer than what came in: it says more and counts as full. Else prove '..UptoSaid'. A law counts once. -/
mutual
def uptoBulk {H : Type} : DataW H → Nat
  | .lit (.string bytes) => bytes.length + 1
  | .lit _ => 1
  | .nil => 1
  | .ptr d => uptoBulk d + 1
  | .slice elems spare => uptoBulkAll elems + uptoBulkAll spare + 1
  | .agg parts => uptoBulkAll parts + 1
  | .iface _ d => uptoBulk d + 1
  | .map entries => uptoBulkEntries entries + 1
  | .held _ => 1
def uptoBulkAll {H : Type} : List (DataW H) → Nat
  | [] => 0
  | d :: r => uptoBulk d + uptoBulkAll r
def uptoBulkEntries {H : Type} : List (Lit × DataW H) → Nat
  | [] => 0
  | x :: r => uptoBulkEntry x + uptoBulkEntries r
def uptoBulkEntry {H : Type} : Lit × DataW H → Nat
  | (.string bytes, d) => bytes.length + uptoBulk d + 1
  | (_, d) => uptoBulk d + 1
 end
def uptoSmall : (H : Type) → List (DataW H) → Bool := fun _ ds => decide (uptoBulkAll ds ≤ 1048576)
def OpenSpec.upto (s : _root_.Go.ChangeSpec) : _root_.Go.OpenSpec := { _root_.Go.OpenSpec.ofChange s with cond := some uptoSmall }

/-- 'laws.FnExactSeededRounding', WHERE WHAT IT READS IS OF BULK AT MOST 1048576: true; the input reads as it did. -/
def fnExactSeededRoundingUptoRow : OpenClaim := { program := "ytcjmapdeopffcaa", sum := "010c69dca4e0f92caa64fe7fe399ff30eecc0a7ec8986e1a8ecac41f2cdd5d8d", func := "loop.example/g00908/laws.FnExactSeededRounding", spec := "fnExactSeededRounding", unfollowed := true, recurses := true, apart := false, narrowed := true }
def FnExactSeededRoundingUptoSaid : Prop := fnExactSeededRoundingUptoRow.holds Try.pinned (OpenSpec.upto fnExactSeededRoundingSpec)

/-- 'laws.FnSeededRoundings', WHERE WHAT IT READS IS OF BULK AT MOST 1048576: true; the input reads as it did. -/
def fnSeededRoundingsUptoRow : OpenClaim := { program := "ytcjmapdeopffcaa", sum := "010c69dca4e0f92caa64fe7fe399ff30eecc0a7ec8986e1a8ecac41f2cdd5d8d", func := "loop.example/g00908/laws.FnSeededRoundings", spec := "fnSeededRoundings", unfollowed := true, recurses := true, apart := false, narrowed := true }
def FnSeededRoundingsUptoSaid : Prop := fnSeededRoundingsUptoRow.holds Try.pinned (OpenSpec.upto fnSeededRoundingsSpec)

end Rows
end Go.Proofs.Ytcjmapdeopffcaa
