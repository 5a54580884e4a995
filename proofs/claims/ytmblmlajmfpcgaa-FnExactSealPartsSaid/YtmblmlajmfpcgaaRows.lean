/-
  No cell of these rows narrows 'for every input' (looked for: loops, veiled, ifaces, maps, wideKeys, modest, calm, conditions, laid).
  DERIVED. THE GIVEN ROWS OF THIS SEAT. 12 by the template 'for every input the law returns true; each argument reads behind the call as it read before'; 0 by the template 'total and deterministic' (their statements: YtmblmlajmfpcgaaTotals.lean).
  GIVEN WITH THE SEED: the statements are not yours to turn. If you find one false, say at which input.
  Laid BY PROGRAM, IN A SANDBOX (cutbox-rows.mjs): the forced cells as the released guide's own fill.sh prints them over the translation 8ef7e09e97b64fd6… (all of the seat's roots in one cut). By AI agents, Wed Nov 11 2026. No macro, syntax, notation, axiom, sorry.
-/
import Derived.Test.YtmblmlajmfpcgaaChecked
import GoSem.Claim
import GoSem.ClaimJoined
import GoSem.ClaimMapViews
import Derived.JoinedTies
import Derived.KernelRfl
namespace Go.Proofs.Ytmblmlajmfpcgaa
/- THE CELL 'sum', in the pinned program and in every row, IS THE sha256 OF THE DUMP (.gsa) THAT YtmblmlajmfpcgaaProg.lean LOADS. Nothing in Lean hashes anything: it is a label: what it is worth is what the hold of that sum in a sandbox is worth. -/
noncomputable def Try.pinned : Pinned := { name := "ytmblmlajmfpcgaa", sum := "8ef7e09e97b64fd61e4d4f9c2a04f001ccd81a2f945e1021e38c356503a1a50b", checked := Try.checked }
namespace Rows
def none {H : Type} : Left H := { results := [], args := [] }

/-- 'laws.FnExactIsStream': WHATEVER THE INPUT: true; the input reads as it did. -/
def fnExactIsStreamSpec : ChangeSpec := { name := "fnExactIsStream", fn := fun _ => fun
  | [d] => { results := [.lit (.bool true)], args := [d] }
  | _ => none }
def fnExactIsStreamRow : OpenClaim := { program := "ytmblmlajmfpcgaa", sum := "8ef7e09e97b64fd61e4d4f9c2a04f001ccd81a2f945e1021e38c356503a1a50b", func := "loop.example/g00908/laws.FnExactIsStream", spec := "fnExactIsStream", apart := false }
def FnExactIsStreamSaid : Prop := fnExactIsStreamRow.holds Try.pinned (OpenSpec.ofChange fnExactIsStreamSpec)

/-- ITS FALSE NEIGHBOUR: 'it returns false'. Refute it at one input. -/
def fnExactIsStreamWrong : ChangeSpec := { name := "fnExactIsStream", fn := fun _ => fun
  | [d] => { results := [.lit (.bool false)], args := [d] }
  | _ => none }
def FnExactIsStreamWrongFalsely : Prop := fnExactIsStreamRow.holds Try.pinned (OpenSpec.ofChange fnExactIsStreamWrong)

/-- 'laws.FnExactOpenSeal': WHATEVER THE INPUT: true; the input reads as it did. -/
def fnExactOpenSealSpec : ChangeSpec := { name := "fnExactOpenSeal", fn := fun _ => fun
  | [d1, d2, d3] => { results := [.lit (.bool true)], args := [d1, d2, d3] }
  | _ => none }
def fnExactOpenSealRow : OpenClaim := { program := "ytmblmlajmfpcgaa", sum := "8ef7e09e97b64fd61e4d4f9c2a04f001ccd81a2f945e1021e38c356503a1a50b", func := "loop.example/g00908/laws.FnExactOpenSeal", spec := "fnExactOpenSeal", apart := false }
def FnExactOpenSealSaid : Prop := fnExactOpenSealRow.holds Try.pinned (OpenSpec.ofChange fnExactOpenSealSpec)

/-- ITS FALSE NEIGHBOUR: 'it returns false'. Refute it at one input. -/
def fnExactOpenSealWrong : ChangeSpec := { name := "fnExactOpenSeal", fn := fun _ => fun
  | [d1, d2, d3] => { results := [.lit (.bool false)], args := [d1, d2, d3] }
  | _ => none }
def FnExactOpenSealWrongFalsely : Prop := fnExactOpenSealRow.holds Try.pinned (OpenSpec.ofChange fnExactOpenSealWrong)

/-- 'laws.FnExactSealSeed': WHATEVER THE INPUT: true; the input reads as it did. -/
def fnExactSealSeedSpec : ChangeSpec := { name := "fnExactSealSeed", fn := fun _ => fun
  | [d1, d2] => { results := [.lit (.bool true)], args := [d1, d2] }
  | _ => none }
def fnExactSealSeedRow : OpenClaim := { program := "ytmblmlajmfpcgaa", sum := "8ef7e09e97b64fd61e4d4f9c2a04f001ccd81a2f945e1021e38c356503a1a50b", func := "loop.example/g00908/laws.FnExactSealSeed", spec := "fnExactSealSeed", apart := false }
def FnExactSealSeedSaid : Prop := fnExactSealSeedRow.holds Try.pinned (OpenSpec.ofChange fnExactSealSeedSpec)

/-- ITS FALSE NEIGHBOUR: 'it returns false'. Refute it at one input. -/
def fnExactSealSeedWrong : ChangeSpec := { name := "fnExactSealSeed", fn := fun _ => fun
  | [d1, d2] => { results := [.lit (.bool false)], args := [d1, d2] }
  | _ => none }
def FnExactSealSeedWrongFalsely : Prop := fnExactSealSeedRow.holds Try.pinned (OpenSpec.ofChange fnExactSealSeedWrong)

/-- 'laws.FnExactHashWord': WHATEVER THE INPUT: true; the input reads as it did. -/
def fnExactHashWordSpec : ChangeSpec := { name := "fnExactHashWord", fn := fun _ => fun
  | [d] => { results := [.lit (.bool true)], args := [d] }
  | _ => none }
def fnExactHashWordRow : OpenClaim := { program := "ytmblmlajmfpcgaa", sum := "8ef7e09e97b64fd61e4d4f9c2a04f001ccd81a2f945e1021e38c356503a1a50b", func := "loop.example/g00908/laws.FnExactHashWord", spec := "fnExactHashWord", apart := false }
def FnExactHashWordSaid : Prop := fnExactHashWordRow.holds Try.pinned (OpenSpec.ofChange fnExactHashWordSpec)

/-- ITS FALSE NEIGHBOUR: 'it returns false'. Refute it at one input. -/
def fnExactHashWordWrong : ChangeSpec := { name := "fnExactHashWord", fn := fun _ => fun
  | [d] => { results := [.lit (.bool false)], args := [d] }
  | _ => none }
def FnExactHashWordWrongFalsely : Prop := fnExactHashWordRow.holds Try.pinned (OpenSpec.ofChange fnExactHashWordWrong)

/-- 'laws.FnExactBitAt': WHATEVER THE INPUT: true; the input reads as it did. -/
def fnExactBitAtSpec : ChangeSpec := { name := "fnExactBitAt", fn := fun _ => fun
  | [d1, d2] => { results := [.lit (.bool true)], args := [d1, d2] }
  | _ => none }
def fnExactBitAtRow : OpenClaim := { program := "ytmblmlajmfpcgaa", sum := "8ef7e09e97b64fd61e4d4f9c2a04f001ccd81a2f945e1021e38c356503a1a50b", func := "loop.example/g00908/laws.FnExactBitAt", spec := "fnExactBitAt", apart := false }
def FnExactBitAtSaid : Prop := fnExactBitAtRow.holds Try.pinned (OpenSpec.ofChange fnExactBitAtSpec)

/-- ITS FALSE NEIGHBOUR: 'it returns false'. Refute it at one input. -/
def fnExactBitAtWrong : ChangeSpec := { name := "fnExactBitAt", fn := fun _ => fun
  | [d1, d2] => { results := [.lit (.bool false)], args := [d1, d2] }
  | _ => none }
def FnExactBitAtWrongFalsely : Prop := fnExactBitAtRow.holds Try.pinned (OpenSpec.ofChange fnExactBitAtWrong)

/-- 'laws.FnExactHashList': WHATEVER THE INPUT: true; the input reads as it did. -/
def fnExactHashListSpec : ChangeSpec := { name := "fnExactHashList", fn := fun _ => fun
  | [d] => { results := [.lit (.bool true)], args := [d] }
  | _ => none }
def fnExactHashListRow : OpenClaim := { program := "ytmblmlajmfpcgaa", sum := "8ef7e09e97b64fd61e4d4f9c2a04f001ccd81a2f945e1021e38c356503a1a50b", func := "loop.example/g00908/laws.FnExactHashList", spec := "fnExactHashList", apart := false }
def FnExactHashListSaid : Prop := fnExactHashListRow.holds Try.pinned (OpenSpec.ofChange fnExactHashListSpec)

/-- ITS FALSE NEIGHBOUR: 'it returns false'. Refute it at one input. -/
def fnExactHashListWrong : ChangeSpec := { name := "fnExactHashList", fn := fun _ => fun
  | [d] => { results := [.lit (.bool false)], args := [d] }
  | _ => none }
def FnExactHashListWrongFalsely : Prop := fnExactHashListRow.holds Try.pinned (OpenSpec.ofChange fnExactHashListWrong)

/-- 'laws.FnExactDerivedSeed': WHATEVER THE INPUT: true; the input reads as it did. -/
def fnExactDerivedSeedSpec : ChangeSpec := { name := "fnExactDerivedSeed", fn := fun _ => fun
  | [d1, d2] => { results := [.lit (.bool true)], args := [d1, d2] }
  | _ => none }
def fnExactDerivedSeedRow : OpenClaim := { program := "ytmblmlajmfpcgaa", sum := "8ef7e09e97b64fd61e4d4f9c2a04f001ccd81a2f945e1021e38c356503a1a50b", func := "loop.example/g00908/laws.FnExactDerivedSeed", spec := "fnExactDerivedSeed", apart := false }
def FnExactDerivedSeedSaid : Prop := fnExactDerivedSeedRow.holds Try.pinned (OpenSpec.ofChange fnExactDerivedSeedSpec)

/-- ITS FALSE NEIGHBOUR: 'it returns false'. Refute it at one input. -/
def fnExactDerivedSeedWrong : ChangeSpec := { name := "fnExactDerivedSeed", fn := fun _ => fun
  | [d1, d2] => { results := [.lit (.bool false)], args := [d1, d2] }
  | _ => none }
def FnExactDerivedSeedWrongFalsely : Prop := fnExactDerivedSeedRow.holds Try.pinned (OpenSpec.ofChange fnExactDerivedSeedWrong)

/-- 'laws.FnExactJointSeed': WHATEVER THE INPUT: true; the input reads as it did. -/
def fnExactJointSeedSpec : ChangeSpec := { name := "fnExactJointSeed", fn := fun _ => fun
  | [d] => { results := [.lit (.bool true)], args := [d] }
  | _ => none }
def fnExactJointSeedRow : OpenClaim := { program := "ytmblmlajmfpcgaa", sum := "8ef7e09e97b64fd61e4d4f9c2a04f001ccd81a2f945e1021e38c356503a1a50b", func := "loop.example/g00908/laws.FnExactJointSeed", spec := "fnExactJointSeed", apart := false }
def FnExactJointSeedSaid : Prop := fnExactJointSeedRow.holds Try.pinned (OpenSpec.ofChange fnExactJointSeedSpec)

/-- ITS FALSE NEIGHBOUR: 'it returns false'. Refute it at one input. -/
def fnExactJointSeedWrong : ChangeSpec := { name := "fnExactJointSeed", fn := fun _ => fun
  | [d] => { results := [.lit (.bool false)], args := [d] }
  | _ => none }
def FnExactJointSeedWrongFalsely : Prop := fnExactJointSeedRow.holds Try.pinned (OpenSpec.ofChange fnExactJointSeedWrong)

/-- 'laws.FnExactFirstBadLink': WHATEVER THE INPUT: true; the input reads as it did. -/
def fnExactFirstBadLinkSpec : ChangeSpec := { name := "fnExactFirstBadLink", fn := fun _ => fun
  | [d1, d2] => { results := [.lit (.bool true)], args := [d1, d2] }
  | _ => none }
def fnExactFirstBadLinkRow : OpenClaim := { program := "ytmblmlajmfpcgaa", sum := "8ef7e09e97b64fd61e4d4f9c2a04f001ccd81a2f945e1021e38c356503a1a50b", func := "loop.example/g00908/laws.FnExactFirstBadLink", spec := "fnExactFirstBadLink", apart := false }
def FnExactFirstBadLinkSaid : Prop := fnExactFirstBadLinkRow.holds Try.pinned (OpenSpec.ofChange fnExactFirstBadLinkSpec)

/-- ITS FALSE NEIGHBOUR: 'it returns false'. Refute it at one input. -/
def fnExactFirstBadLinkWrong : ChangeSpec := { name := "fnExactFirstBadLink", fn := fun _ => fun
  | [d1, d2] => { results := [.lit (.bool false)], args := [d1, d2] }
  | _ => none }
def FnExactFirstBadLinkWrongFalsely : Prop := fnExactFirstBadLinkRow.holds Try.pinned (OpenSpec.ofChange fnExactFirstBadLinkWrong)

/-- 'laws.FnExactChainOf': WHATEVER THE INPUT: true; the input reads as it did. -/
def fnExactChainOfSpec : ChangeSpec := { name := "fnExactChainOf", fn := fun _ => fun
  | [d] => { results := [.lit (.bool true)], args := [d] }
  | _ => none }
def fnExactChainOfRow : OpenClaim := { program := "ytmblmlajmfpcgaa", sum := "8ef7e09e97b64fd61e4d4f9c2a04f001ccd81a2f945e1021e38c356503a1a50b", func := "loop.example/g00908/laws.FnExactChainOf", spec := "fnExactChainOf", apart := false }
def FnExactChainOfSaid : Prop := fnExactChainOfRow.holds Try.pinned (OpenSpec.ofChange fnExactChainOfSpec)

/-- ITS FALSE NEIGHBOUR: 'it returns false'. Refute it at one input. -/
def fnExactChainOfWrong : ChangeSpec := { name := "fnExactChainOf", fn := fun _ => fun
  | [d] => { results := [.lit (.bool false)], args := [d] }
  | _ => none }
def FnExactChainOfWrongFalsely : Prop := fnExactChainOfRow.holds Try.pinned (OpenSpec.ofChange fnExactChainOfWrong)

/-- 'laws.FnExactFirstBadPart': WHATEVER THE INPUT: true; the input reads as it did. -/
def fnExactFirstBadPartSpec : ChangeSpec := { name := "fnExactFirstBadPart", fn := fun _ => fun
  | [d1, d2, d3] => { results := [.lit (.bool true)], args := [d1, d2, d3] }
  | _ => none }
def fnExactFirstBadPartRow : OpenClaim := { program := "ytmblmlajmfpcgaa", sum := "8ef7e09e97b64fd61e4d4f9c2a04f001ccd81a2f945e1021e38c356503a1a50b", func := "loop.example/g00908/laws.FnExactFirstBadPart", spec := "fnExactFirstBadPart", apart := false }
def FnExactFirstBadPartSaid : Prop := fnExactFirstBadPartRow.holds Try.pinned (OpenSpec.ofChange fnExactFirstBadPartSpec)

/-- ITS FALSE NEIGHBOUR: 'it returns false'. Refute it at one input. -/
def fnExactFirstBadPartWrong : ChangeSpec := { name := "fnExactFirstBadPart", fn := fun _ => fun
  | [d1, d2, d3] => { results := [.lit (.bool false)], args := [d1, d2, d3] }
  | _ => none }
def FnExactFirstBadPartWrongFalsely : Prop := fnExactFirstBadPartRow.holds Try.pinned (OpenSpec.ofChange fnExactFirstBadPartWrong)

/-- 'laws.FnExactSealParts': WHATEVER THE INPUT: true; the input reads as it did. -/
def fnExactSealPartsSpec : ChangeSpec := { name := "fnExactSealParts", fn := fun _ => fun
  | [d1, d2] => { results := [.lit (.bool true)], args := [d1, d2] }
  | _ => none }
def fnExactSealPartsRow : OpenClaim := { program := "ytmblmlajmfpcgaa", sum := "8ef7e09e97b64fd61e4d4f9c2a04f001ccd81a2f945e1021e38c356503a1a50b", func := "loop.example/g00908/laws.FnExactSealParts", spec := "fnExactSealParts", apart := false }
def FnExactSealPartsSaid : Prop := fnExactSealPartsRow.holds Try.pinned (OpenSpec.ofChange fnExactSealPartsSpec)

/-- ITS FALSE NEIGHBOUR: 'it returns false'. Refute it at one input. -/
def fnExactSealPartsWrong : ChangeSpec := { name := "fnExactSealParts", fn := fun _ => fun
  | [d1, d2] => { results := [.lit (.bool false)], args := [d1, d2] }
  | _ => none }
def FnExactSealPartsWrongFalsely : Prop := fnExactSealPartsRow.holds Try.pinned (OpenSpec.ofChange fnExactSealPartsWrong)

/- THE SECOND FORM. 'bulk': how many values and letters a reading holds, each counted each time it is reached (what is shared counts as often as it is met; a slice's spare places count too). A statement '..UptoSaid' is the law's where the arguments, and the package variables that the reading takes, are together of bulk at most 1048576: NARROWER than '..Said'. Prove '..Said' where nothing that the law and all that it calls make is longer than what came in: it says more and counts as full. Else prove '..UptoSaid'. A law counts once. -/
mutual
def uptoBulk {H : Type} : DataW H → Nat
  | .lit (.string bytes) => bytes.length + 1
  | .lit _ => 1
  | .nil => 1
  | .ptr d => uptoBulk d + 1
  | .slice elems spare => uptoBulkAll elems + uptoBulkAll spare + 1
  | .agg parts => uptoBulkAll parts + 1
  | .iface _ d => uptoBulk d + 1
  | .map entries => uptoBulkEntries entries + 1
  | .held _ => 1
def uptoBulkAll {H : Type} : List (DataW H) → Nat
  | [] => 0
  | d :: r => uptoBulk d + uptoBulkAll r
def uptoBulkEntries {H : Type} : List (Lit × DataW H) → Nat
  | [] => 0
  | x :: r => uptoBulkEntry x + uptoBulkEntries r
def uptoBulkEntry {H : Type} : Lit × DataW H → Nat
  | (.string bytes, d) => bytes.length + uptoBulk d + 1
  | (_, d) => uptoBulk d + 1
 end
def uptoSmall : (H : Type) → List (DataW H) → Bool := fun _ ds => decide (uptoBulkAll ds ≤ 1048576)
def OpenSpec.upto (s : _root_.Go.ChangeSpec) : _root_.Go.OpenSpec := { _root_.Go.OpenSpec.ofChange s with cond := some uptoSmall }

/-- 'laws.FnExactIsStream', WHERE WHAT IT READS IS OF BULK AT MOST 1048576: true; the input reads as it did. -/
def fnExactIsStreamUptoRow : OpenClaim := { program := "ytmblmlajmfpcgaa", sum := "8ef7e09e97b64fd61e4d4f9c2a04f001ccd81a2f945e1021e38c356503a1a50b", func := "loop.example/g00908/laws.FnExactIsStream", spec := "fnExactIsStream", apart := false, narrowed := true }
def FnExactIsStreamUptoSaid : Prop := fnExactIsStreamUptoRow.holds Try.pinned (OpenSpec.upto fnExactIsStreamSpec)

/-- 'laws.FnExactOpenSeal', WHERE WHAT IT READS IS OF BULK AT MOST 1048576: true; the input reads as it did. -/
def fnExactOpenSealUptoRow : OpenClaim := { program := "ytmblmlajmfpcgaa", sum := "8ef7e09e97b64fd61e4d4f9c2a04f001ccd81a2f945e1021e38c356503a1a50b", func := "loop.example/g00908/laws.FnExactOpenSeal", spec := "fnExactOpenSeal", apart := false, narrowed := true }
def FnExactOpenSealUptoSaid : Prop := fnExactOpenSealUptoRow.holds Try.pinned (OpenSpec.upto fnExactOpenSealSpec)

/-- 'laws.FnExactSealSeed', WHERE WHAT IT READS IS OF BULK AT MOST 1048576: true; the input reads as it did. -/
def fnExactSealSeedUptoRow : OpenClaim := { program := "ytmblmlajmfpcgaa", sum := "8ef7e09e97b64fd61e4d4f9c2a04f001ccd81a2f945e1021e38c356503a1a50b", func := "loop.example/g00908/laws.FnExactSealSeed", spec := "fnExactSealSeed", apart := false, narrowed := true }
def FnExactSealSeedUptoSaid : Prop := fnExactSealSeedUptoRow.holds Try.pinned (OpenSpec.upto fnExactSealSeedSpec)

/-- 'laws.FnExactHashWord', WHERE WHAT IT READS IS OF BULK AT MOST 1048576: true; the input reads as it did. -/
def fnExactHashWordUptoRow : OpenClaim := { program := "ytmblmlajmfpcgaa", sum := "8ef7e09e97b64fd61e4d4f9c2a04f001ccd81a2f945e1021e38c356503a1a50b", func := "loop.example/g00908/laws.FnExactHashWord", spec := "fnExactHashWord", apart := false, narrowed := true }
def FnExactHashWordUptoSaid : Prop := fnExactHashWordUptoRow.holds Try.pinned (OpenSpec.upto fnExactHashWordSpec)

/-- 'laws.FnExactBitAt', WHERE WHAT IT READS IS OF BULK AT MOST 1048576: true; the input reads as it did. -/
def fnExactBitAtUptoRow : OpenClaim := { program := "ytmblmlajmfpcgaa", sum := "8ef7e09e97b64fd61e4d4f9c2a04f001ccd81a2f945e1021e38c356503a1a50b", func := "loop.example/g00908/laws.FnExactBitAt", spec := "fnExactBitAt", apart := false, narrowed := true }
def FnExactBitAtUptoSaid : Prop := fnExactBitAtUptoRow.holds Try.pinned (OpenSpec.upto fnExactBitAtSpec)

/-- 'laws.FnExactHashList', WHERE WHAT IT READS IS OF BULK AT MOST 1048576: true; the input reads as it did. -/
def fnExactHashListUptoRow : OpenClaim := { program := "ytmblmlajmfpcgaa", sum := "8ef7e09e97b64fd61e4d4f9c2a04f001ccd81a2f945e1021e38c356503a1a50b", func := "loop.example/g00908/laws.FnExactHashList", spec := "fnExactHashList", apart := false, narrowed := true }
def FnExactHashListUptoSaid : Prop := fnExactHashListUptoRow.holds Try.pinned (OpenSpec.upto fnExactHashListSpec)

/-- 'laws.FnExactDerivedSeed', WHERE WHAT IT READS IS OF BULK AT MOST 1048576: true; the input reads as it did. -/
def fnExactDerivedSeedUptoRow : OpenClaim := { program := "ytmblmlajmfpcgaa", sum := "8ef7e09e97b64fd61e4d4f9c2a04f001ccd81a2f945e1021e38c356503a1a50b", func := "loop.example/g00908/laws.FnExactDerivedSeed", spec := "fnExactDerivedSeed", apart := false, narrowed := true }
def FnExactDerivedSeedUptoSaid : Prop := fnExactDerivedSeedUptoRow.holds Try.pinned (OpenSpec.upto fnExactDerivedSeedSpec)

/-- 'laws.FnExactJointSeed', WHERE WHAT IT READS IS OF BULK AT MOST 1048576: true; the input reads as it did. -/
def fnExactJointSeedUptoRow : OpenClaim := { program := "ytmblmlajmfpcgaa", sum := "8ef7e09e97b64fd61e4d4f9c2a04f001ccd81a2f945e1021e38c356503a1a50b", func := "loop.example/g00908/laws.FnExactJointSeed", spec := "fnExactJointSeed", apart := false, narrowed := true }
def FnExactJointSeedUptoSaid : Prop := fnExactJointSeedUptoRow.holds Try.pinned (OpenSpec.upto fnExactJointSeedSpec)

/-- 'laws.FnExactFirstBadLink', WHERE WHAT IT READS IS OF BULK AT MOST 1048576: true; the input reads as it did. -/
def fnExactFirstBadLinkUptoRow : OpenClaim := { program := "ytmblmlajmfpcgaa", sum := "8ef7e09e97b64fd61e4d4f9c2a04f001ccd81a2f945e1021e38c356503a1a50b", func := "loop.example/g00908/laws.FnExactFirstBadLink", spec := "fnExactFirstBadLink", apart := false, narrowed := true }
def FnExactFirstBadLinkUptoSaid : Prop := fnExactFirstBadLinkUptoRow.holds Try.pinned (OpenSpec.upto fnExactFirstBadLinkSpec)

/-- 'laws.FnExactChainOf', WHERE WHAT IT READS IS OF BULK AT MOST 1048576: true; the input reads as it did. -/
def fnExactChainOfUptoRow : OpenClaim := { program := "ytmblmlajmfpcgaa", sum := "8ef7e09e97b64fd61e4d4f9c2a04f001ccd81a2f945e1021e38c356503a1a50b", func := "loop.example/g00908/laws.FnExactChainOf", spec := "fnExactChainOf", apart := false, narrowed := true }
def FnExactChainOfUptoSaid : Prop := fnExactChainOfUptoRow.holds Try.pinned (OpenSpec.upto fnExactChainOfSpec)

/-- 'laws.FnExactFirstBadPart', WHERE WHAT IT READS IS OF BULK AT MOST 1048576: true; the input reads as it did. -/
def fnExactFirstBadPartUptoRow : OpenClaim := { program := "ytmblmlajmfpcgaa", sum := "8ef7e09e97b64fd61e4d4f9c2a04f001ccd81a2f945e1021e38c356503a1a50b", func := "loop.example/g00908/laws.FnExactFirstBadPart", spec := "fnExactFirstBadPart", apart := false, narrowed := true }
def FnExactFirstBadPartUptoSaid : Prop := fnExactFirstBadPartUptoRow.holds Try.pinned (OpenSpec.upto fnExactFirstBadPartSpec)

/-- 'laws.FnExactSealParts', WHERE WHAT IT READS IS OF BULK AT MOST 1048576: true; the input reads as it did. -/
def fnExactSealPartsUptoRow : OpenClaim := { program := "ytmblmlajmfpcgaa", sum := "8ef7e09e97b64fd61e4d4f9c2a04f001ccd81a2f945e1021e38c356503a1a50b", func := "loop.example/g00908/laws.FnExactSealParts", spec := "fnExactSealParts", apart := false, narrowed := true }
def FnExactSealPartsUptoSaid : Prop := fnExactSealPartsUptoRow.holds Try.pinned (OpenSpec.upto fnExactSealPartsSpec)

end Rows
end Go.Proofs.Ytmblmlajmfpcgaa
