/-
  No cell of these rows narrows 'for every input' (looked for: loops, veiled, ifaces, maps, wideKeys, modest, calm, conditions, laid).
  DERIVED. THE GIVEN ROWS OF THIS SEAT. 7 by the template 'for every input the law returns true; each argument reads behind the call as it read before'; 0 by the template 'total and deterministic' (their statements: YtfanpbfmnckmnaaGreatTotals.lean).
  GIVEN WITH THE SEED: the statements are not yours to turn. If you find one false, say at which input.
  Laid BY PROGRAM, IN A SANDBOX (cutbox-rows.mjs): the forced cells as the released guide's own fill.sh prints them over the translation a033d9e74520f0ad… (all of the seat's roots in one cut). By AI agents, Wed Nov 11 2026. No macro, syntax, notation, axiom, sorry.
-/
import Derived.Test.YtfanpbfmnckmnaaGreatChecked
import GoSem.Claim
import GoSem.ClaimJoined
import GoSem.ClaimMapViews
import Derived.JoinedTies
import Derived.KernelRfl
namespace Go.Proofs.YtfanpbfmnckmnaaGreat
/- THE CELL 'sum', in the pinned program and in every row, IS THE sha256 OF THE DUMP (.gsa) THAT YtfanpbfmnckmnaaGreatProg.lean LOADS. Nothing in Lean hashes anything: it is a label: what it is worth is what the hold of that sum in a sandbox is worth. -/
noncomputable def Tryz.pinned : Pinned := { name := "ytfanpbfmnckmnaagreat", sum := "a033d9e74520f0ad660d650c8487d539f543dfed2bf6b8f46d2718961b40a723", checked := Tryz.checked }
namespace Rows
def none {H : Type} : Left H := { results := [], args := [] }

/-- 'laws.FnExactIsServer': WHATEVER THE INPUT: true; the input reads as it did. -/
def fnExactIsServerSpec : ChangeSpec := { name := "fnExactIsServer", fn := fun _ => fun
  | [d] => { results := [.lit (.bool true)], args := [d] }
  | _ => none }
def fnExactIsServerRow : OpenClaim := { program := "ytfanpbfmnckmnaagreat", sum := "a033d9e74520f0ad660d650c8487d539f543dfed2bf6b8f46d2718961b40a723", func := "loop.example/g00908/laws.FnExactIsServer", spec := "fnExactIsServer", unfollowed := true, recurses := true, apart := false }
def FnExactIsServerSaid : Prop := fnExactIsServerRow.holds Tryz.pinned (OpenSpec.ofChange fnExactIsServerSpec)

/-- ITS FALSE NEIGHBOUR: 'it returns false'. Refute it at one input. -/
def fnExactIsServerWrong : ChangeSpec := { name := "fnExactIsServer", fn := fun _ => fun
  | [d] => { results := [.lit (.bool false)], args := [d] }
  | _ => none }
def FnExactIsServerWrongFalsely : Prop := fnExactIsServerRow.holds Tryz.pinned (OpenSpec.ofChange fnExactIsServerWrong)

/-- 'laws.FnExactAnsweredLoss': WHATEVER THE INPUT: true; the input reads as it did. -/
def fnExactAnsweredLossSpec : ChangeSpec := { name := "fnExactAnsweredLoss", fn := fun _ => fun
  | [d] => { results := [.lit (.bool true)], args := [d] }
  | _ => none }
def fnExactAnsweredLossRow : OpenClaim := { program := "ytfanpbfmnckmnaagreat", sum := "a033d9e74520f0ad660d650c8487d539f543dfed2bf6b8f46d2718961b40a723", func := "loop.example/g00908/laws.FnExactAnsweredLoss", spec := "fnExactAnsweredLoss", unfollowed := true, recurses := true, apart := false }
def FnExactAnsweredLossSaid : Prop := fnExactAnsweredLossRow.holds Tryz.pinned (OpenSpec.ofChange fnExactAnsweredLossSpec)

/-- ITS FALSE NEIGHBOUR: 'it returns false'. Refute it at one input. -/
def fnExactAnsweredLossWrong : ChangeSpec := { name := "fnExactAnsweredLoss", fn := fun _ => fun
  | [d] => { results := [.lit (.bool false)], args := [d] }
  | _ => none }
def FnExactAnsweredLossWrongFalsely : Prop := fnExactAnsweredLossRow.holds Tryz.pinned (OpenSpec.ofChange fnExactAnsweredLossWrong)

/-- 'laws.FnExactLeastGap': WHATEVER THE INPUT: true; the input reads as it did. -/
def fnExactLeastGapSpec : ChangeSpec := { name := "fnExactLeastGap", fn := fun _ => fun
  | [d1, d2] => { results := [.lit (.bool true)], args := [d1, d2] }
  | _ => none }
def fnExactLeastGapRow : OpenClaim := { program := "ytfanpbfmnckmnaagreat", sum := "a033d9e74520f0ad660d650c8487d539f543dfed2bf6b8f46d2718961b40a723", func := "loop.example/g00908/laws.FnExactLeastGap", spec := "fnExactLeastGap", unfollowed := true, recurses := true, apart := false }
def FnExactLeastGapSaid : Prop := fnExactLeastGapRow.holds Tryz.pinned (OpenSpec.ofChange fnExactLeastGapSpec)

/-- ITS FALSE NEIGHBOUR: 'it returns false'. Refute it at one input. -/
def fnExactLeastGapWrong : ChangeSpec := { name := "fnExactLeastGap", fn := fun _ => fun
  | [d1, d2] => { results := [.lit (.bool false)], args := [d1, d2] }
  | _ => none }
def FnExactLeastGapWrongFalsely : Prop := fnExactLeastGapRow.holds Tryz.pinned (OpenSpec.ofChange fnExactLeastGapWrong)

/-- 'laws.FnExactQueryCode': WHATEVER THE INPUT: true; the input reads as it did. -/
def fnExactQueryCodeSpec : ChangeSpec := { name := "fnExactQueryCode", fn := fun _ => fun
  | [d1, d2] => { results := [.lit (.bool true)], args := [d1, d2] }
  | _ => none }
def fnExactQueryCodeRow : OpenClaim := { program := "ytfanpbfmnckmnaagreat", sum := "a033d9e74520f0ad660d650c8487d539f543dfed2bf6b8f46d2718961b40a723", func := "loop.example/g00908/laws.FnExactQueryCode", spec := "fnExactQueryCode", unfollowed := true, recurses := true, apart := false }
def FnExactQueryCodeSaid : Prop := fnExactQueryCodeRow.holds Tryz.pinned (OpenSpec.ofChange fnExactQueryCodeSpec)

/-- ITS FALSE NEIGHBOUR: 'it returns false'. Refute it at one input. -/
def fnExactQueryCodeWrong : ChangeSpec := { name := "fnExactQueryCode", fn := fun _ => fun
  | [d1, d2] => { results := [.lit (.bool false)], args := [d1, d2] }
  | _ => none }
def FnExactQueryCodeWrongFalsely : Prop := fnExactQueryCodeRow.holds Tryz.pinned (OpenSpec.ofChange fnExactQueryCodeWrong)

/-- 'laws.FnExactOpenTables': WHATEVER THE INPUT: true; the input reads as it did. -/
def fnExactOpenTablesSpec : ChangeSpec := { name := "fnExactOpenTables", fn := fun _ => fun
  | [d] => { results := [.lit (.bool true)], args := [d] }
  | _ => none }
def fnExactOpenTablesRow : OpenClaim := { program := "ytfanpbfmnckmnaagreat", sum := "a033d9e74520f0ad660d650c8487d539f543dfed2bf6b8f46d2718961b40a723", func := "loop.example/g00908/laws.FnExactOpenTables", spec := "fnExactOpenTables", unfollowed := true, recurses := true, apart := false }
def FnExactOpenTablesSaid : Prop := fnExactOpenTablesRow.holds Tryz.pinned (OpenSpec.ofChange fnExactOpenTablesSpec)

/-- ITS FALSE NEIGHBOUR: 'it returns false'. Refute it at one input. -/
def fnExactOpenTablesWrong : ChangeSpec := { name := "fnExactOpenTables", fn := fun _ => fun
  | [d] => { results := [.lit (.bool false)], args := [d] }
  | _ => none }
def FnExactOpenTablesWrongFalsely : Prop := fnExactOpenTablesRow.holds Tryz.pinned (OpenSpec.ofChange fnExactOpenTablesWrong)

/-- 'laws.FnRefusals': WHATEVER THE INPUT: true; the input reads as it did. -/
def fnRefusalsSpec : ChangeSpec := { name := "fnRefusals", fn := fun _ => fun
  | [d1, d2] => { results := [.lit (.bool true)], args := [d1, d2] }
  | _ => none }
def fnRefusalsRow : OpenClaim := { program := "ytfanpbfmnckmnaagreat", sum := "a033d9e74520f0ad660d650c8487d539f543dfed2bf6b8f46d2718961b40a723", func := "loop.example/g00908/laws.FnRefusals", spec := "fnRefusals", unfollowed := true, recurses := true, apart := false }
def FnRefusalsSaid : Prop := fnRefusalsRow.holds Tryz.pinned (OpenSpec.ofChange fnRefusalsSpec)

/-- ITS FALSE NEIGHBOUR: 'it returns false'. Refute it at one input. -/
def fnRefusalsWrong : ChangeSpec := { name := "fnRefusals", fn := fun _ => fun
  | [d1, d2] => { results := [.lit (.bool false)], args := [d1, d2] }
  | _ => none }
def FnRefusalsWrongFalsely : Prop := fnRefusalsRow.holds Tryz.pinned (OpenSpec.ofChange fnRefusalsWrong)

/-- 'laws.FnServers': WHATEVER THE INPUT: true; the input reads as it did. -/
def fnServersSpec : ChangeSpec := { name := "fnServers", fn := fun _ => fun
  | [d1, d2] => { results := [.lit (.bool true)], args := [d1, d2] }
  | _ => none }
def fnServersRow : OpenClaim := { program := "ytfanpbfmnckmnaagreat", sum := "a033d9e74520f0ad660d650c8487d539f543dfed2bf6b8f46d2718961b40a723", func := "loop.example/g00908/laws.FnServers", spec := "fnServers", unfollowed := true, recurses := true, apart := false }
def FnServersSaid : Prop := fnServersRow.holds Tryz.pinned (OpenSpec.ofChange fnServersSpec)

/-- ITS FALSE NEIGHBOUR: 'it returns false'. Refute it at one input. -/
def fnServersWrong : ChangeSpec := { name := "fnServers", fn := fun _ => fun
  | [d1, d2] => { results := [.lit (.bool false)], args := [d1, d2] }
  | _ => none }
def FnServersWrongFalsely : Prop := fnServersRow.holds Tryz.pinned (OpenSpec.ofChange fnServersWrong)

/- THE SECOND FORM. 'bulk': how many values and letters a reading holds, each counted each time it is reached (what is shared counts as often as it is met; a slice's spare places count too). A statement '..UptoSaid' is the law's where the arguments, and the package variables that the reading takes, are together of bulk at most 1048576: NARROWER than '..Said'. Prove '..Said' where nothing that the law and all that it calls make is longer than what came in: it says more and counts as full. Else prove '..UptoSaid'. A law counts once. -/
mutual
def uptoBulk {H : Type} : DataW H → Nat
  | .lit (.string bytes) => bytes.length + 1
  | .lit _ => 1
  | .nil => 1
  | .ptr d => uptoBulk d + 1
  | .slice elems spare => uptoBulkAll elems + uptoBulkAll spare + 1
  | .agg parts => uptoBulkAll parts + 1
  | .iface _ d => uptoBulk d + 1
  | .map entries => uptoBulkEntries entries + 1
  | .held _ => 1
def uptoBulkAll {H : Type} : List (DataW H) → Nat
  | [] => 0
  | d :: r => uptoBulk d + uptoBulkAll r
def uptoBulkEntries {H : Type} : List (Lit × DataW H) → Nat
  | [] => 0
  | x :: r => uptoBulkEntry x + uptoBulkEntries r
def uptoBulkEntry {H : Type} : Lit × DataW H → Nat
  | (.string bytes, d) => bytes.length + uptoBulk d + 1
  | (_, d) => uptoBulk d + 1
 end
def uptoSmall : (H : Type) → List (DataW H) → Bool := fun _ ds => decide (uptoBulkAll ds ≤ 1048576)
def OpenSpec.upto (s : _root_.Go.ChangeSpec) : _root_.Go.OpenSpec := { _root_.Go.OpenSpec.ofChange s with cond := some uptoSmall }

/-- 'laws.FnExactIsServer', WHERE WHAT IT READS IS OF BULK AT MOST 1048576: true; the input reads as it did. -/
def fnExactIsServerUptoRow : OpenClaim := { program := "ytfanpbfmnckmnaagreat", sum := "a033d9e74520f0ad660d650c8487d539f543dfed2bf6b8f46d2718961b40a723", func := "loop.example/g00908/laws.FnExactIsServer", spec := "fnExactIsServer", unfollowed := true, recurses := true, apart := false, narrowed := true }
def FnExactIsServerUptoSaid : Prop := fnExactIsServerUptoRow.holds Tryz.pinned (OpenSpec.upto fnExactIsServerSpec)

/-- 'laws.FnExactAnsweredLoss', WHERE WHAT IT READS IS OF BULK AT MOST 1048576: true; the input reads as it did. -/
def fnExactAnsweredLossUptoRow : OpenClaim := { program := "ytfanpbfmnckmnaagreat", sum := "a033d9e74520f0ad660d650c8487d539f543dfed2bf6b8f46d2718961b40a723", func := "loop.example/g00908/laws.FnExactAnsweredLoss", spec := "fnExactAnsweredLoss", unfollowed := true, recurses := true, apart := false, narrowed := true }
def FnExactAnsweredLossUptoSaid : Prop := fnExactAnsweredLossUptoRow.holds Tryz.pinned (OpenSpec.upto fnExactAnsweredLossSpec)

/-- 'laws.FnExactLeastGap', WHERE WHAT IT READS IS OF BULK AT MOST 1048576: true; the input reads as it did. -/
def fnExactLeastGapUptoRow : OpenClaim := { program := "ytfanpbfmnckmnaagreat", sum := "a033d9e74520f0ad660d650c8487d539f543dfed2bf6b8f46d2718961b40a723", func := "loop.example/g00908/laws.FnExactLeastGap", spec := "fnExactLeastGap", unfollowed := true, recurses := true, apart := false, narrowed := true }
def FnExactLeastGapUptoSaid : Prop := fnExactLeastGapUptoRow.holds Tryz.pinned (OpenSpec.upto fnExactLeastGapSpec)

/-- 'laws.FnExactQueryCode', WHERE WHAT IT READS IS OF BULK AT MOST 1048576: true; the input reads as it did. -/
def fnExactQueryCodeUptoRow : OpenClaim := { program := "ytfanpbfmnckmnaagreat", sum := "a033d9e74520f0ad660d650c8487d539f543dfed2bf6b8f46d2718961b40a723", func := "loop.example/g00908/laws.FnExactQueryCode", spec := "fnExactQueryCode", unfollowed := true, recurses := true, apart := false, narrowed := true }
def FnExactQueryCodeUptoSaid : Prop := fnExactQueryCodeUptoRow.holds Tryz.pinned (OpenSpec.upto fnExactQueryCodeSpec)

/-- 'laws.FnExactOpenTables', WHERE WHAT IT READS IS OF BULK AT MOST 1048576: true; the input reads as it did. -/
def fnExactOpenTablesUptoRow : OpenClaim := { program := "ytfanpbfmnckmnaagreat", sum := "a033d9e74520f0ad660d650c8487d539f543dfed2bf6b8f46d2718961b40a723", func := "loop.example/g00908/laws.FnExactOpenTables", spec := "fnExactOpenTables", unfollowed := true, recurses := true, apart := false, narrowed := true }
def FnExactOpenTablesUptoSaid : Prop := fnExactOpenTablesUptoRow.holds Tryz.pinned (OpenSpec.upto fnExactOpenTablesSpec)

/-- 'laws.FnRefusals', WHERE WHAT IT READS IS OF BULK AT MOST 1048576: true; the input reads as it did. -/
def fnRefusalsUptoRow : OpenClaim := { program := "ytfanpbfmnckmnaagreat", sum := "a033d9e74520f0ad660d650c8487d539f543dfed2bf6b8f46d2718961b40a723", func := "loop.example/g00908/laws.FnRefusals", spec := "fnRefusals", unfollowed := true, recurses := true, apart := false, narrowed := true }
def FnRefusalsUptoSaid : Prop := fnRefusalsUptoRow.holds Tryz.pinned (OpenSpec.upto fnRefusalsSpec)

/-- 'laws.FnServers', WHERE WHAT IT READS IS OF BULK AT MOST 1048576: true; the input reads as it did. -/
def fnServersUptoRow : OpenClaim := { program := "ytfanpbfmnckmnaagreat", sum := "a033d9e74520f0ad660d650c8487d539f543dfed2bf6b8f46d2718961b40a723", func := "loop.example/g00908/laws.FnServers", spec := "fnServers", unfollowed := true, recurses := true, apart := false, narrowed := true }
def FnServersUptoSaid : Prop := fnServersUptoRow.holds Tryz.pinned (OpenSpec.upto fnServersSpec)

end Rows
end Go.Proofs.YtfanpbfmnckmnaaGreat
