/-
  No cell of these rows narrows 'for every input' (looked for: loops, veiled, ifaces, maps, wideKeys, modest, calm, conditions, laid).
  DERIVED. THE GIVEN ROWS OF THIS SEAT. 7 by the template 'for every input the law returns true; each argument reads behind the call as it read before'; 0 by the template 'total and deterministic' (their statements: YtgnjkegnddekeaaTotals.lean).
  GIVEN WITH THE SEED: the statements are not yours to turn. If you find one false, say at which input.
  Laid BY PROGRAM, IN A SANDBOX (cutbox-rows.mjs): the forced cells as the released guide's own fill.sh prints them over the translation 30b156f0fc2f9f21… (all of the seat's roots in one cut). By AI agents, Wed Nov 11 2026. No macro, syntax, notation, axiom, sorry.
-/
import Derived.Test.YtgnjkegnddekeaaChecked
import GoSem.Claim
import GoSem.ClaimJoined
import GoSem.ClaimMapViews
import Derived.JoinedTies
import Derived.KernelRfl
namespace Go.Proofs.Ytgnjkegnddekeaa
/- THE CELL 'sum', in the pinned program and in every row, IS THE sha256 OF THE DUMP (.gsa) THAT YtgnjkegnddekeaaProg.lean LOADS. Nothing in Lean hashes anything: it is a label: what it is worth is what the hold of that sum in a sandbox is worth. -/
noncomputable def Try.pinned : Pinned := { name := "ytgnjkegnddekeaa", sum := "30b156f0fc2f9f2107c4bfcae1c2d7addf1e1230a6317503dcb468b20c971477", checked := Try.checked }
namespace Rows
def none {H : Type} : Left H := { results := [], args := [] }

/-- 'warpbeamlaw17.BlockSteps': WHATEVER THE INPUT: true; the input reads as it did. -/
def blockStepsSpec : ChangeSpec := { name := "blockSteps", fn := fun _ => fun
  | [d1, d2, d3] => { results := [.lit (.bool true)], args := [d1, d2, d3] }
  | _ => none }
def blockStepsRow : OpenClaim := { program := "ytgnjkegnddekeaa", sum := "30b156f0fc2f9f2107c4bfcae1c2d7addf1e1230a6317503dcb468b20c971477", func := "warpbeam/warpbeamlaw17.BlockSteps", spec := "blockSteps", unfollowed := true, recurses := true, apart := false }
def BlockStepsSaid : Prop := blockStepsRow.holds Try.pinned (OpenSpec.ofChange blockStepsSpec)

/-- ITS FALSE NEIGHBOUR: 'it returns false'. Refute it at one input. -/
def blockStepsWrong : ChangeSpec := { name := "blockSteps", fn := fun _ => fun
  | [d1, d2, d3] => { results := [.lit (.bool false)], args := [d1, d2, d3] }
  | _ => none }
def BlockStepsWrongFalsely : Prop := blockStepsRow.holds Try.pinned (OpenSpec.ofChange blockStepsWrong)

/-- 'warpbeamlaw17.BlockRuns': WHATEVER THE INPUT: true; the input reads as it did. -/
def blockRunsSpec : ChangeSpec := { name := "blockRuns", fn := fun _ => fun
  | [d1, d2] => { results := [.lit (.bool true)], args := [d1, d2] }
  | _ => none }
def blockRunsRow : OpenClaim := { program := "ytgnjkegnddekeaa", sum := "30b156f0fc2f9f2107c4bfcae1c2d7addf1e1230a6317503dcb468b20c971477", func := "warpbeam/warpbeamlaw17.BlockRuns", spec := "blockRuns", unfollowed := true, recurses := true, apart := false }
def BlockRunsSaid : Prop := blockRunsRow.holds Try.pinned (OpenSpec.ofChange blockRunsSpec)

/-- ITS FALSE NEIGHBOUR: 'it returns false'. Refute it at one input. -/
def blockRunsWrong : ChangeSpec := { name := "blockRuns", fn := fun _ => fun
  | [d1, d2] => { results := [.lit (.bool false)], args := [d1, d2] }
  | _ => none }
def BlockRunsWrongFalsely : Prop := blockRunsRow.holds Try.pinned (OpenSpec.ofChange blockRunsWrong)

/-- 'warpbeamlaw17.BlockFuel': WHATEVER THE INPUT: true; the input reads as it did. -/
def blockFuelSpec : ChangeSpec := { name := "blockFuel", fn := fun _ => fun
  | [d1, d2, d3] => { results := [.lit (.bool true)], args := [d1, d2, d3] }
  | _ => none }
def blockFuelRow : OpenClaim := { program := "ytgnjkegnddekeaa", sum := "30b156f0fc2f9f2107c4bfcae1c2d7addf1e1230a6317503dcb468b20c971477", func := "warpbeam/warpbeamlaw17.BlockFuel", spec := "blockFuel", unfollowed := true, recurses := true, apart := false }
def BlockFuelSaid : Prop := blockFuelRow.holds Try.pinned (OpenSpec.ofChange blockFuelSpec)

/-- ITS FALSE NEIGHBOUR: 'it returns false'. Refute it at one input. -/
def blockFuelWrong : ChangeSpec := { name := "blockFuel", fn := fun _ => fun
  | [d1, d2, d3] => { results := [.lit (.bool false)], args := [d1, d2, d3] }
  | _ => none }
def BlockFuelWrongFalsely : Prop := blockFuelRow.holds Try.pinned (OpenSpec.ofChange blockFuelWrong)

/-- 'warpbeamlaw17.BlockLoops': WHATEVER THE INPUT: true; the input reads as it did. -/
def blockLoopsSpec : ChangeSpec := { name := "blockLoops", fn := fun _ => fun
  | [d1, d2] => { results := [.lit (.bool true)], args := [d1, d2] }
  | _ => none }
def blockLoopsRow : OpenClaim := { program := "ytgnjkegnddekeaa", sum := "30b156f0fc2f9f2107c4bfcae1c2d7addf1e1230a6317503dcb468b20c971477", func := "warpbeam/warpbeamlaw17.BlockLoops", spec := "blockLoops", unfollowed := true, recurses := true, apart := false }
def BlockLoopsSaid : Prop := blockLoopsRow.holds Try.pinned (OpenSpec.ofChange blockLoopsSpec)

/-- ITS FALSE NEIGHBOUR: 'it returns false'. Refute it at one input. -/
def blockLoopsWrong : ChangeSpec := { name := "blockLoops", fn := fun _ => fun
  | [d1, d2] => { results := [.lit (.bool false)], args := [d1, d2] }
  | _ => none }
def BlockLoopsWrongFalsely : Prop := blockLoopsRow.holds Try.pinned (OpenSpec.ofChange blockLoopsWrong)

/-- 'warpbeamlaw17.BlockReads': WHATEVER THE INPUT: true; the input reads as it did. -/
def blockReadsSpec : ChangeSpec := { name := "blockReads", fn := fun _ => fun
  | [d1, d2, d3] => { results := [.lit (.bool true)], args := [d1, d2, d3] }
  | _ => none }
def blockReadsRow : OpenClaim := { program := "ytgnjkegnddekeaa", sum := "30b156f0fc2f9f2107c4bfcae1c2d7addf1e1230a6317503dcb468b20c971477", func := "warpbeam/warpbeamlaw17.BlockReads", spec := "blockReads", unfollowed := true, recurses := true, apart := false }
def BlockReadsSaid : Prop := blockReadsRow.holds Try.pinned (OpenSpec.ofChange blockReadsSpec)

/-- ITS FALSE NEIGHBOUR: 'it returns false'. Refute it at one input. -/
def blockReadsWrong : ChangeSpec := { name := "blockReads", fn := fun _ => fun
  | [d1, d2, d3] => { results := [.lit (.bool false)], args := [d1, d2, d3] }
  | _ => none }
def BlockReadsWrongFalsely : Prop := blockReadsRow.holds Try.pinned (OpenSpec.ofChange blockReadsWrong)

/-- 'warpbeamlaw17.BlockElse': WHATEVER THE INPUT: true; the input reads as it did. -/
def blockElseSpec : ChangeSpec := { name := "blockElse", fn := fun _ => fun
  | [d1, d2, d3] => { results := [.lit (.bool true)], args := [d1, d2, d3] }
  | _ => none }
def blockElseRow : OpenClaim := { program := "ytgnjkegnddekeaa", sum := "30b156f0fc2f9f2107c4bfcae1c2d7addf1e1230a6317503dcb468b20c971477", func := "warpbeam/warpbeamlaw17.BlockElse", spec := "blockElse", unfollowed := true, recurses := true, apart := false }
def BlockElseSaid : Prop := blockElseRow.holds Try.pinned (OpenSpec.ofChange blockElseSpec)

/-- ITS FALSE NEIGHBOUR: 'it returns false'. Refute it at one input. -/
def blockElseWrong : ChangeSpec := { name := "blockElse", fn := fun _ => fun
  | [d1, d2, d3] => { results := [.lit (.bool false)], args := [d1, d2, d3] }
  | _ => none }
def BlockElseWrongFalsely : Prop := blockElseRow.holds Try.pinned (OpenSpec.ofChange blockElseWrong)

/-- 'warpbeamlaw17.BlockSums': WHATEVER THE INPUT: true; the input reads as it did. -/
def blockSumsSpec : ChangeSpec := { name := "blockSums", fn := fun _ => fun
  | [d1, d2] => { results := [.lit (.bool true)], args := [d1, d2] }
  | _ => none }
def blockSumsRow : OpenClaim := { program := "ytgnjkegnddekeaa", sum := "30b156f0fc2f9f2107c4bfcae1c2d7addf1e1230a6317503dcb468b20c971477", func := "warpbeam/warpbeamlaw17.BlockSums", spec := "blockSums", unfollowed := true, recurses := true, apart := false }
def BlockSumsSaid : Prop := blockSumsRow.holds Try.pinned (OpenSpec.ofChange blockSumsSpec)

/-- ITS FALSE NEIGHBOUR: 'it returns false'. Refute it at one input. -/
def blockSumsWrong : ChangeSpec := { name := "blockSums", fn := fun _ => fun
  | [d1, d2] => { results := [.lit (.bool false)], args := [d1, d2] }
  | _ => none }
def BlockSumsWrongFalsely : Prop := blockSumsRow.holds Try.pinned (OpenSpec.ofChange blockSumsWrong)

/- THE SECOND FORM. 'bulk': how many values and letters a reading holds, each counted each time it is reached (what is shared counts as often as it is met; a slice's spare places count too). A statement '..UptoSaid' is the law's where the arguments, and the package variables that the reading takes, are together of bulk at most 1048576: NARROWER than '..Said'. Prove '..Said' where nothing that the law and all that it calls make is longer than what came in: it says more and counts as full. Else prove '..UptoSaid'. A law counts once. -/
mutual
def uptoBulk {H : Type} : DataW H → Nat
  | .lit (.string bytes) => bytes.length + 1
  | .lit _ => 1
  | .nil => 1
  | .ptr d => uptoBulk d + 1
  | .slice elems spare => uptoBulkAll elems + uptoBulkAll spare + 1
  | .agg parts => uptoBulkAll parts + 1
  | .iface _ d => uptoBulk d + 1
  | .map entries => uptoBulkEntries entries + 1
  | .held _ => 1
def uptoBulkAll {H : Type} : List (DataW H) → Nat
  | [] => 0
  | d :: r => uptoBulk d + uptoBulkAll r
def uptoBulkEntries {H : Type} : List (Lit × DataW H) → Nat
  | [] => 0
  | x :: r => uptoBulkEntry x + uptoBulkEntries r
def uptoBulkEntry {H : Type} : Lit × DataW H → Nat
  | (.string bytes, d) => bytes.length + uptoBulk d + 1
  | (_, d) => uptoBulk d + 1
 end
def uptoSmall : (H : Type) → List (DataW H) → Bool := fun _ ds => decide (uptoBulkAll ds ≤ 1048576)
def OpenSpec.upto (s : _root_.Go.ChangeSpec) : _root_.Go.OpenSpec := { _root_.Go.OpenSpec.ofChange s with cond := some uptoSmall }

/-- 'warpbeamlaw17.BlockSteps', WHERE WHAT IT READS IS OF BULK AT MOST 1048576: true; the input reads as it did. -/
def blockStepsUptoRow : OpenClaim := { program := "ytgnjkegnddekeaa", sum := "30b156f0fc2f9f2107c4bfcae1c2d7addf1e1230a6317503dcb468b20c971477", func := "warpbeam/warpbeamlaw17.BlockSteps", spec := "blockSteps", unfollowed := true, recurses := true, apart := false, narrowed := true }
def BlockStepsUptoSaid : Prop := blockStepsUptoRow.holds Try.pinned (OpenSpec.upto blockStepsSpec)

/-- 'warpbeamlaw17.BlockRuns', WHERE WHAT IT READS IS OF BULK AT MOST 1048576: true; the input reads as it did. -/
def blockRunsUptoRow : OpenClaim := { program := "ytgnjkegnddekeaa", sum := "30b156f0fc2f9f2107c4bfcae1c2d7addf1e1230a6317503dcb468b20c971477", func := "warpbeam/warpbeamlaw17.BlockRuns", spec := "blockRuns", unfollowed := true, recurses := true, apart := false, narrowed := true }
def BlockRunsUptoSaid : Prop := blockRunsUptoRow.holds Try.pinned (OpenSpec.upto blockRunsSpec)

/-- 'warpbeamlaw17.BlockFuel', WHERE WHAT IT READS IS OF BULK AT MOST 1048576: true; the input reads as it did. -/
def blockFuelUptoRow : OpenClaim := { program := "ytgnjkegnddekeaa", sum := "30b156f0fc2f9f2107c4bfcae1c2d7addf1e1230a6317503dcb468b20c971477", func := "warpbeam/warpbeamlaw17.BlockFuel", spec := "blockFuel", unfollowed := true, recurses := true, apart := false, narrowed := true }
def BlockFuelUptoSaid : Prop := blockFuelUptoRow.holds Try.pinned (OpenSpec.upto blockFuelSpec)

/-- 'warpbeamlaw17.BlockLoops', WHERE WHAT IT READS IS OF BULK AT MOST 1048576: true; the input reads as it did. -/
def blockLoopsUptoRow : OpenClaim := { program := "ytgnjkegnddekeaa", sum := "30b156f0fc2f9f2107c4bfcae1c2d7addf1e1230a6317503dcb468b20c971477", func := "warpbeam/warpbeamlaw17.BlockLoops", spec := "blockLoops", unfollowed := true, recurses := true, apart := false, narrowed := true }
def BlockLoopsUptoSaid : Prop := blockLoopsUptoRow.holds Try.pinned (OpenSpec.upto blockLoopsSpec)

/-- 'warpbeamlaw17.BlockReads', WHERE WHAT IT READS IS OF BULK AT MOST 1048576: true; the input reads as it did. -/
def blockReadsUptoRow : OpenClaim := { program := "ytgnjkegnddekeaa", sum := "30b156f0fc2f9f2107c4bfcae1c2d7addf1e1230a6317503dcb468b20c971477", func := "warpbeam/warpbeamlaw17.BlockReads", spec := "blockReads", unfollowed := true, recurses := true, apart := false, narrowed := true }
def BlockReadsUptoSaid : Prop := blockReadsUptoRow.holds Try.pinned (OpenSpec.upto blockReadsSpec)

/-- 'warpbeamlaw17.BlockElse', WHERE WHAT IT READS IS OF BULK AT MOST 1048576: true; the input reads as it did. -/
def blockElseUptoRow : OpenClaim := { program := "ytgnjkegnddekeaa", sum := "30b156f0fc2f9f2107c4bfcae1c2d7addf1e1230a6317503dcb468b20c971477", func := "warpbeam/warpbeamlaw17.BlockElse", spec := "blockElse", unfollowed := true, recurses := true, apart := false, narrowed := true }
def BlockElseUptoSaid : Prop := blockElseUptoRow.holds Try.pinned (OpenSpec.upto blockElseSpec)

/-- 'warpbeamlaw17.BlockSums', WHERE WHAT IT READS IS OF BULK AT MOST 1048576: true; the input reads as it did. -/
def blockSumsUptoRow : OpenClaim := { program := "ytgnjkegnddekeaa", sum := "30b156f0fc2f9f2107c4bfcae1c2d7addf1e1230a6317503dcb468b20c971477", func := "warpbeam/warpbeamlaw17.BlockSums", spec := "blockSums", unfollowed := true, recurses := true, apart := false, narrowed := true }
def BlockSumsUptoSaid : Prop := blockSumsUptoRow.holds Try.pinned (OpenSpec.upto blockSumsSpec)

end Rows
end Go.Proofs.Ytgnjkegnddekeaa
