/-
  No cell of these rows narrows 'for every input' (looked for: loops, veiled, ifaces, maps, wideKeys, modest, calm, conditions, laid).
  DERIVED. THE GIVEN ROWS OF THIS SEAT. 6 by the template 'for every input the law returns true; each argument reads behind the call as it read before'; 0 by the template 'total and deterministic' (their statements: YtkijjgdcbgmglaaTotals.lean).
  GIVEN WITH THE SEED: the statements are not yours to turn. If you find one false, say at which input.
  Laid BY PROGRAM, IN A SANDBOX (cutbox-rows.mjs): the forced cells as the released guide's own fill.sh prints them over the translation 9cb34c1d597081a3… (all of the seat's roots in one cut). By AI agents, Wed Nov 11 2026. No macro, syntax, notation, axiom, sorry.
-/
import Derived.Test.YtkijjgdcbgmglaaChecked
import GoSem.Claim
import GoSem.ClaimJoined
import GoSem.ClaimMapViews
import Derived.JoinedTies
import Derived.KernelRfl
namespace Go.Proofs.Ytkijjgdcbgmglaa
/- THE CELL 'sum', in the pinned program and in every row, IS THE sha256 OF THE DUMP (.gsa) THAT YtkijjgdcbgmglaaProg.lean LOADS. Nothing in Lean hashes anything: it is a label: what it is worth is what the hold of that sum in a sandbox is worth. -/
noncomputable def Try.pinned : Pinned := { name := "ytkijjgdcbgmglaa", sum := "9cb34c1d597081a3a992e66377d5ba0963efe720e63433dcefb7eeb620c3d32f", checked := Try.checked }
namespace Rows
def none {H : Type} : Left H := { results := [], args := [] }

/-- 'warpbeamlaw11.HistoryGraph': WHATEVER THE INPUT: true; the input reads as it did. -/
def historyGraphSpec : ChangeSpec := { name := "historyGraph", fn := fun _ => fun
  | [d] => { results := [.lit (.bool true)], args := [d] }
  | _ => none }
def historyGraphRow : OpenClaim := { program := "ytkijjgdcbgmglaa", sum := "9cb34c1d597081a3a992e66377d5ba0963efe720e63433dcefb7eeb620c3d32f", func := "warpbeam/warpbeamlaw11.HistoryGraph", spec := "historyGraph", inPlace := ["math.archTrunc", "math.Float64bits", "math.Float64frombits"], unfollowed := true, recurses := true, apart := false }
def HistoryGraphSaid : Prop := historyGraphRow.holds Try.pinned (OpenSpec.ofChange historyGraphSpec)

/-- ITS FALSE NEIGHBOUR: 'it returns false'. Refute it at one input. -/
def historyGraphWrong : ChangeSpec := { name := "historyGraph", fn := fun _ => fun
  | [d] => { results := [.lit (.bool false)], args := [d] }
  | _ => none }
def HistoryGraphWrongFalsely : Prop := historyGraphRow.holds Try.pinned (OpenSpec.ofChange historyGraphWrong)

/-- 'warpbeamlaw11.HistoryCounts': WHATEVER THE INPUT: true; the input reads as it did. -/
def historyCountsSpec : ChangeSpec := { name := "historyCounts", fn := fun _ => fun
  | [d] => { results := [.lit (.bool true)], args := [d] }
  | _ => none }
def historyCountsRow : OpenClaim := { program := "ytkijjgdcbgmglaa", sum := "9cb34c1d597081a3a992e66377d5ba0963efe720e63433dcefb7eeb620c3d32f", func := "warpbeam/warpbeamlaw11.HistoryCounts", spec := "historyCounts", inPlace := ["math.archTrunc", "math.Float64bits", "math.Float64frombits"], unfollowed := true, recurses := true, apart := false }
def HistoryCountsSaid : Prop := historyCountsRow.holds Try.pinned (OpenSpec.ofChange historyCountsSpec)

/-- ITS FALSE NEIGHBOUR: 'it returns false'. Refute it at one input. -/
def historyCountsWrong : ChangeSpec := { name := "historyCounts", fn := fun _ => fun
  | [d] => { results := [.lit (.bool false)], args := [d] }
  | _ => none }
def HistoryCountsWrongFalsely : Prop := historyCountsRow.holds Try.pinned (OpenSpec.ofChange historyCountsWrong)

/-- 'warpbeamlaw11.HistoryGrows': WHATEVER THE INPUT: true; the input reads as it did. -/
def historyGrowsSpec : ChangeSpec := { name := "historyGrows", fn := fun _ => fun
  | [d] => { results := [.lit (.bool true)], args := [d] }
  | _ => none }
def historyGrowsRow : OpenClaim := { program := "ytkijjgdcbgmglaa", sum := "9cb34c1d597081a3a992e66377d5ba0963efe720e63433dcefb7eeb620c3d32f", func := "warpbeam/warpbeamlaw11.HistoryGrows", spec := "historyGrows", inPlace := ["math.archTrunc", "math.Float64bits", "math.Float64frombits"], unfollowed := true, recurses := true, apart := false }
def HistoryGrowsSaid : Prop := historyGrowsRow.holds Try.pinned (OpenSpec.ofChange historyGrowsSpec)

/-- ITS FALSE NEIGHBOUR: 'it returns false'. Refute it at one input. -/
def historyGrowsWrong : ChangeSpec := { name := "historyGrows", fn := fun _ => fun
  | [d] => { results := [.lit (.bool false)], args := [d] }
  | _ => none }
def HistoryGrowsWrongFalsely : Prop := historyGrowsRow.holds Try.pinned (OpenSpec.ofChange historyGrowsWrong)

/-- 'warpbeamlaw11.HistoryTime': WHATEVER THE INPUT: true; the input reads as it did. -/
def historyTimeSpec : ChangeSpec := { name := "historyTime", fn := fun _ => fun
  | [d] => { results := [.lit (.bool true)], args := [d] }
  | _ => none }
def historyTimeRow : OpenClaim := { program := "ytkijjgdcbgmglaa", sum := "9cb34c1d597081a3a992e66377d5ba0963efe720e63433dcefb7eeb620c3d32f", func := "warpbeam/warpbeamlaw11.HistoryTime", spec := "historyTime", inPlace := ["math.archTrunc", "math.Float64bits", "math.Float64frombits"], unfollowed := true, recurses := true, apart := false }
def HistoryTimeSaid : Prop := historyTimeRow.holds Try.pinned (OpenSpec.ofChange historyTimeSpec)

/-- ITS FALSE NEIGHBOUR: 'it returns false'. Refute it at one input. -/
def historyTimeWrong : ChangeSpec := { name := "historyTime", fn := fun _ => fun
  | [d] => { results := [.lit (.bool false)], args := [d] }
  | _ => none }
def HistoryTimeWrongFalsely : Prop := historyTimeRow.holds Try.pinned (OpenSpec.ofChange historyTimeWrong)

/-- 'warpbeamlaw11.HistoryTells': WHATEVER THE INPUT: true; the input reads as it did. -/
def historyTellsSpec : ChangeSpec := { name := "historyTells", fn := fun _ => fun
  | [d] => { results := [.lit (.bool true)], args := [d] }
  | _ => none }
def historyTellsRow : OpenClaim := { program := "ytkijjgdcbgmglaa", sum := "9cb34c1d597081a3a992e66377d5ba0963efe720e63433dcefb7eeb620c3d32f", func := "warpbeam/warpbeamlaw11.HistoryTells", spec := "historyTells", inPlace := ["math.archTrunc", "math.Float64bits", "math.Float64frombits"], unfollowed := true, recurses := true, apart := false }
def HistoryTellsSaid : Prop := historyTellsRow.holds Try.pinned (OpenSpec.ofChange historyTellsSpec)

/-- ITS FALSE NEIGHBOUR: 'it returns false'. Refute it at one input. -/
def historyTellsWrong : ChangeSpec := { name := "historyTells", fn := fun _ => fun
  | [d] => { results := [.lit (.bool false)], args := [d] }
  | _ => none }
def HistoryTellsWrongFalsely : Prop := historyTellsRow.holds Try.pinned (OpenSpec.ofChange historyTellsWrong)

/-- 'warpbeamlaw11.HistoryParts': WHATEVER THE INPUT: true; the input reads as it did. -/
def historyPartsSpec : ChangeSpec := { name := "historyParts", fn := fun _ => fun
  | [d1, d2] => { results := [.lit (.bool true)], args := [d1, d2] }
  | _ => none }
def historyPartsRow : OpenClaim := { program := "ytkijjgdcbgmglaa", sum := "9cb34c1d597081a3a992e66377d5ba0963efe720e63433dcefb7eeb620c3d32f", func := "warpbeam/warpbeamlaw11.HistoryParts", spec := "historyParts", inPlace := ["math.archTrunc", "math.Float64bits", "math.Float64frombits"], unfollowed := true, recurses := true, apart := false }
def HistoryPartsSaid : Prop := historyPartsRow.holds Try.pinned (OpenSpec.ofChange historyPartsSpec)

/-- ITS FALSE NEIGHBOUR: 'it returns false'. Refute it at one input. -/
def historyPartsWrong : ChangeSpec := { name := "historyParts", fn := fun _ => fun
  | [d1, d2] => { results := [.lit (.bool false)], args := [d1, d2] }
  | _ => none }
def HistoryPartsWrongFalsely : Prop := historyPartsRow.holds Try.pinned (OpenSpec.ofChange historyPartsWrong)

/- THE SECOND FORM. 'bulk': how many values and letters a reading holds, each counted each time it is reached (what is shared counts as often as it is met; a slice's spare places count too). A statement '..UptoSaid' is the law's where the arguments, and the package variables that the reading takes, are together of bulk at most 1048576: NARROWER than '..Said'. Prove '..Said' where nothing that the law and all that it calls make is longer than what came in: it says more and counts as full. Else prove '..UptoSaid'. A law counts once. -/
mutual
def uptoBulk {H : Type} : DataW H → Nat
  | .lit (.string bytes) => bytes.length + 1
  | .lit _ => 1
  | .nil => 1
  | .ptr d => uptoBulk d + 1
  | .slice elems spare => uptoBulkAll elems + uptoBulkAll spare + 1
  | .agg parts => uptoBulkAll parts + 1
  | .iface _ d => uptoBulk d + 1
  | .map entries => uptoBulkEntries entries + 1
  | .held _ => 1
def uptoBulkAll {H : Type} : List (DataW H) → Nat
  | [] => 0
  | d :: r => uptoBulk d + uptoBulkAll r
def uptoBulkEntries {H : Type} : List (Lit × DataW H) → Nat
  | [] => 0
  | x :: r => uptoBulkEntry x + uptoBulkEntries r
def uptoBulkEntry {H : Type} : Lit × DataW H → Nat
  | (.string bytes, d) => bytes.length + uptoBulk d + 1
  | (_, d) => uptoBulk d + 1
 end
def uptoSmall : (H : Type) → List (DataW H) → Bool := fun _ ds => decide (uptoBulkAll ds ≤ 1048576)
def OpenSpec.upto (s : _root_.Go.ChangeSpec) : _root_.Go.OpenSpec := { _root_.Go.OpenSpec.ofChange s with cond := some uptoSmall }

/-- 'warpbeamlaw11.HistoryGraph', WHERE WHAT IT READS IS OF BULK AT MOST 1048576: true; the input reads as it did. -/
def historyGraphUptoRow : OpenClaim := { program := "ytkijjgdcbgmglaa", sum := "9cb34c1d597081a3a992e66377d5ba0963efe720e63433dcefb7eeb620c3d32f", func := "warpbeam/warpbeamlaw11.HistoryGraph", spec := "historyGraph", inPlace := ["math.archTrunc", "math.Float64bits", "math.Float64frombits"], unfollowed := true, recurses := true, apart := false, narrowed := true }
def HistoryGraphUptoSaid : Prop := historyGraphUptoRow.holds Try.pinned (OpenSpec.upto historyGraphSpec)

/-- 'warpbeamlaw11.HistoryCounts', WHERE WHAT IT READS IS OF BULK AT MOST 1048576: true; the input reads as it did. -/
def historyCountsUptoRow : OpenClaim := { program := "ytkijjgdcbgmglaa", sum := "9cb34c1d597081a3a992e66377d5ba0963efe720e63433dcefb7eeb620c3d32f", func := "warpbeam/warpbeamlaw11.HistoryCounts", spec := "historyCounts", inPlace := ["math.archTrunc", "math.Float64bits", "math.Float64frombits"], unfollowed := true, recurses := true, apart := false, narrowed := true }
def HistoryCountsUptoSaid : Prop := historyCountsUptoRow.holds Try.pinned (OpenSpec.upto historyCountsSpec)

/-- 'warpbeamlaw11.HistoryGrows', WHERE WHAT IT READS IS OF BULK AT MOST 1048576: true; the input reads as it did. -/
def historyGrowsUptoRow : OpenClaim := { program := "ytkijjgdcbgmglaa", sum := "9cb34c1d597081a3a992e66377d5ba0963efe720e63433dcefb7eeb620c3d32f", func := "warpbeam/warpbeamlaw11.HistoryGrows", spec := "historyGrows", inPlace := ["math.archTrunc", "math.Float64bits", "math.Float64frombits"], unfollowed := true, recurses := true, apart := false, narrowed := true }
def HistoryGrowsUptoSaid : Prop := historyGrowsUptoRow.holds Try.pinned (OpenSpec.upto historyGrowsSpec)

/-- 'warpbeamlaw11.HistoryTime', WHERE WHAT IT READS IS OF BULK AT MOST 1048576: true; the input reads as it did. -/
def historyTimeUptoRow : OpenClaim := { program := "ytkijjgdcbgmglaa", sum := "9cb34c1d597081a3a992e66377d5ba0963efe720e63433dcefb7eeb620c3d32f", func := "warpbeam/warpbeamlaw11.HistoryTime", spec := "historyTime", inPlace := ["math.archTrunc", "math.Float64bits", "math.Float64frombits"], unfollowed := true, recurses := true, apart := false, narrowed := true }
def HistoryTimeUptoSaid : Prop := historyTimeUptoRow.holds Try.pinned (OpenSpec.upto historyTimeSpec)

/-- 'warpbeamlaw11.HistoryTells', WHERE WHAT IT READS IS OF BULK AT MOST 1048576: true; the input reads as it did. -/
def historyTellsUptoRow : OpenClaim := { program := "ytkijjgdcbgmglaa", sum := "9cb34c1d597081a3a992e66377d5ba0963efe720e63433dcefb7eeb620c3d32f", func := "warpbeam/warpbeamlaw11.HistoryTells", spec := "historyTells", inPlace := ["math.archTrunc", "math.Float64bits", "math.Float64frombits"], unfollowed := true, recurses := true, apart := false, narrowed := true }
def HistoryTellsUptoSaid : Prop := historyTellsUptoRow.holds Try.pinned (OpenSpec.upto historyTellsSpec)

/-- 'warpbeamlaw11.HistoryParts', WHERE WHAT IT READS IS OF BULK AT MOST 1048576: true; the input reads as it did. -/
def historyPartsUptoRow : OpenClaim := { program := "ytkijjgdcbgmglaa", sum := "9cb34c1d597081a3a992e66377d5ba0963efe720e63433dcefb7eeb620c3d32f", func := "warpbeam/warpbeamlaw11.HistoryParts", spec := "historyParts", inPlace := ["math.archTrunc", "math.Float64bits", "math.Float64frombits"], unfollowed := true, recurses := true, apart := false, narrowed := true }
def HistoryPartsUptoSaid : Prop := historyPartsUptoRow.holds Try.pinned (OpenSpec.upto historyPartsSpec)

end Rows
end Go.Proofs.Ytkijjgdcbgmglaa
