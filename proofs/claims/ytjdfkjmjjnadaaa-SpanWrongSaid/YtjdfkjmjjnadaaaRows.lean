/-
  No cell of these rows narrows 'for every input' (looked for: loops, veiled, ifaces, maps, wideKeys, modest, calm, conditions, laid).
  DERIVED. THE GIVEN ROWS OF THIS SEAT. 6 by the template 'for every input the law returns true; each argument reads behind the call as it read before'; 0 by the template 'total and deterministic' (their statements: YtjdfkjmjjnadaaaTotals.lean).
  GIVEN WITH THE SEED: the statements are not yours to turn. If you find one false, say at which input.
  Laid BY PROGRAM, IN A SANDBOX (cutbox-rows.mjs): the forced cells as the released guide's own fill.sh prints them over the translation a43b39d64a3ed11d… (all of the seat's roots in one cut). By AI agents, Wed Nov 11 2026. No macro, syntax, notation, axiom, sorry.
-/
import Derived.Test.YtjdfkjmjjnadaaaChecked
import GoSem.Claim
import GoSem.ClaimJoined
import GoSem.ClaimMapViews
import Derived.JoinedTies
import Derived.KernelRfl
namespace Go.Proofs.Ytjdfkjmjjnadaaa
/- THE CELL 'sum', in the pinned program and in every row, IS THE sha256 OF THE DUMP (.gsa) THAT YtjdfkjmjjnadaaaProg.lean LOADS. Nothing in Lean hashes anything: it is a label: what it is worth is what the hold of that sum in a sandbox is worth. -/
noncomputable def Try.pinned : Pinned := { name := "ytjdfkjmjjnadaaa", sum := "a43b39d64a3ed11d89a4bed95d7016d01cdc17cbf4f03694cba961393075e468", checked := Try.checked }
namespace Rows
def none {H : Type} : Left H := { results := [], args := [] }

/-- 'warpbeamlaw02.SpanTells': WHATEVER THE INPUT: true; the input reads as it did. -/
def spanTellsSpec : ChangeSpec := { name := "spanTells", fn := fun _ => fun
  | [d1, d2, d3] => { results := [.lit (.bool true)], args := [d1, d2, d3] }
  | _ => none }
def spanTellsRow : OpenClaim := { program := "ytjdfkjmjjnadaaa", sum := "a43b39d64a3ed11d89a4bed95d7016d01cdc17cbf4f03694cba961393075e468", func := "warpbeam/warpbeamlaw02.SpanTells", spec := "spanTells", inPlace := ["math.archTrunc", "math.Float64bits", "math.Float64frombits"], apart := false }
def SpanTellsSaid : Prop := spanTellsRow.holds Try.pinned (OpenSpec.ofChange spanTellsSpec)

/-- ITS FALSE NEIGHBOUR: 'it returns false'. Refute it at one input. -/
def spanTellsWrong : ChangeSpec := { name := "spanTells", fn := fun _ => fun
  | [d1, d2, d3] => { results := [.lit (.bool false)], args := [d1, d2, d3] }
  | _ => none }
def SpanTellsWrongFalsely : Prop := spanTellsRow.holds Try.pinned (OpenSpec.ofChange spanTellsWrong)

/-- 'warpbeamlaw02.SpanWrong': WHATEVER THE INPUT: true; the input reads as it did. -/
def spanWrongSpec : ChangeSpec := { name := "spanWrong", fn := fun _ => fun
  | [d1, d2] => { results := [.lit (.bool true)], args := [d1, d2] }
  | _ => none }
def spanWrongRow : OpenClaim := { program := "ytjdfkjmjjnadaaa", sum := "a43b39d64a3ed11d89a4bed95d7016d01cdc17cbf4f03694cba961393075e468", func := "warpbeam/warpbeamlaw02.SpanWrong", spec := "spanWrong", inPlace := ["math.archTrunc", "math.Float64bits", "math.Float64frombits"], apart := false }
def SpanWrongSaid : Prop := spanWrongRow.holds Try.pinned (OpenSpec.ofChange spanWrongSpec)

/-- ITS FALSE NEIGHBOUR: 'it returns false'. Refute it at one input. -/
def spanWrongWrong : ChangeSpec := { name := "spanWrong", fn := fun _ => fun
  | [d1, d2] => { results := [.lit (.bool false)], args := [d1, d2] }
  | _ => none }
def SpanWrongWrongFalsely : Prop := spanWrongRow.holds Try.pinned (OpenSpec.ofChange spanWrongWrong)

/-- 'warpbeamlaw02.SpanOrder': WHATEVER THE INPUT: true; the input reads as it did. -/
def spanOrderSpec : ChangeSpec := { name := "spanOrder", fn := fun _ => fun
  | [d1, d2, d3] => { results := [.lit (.bool true)], args := [d1, d2, d3] }
  | _ => none }
def spanOrderRow : OpenClaim := { program := "ytjdfkjmjjnadaaa", sum := "a43b39d64a3ed11d89a4bed95d7016d01cdc17cbf4f03694cba961393075e468", func := "warpbeam/warpbeamlaw02.SpanOrder", spec := "spanOrder", inPlace := ["math.archTrunc", "math.Float64bits", "math.Float64frombits"], apart := false }
def SpanOrderSaid : Prop := spanOrderRow.holds Try.pinned (OpenSpec.ofChange spanOrderSpec)

/-- ITS FALSE NEIGHBOUR: 'it returns false'. Refute it at one input. -/
def spanOrderWrong : ChangeSpec := { name := "spanOrder", fn := fun _ => fun
  | [d1, d2, d3] => { results := [.lit (.bool false)], args := [d1, d2, d3] }
  | _ => none }
def SpanOrderWrongFalsely : Prop := spanOrderRow.holds Try.pinned (OpenSpec.ofChange spanOrderWrong)

/-- 'warpbeamlaw02.SpanJoins': WHATEVER THE INPUT: true; the input reads as it did. -/
def spanJoinsSpec : ChangeSpec := { name := "spanJoins", fn := fun _ => fun
  | [d1, d2, d3] => { results := [.lit (.bool true)], args := [d1, d2, d3] }
  | _ => none }
def spanJoinsRow : OpenClaim := { program := "ytjdfkjmjjnadaaa", sum := "a43b39d64a3ed11d89a4bed95d7016d01cdc17cbf4f03694cba961393075e468", func := "warpbeam/warpbeamlaw02.SpanJoins", spec := "spanJoins", inPlace := ["math.archTrunc", "math.Float64bits", "math.Float64frombits"], apart := false }
def SpanJoinsSaid : Prop := spanJoinsRow.holds Try.pinned (OpenSpec.ofChange spanJoinsSpec)

/-- ITS FALSE NEIGHBOUR: 'it returns false'. Refute it at one input. -/
def spanJoinsWrong : ChangeSpec := { name := "spanJoins", fn := fun _ => fun
  | [d1, d2, d3] => { results := [.lit (.bool false)], args := [d1, d2, d3] }
  | _ => none }
def SpanJoinsWrongFalsely : Prop := spanJoinsRow.holds Try.pinned (OpenSpec.ofChange spanJoinsWrong)

/-- 'warpbeamlaw02.SpanMoves': WHATEVER THE INPUT: true; the input reads as it did. -/
def spanMovesSpec : ChangeSpec := { name := "spanMoves", fn := fun _ => fun
  | [d1, d2, d3] => { results := [.lit (.bool true)], args := [d1, d2, d3] }
  | _ => none }
def spanMovesRow : OpenClaim := { program := "ytjdfkjmjjnadaaa", sum := "a43b39d64a3ed11d89a4bed95d7016d01cdc17cbf4f03694cba961393075e468", func := "warpbeam/warpbeamlaw02.SpanMoves", spec := "spanMoves", inPlace := ["math.archTrunc", "math.Float64bits", "math.Float64frombits"], apart := false }
def SpanMovesSaid : Prop := spanMovesRow.holds Try.pinned (OpenSpec.ofChange spanMovesSpec)

/-- ITS FALSE NEIGHBOUR: 'it returns false'. Refute it at one input. -/
def spanMovesWrong : ChangeSpec := { name := "spanMoves", fn := fun _ => fun
  | [d1, d2, d3] => { results := [.lit (.bool false)], args := [d1, d2, d3] }
  | _ => none }
def SpanMovesWrongFalsely : Prop := spanMovesRow.holds Try.pinned (OpenSpec.ofChange spanMovesWrong)

/-- 'warpbeamlaw02.SpanParts': WHATEVER THE INPUT: true; the input reads as it did. -/
def spanPartsSpec : ChangeSpec := { name := "spanParts", fn := fun _ => fun
  | [d1, d2] => { results := [.lit (.bool true)], args := [d1, d2] }
  | _ => none }
def spanPartsRow : OpenClaim := { program := "ytjdfkjmjjnadaaa", sum := "a43b39d64a3ed11d89a4bed95d7016d01cdc17cbf4f03694cba961393075e468", func := "warpbeam/warpbeamlaw02.SpanParts", spec := "spanParts", inPlace := ["math.archTrunc", "math.Float64bits", "math.Float64frombits"], apart := false }
def SpanPartsSaid : Prop := spanPartsRow.holds Try.pinned (OpenSpec.ofChange spanPartsSpec)

/-- ITS FALSE NEIGHBOUR: 'it returns false'. Refute it at one input. -/
def spanPartsWrong : ChangeSpec := { name := "spanParts", fn := fun _ => fun
  | [d1, d2] => { results := [.lit (.bool false)], args := [d1, d2] }
  | _ => none }
def SpanPartsWrongFalsely : Prop := spanPartsRow.holds Try.pinned (OpenSpec.ofChange spanPartsWrong)

/- THE SECOND FORM. 'bulk': how many values and letters a reading holds, each counted each time it is reached (what is shared counts as often as it is met; a slice's spare places count too). A statement '..UptoSaid' is the law's where the arguments, and the package variables that the reading takes, are together of bulk at most 1048576: NARROWER than '..Said'. Prove '..Said' where nothing that the law and all that it calls make is longer than what came in: it says more and counts as full. Else prove '..UptoSaid'. A law counts once. -/
mutual
def uptoBulk {H : Type} : DataW H → Nat
  | .lit (.string bytes) => bytes.length + 1
  | .lit _ => 1
  | .nil => 1
  | .ptr d => uptoBulk d + 1
  | .slice elems spare => uptoBulkAll elems + uptoBulkAll spare + 1
  | .agg parts => uptoBulkAll parts + 1
  | .iface _ d => uptoBulk d + 1
  | .map entries => uptoBulkEntries entries + 1
  | .held _ => 1
def uptoBulkAll {H : Type} : List (DataW H) → Nat
  | [] => 0
  | d :: r => uptoBulk d + uptoBulkAll r
def uptoBulkEntries {H : Type} : List (Lit × DataW H) → Nat
  | [] => 0
  | x :: r => uptoBulkEntry x + uptoBulkEntries r
def uptoBulkEntry {H : Type} : Lit × DataW H → Nat
  | (.string bytes, d) => bytes.length + uptoBulk d + 1
  | (_, d) => uptoBulk d + 1
 end
def uptoSmall : (H : Type) → List (DataW H) → Bool := fun _ ds => decide (uptoBulkAll ds ≤ 1048576)
def OpenSpec.upto (s : _root_.Go.ChangeSpec) : _root_.Go.OpenSpec := { _root_.Go.OpenSpec.ofChange s with cond := some uptoSmall }

/-- 'warpbeamlaw02.SpanTells', WHERE WHAT IT READS IS OF BULK AT MOST 1048576: true; the input reads as it did. -/
def spanTellsUptoRow : OpenClaim := { program := "ytjdfkjmjjnadaaa", sum := "a43b39d64a3ed11d89a4bed95d7016d01cdc17cbf4f03694cba961393075e468", func := "warpbeam/warpbeamlaw02.SpanTells", spec := "spanTells", inPlace := ["math.archTrunc", "math.Float64bits", "math.Float64frombits"], apart := false, narrowed := true }
def SpanTellsUptoSaid : Prop := spanTellsUptoRow.holds Try.pinned (OpenSpec.upto spanTellsSpec)

/-- 'warpbeamlaw02.SpanWrong', WHERE WHAT IT READS IS OF BULK AT MOST 1048576: true; the input reads as it did. -/
def spanWrongUptoRow : OpenClaim := { program := "ytjdfkjmjjnadaaa", sum := "a43b39d64a3ed11d89a4bed95d7016d01cdc17cbf4f03694cba961393075e468", func := "warpbeam/warpbeamlaw02.SpanWrong", spec := "spanWrong", inPlace := ["math.archTrunc", "math.Float64bits", "math.Float64frombits"], apart := false, narrowed := true }
def SpanWrongUptoSaid : Prop := spanWrongUptoRow.holds Try.pinned (OpenSpec.upto spanWrongSpec)

/-- 'warpbeamlaw02.SpanOrder', WHERE WHAT IT READS IS OF BULK AT MOST 1048576: true; the input reads as it did. -/
def spanOrderUptoRow : OpenClaim := { program := "ytjdfkjmjjnadaaa", sum := "a43b39d64a3ed11d89a4bed95d7016d01cdc17cbf4f03694cba961393075e468", func := "warpbeam/warpbeamlaw02.SpanOrder", spec := "spanOrder", inPlace := ["math.archTrunc", "math.Float64bits", "math.Float64frombits"], apart := false, narrowed := true }
def SpanOrderUptoSaid : Prop := spanOrderUptoRow.holds Try.pinned (OpenSpec.upto spanOrderSpec)

/-- 'warpbeamlaw02.SpanJoins', WHERE WHAT IT READS IS OF BULK AT MOST 1048576: true; the input reads as it did. -/
def spanJoinsUptoRow : OpenClaim := { program := "ytjdfkjmjjnadaaa", sum := "a43b39d64a3ed11d89a4bed95d7016d01cdc17cbf4f03694cba961393075e468", func := "warpbeam/warpbeamlaw02.SpanJoins", spec := "spanJoins", inPlace := ["math.archTrunc", "math.Float64bits", "math.Float64frombits"], apart := false, narrowed := true }
def SpanJoinsUptoSaid : Prop := spanJoinsUptoRow.holds Try.pinned (OpenSpec.upto spanJoinsSpec)

/-- 'warpbeamlaw02.SpanMoves', WHERE WHAT IT READS IS OF BULK AT MOST 1048576: true; the input reads as it did. -/
def spanMovesUptoRow : OpenClaim := { program := "ytjdfkjmjjnadaaa", sum := "a43b39d64a3ed11d89a4bed95d7016d01cdc17cbf4f03694cba961393075e468", func := "warpbeam/warpbeamlaw02.SpanMoves", spec := "spanMoves", inPlace := ["math.archTrunc", "math.Float64bits", "math.Float64frombits"], apart := false, narrowed := true }
def SpanMovesUptoSaid : Prop := spanMovesUptoRow.holds Try.pinned (OpenSpec.upto spanMovesSpec)

/-- 'warpbeamlaw02.SpanParts', WHERE WHAT IT READS IS OF BULK AT MOST 1048576: true; the input reads as it did. -/
def spanPartsUptoRow : OpenClaim := { program := "ytjdfkjmjjnadaaa", sum := "a43b39d64a3ed11d89a4bed95d7016d01cdc17cbf4f03694cba961393075e468", func := "warpbeam/warpbeamlaw02.SpanParts", spec := "spanParts", inPlace := ["math.archTrunc", "math.Float64bits", "math.Float64frombits"], apart := false, narrowed := true }
def SpanPartsUptoSaid : Prop := spanPartsUptoRow.holds Try.pinned (OpenSpec.upto spanPartsSpec)

end Rows
end Go.Proofs.Ytjdfkjmjjnadaaa
