/-
  No cell of these rows narrows 'for every input' (looked for: loops, veiled, ifaces, maps, wideKeys, modest, calm, conditions, laid).
  DERIVED. THE GIVEN ROWS OF THIS SEAT. 3 by the template 'for every input the law returns true; each argument reads behind the call as it read before'; 0 by the template 'total and deterministic' (their statements: YtaagbiaddgohkaaTotals.lean).
  GIVEN WITH THE SEED: the statements are not yours to turn. If you find one false, say at which input.
  Laid BY PROGRAM, IN A SANDBOX (cutbox-rows.mjs): the forced cells as the released guide's own fill.sh prints them over the translation 6d6fcf0ba2073d67… (all of the seat's roots in one cut). By AI agents, Wed Nov 11 2026. No macro, syntax, notation, axiom, sorry.
-/
import Derived.Test.YtaagbiaddgohkaaChecked
import GoSem.Claim
import GoSem.ClaimJoined
import GoSem.ClaimMapViews
import Derived.JoinedTies
import Derived.KernelRfl
namespace Go.Proofs.Ytaagbiaddgohkaa
/- THE CELL 'sum', in the pinned program and in every row, IS THE sha256 OF THE DUMP (.gsa) THAT YtaagbiaddgohkaaProg.lean LOADS. Nothing in Lean hashes anything: it is a label: what it is worth is what the hold of that sum in a sandbox is worth. -/
noncomputable def Try.pinned : Pinned := { name := "ytaagbiaddgohkaa", sum := "6d6fcf0ba2073d67cdeb7c6933d3980ef87769c3bc014c73a24a9e714d9a2e6d", checked := Try.checked }
namespace Rows
def none {H : Type} : Left H := { results := [], args := [] }

/-- 'warpbeamlaw08.TxnOwn': WHATEVER THE INPUT: true; the input reads as it did. -/
def txnOwnSpec : ChangeSpec := { name := "txnOwn", fn := fun _ => fun
  | [d1, d2, d3] => { results := [.lit (.bool true)], args := [d1, d2, d3] }
  | _ => none }
def txnOwnRow : OpenClaim := { program := "ytaagbiaddgohkaa", sum := "6d6fcf0ba2073d67cdeb7c6933d3980ef87769c3bc014c73a24a9e714d9a2e6d", func := "warpbeam/warpbeamlaw08.TxnOwn", spec := "txnOwn", unfollowed := true, recurses := true, apart := false }
def TxnOwnSaid : Prop := txnOwnRow.holds Try.pinned (OpenSpec.ofChange txnOwnSpec)

/-- ITS FALSE NEIGHBOUR: 'it returns false'. Refute it at one input. -/
def txnOwnWrong : ChangeSpec := { name := "txnOwn", fn := fun _ => fun
  | [d1, d2, d3] => { results := [.lit (.bool false)], args := [d1, d2, d3] }
  | _ => none }
def TxnOwnWrongFalsely : Prop := txnOwnRow.holds Try.pinned (OpenSpec.ofChange txnOwnWrong)

/-- 'warpbeamlaw08.TxnParts': WHATEVER THE INPUT: true; the input reads as it did. -/
def txnPartsSpec : ChangeSpec := { name := "txnParts", fn := fun _ => fun
  | [d1, d2] => { results := [.lit (.bool true)], args := [d1, d2] }
  | _ => none }
def txnPartsRow : OpenClaim := { program := "ytaagbiaddgohkaa", sum := "6d6fcf0ba2073d67cdeb7c6933d3980ef87769c3bc014c73a24a9e714d9a2e6d", func := "warpbeam/warpbeamlaw08.TxnParts", spec := "txnParts", unfollowed := true, recurses := true, apart := false }
def TxnPartsSaid : Prop := txnPartsRow.holds Try.pinned (OpenSpec.ofChange txnPartsSpec)

/-- ITS FALSE NEIGHBOUR: 'it returns false'. Refute it at one input. -/
def txnPartsWrong : ChangeSpec := { name := "txnParts", fn := fun _ => fun
  | [d1, d2] => { results := [.lit (.bool false)], args := [d1, d2] }
  | _ => none }
def TxnPartsWrongFalsely : Prop := txnPartsRow.holds Try.pinned (OpenSpec.ofChange txnPartsWrong)

/-- 'warpbeamlaw08.TxnSaves': WHATEVER THE INPUT: true; the input reads as it did. -/
def txnSavesSpec : ChangeSpec := { name := "txnSaves", fn := fun _ => fun
  | [d] => { results := [.lit (.bool true)], args := [d] }
  | _ => none }
def txnSavesRow : OpenClaim := { program := "ytaagbiaddgohkaa", sum := "6d6fcf0ba2073d67cdeb7c6933d3980ef87769c3bc014c73a24a9e714d9a2e6d", func := "warpbeam/warpbeamlaw08.TxnSaves", spec := "txnSaves", unfollowed := true, recurses := true, apart := false }
def TxnSavesSaid : Prop := txnSavesRow.holds Try.pinned (OpenSpec.ofChange txnSavesSpec)

/-- ITS FALSE NEIGHBOUR: 'it returns false'. Refute it at one input. -/
def txnSavesWrong : ChangeSpec := { name := "txnSaves", fn := fun _ => fun
  | [d] => { results := [.lit (.bool false)], args := [d] }
  | _ => none }
def TxnSavesWrongFalsely : Prop := txnSavesRow.holds Try.pinned (OpenSpec.ofChange txnSavesWrong)

/- THE SECOND FORM. 'bulk': how many values and letters a reading holds, each counted each time it is reached (what is shared counts as often as it is met; a slice's spare places count too). A statement '..UptoSaid' is the law's where the arguments, and the package variables that the reading takes, are together of bulk at most 1048576: NARROWER than '..Said'. Prove '..Said' where nothing that the law and all that it calls make is longer than what came in: it says more and counts as full. Else prove '..UptoSaid'. A law counts once. -/
mutual
def uptoBulk {H : Type} : DataW H → Nat
  | .lit (.string bytes) => bytes.length + 1
  | .lit _ => 1
  | .nil => 1
  | .ptr d => uptoBulk d + 1
  | .slice elems spare => uptoBulkAll elems + uptoBulkAll spare + 1
  | .agg parts => uptoBulkAll parts + 1
  | .iface _ d => uptoBulk d + 1
  | .map entries => uptoBulkEntries entries + 1
  | .held _ => 1
def uptoBulkAll {H : Type} : List (DataW H) → Nat
  | [] => 0
  | d :: r => uptoBulk d + uptoBulkAll r
def uptoBulkEntries {H : Type} : List (Lit × DataW H) → Nat
  | [] => 0
  | x :: r => uptoBulkEntry x + uptoBulkEntries r
def uptoBulkEntry {H : Type} : Lit × DataW H → Nat
  | (.string bytes, d) => bytes.length + uptoBulk d + 1
  | (_, d) => uptoBulk d + 1
 end
def uptoSmall : (H : Type) → List (DataW H) → Bool := fun _ ds => decide (uptoBulkAll ds ≤ 1048576)
def OpenSpec.upto (s : _root_.Go.ChangeSpec) : _root_.Go.OpenSpec := { _root_.Go.OpenSpec.ofChange s with cond := some uptoSmall }

/-- 'warpbeamlaw08.TxnOwn', WHERE WHAT IT READS IS OF BULK AT MOST 1048576: true; the input reads as it did. -/
def txnOwnUptoRow : OpenClaim := { program := "ytaagbiaddgohkaa", sum := "6d6fcf0ba2073d67cdeb7c6933d3980ef87769c3bc014c73a24a9e714d9a2e6d", func := "warpbeam/warpbeamlaw08.TxnOwn", spec := "txnOwn", unfollowed := true, recurses := true, apart := false, narrowed := true }
def TxnOwnUptoSaid : Prop := txnOwnUptoRow.holds Try.pinned (OpenSpec.upto txnOwnSpec)

/-- 'warpbeamlaw08.TxnParts', WHERE WHAT IT READS IS OF BULK AT MOST 1048576: true; the input reads as it did. -/
def txnPartsUptoRow : OpenClaim := { program := "ytaagbiaddgohkaa", sum := "6d6fcf0ba2073d67cdeb7c6933d3980ef87769c3bc014c73a24a9e714d9a2e6d", func := "warpbeam/warpbeamlaw08.TxnParts", spec := "txnParts", unfollowed := true, recurses := true, apart := false, narrowed := true }
def TxnPartsUptoSaid : Prop := txnPartsUptoRow.holds Try.pinned (OpenSpec.upto txnPartsSpec)

/-- 'warpbeamlaw08.TxnSaves', WHERE WHAT IT READS IS OF BULK AT MOST 1048576: true; the input reads as it did. -/
def txnSavesUptoRow : OpenClaim := { program := "ytaagbiaddgohkaa", sum := "6d6fcf0ba2073d67cdeb7c6933d3980ef87769c3bc014c73a24a9e714d9a2e6d", func := "warpbeam/warpbeamlaw08.TxnSaves", spec := "txnSaves", unfollowed := true, recurses := true, apart := false, narrowed := true }
def TxnSavesUptoSaid : Prop := txnSavesUptoRow.holds Try.pinned (OpenSpec.upto txnSavesSpec)

end Rows
end Go.Proofs.Ytaagbiaddgohkaa
