/-
  No cell of these rows narrows 'for every input' (looked for: loops, veiled, ifaces, maps, wideKeys, modest, calm, conditions, laid).
  DERIVED. THE GIVEN ROWS OF THIS SEAT. 6 by the template 'for every input the law returns true; each argument reads behind the call as it read before'; 0 by the template 'total and deterministic' (their statements: YtkecbdeekpbbjaaTotals.lean).
  GIVEN WITH THE SEED: the statements are not yours to turn. If you find one false, say at which input.
  Laid BY PROGRAM, IN A SANDBOX (cutbox-rows.mjs): the forced cells as the released guide's own fill.sh prints them over the translation ee0dbe3592c65e47… (all of the seat's roots in one cut). By AI agents, Wed Nov 11 2026. No macro, syntax, notation, axiom, sorry.
-/
import Derived.Test.YtkecbdeekpbbjaaChecked
import GoSem.Claim
import GoSem.ClaimJoined
import GoSem.ClaimMapViews
import Derived.JoinedTies
import Derived.KernelRfl
namespace Go.Proofs.Ytkecbdeekpbbjaa
/- THE CELL 'sum', in the pinned program and in every row, IS THE sha256 OF THE DUMP (.gsa) THAT YtkecbdeekpbbjaaProg.lean LOADS. Nothing in Lean hashes anything: it is a label: what it is worth is what the hold of that sum in a sandbox is worth. -/
noncomputable def Try.pinned : Pinned := { name := "ytkecbdeekpbbjaa", sum := "ee0dbe3592c65e4748c41e28b662f602a257befef31567bfd58f86741189c06c", checked := Try.checked }
namespace Rows
def none {H : Type} : Left H := { results := [], args := [] }

/-- 'warpbeamlaw15.MicroAtOnce': WHATEVER THE INPUT: true; the input reads as it did. -/
def microAtOnceSpec : ChangeSpec := { name := "microAtOnce", fn := fun _ => fun
  | [d1, d2, d3] => { results := [.lit (.bool true)], args := [d1, d2, d3] }
  | _ => none }
def microAtOnceRow : OpenClaim := { program := "ytkecbdeekpbbjaa", sum := "ee0dbe3592c65e4748c41e28b662f602a257befef31567bfd58f86741189c06c", func := "warpbeam/warpbeamlaw15.MicroAtOnce", spec := "microAtOnce", unfollowed := true, recurses := true, apart := false }
def MicroAtOnceSaid : Prop := microAtOnceRow.holds Try.pinned (OpenSpec.ofChange microAtOnceSpec)

/-- ITS FALSE NEIGHBOUR: 'it returns false'. Refute it at one input. -/
def microAtOnceWrong : ChangeSpec := { name := "microAtOnce", fn := fun _ => fun
  | [d1, d2, d3] => { results := [.lit (.bool false)], args := [d1, d2, d3] }
  | _ => none }
def MicroAtOnceWrongFalsely : Prop := microAtOnceRow.holds Try.pinned (OpenSpec.ofChange microAtOnceWrong)

/-- 'warpbeamlaw15.MicroLocks': WHATEVER THE INPUT: true; the input reads as it did. -/
def microLocksSpec : ChangeSpec := { name := "microLocks", fn := fun _ => fun
  | [d1, d2, d3] => { results := [.lit (.bool true)], args := [d1, d2, d3] }
  | _ => none }
def microLocksRow : OpenClaim := { program := "ytkecbdeekpbbjaa", sum := "ee0dbe3592c65e4748c41e28b662f602a257befef31567bfd58f86741189c06c", func := "warpbeam/warpbeamlaw15.MicroLocks", spec := "microLocks", unfollowed := true, recurses := true, apart := false }
def MicroLocksSaid : Prop := microLocksRow.holds Try.pinned (OpenSpec.ofChange microLocksSpec)

/-- ITS FALSE NEIGHBOUR: 'it returns false'. Refute it at one input. -/
def microLocksWrong : ChangeSpec := { name := "microLocks", fn := fun _ => fun
  | [d1, d2, d3] => { results := [.lit (.bool false)], args := [d1, d2, d3] }
  | _ => none }
def MicroLocksWrongFalsely : Prop := microLocksRow.holds Try.pinned (OpenSpec.ofChange microLocksWrong)

/-- 'warpbeamlaw15.MicroGoes': WHATEVER THE INPUT: true; the input reads as it did. -/
def microGoesSpec : ChangeSpec := { name := "microGoes", fn := fun _ => fun
  | [d1, d2, d3] => { results := [.lit (.bool true)], args := [d1, d2, d3] }
  | _ => none }
def microGoesRow : OpenClaim := { program := "ytkecbdeekpbbjaa", sum := "ee0dbe3592c65e4748c41e28b662f602a257befef31567bfd58f86741189c06c", func := "warpbeam/warpbeamlaw15.MicroGoes", spec := "microGoes", unfollowed := true, recurses := true, apart := false }
def MicroGoesSaid : Prop := microGoesRow.holds Try.pinned (OpenSpec.ofChange microGoesSpec)

/-- ITS FALSE NEIGHBOUR: 'it returns false'. Refute it at one input. -/
def microGoesWrong : ChangeSpec := { name := "microGoes", fn := fun _ => fun
  | [d1, d2, d3] => { results := [.lit (.bool false)], args := [d1, d2, d3] }
  | _ => none }
def MicroGoesWrongFalsely : Prop := microGoesRow.holds Try.pinned (OpenSpec.ofChange microGoesWrong)

/-- 'warpbeamlaw15.MicroAlone': WHATEVER THE INPUT: true; the input reads as it did. -/
def microAloneSpec : ChangeSpec := { name := "microAlone", fn := fun _ => fun
  | [d1, d2] => { results := [.lit (.bool true)], args := [d1, d2] }
  | _ => none }
def microAloneRow : OpenClaim := { program := "ytkecbdeekpbbjaa", sum := "ee0dbe3592c65e4748c41e28b662f602a257befef31567bfd58f86741189c06c", func := "warpbeam/warpbeamlaw15.MicroAlone", spec := "microAlone", unfollowed := true, recurses := true, apart := false }
def MicroAloneSaid : Prop := microAloneRow.holds Try.pinned (OpenSpec.ofChange microAloneSpec)

/-- ITS FALSE NEIGHBOUR: 'it returns false'. Refute it at one input. -/
def microAloneWrong : ChangeSpec := { name := "microAlone", fn := fun _ => fun
  | [d1, d2] => { results := [.lit (.bool false)], args := [d1, d2] }
  | _ => none }
def MicroAloneWrongFalsely : Prop := microAloneRow.holds Try.pinned (OpenSpec.ofChange microAloneWrong)

/-- 'warpbeamlaw15.MicroDecided': WHATEVER THE INPUT: true; the input reads as it did. -/
def microDecidedSpec : ChangeSpec := { name := "microDecided", fn := fun _ => fun
  | [d1, d2, d3] => { results := [.lit (.bool true)], args := [d1, d2, d3] }
  | _ => none }
def microDecidedRow : OpenClaim := { program := "ytkecbdeekpbbjaa", sum := "ee0dbe3592c65e4748c41e28b662f602a257befef31567bfd58f86741189c06c", func := "warpbeam/warpbeamlaw15.MicroDecided", spec := "microDecided", unfollowed := true, recurses := true, apart := false }
def MicroDecidedSaid : Prop := microDecidedRow.holds Try.pinned (OpenSpec.ofChange microDecidedSpec)

/-- ITS FALSE NEIGHBOUR: 'it returns false'. Refute it at one input. -/
def microDecidedWrong : ChangeSpec := { name := "microDecided", fn := fun _ => fun
  | [d1, d2, d3] => { results := [.lit (.bool false)], args := [d1, d2, d3] }
  | _ => none }
def MicroDecidedWrongFalsely : Prop := microDecidedRow.holds Try.pinned (OpenSpec.ofChange microDecidedWrong)

/-- 'warpbeamlaw15.MicroNobody': WHATEVER THE INPUT: true; the input reads as it did. -/
def microNobodySpec : ChangeSpec := { name := "microNobody", fn := fun _ => fun
  | [d1, d2] => { results := [.lit (.bool true)], args := [d1, d2] }
  | _ => none }
def microNobodyRow : OpenClaim := { program := "ytkecbdeekpbbjaa", sum := "ee0dbe3592c65e4748c41e28b662f602a257befef31567bfd58f86741189c06c", func := "warpbeam/warpbeamlaw15.MicroNobody", spec := "microNobody", unfollowed := true, recurses := true, apart := false }
def MicroNobodySaid : Prop := microNobodyRow.holds Try.pinned (OpenSpec.ofChange microNobodySpec)

/-- ITS FALSE NEIGHBOUR: 'it returns false'. Refute it at one input. -/
def microNobodyWrong : ChangeSpec := { name := "microNobody", fn := fun _ => fun
  | [d1, d2] => { results := [.lit (.bool false)], args := [d1, d2] }
  | _ => none }
def MicroNobodyWrongFalsely : Prop := microNobodyRow.holds Try.pinned (OpenSpec.ofChange microNobodyWrong)

/- THE SECOND FORM. 'bulk': how many values and letters a reading holds, each counted each time it is reached (what is shared counts as often as it is met; a slice's spare places count too). A statement '..UptoSaid' is the law's where the arguments, and the package variables that the reading takes, are together of bulk at most 1048576: NARROWER than '..Said'. Prove '..Said' where nothing that the law and all that it calls make is longer than what came in: it says more and counts as full. Else prove '..UptoSaid'. A law counts once. -/
mutual
def uptoBulk {H : Type} : DataW H → Nat
  | .lit (.string bytes) => bytes.length + 1
  | .lit _ => 1
  | .nil => 1
  | .ptr d => uptoBulk d + 1
  | .slice elems spare => uptoBulkAll elems + uptoBulkAll spare + 1
  | .agg parts => uptoBulkAll parts + 1
  | .iface _ d => uptoBulk d + 1
  | .map entries => uptoBulkEntries entries + 1
  | .held _ => 1
def uptoBulkAll {H : Type} : List (DataW H) → Nat
  | [] => 0
  | d :: r => uptoBulk d + uptoBulkAll r
def uptoBulkEntries {H : Type} : List (Lit × DataW H) → Nat
  | [] => 0
  | x :: r => uptoBulkEntry x + uptoBulkEntries r
def uptoBulkEntry {H : Type} : Lit × DataW H → Nat
  | (.string bytes, d) => bytes.length + uptoBulk d + 1
  | (_, d) => uptoBulk d + 1
 end
def uptoSmall : (H : Type) → List (DataW H) → Bool := fun _ ds => decide (uptoBulkAll ds ≤ 1048576)
def OpenSpec.upto (s : _root_.Go.ChangeSpec) : _root_.Go.OpenSpec := { _root_.Go.OpenSpec.ofChange s with cond := some uptoSmall }

/-- 'warpbeamlaw15.MicroAtOnce', WHERE WHAT IT READS IS OF BULK AT MOST 1048576: true; the input reads as it did. -/
def microAtOnceUptoRow : OpenClaim := { program := "ytkecbdeekpbbjaa", sum := "ee0dbe3592c65e4748c41e28b662f602a257befef31567bfd58f86741189c06c", func := "warpbeam/warpbeamlaw15.MicroAtOnce", spec := "microAtOnce", unfollowed := true, recurses := true, apart := false, narrowed := true }
def MicroAtOnceUptoSaid : Prop := microAtOnceUptoRow.holds Try.pinned (OpenSpec.upto microAtOnceSpec)

/-- 'warpbeamlaw15.MicroLocks', WHERE WHAT IT READS IS OF BULK AT MOST 1048576: true; the input reads as it did. -/
def microLocksUptoRow : OpenClaim := { program := "ytkecbdeekpbbjaa", sum := "ee0dbe3592c65e4748c41e28b662f602a257befef31567bfd58f86741189c06c", func := "warpbeam/warpbeamlaw15.MicroLocks", spec := "microLocks", unfollowed := true, recurses := true, apart := false, narrowed := true }
def MicroLocksUptoSaid : Prop := microLocksUptoRow.holds Try.pinned (OpenSpec.upto microLocksSpec)

/-- 'warpbeamlaw15.MicroGoes', WHERE WHAT IT READS IS OF BULK AT MOST 1048576: true; the input reads as it did. -/
def microGoesUptoRow : OpenClaim := { program := "ytkecbdeekpbbjaa", sum := "ee0dbe3592c65e4748c41e28b662f602a257befef31567bfd58f86741189c06c", func := "warpbeam/warpbeamlaw15.MicroGoes", spec := "microGoes", unfollowed := true, recurses := true, apart := false, narrowed := true }
def MicroGoesUptoSaid : Prop := microGoesUptoRow.holds Try.pinned (OpenSpec.upto microGoesSpec)

/-- 'warpbeamlaw15.MicroAlone', WHERE WHAT IT READS IS OF BULK AT MOST 1048576: true; the input reads as it did. -/
def microAloneUptoRow : OpenClaim := { program := "ytkecbdeekpbbjaa", sum := "ee0dbe3592c65e4748c41e28b662f602a257befef31567bfd58f86741189c06c", func := "warpbeam/warpbeamlaw15.MicroAlone", spec := "microAlone", unfollowed := true, recurses := true, apart := false, narrowed := true }
def MicroAloneUptoSaid : Prop := microAloneUptoRow.holds Try.pinned (OpenSpec.upto microAloneSpec)

/-- 'warpbeamlaw15.MicroDecided', WHERE WHAT IT READS IS OF BULK AT MOST 1048576: true; the input reads as it did. -/
def microDecidedUptoRow : OpenClaim := { program := "ytkecbdeekpbbjaa", sum := "ee0dbe3592c65e4748c41e28b662f602a257befef31567bfd58f86741189c06c", func := "warpbeam/warpbeamlaw15.MicroDecided", spec := "microDecided", unfollowed := true, recurses := true, apart := false, narrowed := true }
def MicroDecidedUptoSaid : Prop := microDecidedUptoRow.holds Try.pinned (OpenSpec.upto microDecidedSpec)

/-- 'warpbeamlaw15.MicroNobody', WHERE WHAT IT READS IS OF BULK AT MOST 1048576: true; the input reads as it did. -/
def microNobodyUptoRow : OpenClaim := { program := "ytkecbdeekpbbjaa", sum := "ee0dbe3592c65e4748c41e28b662f602a257befef31567bfd58f86741189c06c", func := "warpbeam/warpbeamlaw15.MicroNobody", spec := "microNobody", unfollowed := true, recurses := true, apart := false, narrowed := true }
def MicroNobodyUptoSaid : Prop := microNobodyUptoRow.holds Try.pinned (OpenSpec.upto microNobodySpec)

end Rows
end Go.Proofs.Ytkecbdeekpbbjaa
