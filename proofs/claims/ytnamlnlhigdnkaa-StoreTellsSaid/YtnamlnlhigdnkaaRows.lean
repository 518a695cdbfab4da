/-
  No cell of these rows narrows 'for every input' (looked for: loops, veiled, ifaces, maps, wideKeys, modest, calm, conditions, laid).
  DERIVED. THE GIVEN ROWS OF THIS SEAT. 6 by the template 'for every input the law returns true; each argument reads behind the call as it read before'; 0 by the template 'total and deterministic' (their statements: YtnamlnlhigdnkaaTotals.lean).
  GIVEN WITH THE SEED: the statements are not yours to turn. If you find one false, say at which input.
  Laid BY PROGRAM, IN A SANDBOX (cutbox-rows.mjs): the forced cells as the released guide's own fill.sh prints them over the translation 67c4eeeaeca94a20… (all of the seat's roots in one cut). By AI agents, Wed Nov 11 2026. No macro, syntax, notation, axiom, sorry.
-/
import Derived.Test.YtnamlnlhigdnkaaChecked
import GoSem.Claim
import GoSem.ClaimJoined
import GoSem.ClaimMapViews
import Derived.JoinedTies
import Derived.KernelRfl
namespace Go.Proofs.Ytnamlnlhigdnkaa
/- THE CELL 'sum', in the pinned program and in every row, IS THE sha256 OF THE DUMP (.gsa) THAT YtnamlnlhigdnkaaProg.lean LOADS. Nothing in Lean hashes anything: it is a label: what it is worth is what the hold of that sum in a sandbox is worth. -/
noncomputable def Try.pinned : Pinned := { name := "ytnamlnlhigdnkaa", sum := "67c4eeeaeca94a20272bc67e6efe7a24dd0503ab08d90aea067fbd73eba54259", checked := Try.checked }
namespace Rows
def none {H : Type} : Left H := { results := [], args := [] }

/-- 'warpbeamlaw07.StoreTells': WHATEVER THE INPUT: true; the input reads as it did. -/
def storeTellsSpec : ChangeSpec := { name := "storeTells", fn := fun _ => fun
  | [d1, d2, d3] => { results := [.lit (.bool true)], args := [d1, d2, d3] }
  | _ => none }
def storeTellsRow : OpenClaim := { program := "ytnamlnlhigdnkaa", sum := "67c4eeeaeca94a20272bc67e6efe7a24dd0503ab08d90aea067fbd73eba54259", func := "warpbeam/warpbeamlaw07.StoreTells", spec := "storeTells", unfollowed := true, recurses := true, apart := false }
def StoreTellsSaid : Prop := storeTellsRow.holds Try.pinned (OpenSpec.ofChange storeTellsSpec)

/-- ITS FALSE NEIGHBOUR: 'it returns false'. Refute it at one input. -/
def storeTellsWrong : ChangeSpec := { name := "storeTells", fn := fun _ => fun
  | [d1, d2, d3] => { results := [.lit (.bool false)], args := [d1, d2, d3] }
  | _ => none }
def StoreTellsWrongFalsely : Prop := storeTellsRow.holds Try.pinned (OpenSpec.ofChange storeTellsWrong)

/-- 'warpbeamlaw07.StoreOwn': WHATEVER THE INPUT: true; the input reads as it did. -/
def storeOwnSpec : ChangeSpec := { name := "storeOwn", fn := fun _ => fun
  | [d1, d2, d3] => { results := [.lit (.bool true)], args := [d1, d2, d3] }
  | _ => none }
def storeOwnRow : OpenClaim := { program := "ytnamlnlhigdnkaa", sum := "67c4eeeaeca94a20272bc67e6efe7a24dd0503ab08d90aea067fbd73eba54259", func := "warpbeam/warpbeamlaw07.StoreOwn", spec := "storeOwn", unfollowed := true, recurses := true, apart := false }
def StoreOwnSaid : Prop := storeOwnRow.holds Try.pinned (OpenSpec.ofChange storeOwnSpec)

/-- ITS FALSE NEIGHBOUR: 'it returns false'. Refute it at one input. -/
def storeOwnWrong : ChangeSpec := { name := "storeOwn", fn := fun _ => fun
  | [d1, d2, d3] => { results := [.lit (.bool false)], args := [d1, d2, d3] }
  | _ => none }
def StoreOwnWrongFalsely : Prop := storeOwnRow.holds Try.pinned (OpenSpec.ofChange storeOwnWrong)

/-- 'warpbeamlaw07.StoreMarks': WHATEVER THE INPUT: true; the input reads as it did. -/
def storeMarksSpec : ChangeSpec := { name := "storeMarks", fn := fun _ => fun
  | [d1, d2] => { results := [.lit (.bool true)], args := [d1, d2] }
  | _ => none }
def storeMarksRow : OpenClaim := { program := "ytnamlnlhigdnkaa", sum := "67c4eeeaeca94a20272bc67e6efe7a24dd0503ab08d90aea067fbd73eba54259", func := "warpbeam/warpbeamlaw07.StoreMarks", spec := "storeMarks", unfollowed := true, recurses := true, apart := false }
def StoreMarksSaid : Prop := storeMarksRow.holds Try.pinned (OpenSpec.ofChange storeMarksSpec)

/-- ITS FALSE NEIGHBOUR: 'it returns false'. Refute it at one input. -/
def storeMarksWrong : ChangeSpec := { name := "storeMarks", fn := fun _ => fun
  | [d1, d2] => { results := [.lit (.bool false)], args := [d1, d2] }
  | _ => none }
def StoreMarksWrongFalsely : Prop := storeMarksRow.holds Try.pinned (OpenSpec.ofChange storeMarksWrong)

/-- 'warpbeamlaw07.StoreFirst': WHATEVER THE INPUT: true; the input reads as it did. -/
def storeFirstSpec : ChangeSpec := { name := "storeFirst", fn := fun _ => fun
  | [d] => { results := [.lit (.bool true)], args := [d] }
  | _ => none }
def storeFirstRow : OpenClaim := { program := "ytnamlnlhigdnkaa", sum := "67c4eeeaeca94a20272bc67e6efe7a24dd0503ab08d90aea067fbd73eba54259", func := "warpbeam/warpbeamlaw07.StoreFirst", spec := "storeFirst", unfollowed := true, recurses := true, apart := false }
def StoreFirstSaid : Prop := storeFirstRow.holds Try.pinned (OpenSpec.ofChange storeFirstSpec)

/-- ITS FALSE NEIGHBOUR: 'it returns false'. Refute it at one input. -/
def storeFirstWrong : ChangeSpec := { name := "storeFirst", fn := fun _ => fun
  | [d] => { results := [.lit (.bool false)], args := [d] }
  | _ => none }
def StoreFirstWrongFalsely : Prop := storeFirstRow.holds Try.pinned (OpenSpec.ofChange storeFirstWrong)

/-- 'warpbeamlaw07.StoreApart': WHATEVER THE INPUT: true; the input reads as it did. -/
def storeApartSpec : ChangeSpec := { name := "storeApart", fn := fun _ => fun
  | [d1, d2, d3] => { results := [.lit (.bool true)], args := [d1, d2, d3] }
  | _ => none }
def storeApartRow : OpenClaim := { program := "ytnamlnlhigdnkaa", sum := "67c4eeeaeca94a20272bc67e6efe7a24dd0503ab08d90aea067fbd73eba54259", func := "warpbeam/warpbeamlaw07.StoreApart", spec := "storeApart", unfollowed := true, recurses := true, apart := false }
def StoreApartSaid : Prop := storeApartRow.holds Try.pinned (OpenSpec.ofChange storeApartSpec)

/-- ITS FALSE NEIGHBOUR: 'it returns false'. Refute it at one input. -/
def storeApartWrong : ChangeSpec := { name := "storeApart", fn := fun _ => fun
  | [d1, d2, d3] => { results := [.lit (.bool false)], args := [d1, d2, d3] }
  | _ => none }
def StoreApartWrongFalsely : Prop := storeApartRow.holds Try.pinned (OpenSpec.ofChange storeApartWrong)

/-- 'warpbeamlaw07.StoreDrops': WHATEVER THE INPUT: true; the input reads as it did. -/
def storeDropsSpec : ChangeSpec := { name := "storeDrops", fn := fun _ => fun
  | [d1, d2] => { results := [.lit (.bool true)], args := [d1, d2] }
  | _ => none }
def storeDropsRow : OpenClaim := { program := "ytnamlnlhigdnkaa", sum := "67c4eeeaeca94a20272bc67e6efe7a24dd0503ab08d90aea067fbd73eba54259", func := "warpbeam/warpbeamlaw07.StoreDrops", spec := "storeDrops", unfollowed := true, recurses := true, apart := false }
def StoreDropsSaid : Prop := storeDropsRow.holds Try.pinned (OpenSpec.ofChange storeDropsSpec)

/-- ITS FALSE NEIGHBOUR: 'it returns false'. Refute it at one input. -/
def storeDropsWrong : ChangeSpec := { name := "storeDrops", fn := fun _ => fun
  | [d1, d2] => { results := [.lit (.bool false)], args := [d1, d2] }
  | _ => none }
def StoreDropsWrongFalsely : Prop := storeDropsRow.holds Try.pinned (OpenSpec.ofChange storeDropsWrong)

/- THE SECOND FORM. 'bulk': how many values and letters a reading holds, each counted each time it is reached (what is shared counts as often as it is met; a slice's spare places count too). A statement '..UptoSaid' is the law's where the arguments, and the package variables that the reading takes, are together of bulk at most 1048576: NARROWER than '..Said'. Prove '..Said' where nothing that the law and all that it calls make is longer than what came in: it says more and counts as full. Else prove '..UptoSaid'. A law counts once. -/
mutual
def uptoBulk {H : Type} : DataW H → Nat
  | .lit (.string bytes) => bytes.length + 1
  | .lit _ => 1
  | .nil => 1
  | .ptr d => uptoBulk d + 1
  | .slice elems spare => uptoBulkAll elems + uptoBulkAll spare + 1
  | .agg parts => uptoBulkAll parts + 1
  | .iface _ d => uptoBulk d + 1
  | .map entries => uptoBulkEntries entries + 1
  | .held _ => 1
def uptoBulkAll {H : Type} : List (DataW H) → Nat
  | [] => 0
  | d :: r => uptoBulk d + uptoBulkAll r
def uptoBulkEntries {H : Type} : List (Lit × DataW H) → Nat
  | [] => 0
  | x :: r => uptoBulkEntry x + uptoBulkEntries r
def uptoBulkEntry {H : Type} : Lit × DataW H → Nat
  | (.string bytes, d) => bytes.length + uptoBulk d + 1
  | (_, d) => uptoBulk d + 1
 end
def uptoSmall : (H : Type) → List (DataW H) → Bool := fun _ ds => decide (uptoBulkAll ds ≤ 1048576)
def OpenSpec.upto (s : _root_.Go.ChangeSpec) : _root_.Go.OpenSpec := { _root_.Go.OpenSpec.ofChange s with cond := some uptoSmall }

/-- 'warpbeamlaw07.StoreTells', WHERE WHAT IT READS IS OF BULK AT MOST 1048576: true; the input reads as it did. -/
def storeTellsUptoRow : OpenClaim := { program := "ytnamlnlhigdnkaa", sum := "67c4eeeaeca94a20272bc67e6efe7a24dd0503ab08d90aea067fbd73eba54259", func := "warpbeam/warpbeamlaw07.StoreTells", spec := "storeTells", unfollowed := true, recurses := true, apart := false, narrowed := true }
def StoreTellsUptoSaid : Prop := storeTellsUptoRow.holds Try.pinned (OpenSpec.upto storeTellsSpec)

/-- 'warpbeamlaw07.StoreOwn', WHERE WHAT IT READS IS OF BULK AT MOST 1048576: true; the input reads as it did. -/
def storeOwnUptoRow : OpenClaim := { program := "ytnamlnlhigdnkaa", sum := "67c4eeeaeca94a20272bc67e6efe7a24dd0503ab08d90aea067fbd73eba54259", func := "warpbeam/warpbeamlaw07.StoreOwn", spec := "storeOwn", unfollowed := true, recurses := true, apart := false, narrowed := true }
def StoreOwnUptoSaid : Prop := storeOwnUptoRow.holds Try.pinned (OpenSpec.upto storeOwnSpec)

/-- 'warpbeamlaw07.StoreMarks', WHERE WHAT IT READS IS OF BULK AT MOST 1048576: true; the input reads as it did. -/
def storeMarksUptoRow : OpenClaim := { program := "ytnamlnlhigdnkaa", sum := "67c4eeeaeca94a20272bc67e6efe7a24dd0503ab08d90aea067fbd73eba54259", func := "warpbeam/warpbeamlaw07.StoreMarks", spec := "storeMarks", unfollowed := true, recurses := true, apart := false, narrowed := true }
def StoreMarksUptoSaid : Prop := storeMarksUptoRow.holds Try.pinned (OpenSpec.upto storeMarksSpec)

/-- 'warpbeamlaw07.StoreFirst', WHERE WHAT IT READS IS OF BULK AT MOST 1048576: true; the input reads as it did. -/
def storeFirstUptoRow : OpenClaim := { program := "ytnamlnlhigdnkaa", sum := "67c4eeeaeca94a20272bc67e6efe7a24dd0503ab08d90aea067fbd73eba54259", func := "warpbeam/warpbeamlaw07.StoreFirst", spec := "storeFirst", unfollowed := true, recurses := true, apart := false, narrowed := true }
def StoreFirstUptoSaid : Prop := storeFirstUptoRow.holds Try.pinned (OpenSpec.upto storeFirstSpec)

/-- 'warpbeamlaw07.StoreApart', WHERE WHAT IT READS IS OF BULK AT MOST 1048576: true; the input reads as it did. -/
def storeApartUptoRow : OpenClaim := { program := "ytnamlnlhigdnkaa", sum := "67c4eeeaeca94a20272bc67e6efe7a24dd0503ab08d90aea067fbd73eba54259", func := "warpbeam/warpbeamlaw07.StoreApart", spec := "storeApart", unfollowed := true, recurses := true, apart := false, narrowed := true }
def StoreApartUptoSaid : Prop := storeApartUptoRow.holds Try.pinned (OpenSpec.upto storeApartSpec)

/-- 'warpbeamlaw07.StoreDrops', WHERE WHAT IT READS IS OF BULK AT MOST 1048576: true; the input reads as it did. -/
def storeDropsUptoRow : OpenClaim := { program := "ytnamlnlhigdnkaa", sum := "67c4eeeaeca94a20272bc67e6efe7a24dd0503ab08d90aea067fbd73eba54259", func := "warpbeam/warpbeamlaw07.StoreDrops", spec := "storeDrops", unfollowed := true, recurses := true, apart := false, narrowed := true }
def StoreDropsUptoSaid : Prop := storeDropsUptoRow.holds Try.pinned (OpenSpec.upto storeDropsSpec)

end Rows
end Go.Proofs.Ytnamlnlhigdnkaa
