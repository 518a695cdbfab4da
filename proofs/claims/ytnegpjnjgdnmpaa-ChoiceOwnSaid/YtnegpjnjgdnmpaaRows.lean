/-
  No cell of these rows narrows 'for every input' (looked for: loops, veiled, ifaces, maps, wideKeys, modest, calm, conditions, laid).
  DERIVED. THE GIVEN ROWS OF THIS SEAT. 4 by the template 'for every input the law returns true; each argument reads behind the call as it read before'; 0 by the template 'total and deterministic' (their statements: YtnegpjnjgdnmpaaTotals.lean).
  GIVEN WITH THE SEED: the statements are not yours to turn. If you find one false, say at which input.
  Laid BY PROGRAM, IN A SANDBOX (cutbox-rows.mjs): the forced cells as the released guide's own fill.sh prints them over the translation c178c1332ba31ad6… (all of the seat's roots in one cut). By AI agents, Wed Nov 11 2026. No macro, syntax, notation, axiom, sorry.
-/
import Derived.Test.YtnegpjnjgdnmpaaChecked
import GoSem.Claim
import GoSem.ClaimJoined
import GoSem.ClaimMapViews
import Derived.JoinedTies
import Derived.KernelRfl
namespace Go.Proofs.Ytnegpjnjgdnmpaa
/- THE CELL 'sum', in the pinned program and in every row, IS THE sha256 OF THE DUMP (.gsa) THAT YtnegpjnjgdnmpaaProg.lean LOADS. Nothing in Lean hashes anything: it is a label: what it is worth is what the hold of that sum in a sandbox is worth. -/
noncomputable def Try.pinned : Pinned := { name := "ytnegpjnjgdnmpaa", sum := "c178c1332ba31ad618a608f761a9627c94becad4ce70dc297ff4a7a0eeaa2427", checked := Try.checked }
namespace Rows
def none {H : Type} : Left H := { results := [], args := [] }

/-- 'warpbeamlaw18.ChoiceTurns': WHATEVER THE INPUT: true; the input reads as it did. -/
def choiceTurnsSpec : ChangeSpec := { name := "choiceTurns", fn := fun _ => fun
  | [d] => { results := [.lit (.bool true)], args := [d] }
  | _ => none }
def choiceTurnsRow : OpenClaim := { program := "ytnegpjnjgdnmpaa", sum := "c178c1332ba31ad618a608f761a9627c94becad4ce70dc297ff4a7a0eeaa2427", func := "warpbeam/warpbeamlaw18.ChoiceTurns", spec := "choiceTurns", unfollowed := true, recurses := true, apart := false }
def ChoiceTurnsSaid : Prop := choiceTurnsRow.holds Try.pinned (OpenSpec.ofChange choiceTurnsSpec)

/-- ITS FALSE NEIGHBOUR: 'it returns false'. Refute it at one input. -/
def choiceTurnsWrong : ChangeSpec := { name := "choiceTurns", fn := fun _ => fun
  | [d] => { results := [.lit (.bool false)], args := [d] }
  | _ => none }
def ChoiceTurnsWrongFalsely : Prop := choiceTurnsRow.holds Try.pinned (OpenSpec.ofChange choiceTurnsWrong)

/-- 'warpbeamlaw18.ChoiceWakes': WHATEVER THE INPUT: true; the input reads as it did. -/
def choiceWakesSpec : ChangeSpec := { name := "choiceWakes", fn := fun _ => fun
  | [d1, d2] => { results := [.lit (.bool true)], args := [d1, d2] }
  | _ => none }
def choiceWakesRow : OpenClaim := { program := "ytnegpjnjgdnmpaa", sum := "c178c1332ba31ad618a608f761a9627c94becad4ce70dc297ff4a7a0eeaa2427", func := "warpbeam/warpbeamlaw18.ChoiceWakes", spec := "choiceWakes", unfollowed := true, recurses := true, apart := false }
def ChoiceWakesSaid : Prop := choiceWakesRow.holds Try.pinned (OpenSpec.ofChange choiceWakesSpec)

/-- ITS FALSE NEIGHBOUR: 'it returns false'. Refute it at one input. -/
def choiceWakesWrong : ChangeSpec := { name := "choiceWakes", fn := fun _ => fun
  | [d1, d2] => { results := [.lit (.bool false)], args := [d1, d2] }
  | _ => none }
def ChoiceWakesWrongFalsely : Prop := choiceWakesRow.holds Try.pinned (OpenSpec.ofChange choiceWakesWrong)

/-- 'warpbeamlaw18.ChoiceOwn': WHATEVER THE INPUT: true; the input reads as it did. -/
def choiceOwnSpec : ChangeSpec := { name := "choiceOwn", fn := fun _ => fun
  | [d1, d2, d3] => { results := [.lit (.bool true)], args := [d1, d2, d3] }
  | _ => none }
def choiceOwnRow : OpenClaim := { program := "ytnegpjnjgdnmpaa", sum := "c178c1332ba31ad618a608f761a9627c94becad4ce70dc297ff4a7a0eeaa2427", func := "warpbeam/warpbeamlaw18.ChoiceOwn", spec := "choiceOwn", unfollowed := true, recurses := true, apart := false }
def ChoiceOwnSaid : Prop := choiceOwnRow.holds Try.pinned (OpenSpec.ofChange choiceOwnSpec)

/-- ITS FALSE NEIGHBOUR: 'it returns false'. Refute it at one input. -/
def choiceOwnWrong : ChangeSpec := { name := "choiceOwn", fn := fun _ => fun
  | [d1, d2, d3] => { results := [.lit (.bool false)], args := [d1, d2, d3] }
  | _ => none }
def ChoiceOwnWrongFalsely : Prop := choiceOwnRow.holds Try.pinned (OpenSpec.ofChange choiceOwnWrong)

/-- 'warpbeamlaw18.ChoiceParks': WHATEVER THE INPUT: true; the input reads as it did. -/
def choiceParksSpec : ChangeSpec := { name := "choiceParks", fn := fun _ => fun
  | [d1, d2, d3] => { results := [.lit (.bool true)], args := [d1, d2, d3] }
  | _ => none }
def choiceParksRow : OpenClaim := { program := "ytnegpjnjgdnmpaa", sum := "c178c1332ba31ad618a608f761a9627c94becad4ce70dc297ff4a7a0eeaa2427", func := "warpbeam/warpbeamlaw18.ChoiceParks", spec := "choiceParks", unfollowed := true, recurses := true, apart := false }
def ChoiceParksSaid : Prop := choiceParksRow.holds Try.pinned (OpenSpec.ofChange choiceParksSpec)

/-- ITS FALSE NEIGHBOUR: 'it returns false'. Refute it at one input. -/
def choiceParksWrong : ChangeSpec := { name := "choiceParks", fn := fun _ => fun
  | [d1, d2, d3] => { results := [.lit (.bool false)], args := [d1, d2, d3] }
  | _ => none }
def ChoiceParksWrongFalsely : Prop := choiceParksRow.holds Try.pinned (OpenSpec.ofChange choiceParksWrong)

/- THE SECOND FORM. 'bulk': how many values and letters a reading holds, each counted each time it is reached (what is shared counts as often as it is met; a slice's spare places count too). A statement '..UptoSaid' is the law's where the arguments, and the package variables that the reading takes, are together of bulk at most 1048576: NARROWER than '..Said'. Prove '..Said' where nothing that the law and all that it calls make is longer than what came in: it says more and counts as full. Else prove '..UptoSaid'. A law counts once. -/
mutual
def uptoBulk {H : Type} : DataW H → Nat
  | .lit (.string bytes) => bytes.length + 1
  | .lit _ => 1
  | .nil => 1
  | .ptr d => uptoBulk d + 1
  | .slice elems spare => uptoBulkAll elems + uptoBulkAll spare + 1
  | .agg parts => uptoBulkAll parts + 1
  | .iface _ d => uptoBulk d + 1
  | .map entries => uptoBulkEntries entries + 1
  | .held _ => 1
def uptoBulkAll {H : Type} : List (DataW H) → Nat
  | [] => 0
  | d :: r => uptoBulk d + uptoBulkAll r
def uptoBulkEntries {H : Type} : List (Lit × DataW H) → Nat
  | [] => 0
  | x :: r => uptoBulkEntry x + uptoBulkEntries r
def uptoBulkEntry {H : Type} : Lit × DataW H → Nat
  | (.string bytes, d) => bytes.length + uptoBulk d + 1
  | (_, d) => uptoBulk d + 1
 end
def uptoSmall : (H : Type) → List (DataW H) → Bool := fun _ ds => decide (uptoBulkAll ds ≤ 1048576)
def OpenSpec.upto (s : _root_.Go.ChangeSpec) : _root_.Go.OpenSpec := { _root_.Go.OpenSpec.ofChange s with cond := some uptoSmall }

/-- 'warpbeamlaw18.ChoiceTurns', WHERE WHAT IT READS IS OF BULK AT MOST 1048576: true; the input reads as it did. -/
def choiceTurnsUptoRow : OpenClaim := { program := "ytnegpjnjgdnmpaa", sum := "c178c1332ba31ad618a608f761a9627c94becad4ce70dc297ff4a7a0eeaa2427", func := "warpbeam/warpbeamlaw18.ChoiceTurns", spec := "choiceTurns", unfollowed := true, recurses := true, apart := false, narrowed := true }
def ChoiceTurnsUptoSaid : Prop := choiceTurnsUptoRow.holds Try.pinned (OpenSpec.upto choiceTurnsSpec)

/-- 'warpbeamlaw18.ChoiceWakes', WHERE WHAT IT READS IS OF BULK AT MOST 1048576: true; the input reads as it did. -/
def choiceWakesUptoRow : OpenClaim := { program := "ytnegpjnjgdnmpaa", sum := "c178c1332ba31ad618a608f761a9627c94becad4ce70dc297ff4a7a0eeaa2427", func := "warpbeam/warpbeamlaw18.ChoiceWakes", spec := "choiceWakes", unfollowed := true, recurses := true, apart := false, narrowed := true }
def ChoiceWakesUptoSaid : Prop := choiceWakesUptoRow.holds Try.pinned (OpenSpec.upto choiceWakesSpec)

/-- 'warpbeamlaw18.ChoiceOwn', WHERE WHAT IT READS IS OF BULK AT MOST 1048576: true; the input reads as it did. -/
def choiceOwnUptoRow : OpenClaim := { program := "ytnegpjnjgdnmpaa", sum := "c178c1332ba31ad618a608f761a9627c94becad4ce70dc297ff4a7a0eeaa2427", func := "warpbeam/warpbeamlaw18.ChoiceOwn", spec := "choiceOwn", unfollowed := true, recurses := true, apart := false, narrowed := true }
def ChoiceOwnUptoSaid : Prop := choiceOwnUptoRow.holds Try.pinned (OpenSpec.upto choiceOwnSpec)

/-- 'warpbeamlaw18.ChoiceParks', WHERE WHAT IT READS IS OF BULK AT MOST 1048576: true; the input reads as it did. -/
def choiceParksUptoRow : OpenClaim := { program := "ytnegpjnjgdnmpaa", sum := "c178c1332ba31ad618a608f761a9627c94becad4ce70dc297ff4a7a0eeaa2427", func := "warpbeam/warpbeamlaw18.ChoiceParks", spec := "choiceParks", unfollowed := true, recurses := true, apart := false, narrowed := true }
def ChoiceParksUptoSaid : Prop := choiceParksUptoRow.holds Try.pinned (OpenSpec.upto choiceParksSpec)

end Rows
end Go.Proofs.Ytnegpjnjgdnmpaa
