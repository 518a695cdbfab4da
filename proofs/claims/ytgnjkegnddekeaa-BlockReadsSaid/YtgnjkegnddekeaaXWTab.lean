/- Words of the printer that this claim uses, cut to these by a program of its author (not as they were printed). -/
import Derived.Test.YtgnjkegnddekeaaXWLast
import Derived.Test.YtgnjkegnddekeaaXWWords
namespace Go.Proofs.YtgnjkegnddekeaaW.PrintLast
open Go.Proofs.YtgnjkegnddekeaaW.PrintWords (Aside0)
section
variable {md : Region.Mode} {ops : Array Oper} {T : Bool × List (List Nat × List Nat)} {l l' li lj lk : Array Bool} {ds : List Nat} {i j k : Nat}
end
end Go.Proofs.YtgnjkegnddekeaaW.PrintLast
