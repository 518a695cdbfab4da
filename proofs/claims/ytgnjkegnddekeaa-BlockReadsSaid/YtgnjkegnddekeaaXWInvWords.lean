/- Words of the printer that this claim uses, cut to these by a program of its author (not as they were printed). -/
import Derived.Test.YtgnjkegnddekeaaXWInv
import Derived.Test.YtgnjkegnddekeaaXWFootNe
namespace Go.Proofs.YtgnjkegnddekeaaW.PrintWords
open Go.RowKit
end Go.Proofs.YtgnjkegnddekeaaW.PrintWords
namespace Go.Proofs.YtgnjkegnddekeaaW.PrintLast
section
variable {ops : Array Oper} {a : Act} {o og : Oper} {g : Nat} {t : Tmp} {u : Bool}
end
end Go.Proofs.YtgnjkegnddekeaaW.PrintLast
