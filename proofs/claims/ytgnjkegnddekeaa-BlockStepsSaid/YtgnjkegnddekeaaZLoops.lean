/- Plain loops: one that goes through a list and puts what comes of each element behind what there is; one that looks for a place at which something fails. No program in sight. -/
import Derived.RowKit3
namespace Go.Proofs.Ytgnjkegnddekeaa
open Go Go.RowKit
theorem wrap_next {i:Nat} (h:i < 9223372036854775807):wrap64 ((i:Int) + 1)=((i + 1:Nat):Int):=by
  unfold wrap64
  omega
end Go.Proofs.Ytgnjkegnddekeaa
