/- The law for a region that draws and whose operations make memory, where its end by a panic is told by the whole frame: none of its operations panics. -/
import Derived.Test.YtgnjkegnddekeaaXGrowR
set_option linter.unusedVariables false
namespace Go.Proofs.Ytgnjkegnddekeaa.GR
open Go.RowKit
section
variable {P : Program} {ops : Array Oper} {Q : Exit → Act → World → Prop} {w0 : World} {R : World → World → Prop} [Rel R]
/-- The same ends, but no panic. -/
def noPanic (Q:Exit → Act → World → Prop):Exit → Act → World → Prop
  | .panic _,_,_ => False
  | e,a,w => Q e a w
set_option linter.unusedSectionVars false in
theorem gw_end {Fs:List (World → Prop)} {Vs:List Value} {a:Act} (h:∀ W,R w0 W → (∀ F ∈ Fs,F W) → wpList P ops Q [] a W):GW R P ops (noPanic Q) w0 [] [] [] Fs Vs a:=by
  unfold GW
  exact fun W hB hF _ => h W hB hF
theorem wp_region_growsQ {id:Nat} {l:List Oper} {a0:Act} {w:World} {Ts:List Told} (hm:P.follows .mixedOrders=true) (hB:growB l.toArray l.length=true)
    (h:GW R P l.toArray (noPanic Q) w [] l Ts [] [] a0):(Code.region id l.toArray true).wp P Q a0 w:=by
  have:=wp_region_grows (Q:=noPanic Q) (id:=id) hm hB (fun c a d v w h => h) h
  intro b k cs
  obtain ⟨e,a',w',hq,harr⟩:=this b k cs
  refine ⟨e,a',w',?_,harr⟩
  cases e <;> first | exact hq | exact hq.elim
end
end Go.Proofs.Ytgnjkegnddekeaa.GR
