/- The arguments of SpanWrong, opened. -/
import Derived.Test.YtjdfkjmjjnadaaaWrong
import Derived.Laws.Cover2
namespace Go.Proofs.Ytjdfkjmjjnadaaa
open Go.RowKit

theorem walk_SpanWrong {H : Type} {enc : TypeId × Value → H} (W : World) (base : Nat) (v0 : Value) (d0 : DataW H) (p0 : List MemPlace) (o0 : Value.okWide Try.prog W .any base 39 v0) (h0 : DataW.Trod enc Try.prog W 0 (fun _ => true) true 39 v0 d0 p0) (v1 : Value) (d1 : DataW H) (p1 : List MemPlace) (o1 : Value.okWide Try.prog W .any base 39 v1) (h1 : DataW.Trod enc Try.prog W 0 (fun _ => true) true 39 v1 d1 p1) {P : Prop} (_hsz : P) :
    Calls Try.prog 4 #[v0, v1] W fun e w' => e = .returned (.bool true) ∧ Below W.heap.size W w' := by
  obtain ⟨a, rfl⟩ := Go.ChangeShapes.okWide_float (k := .f64) (by kernel_rfl) o0
  obtain ⟨b, rfl⟩ := Go.ChangeShapes.okWide_float (k := .f64) (by kernel_rfl) o1
  exact wrong_any a b W

end Go.Proofs.Ytjdfkjmjjnadaaa
