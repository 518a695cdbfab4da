/- A way that gives up: its row's walk. -/
import Derived.Test.YtgnjkegnddekeaaElse
import Derived.Test.YtgnjkegnddekeaaTSets
import Derived.Test.YtgnjkegnddekeaaFlat2
import Derived.Test.YtgnjkegnddekeaaRows
import Derived.ProofKit
import Derived.OpenShut
import Derived.SizedLaws
import Derived.WideLaws
namespace Go.Proofs.Ytgnjkegnddekeaa
open Go.ChangeShapes Go.WideShapes Go.ChangeAt Go.RowKit Go.Proofs.Ytgnjkegnddekeaa.Q Go.Proofs.YtgnjkegnddekeaaW.PrintWords Go.Proofs.YtgnjkegnddekeaaW.PrintLast Go.Proofs.YtgnjkegnddekeaaW.PrintMore
set_option maxRecDepth 100000 in
theorem walk_BlockElse {H : Type} {enc : TypeId × Value → H} (W : World) (base : Nat) (v0 : Value) (d0 : DataW H) (p0 : List MemPlace) (o0 : Value.okWide Try.prog W .any base 2 v0) (h0 : DataW.Trod enc Try.prog W 0 (fun _ => true) true 2 v0 d0 p0) (v1 : Value) (d1 : DataW H) (p1 : List MemPlace) (o1 : Value.okWide Try.prog W .any base 2 v1) (h1 : DataW.Trod enc Try.prog W 0 (fun _ => true) true 2 v1 d1 p1) (v2 : Value) (d2 : DataW H) (p2 : List MemPlace) (o2 : Value.okWide Try.prog W .any base 5 v2) (h2 : DataW.Trod enc Try.prog W 0 (fun _ => true) true 5 v2 d2 p2) (_hsz : (DataW.weightsEach Try.prog (Try.f8.params.toList ++ Rows.blockElseSpec.plain.varTypes Try.prog) ([d0, d1, d2] ++ [])).all (· ≤ reachBytes) = true) :
    Calls Try.prog 8 #[v0, v1, v2] W fun e w' => e = .returned (.bool true) ∧ Below W.heap.size W w' := by
  obtain ⟨n, rfl, _, _, hn⟩ := open_int Try.underlying2 o0 h0
  obtain ⟨m, rfl, _, _, hm⟩ := open_int Try.underlying2 o1 h1
  obtain ⟨x, rfl, _, _, hx⟩ := open_int Try.underlying5 o2 h2
  have hx' := hx
  simp only [Lit.wf, Bool.and_eq_true, decide_eq_true_eq] at hx'
  have m3 : IntKind.u8.min = 0 := by decide
  have m4 : IntKind.u8.max = 255 := by decide
  rw [m3, m4] at hx'
  exact else_core n m x (word_of hn) (word_of hm) (by omega) (by omega) W reads_calls writes_calls
end Go.Proofs.Ytgnjkegnddekeaa
