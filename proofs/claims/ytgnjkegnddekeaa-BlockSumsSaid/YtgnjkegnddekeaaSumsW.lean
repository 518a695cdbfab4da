/- A row of additions: its row's walk. -/
import Derived.Test.YtgnjkegnddekeaaSums
import Derived.Test.YtgnjkegnddekeaaTSets
import Derived.Test.YtgnjkegnddekeaaFlat2
import Derived.Test.YtgnjkegnddekeaaRows
import Derived.ProofKit
import Derived.OpenShut
import Derived.SizedLaws
import Derived.WideLaws
namespace Go.Proofs.Ytgnjkegnddekeaa.Q
open Go.RowKit Go.Lib Go.Proofs.Ytgnjkegnddekeaa Go.Proofs.YtgnjkegnddekeaaW.PrintWords Go.Proofs.YtgnjkegnddekeaaW.PrintLast Go.Proofs.YtgnjkegnddekeaaW.PrintMore
theorem short_of {W : World} {cs : List Value} (h : Fits [.int .i16] cs) : ∃ x : Int, (Kd.int .i16).K W x cs ∧ (-32768 ≤ x ∧ x ≤ 32767) := by
  obtain ⟨x, r, rfl, hx, h⟩ := fits_int h
  obtain rfl := fits_nil h
  refine ⟨x, rfl, ?_⟩
  simp only [Lit.wf, Bool.and_eq_true, decide_eq_true_eq] at hx
  have m1 : IntKind.i16.min = -32768 := by decide
  have m2 : IntKind.i16.max = 32767 := by decide
  rw [m1, m2] at hx
  exact hx
end Go.Proofs.Ytgnjkegnddekeaa.Q
namespace Go.Proofs.Ytgnjkegnddekeaa
open Go.ChangeShapes Go.WideShapes Go.ChangeAt Go.RowKit Go.Proofs.Ytgnjkegnddekeaa.Q Go.Proofs.YtgnjkegnddekeaaW.PrintWords Go.Proofs.YtgnjkegnddekeaaW.PrintLast Go.Proofs.YtgnjkegnddekeaaW.PrintMore
set_option maxRecDepth 100000 in
theorem walk_BlockSums {H : Type} {enc : TypeId × Value → H} (W : World) (base : Nat) (v0 : Value) (d0 : DataW H) (p0 : List MemPlace) (o0 : Value.okWide Try.prog W .any base 83 v0) (h0 : DataW.Trod enc Try.prog W 0 (fun _ => true) true 83 v0 d0 p0) (v1 : Value) (d1 : DataW H) (p1 : List MemPlace) (o1 : Value.okWide Try.prog W .any base 5 v1) (h1 : DataW.Trod enc Try.prog W 0 (fun _ => true) true 5 v1 d1 p1) (_hsz : (DataW.weightsEach Try.prog (Try.f9.params.toList ++ Rows.blockSumsSpec.plain.varTypes Try.prog) ([d0, d1] ++ [])).all (· ≤ reachBytes) = true) :
    Calls Try.prog 9 #[v0, v1] W fun e w' => e = .returned (.bool true) ∧ Below W.heap.size W w' := by
  obtain ⟨A, c, l, rfl, hc, -, hC, hg⟩ := open_rows (Kd.int .i16) (fun x => -32768 ≤ x ∧ x ≤ 32767) 0 Try.underlying83 (flat_int (by kernel_rfl)) (by kernel_rfl) rfl (fun cs h => short_of h) o0 h0
  obtain ⟨x, rfl, _, _, hx⟩ := open_int Try.underlying5 o1 h1
  simp only [Lit.wf, Bool.and_eq_true, decide_eq_true_eq] at hx
  have m3 : IntKind.u8.min = 0 := by decide
  have m4 : IntKind.u8.max = 255 := by decide
  rw [m3, m4] at hx
  exact sums_core l A c x (by omega) (by omega) W hC hc hg reads_calls writes_calls
end Go.Proofs.Ytgnjkegnddekeaa
