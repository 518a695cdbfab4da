/- Plain functions that say what functions of the program compute, and proofs that they do; written by the printer for this claim, beside functions proved by hand. -/
import Derived.Test.YtkijjgdcbgmglaaQ0
namespace Go.Proofs.Ytkijjgdcbgmglaa.Q
open Go.RowKit Go.Proofs.YtkijjgdcbgmglaaW.PrintWords Go.Proofs.YtkijjgdcbgmglaaW.PrintLast Go.Proofs.YtkijjgdcbgmglaaW.PrintMore
attribute [local go_sem] max2_int min2_int max_two min_two max_three min_three max_four min_four   -- for this text's walks alone
set_option linter.unusedVariables false
set_option linter.unusedSimpArgs false

theorem eqA74 (d : Nat) (w : World) (x0 y0 : Int) (x1 y1 : Int) :
    (Op.equalIn (d + 2) 74 (.agg #[.int .i64 x0, .int .i64 x1]) (.agg #[.int .i64 y0, .int .i64 y1])).run Try.prog w = .ok (x0 == y0 && (x1 == y1)) w := by
  refine eqA_of Try.underlying74 (by kernel_rfl) ?_
  refine eqf_cons (by rfl) (by go_simp; rfl) (by go_simp; rfl) (by go_simp) ?_
  exact eqf_last (by rfl) (by go_simp; rfl) (by go_simp; rfl) (by go_simp)
end Go.Proofs.Ytkijjgdcbgmglaa.Q
