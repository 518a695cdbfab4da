/- Registers are compared, by hand. -/
import Derived.Test.YtgnjkegnddekeaaFlat
namespace Go.Proofs.Ytgnjkegnddekeaa.Q
open Go.RowKit Go.Lib Go.Proofs.Ytgnjkegnddekeaa Go.Proofs.YtgnjkegnddekeaaW.PrintWords Go.Proofs.YtgnjkegnddekeaaW.PrintLast Go.Proofs.YtgnjkegnddekeaaW.PrintMore
set_option linter.unusedVariables false
set_option linter.unusedSimpArgs false

theorem eqA32 (d : Nat) (w : World) (x0 y0 : Int) (x1 y1 : Int) :
    (Op.equalIn (d + 2) 32 (.agg #[.int .i64 x0, .int .i64 x1]) (.agg #[.int .i64 y0, .int .i64 y1])).run Try.prog w = .ok (x0 == y0 && (x1 == y1)) w := by
  refine eqA_of Try.underlying32 (by kernel_rfl) ?_
  refine eqf_cons (by rfl) (by go_simp; rfl) (by go_simp; rfl) (by go_simp) ?_
  exact eqf_last (by rfl) (by go_simp; rfl) (by go_simp; rfl) (by go_simp)
theorem forIn_ok {σ : Type} {P : Program} {w : World} {z : σ} {body : Nat → σ → Sem (ForInStep σ)} : ∀ (l : List Nat), (∀ i ∈ l, (body i z).run P w = .ok (.yield z) w) → (forIn l z body).run P w = .ok z w
  | [], _ => rfl
  | i :: l, h => by
    rw [List.forIn_cons, Sem.run_bind, h i List.mem_cons_self, Result.andThen_ok]
    exact forIn_ok l fun j hj => h j (List.mem_cons_of_mem _ hj)
set_option maxRecDepth 100000 in
set_option maxHeartbeats 4000000 in
theorem eqR_same (d : Nat) (w : World) (rs : List S32) (h8 : rs.length = 8) : (Op.equalIn (d + 3) 34 (.agg (rc rs).toArray) (.agg (rc rs).toArray)).run Try.prog w = .ok true w := by
  obtain ⟨a0, b0, a1, b1, a2, b2, a3, b3, a4, b4, a5, b5, a6, b6, a7, b7, rfl⟩ := eight h8
  have hu34 := Try.underlying34
  have hu32 := Try.underlying32
  simp only [rc]
  unfold Op.equalIn
  go_simp
  rw [forIn_ok _ (by
    intro i hi
    have hi8 : i < 8 := by have := List.mem_range'.1 hi; omega
    have e0 := fun x y => eqA32 d w x x y y
    rcases (show i = 0 ∨ i = 1 ∨ i = 2 ∨ i = 3 ∨ i = 4 ∨ i = 5 ∨ i = 6 ∨ i = 7 by omega) with rfl | rfl | rfl | rfl | rfl | rfl | rfl | rfl <;> (go_simp; done))]
  go_simp
end Go.Proofs.Ytgnjkegnddekeaa.Q
