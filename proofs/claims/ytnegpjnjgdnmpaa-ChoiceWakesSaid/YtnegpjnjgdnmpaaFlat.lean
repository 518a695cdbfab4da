/- The arguments of the statements of layer 18, opened. -/
import Derived.Test.YtnegpjnjgdnmpaaOpen
import Derived.Test.YtnegpjnjgdnmpaaQ0
import Derived.KernelRfl
namespace Go.Proofs.Ytnegpjnjgdnmpaa
open Go.RowKit Go.Proofs.Ytnegpjnjgdnmpaa.Q

theorem flat_spot : Flat Try.prog 37 [.int .i64, .int .u64] :=
  flat_struct [[.int .i64], [.int .u64]] Try.underlying37 rfl (by kernel_rfl) (by kernel_rfl) fun i f ls hf hl => by
    rcases i with _ | _ | i
    · cases hf; cases hl; exact flat_int (by kernel_rfl)
    · cases hf; cases hl; exact flat_int (by kernel_rfl)
    · simp at hl
theorem spot_of {W : World} {cs : List Value} (h : Fits [.int .i64, .int .u64] cs) : ∃ x : S37, k37.K W x cs ∧ True := by
  obtain ⟨a, r, rfl, -, h⟩ := fits_int h
  obtain ⟨b, r, rfl, -, h⟩ := fits_int h
  obtain rfl := fits_nil h
  exact ⟨⟨a, b⟩, k37_mk W ⟨a, b⟩, trivial⟩

end Go.Proofs.Ytnegpjnjgdnmpaa
