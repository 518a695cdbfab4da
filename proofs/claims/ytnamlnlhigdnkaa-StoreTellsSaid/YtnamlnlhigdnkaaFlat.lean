/- The arguments of the statements of layer 7, opened. -/
import Derived.Test.YtnamlnlhigdnkaaOpen
import Derived.Test.YtnamlnlhigdnkaaQ0
import Derived.KernelRfl
namespace Go.Proofs.Ytnamlnlhigdnkaa
open Go.RowKit Go.Proofs.Ytnamlnlhigdnkaa.Q

theorem flat_value : Flat Try.prog 24 [.int .i64, .int .i64] :=
  flat_struct [[.int .i64], [.int .i64]] Try.underlying24 rfl (by kernel_rfl) (by kernel_rfl) fun i f ls hf hl => by
    rcases i with _ | _ | i
    · cases hf; cases hl; exact flat_int (by kernel_rfl)
    · cases hf; cases hl; exact flat_int (by kernel_rfl)
    · simp at hl
theorem flat_var : Flat Try.prog 40 [.int .i64, .int .i64, .int .i64, .int .i64, .int .u64] :=
  flat_struct [[.int .i64, .int .i64], [.int .i64], [.int .i64], [.int .u64]] Try.underlying40 rfl (by kernel_rfl) (by kernel_rfl) fun i f ls hf hl => by
    rcases i with _ | _ | _ | _ | i
    · cases hf; cases hl; exact flat_value
    · cases hf; cases hl; exact flat_int (by kernel_rfl)
    · cases hf; cases hl; exact flat_int (by kernel_rfl)
    · cases hf; cases hl; exact flat_int (by kernel_rfl)
    · simp at hl
theorem flat_put : Flat Try.prog 26 [.int .i64, .int .i64, .int .i64, .int .i64, .int .i64] :=
  flat_struct [[.int .i64], [.int .i64], [.int .i64], [.int .i64, .int .i64]] Try.underlying26 rfl (by kernel_rfl) (by kernel_rfl) fun i f ls hf hl => by
    rcases i with _ | _ | _ | _ | i
    · cases hf; cases hl; exact flat_int (by kernel_rfl)
    · cases hf; cases hl; exact flat_int (by kernel_rfl)
    · cases hf; cases hl; exact flat_int (by kernel_rfl)
    · cases hf; cases hl; exact flat_value
    · simp at hl

/-- The marks of a variable are a word. -/
def goodVar (x : S40) : Prop := (Lit.int .u64 x.f3).wf = true
theorem var_of {W : World} {cs : List Value} (h : Fits [.int .i64, .int .i64, .int .i64, .int .i64, .int .u64] cs) : ∃ x : S40, k40.K W x cs ∧ goodVar x := by
  obtain ⟨a, r, rfl, -, h⟩ := fits_int h
  obtain ⟨b, r, rfl, -, h⟩ := fits_int h
  obtain ⟨c, r, rfl, -, h⟩ := fits_int h
  obtain ⟨d, r, rfl, -, h⟩ := fits_int h
  obtain ⟨e, r, rfl, he, h⟩ := fits_int h
  obtain rfl := fits_nil h
  exact ⟨⟨⟨a, b⟩, c, d, e⟩, k40_mk W ⟨⟨a, b⟩, c, d, e⟩, he⟩
theorem put_of {cs : Array Value} (h : Fits [.int .i64, .int .i64, .int .i64, .int .i64, .int .i64] cs.toList) : ∃ a b c d e : Int, cs = #[.int .i64 a, .int .i64 b, .int .i64 c, .int .i64 d, .int .i64 e] := by
  rcases cs with ⟨l⟩
  obtain ⟨a, r, e1, -, h⟩ := fits_int h
  obtain ⟨b, r, rfl, -, h⟩ := fits_int h
  obtain ⟨c, r, rfl, -, h⟩ := fits_int h
  obtain ⟨d, r, rfl, -, h⟩ := fits_int h
  obtain ⟨e, r, rfl, -, h⟩ := fits_int h
  obtain rfl := fits_nil h
  have e2 : l = _ := e1
  rw [e2]
  exact ⟨a, b, c, d, e, rfl⟩

end Go.Proofs.Ytnamlnlhigdnkaa
