/- The arguments of the statements about code, opened. -/
import Derived.Test.YtbnchippfebdkaaOpen
import Derived.Test.YtbnchippfebdkaaQ0
import Derived.KernelRfl
namespace Go.Proofs.Ytbnchippfebdkaa
open Go.RowKit Go.Proofs.Ytbnchippfebdkaa.Q Go.Proofs.YtbnchippfebdkaaW.PrintWords Go.Proofs.YtbnchippfebdkaaW.PrintLast Go.Proofs.YtbnchippfebdkaaW.PrintMore

theorem flat_op : Flat Try.prog 51 [.int .i64, .int .i64, .int .i64, .int .i64, .int .i64] :=
  flat_struct [[.int .i64], [.int .i64], [.int .i64], [.int .i64], [.int .i64]] Try.underlying51 rfl (by kernel_rfl) (by kernel_rfl) fun i f ls hf hl => by
    rcases i with _ | _ | _ | _ | _ | i
    · cases hf; cases hl; exact flat_int (by kernel_rfl)
    · cases hf; cases hl; exact flat_int (by kernel_rfl)
    · cases hf; cases hl; exact flat_int (by kernel_rfl)
    · cases hf; cases hl; exact flat_int (by kernel_rfl)
    · cases hf; cases hl; exact flat_int (by kernel_rfl)
    · simp at hl
def word (x : Int) : Prop := -9223372036854775808 ≤ x ∧ x ≤ 9223372036854775807
def goodOp (o : S51) : Prop := word o.f0 ∧ word o.f1 ∧ word o.f2 ∧ word o.f3 ∧ word o.f4
theorem word_of {x : Int} (h : (Lit.int .i64 x).wf = true) : word x := by
  simp only [Lit.wf, Bool.and_eq_true, decide_eq_true_eq] at h
  have m1 : IntKind.i64.min = -9223372036854775808 := by decide
  have m2 : IntKind.i64.max = 9223372036854775807 := by decide
  rw [m1, m2] at h
  exact h
theorem op_of {W : World} {cs : List Value} (h : Fits [.int .i64, .int .i64, .int .i64, .int .i64, .int .i64] cs) : ∃ x : S51, k51.K W x cs ∧ goodOp x := by
  obtain ⟨a, r, rfl, ha, h⟩ := fits_int h
  obtain ⟨b, r, rfl, hb, h⟩ := fits_int h
  obtain ⟨c, r, rfl, hc, h⟩ := fits_int h
  obtain ⟨d, r, rfl, hd, h⟩ := fits_int h
  obtain ⟨e, r, rfl, he, h⟩ := fits_int h
  obtain rfl := fits_nil h
  exact ⟨⟨a, b, c, d, e⟩, k51_mk W ⟨a, b, c, d, e⟩, word_of ha, word_of hb, word_of hc, word_of hd, word_of he⟩
theorem byte_of {W : World} {cs : List Value} (h : Fits [.int .u8] cs) : ∃ x : Int, (Kd.int .u8).K W x cs ∧ (0 ≤ x ∧ x < 256) := by
  obtain ⟨a, r, rfl, hw, h⟩ := fits_int h
  obtain rfl := fits_nil h
  refine ⟨a, rfl, ?_⟩
  simp only [Lit.wf, Bool.and_eq_true, decide_eq_true_eq] at hw
  have m1 : IntKind.u8.min = 0 := by decide
  have m2 : IntKind.u8.max = 255 := by decide
  rw [m1, m2] at hw
  omega
/-- A block that came in. -/
theorem ops_of {H : Type} {enc : TypeId × Value → H} {W : World} {base : Nat} {v : Value} {dt : DataW H} {p : List MemPlace} (o : Value.okWide Try.prog W .any base 22 v) (h : DataW.Trod enc Try.prog W 0 (fun _ => true) true 22 v dt p) :
    ∃ (A : Option Addr) (c : Nat) (l : List S51), v = .slice A l.length c ∧ l.length ≤ c ∧ Kd.C k51 W A l.length l ∧ ∀ x ∈ l, goodOp x := by
  obtain ⟨A, c, l, h1, h2, -, h3, h4⟩ := open_rows k51 goodOp z51 Try.underlying22 flat_op (by kernel_rfl) rfl (fun cs h => op_of h) o h
  exact ⟨A, c, l, h1, h2, h3, h4⟩
theorem bytes_of {H : Type} {enc : TypeId × Value → H} {W : World} {base : Nat} {v : Value} {dt : DataW H} {p : List MemPlace} (o : Value.okWide Try.prog W .any base 24 v) (h : DataW.Trod enc Try.prog W 0 (fun _ => true) true 24 v dt p) :
    ∃ (A : Option Addr) (c : Nat) (l : List Int), v = .slice A l.length c ∧ l.length ≤ c ∧ Kd.C (Kd.int .u8) W A l.length l ∧ ∀ x ∈ l, 0 ≤ x ∧ x < 256 := by
  obtain ⟨A, c, l, h1, h2, -, h3, h4⟩ := open_rows (Kd.int .u8) (fun x => 0 ≤ x ∧ x < 256) 0 Try.underlying24 (flat_int (by kernel_rfl)) (by kernel_rfl) rfl (fun cs h => byte_of h) o h
  exact ⟨A, c, l, h1, h2, h3, h4⟩

end Go.Proofs.Ytbnchippfebdkaa
