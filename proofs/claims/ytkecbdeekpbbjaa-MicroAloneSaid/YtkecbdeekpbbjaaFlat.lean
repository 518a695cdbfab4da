/- The arguments of the statements about transactions, opened. -/
import Derived.Test.YtkecbdeekpbbjaaOpen
import Derived.Test.YtkecbdeekpbbjaaQ0
import Derived.KernelRfl
namespace Go.Proofs.Ytkecbdeekpbbjaa
open Go.RowKit Go.Proofs.Ytkecbdeekpbbjaa.Q Go.Proofs.YtkecbdeekpbbjaaW.PrintWords Go.Proofs.YtkecbdeekpbbjaaW.PrintLast Go.Proofs.YtkecbdeekpbbjaaW.PrintMore

theorem flat_value : Flat Try.prog 67 [.int .i64, .int .i64] :=
  flat_struct [[.int .i64], [.int .i64]] Try.underlying67 rfl (by kernel_rfl) (by kernel_rfl) fun i f ls hf hl => by
    rcases i with _ | _ | i
    · cases hf; cases hl; exact flat_int (by kernel_rfl)
    · cases hf; cases hl; exact flat_int (by kernel_rfl)
    · simp at hl
theorem flat_step : Flat Try.prog 69 [.int .i64, .int .i64, .int .i64, .bool] :=
  flat_struct [[.int .i64], [.int .i64, .int .i64], [.bool]] Try.underlying69 rfl (by kernel_rfl) (by kernel_rfl) fun i f ls hf hl => by
    rcases i with _ | _ | _ | i
    · cases hf; cases hl; exact flat_int (by kernel_rfl)
    · cases hf; cases hl; exact flat_value
    · cases hf; cases hl; exact flat_bool (by kernel_rfl)
    · simp at hl
def word (x : Int) : Prop := -9223372036854775808 ≤ x ∧ x ≤ 9223372036854775807
def goodStep (o : S69) : Prop := word o.f0 ∧ word o.f1.f0 ∧ word o.f1.f1
theorem word_of {x : Int} (h : (Lit.int .i64 x).wf = true) : word x := by
  simp only [Lit.wf, Bool.and_eq_true, decide_eq_true_eq] at h
  have m1 : IntKind.i64.min = -9223372036854775808 := by decide
  have m2 : IntKind.i64.max = 9223372036854775807 := by decide
  rw [m1, m2] at h
  exact h
theorem step_of {W : World} {cs : List Value} (h : Fits [.int .i64, .int .i64, .int .i64, .bool] cs) : ∃ x : S69, k69.K W x cs ∧ goodStep x := by
  obtain ⟨a, r, rfl, ha, h⟩ := fits_int h
  obtain ⟨b, r, rfl, hb, h⟩ := fits_int h
  obtain ⟨c, r, rfl, hc, h⟩ := fits_int h
  obtain ⟨d, r, rfl, h5⟩ := fits_bool h
  obtain rfl := fits_nil h5
  exact ⟨⟨a, ⟨b, c⟩, d⟩, k69_mk W ⟨a, ⟨b, c⟩, d⟩, word_of ha, word_of hb, word_of hc⟩
set_option maxRecDepth 100000 in
/-- A transaction that came in. -/
theorem steps_of {H : Type} {enc : TypeId × Value → H} {W : World} {base : Nat} {v : Value} {dt : DataW H} {p : List MemPlace} (o : Value.okWide Try.prog W .any base 63 v) (h : DataW.Trod enc Try.prog W 0 (fun _ => true) true 63 v dt p) :
    ∃ (A : Option Addr) (c : Nat) (l : List S69), v = .slice A l.length c ∧ l.length ≤ c ∧ Kd.C k69 W A l.length l ∧ ∀ x ∈ l, goodStep x := by
  obtain ⟨A, c, l, h1, h2, -, h3, h4⟩ := open_rows k69 goodStep z69 Try.underlying63 flat_step (by kernel_rfl) rfl (fun cs h => step_of h) o h
  exact ⟨A, c, l, h1, h2, h3, h4⟩
set_option maxRecDepth 100000 in
theorem one_of {H : Type} {enc : TypeId × Value → H} {W : World} {base : Nat} {v : Value} {dt : DataW H} {p : List MemPlace} (o : Value.okWide Try.prog W .any base 69 v) (h : DataW.Trod enc Try.prog W 0 (fun _ => true) true 69 v dt p) :
    ∃ (a b c : Int) (d : Bool), v = .agg #[.int .i64 a, .int .i64 b, .int .i64 c, .bool d] := by
  obtain ⟨cs, rfl, hf⟩ := open_struct Try.underlying69 flat_step o h
  rcases cs with ⟨l⟩
  obtain ⟨a, r, e1, -, h⟩ := fits_int hf
  obtain ⟨b, r, rfl, -, h⟩ := fits_int h
  obtain ⟨c, r, rfl, -, h⟩ := fits_int h
  obtain ⟨d, r, rfl, h5⟩ := fits_bool h
  obtain rfl := fits_nil h5
  have e2 : l = _ := e1
  rw [e2]
  exact ⟨a, b, c, d, rfl⟩

end Go.Proofs.Ytkecbdeekpbbjaa
