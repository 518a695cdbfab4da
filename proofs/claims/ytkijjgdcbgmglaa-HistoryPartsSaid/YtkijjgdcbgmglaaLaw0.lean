/- The arguments of the statements about events, opened; the same events. -/
import Derived.Test.YtkijjgdcbgmglaaOpen
import Derived.Test.YtkijjgdcbgmglaaLoops
import Derived.Test.YtkijjgdcbgmglaaQ3
import Derived.KernelRfl
namespace Go.Proofs.Ytkijjgdcbgmglaa.Q
open Go.RowKit Go.Lib Go.Proofs.Ytkijjgdcbgmglaa Go.Proofs.YtkijjgdcbgmglaaW.PrintWords Go.Proofs.YtkijjgdcbgmglaaW.PrintLast Go.Proofs.YtkijjgdcbgmglaaW.PrintMore
set_option linter.unusedVariables false
set_option linter.unusedSimpArgs false
theorem flat_value : Flat Try.prog 74 [.int .i64, .int .i64] :=
  flat_struct [[.int .i64], [.int .i64]] Try.underlying74 rfl (by kernel_rfl) (by kernel_rfl) fun i f ls hf hl => by
    rcases i with _ | _ | i
    · cases hf; cases hl; exact flat_int (by kernel_rfl)
    · cases hf; cases hl; exact flat_int (by kernel_rfl)
    · simp at hl
theorem flat_event : Flat Try.prog 76 [.int .i64, .int .i64, .int .i64, .int .i64, .int .i64] :=
  flat_struct [[.int .i64], [.int .i64], [.int .i64], [.int .i64, .int .i64]] Try.underlying76 rfl (by kernel_rfl) (by kernel_rfl) fun i f ls hf hl => by
    rcases i with _ | _ | _ | _ | i
    · cases hf; cases hl; exact flat_int (by kernel_rfl)
    · cases hf; cases hl; exact flat_int (by kernel_rfl)
    · cases hf; cases hl; exact flat_int (by kernel_rfl)
    · cases hf; cases hl; exact flat_value
    · simp at hl
def word (x : Int) : Prop := -9223372036854775808 ≤ x ∧ x ≤ 9223372036854775807
def goodEv (o : S76) : Prop := word o.f0 ∧ word o.f1 ∧ word o.f2 ∧ word o.f3.f0 ∧ word o.f3.f1
theorem word_of {x : Int} (h : (Lit.int .i64 x).wf = true) : word x := by
  simp only [Lit.wf, Bool.and_eq_true, decide_eq_true_eq] at h
  have m1 : IntKind.i64.min = -9223372036854775808 := by decide
  have m2 : IntKind.i64.max = 9223372036854775807 := by decide
  rw [m1, m2] at h
  exact h
theorem event_of {W : World} {cs : List Value} (h : Fits [.int .i64, .int .i64, .int .i64, .int .i64, .int .i64] cs) : ∃ x : S76, k76.K W x cs ∧ goodEv x := by
  obtain ⟨a, r, rfl, ha, h⟩ := fits_int h
  obtain ⟨b, r, rfl, hb, h⟩ := fits_int h
  obtain ⟨c, r, rfl, hc, h⟩ := fits_int h
  obtain ⟨d, r, rfl, hd, h⟩ := fits_int h
  obtain ⟨e, r, rfl, he, h⟩ := fits_int h
  obtain rfl := fits_nil h
  exact ⟨⟨a, b, c, ⟨d, e⟩⟩, k76_mk W ⟨a, b, c, ⟨d, e⟩⟩, word_of ha, word_of hb, word_of hc, word_of hd, word_of he⟩
set_option maxRecDepth 100000 in
/-- Events that came in. -/
theorem events_of {H : Type} {enc : TypeId × Value → H} {W : World} {base : Nat} {v : Value} {dt : DataW H} {p : List MemPlace} (o : Value.okWide Try.prog W .any base 22 v) (h : DataW.Trod enc Try.prog W 0 (fun _ => true) true 22 v dt p) :
    ∃ (A : Option Addr) (c : Nat) (l : List S76), v = .slice A l.length c ∧ l.length ≤ c ∧ Kd.C k76 W A l.length l ∧ ∀ x ∈ l, goodEv x := by
  obtain ⟨A, c, l, h1, h2, -, h3, h4⟩ := open_rows k76 goodEv z76 Try.underlying22 flat_event (by kernel_rfl) rfl (fun cs h => event_of h) o h
  exact ⟨A, c, l, h1, h2, h3, h4⟩
def conv44 (e : S76) : S44 := ⟨e.f0, e.f1, e.f2, ⟨e.f3.f0, e.f3.f1⟩⟩
theorem theirs_f (l : List S76) (hl : l.length ≤ 1000000) (k : Nat) (hk : l.length < k) : warpbeamlaw11_Theirs.f k l = some (l.map conv44) := by
  unfold warpbeamlaw11_Theirs.f
  refine conv_all (fun k acc i => warpbeamlaw11_Theirs.l0 k acc l (l.length : Int) i) conv44 z76 l 1000000 hl ?_ ?_ k hk
  · intro k acc i hi ha
    have h1 : (i : Int) < l.length := by omega
    have h2 : (0 : Int) ≤ i := by omega
    have h3 : acc.length < 3518437208883 := by omega
    simp only [warpbeamlaw11_Theirs.l0]
    rw [if_pos h1, if_pos h2, if_pos h1, if_pos h3, wrap_next (by omega)]
    rfl
  · intro k acc
    simp only [warpbeamlaw11_Theirs.l0]
    rw [if_neg (by omega)]
theorem theirs_calls (A0 : Option Addr) (c0 : Nat) (l0 : List (S76)) (w : World) (hr0 : Kd.C k76 w A0 l0.length l0) (hc0 : l0.length ≤ c0) (hl : l0.length ≤ 1000000) :
    Calls Try.prog 11 #[.slice A0 l0.length c0] w fun e w' => ∃ v0_ : Value, e = .returned (v0_) ∧ Kd.R k44 44 w' w.heap.size (fun _ => True) v0_ (l0.map conv44) ∧ Below w.heap.size w w' :=
  warpbeamlaw11_Theirs.calls (l0.length + 1) A0 c0 l0 _ w hr0 hc0 (theirs_f l0 hl _ (Nat.lt_succ_self _))
end Go.Proofs.Ytkijjgdcbgmglaa.Q
