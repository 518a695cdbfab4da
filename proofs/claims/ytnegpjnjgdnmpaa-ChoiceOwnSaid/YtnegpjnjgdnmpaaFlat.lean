/- The arguments of the statements of layer 18, opened. -/
import Derived.Test.YtnegpjnjgdnmpaaOpen
import Derived.Test.YtnegpjnjgdnmpaaQ0
import Derived.KernelRfl
import Derived.WideShapes
namespace Go.Proofs.Ytnegpjnjgdnmpaa
open Go.RowKit Go.Proofs.Ytnegpjnjgdnmpaa.Q Go.WideShapes Go.ChangeShapes Go.Proofs.YtnegpjnjgdnmpaaW.PrintWords Go.Proofs.YtnegpjnjgdnmpaaW.PrintLast Go.Proofs.YtnegpjnjgdnmpaaW.PrintMore

theorem flat_spot : Flat Try.prog 37 [.int .i64, .int .u64] :=
  flat_struct [[.int .i64], [.int .u64]] Try.underlying37 rfl (by kernel_rfl) (by kernel_rfl) fun i f ls hf hl => by
    rcases i with _ | _ | i
    · cases hf; cases hl; exact flat_int (by kernel_rfl)
    · cases hf; cases hl; exact flat_int (by kernel_rfl)
    · simp at hl
theorem spot_of {W : World} {cs : List Value} (h : Fits [.int .i64, .int .u64] cs) : ∃ x : S37, k37.K W x cs ∧ True := by
  obtain ⟨a, r, rfl, -, h⟩ := fits_int h
  obtain ⟨b, r, rfl, -, h⟩ := fits_int h
  obtain rfl := fits_nil h
  exact ⟨⟨a, b⟩, k37_mk W ⟨a, b⟩, trivial⟩

theorem int_of {W : World} {cs : List Value} (h : Fits [.int .i64] cs) : ∃ x : Int, (Kd.int .i64).K W x cs ∧ True := by
  obtain ⟨a, r, rfl, -, h⟩ := fits_int h
  obtain rfl := fits_nil h
  exact ⟨a, rfl, trivial⟩
/-- A lot of the document's, by value. -/
theorem lot_of {H : Type} {enc : TypeId × Value → H} {W : World} {base : Nat} {v : Value} {dt : DataW H} {p : List MemPlace} (o : Value.okWide Try.prog W .any base 46 v) (h : DataW.Trod enc Try.prog W 0 (fun _ => true) true 46 v dt p) :
    ∃ (A : Option Addr) (c : Nat) (P : List S37) (B : Option Addr) (d : Nat) (Q : List Int), v = .agg #[.slice A P.length c, .slice B Q.length d] ∧ Kd.C k37 W A P.length P ∧ P.length ≤ c ∧ Kd.C (Kd.int .i64) W B Q.length Q ∧ Q.length ≤ d := by
  obtain ⟨cs, rfl, -⟩ := okWide_struct Try.underlying46 o
  obtain ⟨fuel, hf⟩ := h
  obtain ⟨xs, n, rfl, _, hl, hxs, hx⟩ := DataW.trod_struct Try.underlying46 hf
  have h0 := hx 0 _ rfl
  have h1 := hx 1 _ rfl
  have c0 : (Try.prog.cellsOf 34) = 1 := by kernel_rfl
  have c1 : (Try.prog.cellsOf 25) = 1 := by kernel_rfl
  have c2 : (Try.prog.cellsOf 46) = 2 := by kernel_rfl
  rw [c2] at hl
  rcases cs with ⟨l⟩
  have hl : l.length = 2 := hl
  obtain ⟨a, b, rfl⟩ : ∃ a b, l = [a, b] := by
    rcases l with _ | ⟨a, _ | ⟨b, _ | ⟨c, l⟩⟩⟩
    · simp at hl
    · simp at hl
    · exact ⟨a, b, rfl⟩
    · simp at hl
  have h0 : DataW.trod enc Try.prog W 0 (fun _ => true) true n 34 (([a, b].drop 0).take (Try.prog.cellsOf 34)) = xs[0]? := h0
  have h1 : DataW.trod enc Try.prog W 0 (fun _ => true) true n 25 (([a, b].drop 1).take (Try.prog.cellsOf 25)) = xs[1]? := h1
  rw [c0, List.getElem?_eq_getElem (by rw [hxs]; decide)] at h0
  rw [c1, List.getElem?_eq_getElem (by rw [hxs]; decide)] at h1
  obtain ⟨A, c, P, e0, hc, -, hC, -⟩ := open_rowsT k37 (fun _ => True) z37 Try.underlying34 flat_spot (by kernel_rfl) rfl (fun cs h => spot_of h) h0
  obtain ⟨B, d, Q, e1, hd, -, hD, -⟩ := open_rowsT (Kd.int .i64) (fun _ => True) 0 Try.underlying25 (flat_int (by kernel_rfl)) (by kernel_rfl) rfl (fun cs h => int_of h) h1
  have q0 : a = Value.slice A P.length c := (List.cons.inj (show [a] = [Value.slice A P.length c] from e0)).1
  have q1 : b = Value.slice B Q.length d := (List.cons.inj (show [b] = [Value.slice B Q.length d] from e1)).1
  rw [q0, q1]
  exact ⟨A, c, P, B, d, Q, rfl, hC, hc, hD, hd⟩

end Go.Proofs.Ytnegpjnjgdnmpaa
