/- What the small functions on lots come to, in plain words: odd, Same; and what the laws make of them. -/
import Derived.Test.YtnegpjnjgdnmpaaPure0
import Derived.Test.YtnegpjnjgdnmpaaHTheirs
import Derived.Test.YtnegpjnjgdnmpaaQ5
import Derived.Test.YtnegpjnjgdnmpaaQ5
namespace Go.Proofs.Ytnegpjnjgdnmpaa
open Go.RowKit Go.Proofs.Ytnegpjnjgdnmpaa.Q Go.Proofs.YtnegpjnjgdnmpaaW.PrintWords Go.Proofs.YtnegpjnjgdnmpaaW.PrintLast Go.Proofs.YtnegpjnjgdnmpaaW.PrintMore
set_option linter.unusedVariables false
set_option linter.unusedSimpArgs false

theorem odd_loop (Q : List Int) (hl : Q.length ≤ 1000000) : ∀ (d i k : Nat), i + d = Q.length → d < k → warpbeamlaw18_odd.l0 k Q (Q.length : Int) (i : Int) = some ((Q.drop i).any fun x => decide (x < 1))
  | 0, i, k, hd, hk => by
    obtain ⟨k, rfl⟩ : ∃ m, k = m + 1 := ⟨k - 1, by omega⟩
    rw [warpbeamlaw18_odd.l0, if_neg (by omega), List.drop_eq_nil_of_le (by omega)]
    rfl
  | d + 1, i, k, hd, hk => by
    obtain ⟨k, rfl⟩ : ∃ m, k = m + 1 := ⟨k - 1, by omega⟩
    have hi : i < Q.length := by omega
    have hr : rd Q (i : Int) = Q[i] := by
      unfold rd
      simp [List.getD_eq_getElem?_getD, hi]
    rw [warpbeamlaw18_odd.l0, if_pos (by omega), if_pos (by omega), if_pos (by omega), hr, List.drop_eq_getElem_cons hi, List.any_cons]
    by_cases hx : Q[i] < 1
    · rw [if_pos hx, decide_eq_true hx]
      rfl
    · rw [if_neg hx, decide_eq_false hx, wrap_next (by omega), odd_loop Q hl d (i + 1) k (by omega) (by omega)]
      rfl
theorem odd_f (P : List S37) (Q : List Int) (hl : Q.length ≤ 1000000) (k : Nat) (hk : Q.length < k) : warpbeamlaw18_odd.f k P Q = some (Q.any fun x => decide (x < 1)) := by
  have := odd_loop Q hl Q.length 0 k (by omega) hk
  unfold warpbeamlaw18_odd.f
  simpa using this
theorem same1_f (Q : List Int) (hl : Q.length ≤ 1000000) (k : Nat) (hk : Q.length < k) : warpbeamref01_Same.f k Q Q = some true := by
  unfold warpbeamref01_Same.f
  rw [if_pos rfl]
  exact all_loop (fun k i => warpbeamref01_Same.l0 k Q Q i) Q.length true (fun k i hi => by
    show warpbeamref01_Same.l0 (k + 1) Q Q i = _
    rw [warpbeamref01_Same.l0, if_pos (by omega), if_pos (by omega), if_pos (by omega), if_pos rfl, wrap_next (by omega)]) (fun k => by
    show warpbeamref01_Same.l0 (k + 1) Q Q Q.length = _
    rw [warpbeamref01_Same.l0, if_neg (by omega)]) Q.length 0 k (by omega) hk
theorem same_loop (P : List S37) (Q : List Int) (hl : P.length ≤ 1000000) (hl2 : Q.length ≤ 1000000) : ∀ (d i k : Nat), i + d = P.length → d + Q.length + 1 < k → warpbeamref18_Same.l0 k (i : Int) P Q P Q = some true
  | 0, i, k, hd, hk => by
    obtain ⟨k, rfl⟩ : ∃ m, k = m + 1 := ⟨k - 1, by omega⟩
    rw [warpbeamref18_Same.l0, if_neg (by omega), same1_f Q hl2 k (by omega)]
    rfl
  | d + 1, i, k, hd, hk => by
    obtain ⟨k, rfl⟩ : ∃ m, k = m + 1 := ⟨k - 1, by omega⟩
    rw [warpbeamref18_Same.l0, if_pos (by omega), if_pos (by omega), if_pos (by omega), if_neg (by simp), wrap_next (by omega)]
    exact same_loop P Q hl hl2 d (i + 1) k (by omega) (by omega)
theorem same_f (P : List S37) (Q : List Int) (hl : P.length ≤ 1000000) (hl2 : Q.length ≤ 1000000) (k : Nat) (hk : P.length + Q.length + 1 < k) : warpbeamref18_Same.f k P Q P Q = some true := by
  unfold warpbeamref18_Same.f
  rw [if_pos rfl]
  exact same_loop P Q hl hl2 P.length 0 k (by omega) (by omega)
theorem ou_th (l : List S37) : (l.map thS).map ouS = l := by
  rw [List.map_map]
  exact List.map_id'' (fun x => rfl) l

/-- What is told of the document's lot, to be read in a world. -/
def Rd (W : World) (P : List S37) (Q : List Int) (v : Value) : Prop :=
  ∃ A c B d, v = .agg #[.slice A P.length c, .slice B Q.length d] ∧ Kd.C k37 W A P.length P ∧ P.length ≤ c ∧ Kd.C (Kd.int .i64) W B Q.length Q ∧ Q.length ≤ d
theorem Rd.below {W W' : World} {P : List S37} {Q : List Int} {v : Value} (h : Rd W P Q v) (hb : Below W.heap.size W W') : Rd W' P Q v := by
  obtain ⟨A, c, B, d, rfl, h1, h2, h3, h4⟩ := h
  exact ⟨A, c, B, d, rfl, Kd.C_below h1 hb, h2, Kd.C_below h3 hb, h4⟩
theorem ours_rd {W : World} {ok : Nat → Prop} {A B : Option Addr} {c d : Nat} {P : List S43} {Q : List Int} (h : Lot W ok A c P B d Q) (hl : P.length ≤ 1000000) (hl2 : Q.length ≤ 1000000) :
    Calls Try.prog 16 #[.agg #[.slice A P.length c, .slice B Q.length d]] W fun e w' => ∃ v, e = .returned v ∧ Below W.heap.size W w' ∧ Rd w' (P.map ouS) Q v := by
  refine (ours_lot A c P B d Q W h.reads.1 h.reads.2.1 h.reads.2.2.1 h.reads.2.2.2 hl hl2).mono ?_
  rintro e w' ⟨A', c', B', d', rfl, hL, hB⟩
  refine ⟨_, rfl, hB, A', c', B', d', by rw [List.length_map], (Kd.V_reads' hL.1).2.2, (Kd.V_reads' hL.1).2.1, (Kd.V_reads' hL.2).2.2, (Kd.V_reads' hL.2).2.1⟩
theorem same_rd {W : World} {P : List S37} {Q : List Int} {v u : Value} (h : Rd W P Q v) (h' : Rd W P Q u) (hl : P.length ≤ 1000000) (hl2 : Q.length ≤ 1000000) :
    Calls Try.prog 17 #[v, u] W fun e w' => e = .returned (.bool true) ∧ Below W.heap.size W w' := by
  obtain ⟨A, c, B, d, rfl, h1, h2, h3, h4⟩ := h
  obtain ⟨A', c', B', d', rfl, h1', h2', h3', h4'⟩ := h'
  exact warpbeamref18_Same.calls (P.length + Q.length + 2) A c P B d Q A' c' P B' d' Q true W h1 h2 h3 h4 h1' h2' h3' h4' (same_f P Q hl hl2 _ (by omega))

end Go.Proofs.Ytnegpjnjgdnmpaa
