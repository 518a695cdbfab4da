/- The arguments of the statements about blocks, opened; rows of steps, in plain words. -/
import Derived.Test.YtgnjkegnddekeaaOpen
import Derived.Test.YtgnjkegnddekeaaLoops
import Derived.Test.YtgnjkegnddekeaaHFuel
import Derived.Test.YtgnjkegnddekeaaAliveM
import Derived.Test.YtgnjkegnddekeaaQ6
import Derived.OpenShut
import Derived.KernelRfl
namespace Go.Proofs.Ytgnjkegnddekeaa.Q
open Go.RowKit Go.ChangeShapes Go.WideShapes Go.Lib Go.Proofs.Ytgnjkegnddekeaa Go.Proofs.YtgnjkegnddekeaaW.PrintWords Go.Proofs.YtgnjkegnddekeaaW.PrintLast Go.Proofs.YtgnjkegnddekeaaW.PrintMore
set_option linter.unusedVariables false
set_option linter.unusedSimpArgs false
set_option maxRecDepth 100000

/-- An array all of whose elements are such. -/
theorem flat_array {P : Program} {t e : TypeId} {n : Nat} {ls : List Leaf} (ht : P.underlying t = some (.array n e)) (he : Flat P e ls) (hc : P.cellsOf e = ls.length) (hct : P.cellsOf t = n * ls.length) : Flat P t (List.replicate n ls).flatten := by
  intro H enc w base spare held fuel cs x h
  obtain ⟨xs, m, rfl, -, hl, hxs, hx⟩ := DataW.trod_array ht h
  have tot : ∀ k, total (List.replicate k ls) = k * ls.length := fun k => by unfold total; simp
  refine fits_flatten _ cs (by rw [hl, hct, tot]) fun i l hi => ?_
  have hlt : i < n := by have := (List.getElem?_eq_some_iff.1 hi).1; simpa using this
  have hll : l = ls := by rw [List.getElem?_replicate, if_pos hlt] at hi; exact (Option.some.inj hi).symm
  subst hll
  have h3 := hx i hlt
  rw [List.getElem?_eq_getElem (by rw [hxs]; exact hlt), hc] at h3
  rw [List.take_replicate, tot, Nat.min_eq_left (by omega)]
  exact he H enc w base spare held m _ _ h3
theorem word_of {x : Int} (h : (Lit.int .i64 x).wf = true) : R64 x := by
  simp only [Lit.wf, Bool.and_eq_true, decide_eq_true_eq] at h
  have m1 : IntKind.i64.min = -9223372036854775808 := by decide
  have m2 : IntKind.i64.max = 9223372036854775807 := by decide
  rw [m1, m2] at h
  unfold R64
  omega
theorem flat_op : Flat Try.prog 97 [.int .i64, .int .i64, .int .i64, .int .i64, .int .i64] :=
  flat_struct [[.int .i64], [.int .i64], [.int .i64], [.int .i64], [.int .i64]] Try.underlying97 rfl (by kernel_rfl) (by kernel_rfl) fun i f ls hf hl => by
    rcases i with _ | _ | _ | _ | _ | i
    · cases hf; cases hl; exact flat_int (by kernel_rfl)
    · cases hf; cases hl; exact flat_int (by kernel_rfl)
    · cases hf; cases hl; exact flat_int (by kernel_rfl)
    · cases hf; cases hl; exact flat_int (by kernel_rfl)
    · cases hf; cases hl; exact flat_int (by kernel_rfl)
    · simp at hl
def goodOp (o : S97) : Prop := R64 o.f0 ∧ R64 o.f1 ∧ R64 o.f2 ∧ R64 o.f3 ∧ R64 o.f4
theorem op_of {W : World} {cs : List Value} (h : Fits [.int .i64, .int .i64, .int .i64, .int .i64, .int .i64] cs) : ∃ x : S97, k97.K W x cs ∧ goodOp x := by
  obtain ⟨a, r, rfl, ha, h⟩ := fits_int h
  obtain ⟨b, r, rfl, hb, h⟩ := fits_int h
  obtain ⟨c, r, rfl, hc, h⟩ := fits_int h
  obtain ⟨d, r, rfl, hd, h⟩ := fits_int h
  obtain ⟨e, r, rfl, he, h⟩ := fits_int h
  obtain rfl := fits_nil h
  exact ⟨⟨a, b, c, d, e⟩, k97_mk W ⟨a, b, c, d, e⟩, word_of ha, word_of hb, word_of hc, word_of hd, word_of he⟩
theorem flat_val : Flat Try.prog 24 [.int .i64, .int .i64] :=
  flat_struct [[.int .i64], [.int .i64]] Try.underlying24 rfl (by kernel_rfl) (by kernel_rfl) fun i f ls hf hl => by
    rcases i with _ | _ | i
    · cases hf; cases hl; exact flat_int (by kernel_rfl)
    · cases hf; cases hl; exact flat_int (by kernel_rfl)
    · simp at hl
def goodVal (v : S24) : Prop := R64 v.f0 ∧ R64 v.f1
theorem val_of {W : World} {cs : List Value} (h : Fits [.int .i64, .int .i64] cs) : ∃ x : S24, k24.K W x cs ∧ goodVal x := by
  obtain ⟨a, r, rfl, ha, h⟩ := fits_int h
  obtain ⟨b, r, rfl, hb, h⟩ := fits_int h
  obtain rfl := fits_nil h
  exact ⟨⟨a, b⟩, k24_mk W ⟨a, b⟩, word_of ha, word_of hb⟩
/-- A block that came in. -/
theorem ops_of {H : Type} {enc : TypeId × Value → H} {W : World} {base : Nat} {v : Value} {dt : DataW H} {p : List MemPlace} (o : Value.okWide Try.prog W .any base 22 v) (h : DataW.Trod enc Try.prog W 0 (fun _ => true) true 22 v dt p) :
    ∃ (A : Option Addr) (c : Nat) (l : List S97), v = .slice A l.length c ∧ l.length ≤ c ∧ Kd.C k97 W A l.length l ∧ ∀ x ∈ l, goodOp x := by
  obtain ⟨A, c, l, h1, h2, -, h3, h4⟩ := open_rows k97 goodOp z97 Try.underlying22 flat_op (by kernel_rfl) rfl (fun cs h => op_of h) o h
  exact ⟨A, c, l, h1, h2, h3, h4⟩
theorem regs_of : ∀ (n : Nat) {cs : List Value}, Fits (List.replicate n [Leaf.int .i64, .int .i64]).flatten cs → ∃ rs : List S32, rs.length = n ∧ cs = rc rs ∧ (∀ v ∈ rs, R64 v.f1) ∧ ∀ v ∈ rs, R64 v.f0
  | 0, cs, h => by
    obtain rfl := fits_nil h
    exact ⟨[], rfl, rfl, by simp, by simp⟩
  | n + 1, cs, h => by
    rw [List.replicate_succ, List.flatten_cons] at h
    obtain ⟨a, r, rfl, ha, h⟩ := fits_int h
    obtain ⟨b, r, rfl, hb, h⟩ := fits_int h
    obtain ⟨rs, h1, rfl, h2, h3⟩ := regs_of n h
    refine ⟨⟨a, b⟩ :: rs, by simp [h1], rfl, ?_, ?_⟩
    · intro v hv
      rcases List.mem_cons.1 hv with rfl | hv
      · exact word_of hb
      · exact h2 v hv
    · intro v hv
      rcases List.mem_cons.1 hv with rfl | hv
      · exact word_of ha
      · exact h3 v hv
/-- Values, registers, and fuel that came in. -/
theorem world_of {H : Type} {enc : TypeId × Value → H} {W : World} {base : Nat} {v : Value} {dt : DataW H} {p : List MemPlace} (o : Value.okWide Try.prog W .any base 54 v) (h : DataW.Trod enc Try.prog W 0 (fun _ => true) true 54 v dt p) :
    ∃ (NA : Option Addr) (nc : Nat) (now : List S24) (rs : List S32) (fuel : Int), v = .agg (worC (.slice NA now.length nc) rs fuel) ∧ rs.length = 8 ∧ now.length ≤ nc ∧ Kd.C k24 W NA now.length now ∧ (∀ v ∈ now, goodVal v) ∧ (∀ v ∈ rs, R64 v.f1) ∧ R64 fuel := by
  obtain ⟨cs, rfl, -⟩ := okWide_struct Try.underlying54 o
  obtain ⟨fuel, hf⟩ := h
  obtain ⟨xs, n, rfl, _, hl, hxs, hx⟩ := DataW.trod_struct Try.underlying54 hf
  have c54 : Try.prog.cellsOf 54 = 18 := by kernel_rfl
  have c52 : Try.prog.cellsOf 52 = 1 := by kernel_rfl
  have c26 : Try.prog.cellsOf 26 = 16 := by kernel_rfl
  have c3 : Try.prog.cellsOf 3 = 1 := by kernel_rfl
  rw [c54] at hl
  have hl' : cs.toList.length = 18 := hl
  have f24 : Flat Try.prog 26 (List.replicate 8 [Leaf.int .i64, .int .i64]).flatten := flat_array Try.underlying26 flat_val (by kernel_rfl) (by kernel_rfl)
  have x0 := hx 0 _ rfl
  have x1 := hx 1 _ rfl
  have x2 := hx 2 _ rfl
  have e3 : xs.length = 3 := hxs
  rw [List.getElem?_eq_getElem (by omega)] at x0 x1 x2
  have y0 : DataW.trod enc Try.prog W 0 (fun _ => true) true n 52 ((cs.toList.drop 0).take (Try.prog.cellsOf 52)) = some xs[0] := x0
  have y1 : DataW.trod enc Try.prog W 0 (fun _ => true) true n 26 ((cs.toList.drop 1).take (Try.prog.cellsOf 26)) = some xs[1] := x1
  have y2 : DataW.trod enc Try.prog W 0 (fun _ => true) true n 3 ((cs.toList.drop 17).take (Try.prog.cellsOf 3)) = some xs[2] := x2
  rw [c52] at y0
  rw [c26] at y1
  rw [c3] at y2
  obtain ⟨NA, nc, now, e0, q1, -, q2, q3⟩ := open_rowsT k24 goodVal z24 Try.underlying52 flat_val (by kernel_rfl) rfl (fun cs h => val_of h) y0
  obtain ⟨rs, r1, e1, r2, -⟩ := regs_of 8 (f24 H enc W 0 _ _ _ _ _ y1)
  obtain ⟨fu, r, e2, hw, hn⟩ := fits_int ((flat_int (P := Try.prog) (t := 3) (k := .i64) (by kernel_rfl)) H enc W 0 _ _ _ _ _ y2)
  obtain rfl := fits_nil hn
  refine ⟨NA, nc, now, rs, fu, ?_, r1, q1, q2, q3, r2, word_of hw⟩
  congr 1
  apply Array.toList_inj.1
  unfold worC
  rw [List.toList_toArray]
  have s1 : cs.toList = cs.toList.take 1 ++ cs.toList.drop 1 := (List.take_append_drop 1 _).symm
  have s2 : cs.toList.drop 1 = (cs.toList.drop 1).take 16 ++ (cs.toList.drop 1).drop 16 := (List.take_append_drop 16 _).symm
  have s3 : (cs.toList.drop 1).drop 16 = (cs.toList.drop 17).take 1 := by
    rw [List.drop_drop, List.take_of_length_le (by rw [List.length_drop, hl']; omega)]
  have e0' : cs.toList.take 1 = [.slice NA now.length nc] := by simpa using e0
  rw [s1, e0', s2, e1, s3, e2]
  rfl

/-! ### Rows of steps -/
def our80 (s : S80) : S114 := ⟨s.f0, ⟨s.f1.f0, s.f1.f1⟩, s.f2⟩
theorem ours_f (l : List S80) (hl : l.length ≤ 1000000) (k : Nat) (hk : l.length < k) : warpbeamlaw08_Ours.f k l = some (l.map our80) :=
  conv_all (fun k acc i => warpbeamlaw08_Ours.l0 k acc l l.length i) our80 z80 l 1000000 hl (fun k acc i hi ha => by
    show warpbeamlaw08_Ours.l0 (k + 1) acc l l.length i = _
    rw [warpbeamlaw08_Ours.l0, if_pos (by omega), if_pos (by omega), if_pos (by omega), if_pos (by omega), wrap_next (by omega)]
    rfl) (fun k acc => by
    show warpbeamlaw08_Ours.l0 (k + 1) acc l l.length l.length = _
    rw [warpbeamlaw08_Ours.l0, if_neg (by omega)]) k hk
theorem same_f (l : List S114) (hl : l.length ≤ 1000000) (k : Nat) (hk : l.length < k) : warpbeamref08_Same.f k l l = some true := by
  unfold warpbeamref08_Same.f
  rw [if_pos rfl]
  exact all_loop (fun k i => warpbeamref08_Same.l0 k l l i) l.length true (fun k i hi => by
    show warpbeamref08_Same.l0 (k + 1) l l i = _
    rw [warpbeamref08_Same.l0, if_pos (by omega), if_pos (by omega), if_pos (by omega), if_neg (by simp), wrap_next (by omega)]) (fun k => by
    show warpbeamref08_Same.l0 (k + 1) l l l.length = _
    rw [warpbeamref08_Same.l0, if_neg (by omega)]) l.length 0 k (by omega) hk
theorem ours_calls (A : Option Addr) (c : Nat) (l : List S80) (w : World) (h : Kd.C k80 w A l.length l) (hc : l.length ≤ c) (hl : l.length ≤ 1000000) :
    Calls Try.prog 24 #[.slice A l.length c] w fun e w' => ∃ v, e = .returned v ∧ Kd.R k114 114 w' w.heap.size (fun _ => True) v (l.map our80) ∧ Below w.heap.size w w' :=
  warpbeamlaw08_Ours.calls (l.length + 1) A c l _ w h hc (ours_f l hl _ (by omega))
/-! ### What any run is -/
theorem run_tl (l : List S74) (now : List S32) (f : Int) (hl : ∀ o ∈ l, R64 o.f2 ∧ R64 o.f4) (hn : ∀ v ∈ now, R64 v.f1) (hf1 : f ≤ 1000000000) : ∀ (n : Nat) (c : CpuD) (t : List S80), InvR c t → (runP l now f n c t).t.length ≤ 200
  | 0, c, t, hI => hI.tl
  | n + 1, c, t, hI => by
    obtain ⟨h1, h2⟩ := step_inv (vars := now.length) (fuel := f) hI.ic hl
    unfold runP
    dsimp only
    split
    · exact hI.tl
    · rename_i hk
      obtain ⟨h3, h4, h5, h6, h7, h8⟩ := h2 hk
      have h9 := answer_inv (a := (stepP l c now.length f).2) h1 hI.tl hI.tr hn h8
      split
      · exact run_tl l now f hl hn hf1 n _ _ ⟨h9.1, by rw [h9.2.1, h4]; have := hI.u0; unfold wrap64; omega, h9.2.2.1, h9.2.2.2⟩
      · exact h9.2.2.1
theorem inv_first {rs : List S32} (h8 : rs.length = 8) (hr : ∀ v ∈ rs, R64 v.f1) : InvR ⟨0, 0, rs, []⟩ [] :=
  ⟨⟨⟨h8, hr⟩, by simp, by simp⟩, by simp, by simp, by simp⟩
end Go.Proofs.Ytgnjkegnddekeaa.Q
