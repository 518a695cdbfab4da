/- Answers that the document fixes, by hand. -/
import Derived.Test.YtkijjgdcbgmglaaHGraph
import Derived.Test.YtkijjgdcbgmglaaHSpans
import Derived.Test.YtkijjgdcbgmglaaHEntries
namespace Go.Proofs.Ytkijjgdcbgmglaa.Q
open Go.RowKit Go.Lib Go.Maps Go.Proofs.Ytkijjgdcbgmglaa Go.Proofs.YtkijjgdcbgmglaaW.PrintWords Go.Proofs.YtkijjgdcbgmglaaW.PrintLast Go.Proofs.YtkijjgdcbgmglaaW.PrintMore
set_option linter.unusedVariables false
set_option linter.unusedSimpArgs false
theorem flat_get {α : Type} (enc : α → List Value) (sz : Nat) (he : ∀ x, (enc x).length = sz) : ∀ (xs : List α) (j : Nat) (p : α) (i : Nat) (u : Value), xs[j]? = some p → (enc p)[i]? = some u → (xs.flatMap enc)[j * sz + i]? = some u
  | [], j, p, i, u, h, _ => by simp at h
  | x :: l, 0, p, i, u, h, hu => by
    simp at h
    subst h
    rw [List.flatMap_cons, Nat.zero_mul, Nat.zero_add, List.getElem?_append_left (List.getElem?_eq_some_iff.1 hu).1]
    exact hu
  | x :: l, j + 1, p, i, u, h, hu => by
    rw [List.flatMap_cons, List.getElem?_append_right (by rw [he, Nat.succ_mul]; omega), he, show (j + 1) * sz + i - sz = j * sz + i by rw [Nat.succ_mul]; omega]
    exact flat_get enc sz he l j p i u (by simpa using h) hu
theorem C_lit {α : Type} (d : Kd α) (enc : α → List Value) (hK : ∀ W x, d.K W x (enc x)) {W : World} {b : Nat} {t : TypeId} {fr : Nat × Nat} {cs : Array Value} (xs : List α) (h : W.heap[b]? = some (.cells cs t fr)) (hcs : cs = (xs.flatMap enc).toArray) (hl : xs.length ≤ 1000000) : d.C W (some ⟨b, 0, none⟩) xs.length xs := by
  subst hcs
  have he : ∀ x, (enc x).length = d.sz := fun x => d.K_len (hK W x)
  refine ⟨rfl, by omega, fun _ => ⟨_, rfl, fun j p hj => ⟨enc p, he p, hK W p, fun i u hu => ?_⟩⟩⟩
  rw [Addr.add_mid, Nat.zero_add, cell_of_row W b _ _ t fr h]
  simpa using flat_get enc d.sz he xs j p i u hj hu
/-- Five events. -/
def five : List S44 := [⟨0, 1, 0, ⟨0, 0⟩⟩, ⟨0, 2, 0, ⟨0, 0⟩⟩, ⟨1, 1, 0, ⟨1, 0⟩⟩, ⟨2, 2, 0, ⟨1, 1⟩⟩, ⟨3, 2, 0, ⟨0, 0⟩⟩]
abbrev encE (e : S44) : List Value := [.int .i64 e.f0, .int .i64 e.f1, .int .i64 e.f2, .int .i64 e.f3.f0, .int .i64 e.f3.f1]
set_option maxRecDepth 100000 in
theorem five_is : (livedL five).isSome = true := by decide +kernel
set_option maxRecDepth 100000 in
theorem four_no : (livedL (five.drop 1)).isSome = false := by decide +kernel
set_option maxRecDepth 100000 in
theorem five_graph : (graphL (allL five))[0]? = some 2 ∧ (graphL (allL five))[1]? = some 0 ∧ (graphL (allL five)).length = 32 := by decide +kernel
set_option maxRecDepth 100000 in
theorem five_len : (allL five).length = 2 := by decide +kernel
set_option maxRecDepth 100000 in
theorem five_entries : (entriesL (allL five)).length = 2 ∧ (rd_T47 (entriesL (allL five)) 1).f1 = true ∧ (rd_T47 (entriesL (allL five)) 1).f4.length = 1 ∧ (rd_T47 (entriesL (allL five)) 0).f3.length = 1 := by decide +kernel
set_option maxRecDepth 100000 in
theorem five_spans : ((allL five).map spL) = [(0, 9007199254740992), (1, 4)] := by decide +kernel
theorem one_num : fo 1 = 4607182418800017408 := by decide +kernel
theorem four_num : fo 4 = 4616189618054758400 := by decide +kernel
theorem five_values : (allL five).map spC = [.complex .f64 0 4845873199050653696, .complex .f64 4607182418800017408 4616189618054758400] := by
  have h : (allL five).map spC = ((allL five).map spL).map (fun q => Value.complex .f64 (fo q.1) (fo q.2)) := by rw [List.map_map]; rfl
  rw [h, five_spans]
  simp only [List.map_cons, List.map_nil, fo_top, fo_zero, one_num, four_num]
def warpbeamlaw11_alive.f : Option (Bool) := some true
set_option maxRecDepth 100000 in
set_option maxHeartbeats 4000000 in
theorem warpbeamlaw11_alive.calls (r : Bool) (w : World) (h : warpbeamlaw11_alive.f = some r) :
    Calls Try.prog 9 #[] w fun e w' => e = .returned (.bool r) ∧ Below w.heap.size w w' := by
  injection h with h
  subst h
  have hu27 := Try.underlying27
  have hu26 := Try.underlying26
  have hu25 := Try.underlying25
  have hu44 := Try.underlying44
  have hu47 := Try.underlying47
  have hu51 := Try.underlying51
  obtain ⟨W1, hW1, K1, hB1⟩ : ∃ V, w.alloc (.cells #[.int .i64 1, .int .i64 1] 42) = V ∧ V.heap[w.heap.size]? = some (.cells #[.int .i64 1, .int .i64 1] 42 (0, 0)) ∧ Below w.heap.size w V := ⟨_, rfl, heap_alloc_new _ _, bOne _⟩
  have q0 := blk_cell K1 0
  have q1 := blk_cell K1 1
  obtain ⟨W2, hW2, K2, hB2⟩ : ∃ V, W1.alloc (.cells #[.int .i64 0, .int .i64 1, .int .i64 0, .int .i64 0, .int .i64 0, .int .i64 0, .int .i64 2, .int .i64 0, .int .i64 0, .int .i64 0, .int .i64 1, .int .i64 1, .int .i64 0, .int .i64 1, .int .i64 0, .int .i64 2, .int .i64 2, .int .i64 0, .int .i64 1, .int .i64 1, .int .i64 3, .int .i64 2, .int .i64 0, .int .i64 0, .int .i64 0] 44) = V ∧ V.heap[W1.heap.size]? = some (.cells #[.int .i64 0, .int .i64 1, .int .i64 0, .int .i64 0, .int .i64 0, .int .i64 0, .int .i64 2, .int .i64 0, .int .i64 0, .int .i64 0, .int .i64 1, .int .i64 1, .int .i64 0, .int .i64 1, .int .i64 0, .int .i64 2, .int .i64 2, .int .i64 0, .int .i64 1, .int .i64 1, .int .i64 3, .int .i64 2, .int .i64 0, .int .i64 0, .int .i64 0] 44 (0, 0)) ∧ Below W1.heap.size W1 V := ⟨_, rfl, heap_alloc_new _ _, bOne _⟩
  have hC : Kd.C k44 W2 (some ⟨W1.heap.size, 0, none⟩) five.length five := C_lit k44 encE (fun W x => k44_mk W x) five K2 rfl (by decide)
  have HG := Lib.hid (graph_calls (some ⟨W1.heap.size, 0, none⟩) 5 five W2 hC)
  have HH := Lib.hid (And.intro hC (bAfter hB1 hB2))
  clear K1 hB1 hB2 K2 hC
  go_enter Try.func9, Try.ntmps9
  go_wp2_with fail
  refine HG.out.mono ?_
  rintro e w3 ⟨rfl, hB3⟩
  rw [five_is]
  obtain ⟨m, hm⟩ : ∃ m, graphL (allL five) = m := ⟨_, rfl⟩
  have hm0 := five_graph
  rw [hm] at hm0 ⊢
  have hsz : (mc m).size = 32 := by rw [mc_size]; exact hm0.2.2
  obtain ⟨W4a, W4, hW4, hS4, K4, hB4⟩ := laid (P := Try.prog) w3 27 [.int .u64 0, .int .u64 0, .int .u64 0, .int .u64 0, .int .u64 0, .int .u64 0, .int .u64 0, .int .u64 0, .int .u64 0, .int .u64 0, .int .u64 0, .int .u64 0, .int .u64 0, .int .u64 0, .int .u64 0, .int .u64 0, .int .u64 0, .int .u64 0, .int .u64 0, .int .u64 0, .int .u64 0, .int .u64 0, .int .u64 0, .int .u64 0, .int .u64 0, .int .u64 0, .int .u64 0, .int .u64 0, .int .u64 0, .int .u64 0, .int .u64 0, .int .u64 0] (mc m).toList (by simp only [Array.length_toList]; rw [hsz]; rfl) (by simp only [Array.length_toList]; rw [sz27, hsz]) (mc_one m)
  simp only [Array.toArray_toList] at hS4 K4
  have HM := Lib.hid (And.intro hm0 (And.intro K4 (And.intro (Kd.C_below HH.out.1 (bAfter hB3 hB4)) (bAfter HH.out.2 (bAfter hB3 hB4)))))
  clear hm hm0 hsz K4 hB4 hB3 HG
  go_wp2_with (refine wpList_st rfl rfl hS4 ?_)
  refine (history_Entries.calls (some ⟨W1.heap.size, 0, none⟩) 5 five _ W4 HM.out.2.2.1 (by decide) rfl).mono ?_
  rintro e w5 ⟨v5, rfl, hR5, hB5⟩
  obtain ⟨g5, c5, rfl, -⟩ := Kd.R_form hR5 (by rw [five_entries.1]; decide)
  have HE := Lib.hid (And.intro (Kd.R_reads' hR5).2.2 hB5)
  clear hR5 hB5
  go_wp2_with fail
  refine (spans_calls (some ⟨W1.heap.size, 0, none⟩) 5 five w5 (Kd.C_below HM.out.2.2.1 HE.out.2)).mono ?_
  rintro e w6 ⟨v6, rfl, hR6, hB6⟩
  have HS := Lib.hid (And.intro hR6 (bAfter HE.out.2 hB6))
  have HE6 := Lib.hid (Kd.C_below HE.out.1 hB6)
  clear hR6 hB6
  go_wp2_with fail
  refine (history_Ids.calls (some ⟨W1.heap.size, 0, none⟩) 5 five _ w6 (Kd.C_below HM.out.2.2.1 HS.out.2) (by decide) rfl).mono ?_
  rintro e w7 ⟨v7, rfl, hR7, hB7⟩
  have HI := Lib.hid (And.intro hR7 (bAfter HS.out.2 hB7))
  have HS7 := Lib.hid (pw_own_below HS.out.1 hB7)
  have HE7 := Lib.hid (Kd.C_below HE6.out hB7)
  clear hR7 hB7
  go_wp2_with fail
  refine (history_Right.calls (some ⟨W1.heap.size, 0, none⟩) 5 five true w7 (Kd.C_below HM.out.2.2.1 HI.out.2) (by decide) (by unfold history_Right.f; rw [five_is])).mono ?_
  rintro e w8 ⟨rfl, hB8⟩
  have HB8 := Lib.hid hB8
  clear hB8
  have hC4 : Kd.C k44 w8 (some ⟨W1.heap.size, 5, none⟩) (five.drop 1).length (five.drop 1) := Kd.C_drop (c := 5) (m := 1) (Kd.C_below HM.out.2.2.1 (bAfter HI.out.2 HB8.out)) (by decide) (by decide)
  have HC4 := Lib.hid hC4
  clear hC4
  go_wp2_with fail
  refine (history_Right.calls (some ⟨W1.heap.size, 5, none⟩) 4 (five.drop 1) false w8 HC4.out (by decide) (by unfold history_Right.f; rw [four_no])).mono ?_
  rintro e w9 ⟨rfl, hB9⟩
  have HB9 := Lib.hid (bAfter HB8.out hB9)
  clear hB9
  have hK9 := blk_below (blk_below HM.out.2.1 HI.out.2) HB9.out
  have c40 : w9.cell? ⟨w3.heap.size, 0, none⟩ = some (.int .u64 2) := (blk_cell hK9 0).trans (mc_get HM.out.1.1)
  have c41 : w9.cell? ⟨w3.heap.size, 1, none⟩ = some (.int .u64 0) := (blk_cell hK9 1).trans (mc_get HM.out.1.2.1)
  clear hK9
  have hEn := five_entries
  have hE9 := Kd.C_below HE7.out HB9.out
  generalize entriesL (allL five) = E at *
  obtain ⟨el, e1, e2, e3⟩ := hEn
  obtain ⟨ad, A3, c3, A4, c4, ea, x0, x1, x2, x3, x4, -⟩ := at_T47 hE9 1 (by decide) (by rw [el]; decide)
  obtain ⟨ad2, B3, d3, B4, d4, ee, y0, y1, y2, y3, y4, -⟩ := at_T47 hE9 0 (by decide) (by rw [el]; decide)
  injection ee with ee
  subst ee
  injection ea with ea
  subst ea
  rw [e1] at x1
  rw [e2] at x4
  rw [e3] at y3
  have z1 : w9.cell? ⟨g5, 6, none⟩ = some (.bool true) := x1
  have z4 : w9.cell? ⟨g5, 9, none⟩ = some (.slice A4 1 c4) := x4
  have z3 : w9.cell? ⟨g5, 3, none⟩ = some (.slice B3 1 d3) := y3
  rw [el]
  have hS9 := pw_own_below HS7.out HB9.out
  rw [five_values, five_len] at hS9
  rcases own_at_ hS9 with ⟨-, hz⟩ | ⟨g6, cp6, rfl, -, -, -, hc6⟩
  · cases hz
  have s0 := (hc6 0 _ rfl).1
  have s1 := (hc6 1 _ rfl).1
  have hR9 := Kd.R_below HI.out.1 HB9.out
  rw [five_len] at hR9
  obtain ⟨g7, cp7, rfl, -, -, -⟩ := Kd.R_form hR9 (by decide)
  obtain ⟨-, -, hC7⟩ := Kd.R_reads' hR9
  obtain ⟨ad7, cc, e7, -, hk7, hc7⟩ := Kd.C_get hC7 0 1 (by decide) (by decide)
  injection e7 with e7
  subst e7
  have i1 : w9.cell? ⟨g7, 1, none⟩ = some (.int .i64 2) := by
    have : cc = [.int .i64 2] := hk7
    subst this
    exact hc7 0 _ rfl
  have hil : (idsOf 2).length = 2 := rfl
  rw [hil]
  have hEND : Calls Try.prog 28 #[.complex .f64 0 4845873199050653696] w9 fun e w' => e = .returned (.int .i64 9007199254740992) ∧ w9 = w' := end_num 0 4845873199050653696 (some (0, 9007199254740992)) w9 ⟨by decide, by decide, fo_zero.symm, fo_top.symm⟩
  have HEND := Lib.hid hEND
  have HB := Lib.hid (bAfter HI.out.2 HB9.out)
  clear hE9 hS9 hR9 hC7 hk7 hc7 hc6 hEND hil x0 x1 x2 x3 x4 y3 y0 y1 y2 y4 el e1 e2 e3
  go_wp2_with fail
  refine HEND.out.mono ?_
  rintro e w10 ⟨rfl, rfl⟩
  clear HEND
  go_wp2_with fail
  go_ret
  exact ⟨rfl, bAfter HM.out.2.2.2 HB.out⟩
end Go.Proofs.Ytkijjgdcbgmglaa.Q
