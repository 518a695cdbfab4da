/- Answers that the document fixes, by hand. -/
import Derived.Test.YtkecbdeekpbbjaaPureM
import Derived.Test.YtkecbdeekpbbjaaHRun
namespace Go.Proofs.Ytkecbdeekpbbjaa.Q
open Go.RowKit Go.Lib Go.Proofs.Ytkecbdeekpbbjaa Go.Proofs.YtkecbdeekpbbjaaW.PrintWords Go.Proofs.YtkecbdeekpbbjaaW.PrintLast Go.Proofs.YtkecbdeekpbbjaaW.PrintMore
set_option linter.unusedVariables false
set_option linter.unusedSimpArgs false
attribute [local go_sem high] eqA44

/-- One commit, step by step. -/
def t1 : List S54 := [⟨0, ⟨1, 5⟩, true⟩]
def aM : Nat → Mach
  | 0 => (startS (newS 1) t1).1
  | n + 1 => (stepM (aM n) 1).1
theorem aM_inv : ∀ n, Inv (aM n)
  | 0 => (Inv.new (by decide)).start t1
  | n + 1 => ((aM_inv n).step 1).1.inv
theorem a_start : startS (newS 1) t1 = (aM 0, 1, 0) := by
  have : (startS (newS 1) t1).2 = (1, 0) := by kernel_rfl
  rw [← this]
  rfl
theorem a_s0 : (stepM (aM 0) 1).2 = ((1 : Int), (0 : Int)) := by kernel_rfl
theorem a_s1 : (stepM (aM 1) 1).2 = ((2 : Int), (0 : Int)) := by kernel_rfl
theorem a_s2 : (stepM (aM 2) 1).2 = ((3 : Int), (0 : Int)) := by kernel_rfl
theorem a_s3 : (stepM (aM 3) 1).2 = ((4 : Int), (0 : Int)) := by kernel_rfl
theorem a_step (i : Nat) (h : i < 4) : (stepM (aM i) 1).2 = ((i : Int) + 1, 0) := by
  rcases i with _ | _ | _ | _ | i
  · exact a_s0
  · exact a_s1
  · exact a_s2
  · exact a_s3
  · omega
theorem a_over : stepM (aM 4) 1 = (aM 4, 4, 6) := by kernel_rfl
theorem a_read : varS (aM 4) 0 = (⟨⟨1, 5⟩, 0⟩, 0) := by kernel_rfl
theorem a_dec : (aM 4).decided = [1] := by kernel_rfl
theorem a_vals : (aM 4).vars.map Vr.val = [⟨1, 5⟩] := by kernel_rfl
theorem IsM.away {base : Nat} {ok : Nat → Prop} {W : World} {mb : Nat} {m : Mach} (h : IsM base ok W mb m) : IsM base (fun q => ok q ∧ q < W.heap.size) W mb m := h.mono fun q h1 h2 => ⟨h1, h2⟩

theorem C54_lit {W : World} {g : Nat} {x0 x1 x2 : Int} {x3 : Bool} (h : W.heap[g]? = some (.cells #[.int .i64 x0, .int .i64 x1, .int .i64 x2, .bool x3] 54 (0, 0))) : Kd.C k54 W (some ⟨g, 0, none⟩) [(⟨x0, ⟨x1, x2⟩, x3⟩ : S54)].length [⟨x0, ⟨x1, x2⟩, x3⟩] :=
  ⟨rfl, by show 1 ≤ 9223372036854775807; decide, fun _ => ⟨_, rfl, fun j p hj => by
    rcases j with _ | j
    · have : (⟨x0, ⟨x1, x2⟩, x3⟩ : S54) = p := by simpa using hj
      subst this
      exact ⟨[.int .i64 x0, .int .i64 x1, .int .i64 x2, .bool x3], rfl, k54_mk _ (⟨x0, ⟨x1, x2⟩, x3⟩ : S54), fun q u hu => by
        rw [Addr.add_lit]
        show W.cell? ⟨g, 0 + (0 * 4 + q), none⟩ = _
        rw [Nat.zero_mul, Nat.zero_add, Nat.zero_add]
        exact (blk_cell h q).trans (by simpa using hu)⟩
    · simp at hj⟩⟩
theorem wants (i : Nat) (h : i < 4) : (#[.int .i64 1, .int .i64 2, .int .i64 3, .int .i64 4] : Array Value)[i]? = some (.int .i64 ((i : Int) + 1)) := by
  rcases i with _ | _ | _ | _ | i
  · rfl
  · rfl
  · rfl
  · rfl
  · omega
theorem blk_away {ok : Nat → Prop} {W W' : World} {b : Nat} {o : Obj} (h : W.heap[b]? = some o) (hT : Turned ok W W') (hn : ¬ ok b) : W'.heap[b]? = some o := (hT.block b (blk_lt h) hn).trans h
set_option maxHeartbeats 1000000 in
set_option maxRecDepth 100000 in
theorem alive_calls (w : World) : Calls Try.prog 9 #[] w fun e w' => e = .returned (.bool true) ∧ Below w.heap.size w w' := by
  have hu44 := Try.underlying44
  have hu54 := Try.underlying54
  have HN := Lib.hid (new_calls 1 (by decide) w)
  go_enter Try.func9, Try.ntmps9
  go_wp2_with fail
  refine HN.out.mono ?_
  rintro e w1 ⟨mb, rfl, hM, hB⟩
  obtain ⟨W2, hW2, K2, K3, hB2, hz2⟩ := two_named w1 (.cells #[.int .i64 1, .int .i64 5] 44) (.cells #[.int .i64 0, .int .i64 1, .int .i64 5, .bool true] 54)
  have H2 := Lib.hid (And.intro (hM.away.below hB2) (And.intro (bAfter hB hB2) (And.intro K2 (And.intro K3 (And.intro hB.size hz2)))))
  have HC := Lib.hid (C54_lit K3)
  clear hM hB K2 K3 hB2 HN hz2
  go_wp2_with fail
  have HS := Lib.hid (start_calls w.heap.size _ W2 mb (newS 1) (some ⟨w1.heap.size + 1, 0, none⟩) 1 t1 H2.out.1 HC.out (by decide) H2.out.2.1.size (by decide))
  rw [a_start] at HS
  refine HS.out.mono ?_
  rintro e w3 ⟨rfl, hM3, hT3⟩
  have K2 := blk_away H2.out.2.2.1 hT3 (by have := H2.out.2.2.2.2.1; intro h; omega)
  have hz3 : w1.heap.size < w3.heap.size := by have := hT3.size; have := H2.out.2.2.2.2.2; omega
  have hM3' : IsM w.heap.size (fun q => w.heap.size ≤ q ∧ q ≠ w1.heap.size) w3 mb (aM 0) := hM3.mono fun q hq _ => by have := H2.out.2.2.2.2.1; have := H2.out.2.2.2.2.2; rcases hq with h | h <;> constructor <;> omega
  have hB3 : Below w.heap.size w w3 := H2.out.2.1.trans (hT3.base H2.out.2.1.size fun q h => h.1)
  have H3 := Lib.hid (And.intro hM3' (And.intro hB3 (And.intro K2 hz3)))
  obtain ⟨W4, hW4, K4, hB4⟩ : ∃ W4, w3.alloc (.cells #[.int .i64 1, .int .i64 2, .int .i64 3, .int .i64 4] 3) = W4 ∧ W4.heap[w3.heap.size]? = some (.cells #[.int .i64 1, .int .i64 2, .int .i64 3, .int .i64 4] 3 (0, 0)) ∧ Below w3.heap.size w3 W4 := ⟨_, rfl, heap_alloc_new _ _, bOne _⟩
  have H4 : Hid (IsM w.heap.size (fun q => w.heap.size ≤ q ∧ q ≠ w1.heap.size ∧ q ≠ w3.heap.size) W4 mb (aM 0) ∧ Below w.heap.size w W4 ∧ W4.heap[w1.heap.size]? = some (.cells #[.int .i64 1, .int .i64 5] 44 (0, 0)) ∧ W4.heap[w3.heap.size]? = some (.cells #[.int .i64 1, .int .i64 2, .int .i64 3, .int .i64 4] 3 (0, 0))) := Lib.hid ⟨(hM3'.away.below hB4).mono fun q hq _ => ⟨hq.1.1, hq.1.2, by have := hq.2; omega⟩, hB3.trans (hB4.mono hB3.size), blk_below K2 hB4, K4⟩
  clear hM3 hT3 K2 hz3 hM3' hB3 K4 hB4 HS HC
  go_wp2_with fail
  go_loopg [6, 7, 8, 34] 4 (fun kq _ _ _ v34 W => ∃ i : Nat, v34 = .int .i64 i ∧ Hid (kq + i = 4) ∧ Hid (IsM w.heap.size (fun q => w.heap.size ≤ q ∧ q ≠ w1.heap.size ∧ q ≠ w3.heap.size) W mb (aM i) ∧ Below w.heap.size w W ∧ W.heap[w1.heap.size]? = some (.cells #[.int .i64 1, .int .i64 5] 44 (0, 0)) ∧ W.heap[w3.heap.size]? = some (.cells #[.int .i64 1, .int .i64 2, .int .i64 3, .int .i64 4] 3 (0, 0))))
  case atStart => exact ⟨0, rfl, rfl, Lib.hid H4.out⟩
  case round =>
    obtain ⟨i, rfl, hk, hJ⟩ := hrel
    by_cases hi : i < 4
    · have hi2 : (i : Int) < 4 := by omega
      have hi0 : (0 : Int) ≤ i := by omega
      have a0 : wr.cell? ⟨w3.heap.size, i, none⟩ = some (.int .i64 ((i : Int) + 1)) := (blk_cell hJ.out.2.2.2 i).trans (wants i hi)
      have HS : Hid (Calls Try.prog 20 #[ptr mb, .int .i64 1] wr fun e w' => e = .returned (.tuple #[.int .i64 ((i : Int) + 1), .int .i64 0]) ∧ IsM w.heap.size (fun q => (w.heap.size ≤ q ∧ q ≠ w1.heap.size ∧ q ≠ w3.heap.size) ∨ wr.heap.size ≤ q) w' mb (aM (i + 1)) ∧ Turned (fun q => w.heap.size ≤ q ∧ q ≠ w1.heap.size ∧ q ≠ w3.heap.size) wr w') := Lib.hid ((step_calls w.heap.size _ wr mb (aM i) 1 hJ.out.1 (aM_inv i).mok hJ.out.2.1.size).mono fun e w' hh => ⟨by rw [hh.1, a_step i hi], hh.2.1, hh.2.2⟩)
      go_wp2_with fail
      refine HS.out.mono ?_
      rintro e w4 ⟨rfl, hM4, hT4⟩
      have H5 : Hid (IsM w.heap.size (fun q => w.heap.size ≤ q ∧ q ≠ w1.heap.size ∧ q ≠ w3.heap.size) w4 mb (aM (i + 1)) ∧ Below w.heap.size w w4 ∧ w4.heap[w1.heap.size]? = some (.cells #[.int .i64 1, .int .i64 5] 44 (0, 0)) ∧ w4.heap[w3.heap.size]? = some (.cells #[.int .i64 1, .int .i64 2, .int .i64 3, .int .i64 4] 3 (0, 0))) := Lib.hid ⟨hM4.mono fun q hq _ => by
          have h1 := blk_lt hJ.out.2.2.1
          have h2 := blk_lt hJ.out.2.2.2
          have h3 := hJ.out.2.1.size
          rcases hq with h | h
          · exact h
          · refine ⟨?_, ?_, ?_⟩ <;> omega, hJ.out.2.1.trans (hT4.base hJ.out.2.1.size fun q h => h.1), blk_away hJ.out.2.2.1 hT4 (fun h => h.2.1 rfl), blk_away hJ.out.2.2.2 hT4 (fun h => h.2.2 rfl)⟩
      clear hM4 hT4 a0 HS
      go_wp2_with fail
      obtain ⟨k1, rfl⟩ : ∃ q, gk = q + 1 := ⟨gk - 1, by have := hk.out; omega⟩
      go_roundg k1
      case measure => omega
      case rel => exact ⟨i + 1, by first | rfl | (congr 1), Lib.hid (by have := hk.out; omega), H5⟩
    · have hi2 : ¬ (i : Int) < 4 := by omega
      have hk0 : i = 4 := by have := hk.out; omega
      subst hk0
      have HR : Hid (Calls Try.prog 21 #[ptr mb, .int .i64 0] wr fun e w' => e = .returned (.tuple #[.agg #[.int .i64 1, .int .i64 5], .int .i64 0]) ∧ Below wr.heap.size wr w') := Lib.hid ((read_calls w.heap.size _ wr mb (aM 4) 0 hJ.out.1).mono fun e w' hh => ⟨by rw [hh.1, a_read]; rfl, hh.2⟩)
      go_wp2_with fail
      refine HR.out.mono ?_
      rintro e w4 ⟨rfl, hB4⟩
      obtain ⟨W5, hW5, K5, hB5⟩ : ∃ W5, w4.alloc (.cells #[.int .i64 1, .int .i64 5] 44) = W5 ∧ W5.heap[w4.heap.size]? = some (.cells #[.int .i64 1, .int .i64 5] 44 (0, 0)) ∧ Below wr.heap.size wr W5 := ⟨_, rfl, heap_alloc_new _ _, bAfter hB4 (bOne _)⟩
      have H5 : Hid (IsM w.heap.size (fun q => (w.heap.size ≤ q ∧ q ≠ w1.heap.size ∧ q ≠ w3.heap.size) ∧ q < wr.heap.size) W5 mb (aM 4) ∧ Below w.heap.size w W5 ∧ W5.heap[w1.heap.size]? = some (.cells #[.int .i64 1, .int .i64 5] 44 (0, 0)) ∧ W5.heap[w4.heap.size]? = some (.cells #[.int .i64 1, .int .i64 5] 44 (0, 0)) ∧ wr.heap.size ≤ w4.heap.size) := Lib.hid ⟨hJ.out.1.away.below hB5, hJ.out.2.1.trans (hB5.mono hJ.out.2.1.size), blk_below hJ.out.2.2.1 hB5, K5, hB4.size⟩
      clear K5 hB5 hB4 HR
      go_wp2_with fail
      have HS : Hid (Calls Try.prog 20 #[ptr mb, .int .i64 1] W5 (StepDone w.heap.size (fun q => (w.heap.size ≤ q ∧ q ≠ w1.heap.size ∧ q ≠ w3.heap.size) ∧ q < wr.heap.size) W5 mb (aM 4, 4, 6))) := Lib.hid (by
        have := step_calls w.heap.size _ W5 mb (aM 4) 1 H5.out.1 (aM_inv 4).mok H5.out.2.1.size
        rwa [a_over] at this)
      refine HS.out.mono ?_
      rintro e w6 ⟨rfl, hM6, hT6⟩
      have b1 := blk_away H5.out.2.2.1 hT6 (fun h => h.1.2.1 rfl)
      have b2 := blk_away H5.out.2.2.2.1 hT6 (fun h => by have := H5.out.2.2.2.2; omega)
      have H6 := Lib.hid (And.intro hM6 (And.intro (H5.out.2.1.trans (hT6.base H5.out.2.1.size fun q h => h.1.1)) (And.intro b1 b2)))
      clear hM6 hT6 b1 b2 HS
      go_wp2_with fail
      refine (decided_calls w.heap.size _ w6 mb (aM 4) H6.out.1 (by rw [a_dec]; decide)).mono ?_
      rintro e w7 ⟨v7, rfl, hR7, hB7⟩
      rw [a_dec] at hR7
      obtain ⟨A7, c7, rfl⟩ := Kd.R_slice hR7
      obtain ⟨ad7, rfl, a7⟩ := at_int (Kd.R_reads' hR7).2.2 0 (by decide)
      have H7 : Hid (IsM w.heap.size _ w7 mb (aM 4) ∧ Below w.heap.size w w7) := Lib.hid ⟨H6.out.1.below hB7, H6.out.2.1.trans (hB7.mono H6.out.2.1.size)⟩
      have g0 := blk_cell (blk_below H6.out.2.2.1 hB7) 0
      have g1 := blk_cell (blk_below H6.out.2.2.1 hB7) 1
      have g2 := blk_cell (blk_below H6.out.2.2.2 hB7) 0
      have g3 := blk_cell (blk_below H6.out.2.2.2 hB7) 1
      have a8 : w7.cell? ad7 = some (.int .i64 1) := by
        have h := a7
        rw [show ad7.add 0 = ad7 by unfold Addr.add; simp] at h
        exact h
      clear hR7 hB7 a7
      go_wp2_with fail
      refine (values_calls' w.heap.size _ w7 mb (aM 4) H7.out.1 (aM_inv 4).mok.vars).mono ?_
      rintro e w8 ⟨v8, rfl, hR8, hB8⟩
      rw [a_vals] at hR8
      obtain ⟨A8, c8, rfl⟩ := Kd.R_slice hR8
      have H8 := Lib.hid (H7.out.2.trans (hB8.mono H7.out.2.size))
      clear hR8 hB8
      go_wp2_with fail
      go_ret
      exact ⟨rfl, H8.out⟩
end Go.Proofs.Ytkecbdeekpbbjaa.Q
