/- What a transaction leaves, by hand. -/
import Derived.Test.YtaagbiaddgohkaaHReads
namespace Go.Proofs.Ytaagbiaddgohkaa.Q
open Go.RowKit Go.Lib Go.Shelf Go.Maps Go.Proofs.Ytaagbiaddgohkaa Go.Proofs.YtaagbiaddgohkaaW.PrintWords Go.Proofs.YtaagbiaddgohkaaW.PrintLast Go.Proofs.YtaagbiaddgohkaaW.PrintMore
set_option linter.unusedVariables false
set_option linter.unusedSimpArgs false

theorem writesF_take (l : List S39) {i : Nat} (hi : i < l.length) : writesF (l.take (i + 1)) = putW (writesF (l.take i)) (l.getD i z39) := by
  rw [List.take_add_one, show l[i]? = some (l.getD i z39) by simp [List.getD_eq_getElem?_getD, hi]]
  exact writesF_snoc _ _

set_option maxRecDepth 100000 in
set_option maxHeartbeats 4000000 in
theorem writes_calls (A : Option Addr) (c : Nat) (l : List S39) (w : World) (hC : Kd.C k39 w A l.length l) (hz : l.length ≤ 1000000) :
    Calls Try.prog 12 #[.slice A l.length c] w fun e w' => ∃ A c, e = .returned (.slice A (writesL l).length c) ∧ Kd.C k39 w' A (writesL l).length (writesL l) ∧ (writesL l).length ≤ c ∧ Below w.heap.size w w' := by
  have hu := Try.underlying39
  have hu29 := Try.underlying29
  have hu53 := Try.underlying53
  have hk3 := int_keyed Try.underlying3
  have hmm := @run_makeMap Try.prog
  have HC := Lib.hid (And.intro hC hz)
  clear hC hz
  go_enter Try.func12, Try.ntmps12
  go_wp2_with fail
  have m0 := World.ownsMap_made w Try.prog 3 r39
  have hB0 : Below w.heap.size w (w.alloc (.map #[] 0)) := bOne _
  have HM := Lib.hid (And.intro m0 hB0)
  clear m0 hB0 hmm
  generalize w.alloc (.map #[] 0) = W0 at *
  go_loopg [5, 9] l.length (fun kq _ v9 W => ∃ i : Nat, v9 = .int .i64 i ∧ Hid (kq + i = l.length) ∧ Hid ((∃ D, W.ownsMap Try.prog 3 r39 w.heap.size i D ∧ Is D (writesF (l.take i))) ∧ Below w.heap.size w W))
  case atStart => exact ⟨0, rfl, by simp [Hid], Lib.hid ⟨⟨_, HM.out.1, Is.nil⟩, HM.out.2⟩⟩
  case round =>
    obtain ⟨i, rfl, hk, hJ⟩ := hrel
    obtain ⟨⟨D, hD, hI⟩, hB⟩ := hJ.out
    clear HM hJ
    by_cases hi : i < l.length
    · have hi2 : (i : Int) < l.length := by omega
      have hi0 : (0 : Int) ≤ i := by omega
      obtain ⟨ad, rfl, a0, a1, a2, a3⟩ := at_T39 (Kd.C_below HC.out.1 hB) (i : Int) hi0 hi2
      have hx : writesF (l.take (i + 1)) = putW (writesF (l.take i)) (rd_T39 l i) := writesF_take l hi
      simp only [Int.toNat_natCast] at a0 a1 a2 a3
      generalize rd_T39 l (i : Int) = x at *
      obtain ⟨s0, ⟨s1, s2⟩, s3⟩ := x
      dsimp only at a0 a1 a2 a3
      have HX := Lib.hid hx
      clear hx
      obtain ⟨W3, hW3, B3, hB3⟩ : ∃ W3, wr.alloc (.cells #[.int .i64 s0, .int .i64 s1, .int .i64 s2, .bool s3] 39) = W3 ∧ W3.heap[wr.heap.size]? = some (.cells #[.int .i64 s0, .int .i64 s1, .int .i64 s2, .bool s3] 39 (0, 0)) ∧ Below wr.heap.size wr W3 := ⟨_, rfl, heap_alloc_new _ _, bOne _⟩
      have b0 := blk_cell B3 0
      have b1 := blk_cell B3 1
      have b2 := blk_cell B3 2
      have b3 := blk_cell B3 3
      have f0 := blk_frozen B3 0
      have f1 := blk_frozen B3 1
      have f2 := blk_frozen B3 2
      have f3 := blk_frozen B3 3
      have hD3 : W3.ownsMap Try.prog 3 r39 w.heap.size i D := by rw [← hW3]; exact hD.alloc _
      have HB := Lib.hid (And.intro (show Below w.heap.size w W3 from hB.trans (hB3.mono hB.size)) hI)
      have HK := Lib.hid (show i + 1 ≤ l.length from hi)
      have HLT := Lib.hid hD.lt
      clear hB B3 hB3 hI hD
      have fin : ∀ W4 D4, W4.ownsMap Try.prog 3 r39 w.heap.size (i + 1) D4 → Is D4 (putW (writesF (l.take i)) ⟨s0, ⟨s1, s2⟩, s3⟩) → Below w.heap.size w W4 → Hid ((∃ D, W4.ownsMap Try.prog 3 r39 w.heap.size (i + 1) D ∧ Is D (writesF (l.take (i + 1)))) ∧ Below w.heap.size w W4) := fun W4 D4 h1 h2 h3 => Lib.hid ⟨⟨D4, h1, by rw [HX.out]; exact h2⟩, h3⟩
      have HF := Lib.hid fin
      clear fin
      by_cases c1 : s3 = true
      · subst c1
        by_cases c2 : 0 ≤ s0
        · by_cases c3 : s0 < 64
          · have hwf : (Lit.int .i64 s0).wf = true := wf_i64 (by omega) (by omega)
            go_wp2_with (first | (at_mapUpdate; refine wpList_mapUpdate_own _ rfl _ _ _ 53 rfl 3 39 hk3 hu53 r39 w.heap.size i D rfl hD3 (by have := HC.out.2; simp only [maxLen]; omega) _ _ _ rfl rfl (Maps.keyOf_int_mk Try.underlying3 hwf) (.held ⟨s0, ⟨s1, s2⟩, true⟩) [] rfl ?_; intro w1 hown1 hgrow1) | fail)
            have hB4 := HB.out.1.grown hgrow1 HB.out.1.size (fun k e => by injection e with e; omega)
            have HN := Lib.hid (HF.out w1 _ hown1 (by have := HB.out.2.put s0 ⟨s0, ⟨s1, s2⟩, true⟩; unfold putW; rw [if_pos ⟨rfl, c2, c3⟩]; exact this) hB4)
            clear hown1 hB4 hgrow1
            go_wp2_with fail
            obtain ⟨k1, rfl⟩ : ∃ m, gk = m + 1 := ⟨gk - 1, by have := hk.out; omega⟩
            go_roundg k1
            case measure => omega
            case rel => exact ⟨i + 1, by first | rfl | exact congrArg _ (wrap_next (by have := HC.out.2; omega)), by have := hk.out; exact Lib.hid (by omega), HN.out⟩
          · have HN := Lib.hid (HF.out W3 D (hD3.mono (by omega)) (by unfold putW; rw [if_neg (fun h => c3 h.2.2)]; exact HB.out.2) HB.out.1)
            go_wp2_with fail
            obtain ⟨k1, rfl⟩ : ∃ m, gk = m + 1 := ⟨gk - 1, by have := hk.out; omega⟩
            go_roundg k1
            case measure => omega
            case rel => exact ⟨i + 1, by first | rfl | exact congrArg _ (wrap_next (by have := HC.out.2; omega)), by have := hk.out; exact Lib.hid (by omega), HN.out⟩
        · have HN := Lib.hid (HF.out W3 D (hD3.mono (by omega)) (by unfold putW; rw [if_neg (fun h => c2 h.2.1)]; exact HB.out.2) HB.out.1)
          go_wp2_with fail
          obtain ⟨k1, rfl⟩ : ∃ m, gk = m + 1 := ⟨gk - 1, by have := hk.out; omega⟩
          go_roundg k1
          case measure => omega
          case rel => exact ⟨i + 1, by first | rfl | exact congrArg _ (wrap_next (by have := HC.out.2; omega)), by have := hk.out; exact Lib.hid (by omega), HN.out⟩
      · obtain rfl : s3 = false := by simpa using c1
        clear c1
        have HN := Lib.hid (HF.out W3 D (hD3.mono (by omega)) (by unfold putW; rw [if_neg (fun h => by cases h.1)]; exact HB.out.2) HB.out.1)
        go_wp2_with fail
        obtain ⟨k1, rfl⟩ : ∃ m, gk = m + 1 := ⟨gk - 1, by have := hk.out; omega⟩
        go_roundg k1
        case measure => omega
        case rel => exact ⟨i + 1, by first | rfl | exact congrArg _ (wrap_next (by have := HC.out.2; omega)), by have := hk.out; exact Lib.hid (by omega), HF.out _ D ((hD3.mono (by omega)).setCell (by have := HLT.out; show w.heap.size ≠ wr.heap.size; omega) _) (by unfold putW; rw [if_neg (fun h => by cases h.1)]; exact HB.out.2) (HB.out.1.setCell (p := ⟨wr.heap.size, 3, none⟩) (by have := HLT.out; show w.heap.size ≤ wr.heap.size; omega) _)⟩
    · have hil : ¬ (i : Int) < l.length := by omega
      have hle : l.length ≤ i := by omega
      have HW := Lib.hid (listed_calls w.heap.size i D (writesF l) wr hD (by rw [List.take_of_length_le hle] at hI; exact hI) (good_writes l) (by have := HC.out.2; have := hk.out; omega))
      have HB := Lib.hid hB
      clear hD hI hB
      go_wp2_with fail
      refine HW.out.mono ?_
      rintro e w2 ⟨A2, c2, rfl, hC2, hc2, hB2⟩
      have HN := Lib.hid (And.intro hC2 (And.intro hc2 (HB.out.trans (hB2.mono HB.out.size))))
      clear hC2 hc2 hB2 HW
      go_wp2_with fail
      go_ret
      exact ⟨A2, c2, rfl, HN.out.1, HN.out.2.1, HN.out.2.2⟩

end Go.Proofs.Ytaagbiaddgohkaa.Q
