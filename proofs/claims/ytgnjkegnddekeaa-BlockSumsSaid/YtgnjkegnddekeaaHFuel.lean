/- Registers of the laws, and whether too much is asked, by hand. -/
import Derived.Test.YtgnjkegnddekeaaFrameM
import Derived.Test.YtgnjkegnddekeaaLoops
import Derived.Deep.LoopGhost
namespace Go.Proofs.Ytgnjkegnddekeaa.Q
open Go.RowKit Go.Lib Go.Proofs.Ytgnjkegnddekeaa Go.Proofs.YtgnjkegnddekeaaW.PrintWords Go.Proofs.YtgnjkegnddekeaaW.PrintLast Go.Proofs.YtgnjkegnddekeaaW.PrintMore
set_option linter.unusedVariables false
set_option linter.unusedSimpArgs false

def zR8 : List S32 := [⟨0, 0⟩, ⟨0, 0⟩, ⟨0, 0⟩, ⟨0, 0⟩, ⟨0, 0⟩, ⟨0, 0⟩, ⟨0, 0⟩, ⟨0, 0⟩]
theorem index_reg {rs : List S32} (hl : rs.length = 8) (i : Nat) (a b : Int) (hi : rs[i]? = some ⟨a, b⟩) (W : World) : (Instr.index 26 (.agg (rc rs).toArray) (.int .i64 i)).run Try.prog W = .ok (.agg #[.int .i64 a, .int .i64 b]) W := by
  have hlt : i < 8 := by have := (List.getElem?_eq_some_iff.1 hi).1; omega
  obtain ⟨a0, b0, a1, b1, a2, b2, a3, b3, a4, b4, a5, b5, a6, b6, a7, b7, rfl⟩ := eight hl
  have e26 := Try.underlying26
  have e24 := Try.underlying24
  rcases (show i = 0 ∨ i = 1 ∨ i = 2 ∨ i = 3 ∨ i = 4 ∨ i = 5 ∨ i = 6 ∨ i = 7 by omega) with rfl | rfl | rfl | rfl | rfl | rfl | rfl | rfl <;> (simp at hi; obtain ⟨rfl, rfl⟩ := hi; simp [Instr.index, run_underlying e26, go_sem, rc]; first | done | rfl)
set_option maxRecDepth 100000 in
set_option maxHeartbeats 2000000 in
theorem regs_calls (w : World) (rs : List S32) (hl : rs.length = 8) : Calls Try.prog 20 #[.agg (rc rs).toArray] w fun e w' => e = .returned (.agg (rc rs).toArray) ∧ Below w.heap.size w w' := by
  have hu24 := Try.underlying24
  have hu26 := Try.underlying26
  have hu32 := Try.underlying32
  have hu34 := Try.underlying34
  obtain ⟨W1, hW1, K1, hB1⟩ : ∃ V, w.alloc (.cells (rc rs).toArray 26) = V ∧ V.heap[w.heap.size]? = some (.cells (rc rs).toArray 26 (0, 0)) ∧ Below w.heap.size w V := ⟨_, rfl, heap_alloc_new _ _, bOne _⟩
  obtain ⟨W2, hW2, K2, hB2⟩ : ∃ V, W1.alloc (.cells #[.int .i64 0, .int .i64 0, .int .i64 0, .int .i64 0, .int .i64 0, .int .i64 0, .int .i64 0, .int .i64 0, .int .i64 0, .int .i64 0, .int .i64 0, .int .i64 0, .int .i64 0, .int .i64 0, .int .i64 0, .int .i64 0] 34) = V ∧ V.heap[W1.heap.size]? = some (.cells #[.int .i64 0, .int .i64 0, .int .i64 0, .int .i64 0, .int .i64 0, .int .i64 0, .int .i64 0, .int .i64 0, .int .i64 0, .int .i64 0, .int .i64 0, .int .i64 0, .int .i64 0, .int .i64 0, .int .i64 0, .int .i64 0] 34 (0, 0)) ∧ Below W1.heap.size W1 V := ⟨_, rfl, heap_alloc_new _ _, bOne _⟩
  obtain ⟨W3, hW3, K3, hB3⟩ : ∃ V, W2.alloc (.cells #[.int .i64 0, .int .i64 0, .int .i64 0, .int .i64 0, .int .i64 0, .int .i64 0, .int .i64 0, .int .i64 0, .int .i64 0, .int .i64 0, .int .i64 0, .int .i64 0, .int .i64 0, .int .i64 0, .int .i64 0, .int .i64 0] 34) = V ∧ V.heap[W2.heap.size]? = some (.cells #[.int .i64 0, .int .i64 0, .int .i64 0, .int .i64 0, .int .i64 0, .int .i64 0, .int .i64 0, .int .i64 0, .int .i64 0, .int .i64 0, .int .i64 0, .int .i64 0, .int .i64 0, .int .i64 0, .int .i64 0, .int .i64 0] 34 (0, 0)) ∧ Below W2.heap.size W2 V := ⟨_, rfl, heap_alloc_new _ _, bOne _⟩
  have size26 : (Try.prog.info? 26).map (·.size) = some 16 := by kernel_rfl
  have size34' : (Try.prog.info? 34).map (·.size) = some 16 := by kernel_rfl
  have hL := ld_whole (P := Try.prog) (ty := 26) (blk_below K1 (bAfter hB2 hB3)) hu26 rfl (by rw [size26]; simp [rc_length, hl])
  have HJ0 := Lib.hid (And.intro K3 (And.intro (blk_below K2 hB3) (bAfter hB1 (bAfter hB2 hB3))))
  have HZ := Lib.hid (And.intro (blk_lt K2) (And.intro (blk_lt K3) (show w.heap.size < W1.heap.size from blk_lt K1)))
  clear K1 K2 K3 hB1 hB2 hB3
  go_enter Try.func20, Try.ntmps20
  go_wp2_with (refine wpList_ld rfl rfl hL ?_)
  go_loopg [4, 5, 7] 8 (fun kq _ _ v7 W => ∃ i : Nat, v7 = .int .i64 i ∧ Hid (kq + i = 8) ∧ Hid (W.heap[W2.heap.size]? = some (.cells (rc (rs.take i ++ zR8.drop i)).toArray 34 (0, 0)) ∧ W.heap[W1.heap.size]? = some (.cells #[.int .i64 0, .int .i64 0, .int .i64 0, .int .i64 0, .int .i64 0, .int .i64 0, .int .i64 0, .int .i64 0, .int .i64 0, .int .i64 0, .int .i64 0, .int .i64 0, .int .i64 0, .int .i64 0, .int .i64 0, .int .i64 0] 34 (0, 0)) ∧ Below w.heap.size w W))
  case atStart => exact ⟨0, rfl, by simp [Hid], Lib.hid ⟨by simpa [zR8, rc] using HJ0.out.1, HJ0.out.2⟩⟩
  case round =>
    obtain ⟨i, rfl, hk, hJ⟩ := hrel
    have hz := HZ.out
    by_cases hi : i < 8
    · have hi2 : (i : Int) < 8 := by omega
      have hi0 : (0 : Int) ≤ i := by omega
      obtain ⟨a, b, hab⟩ : ∃ a b, rs[i]? = some ⟨a, b⟩ := ⟨_, _, List.getElem?_eq_getElem (l := rs) (show i < rs.length by omega)⟩
      have hix := index_reg hl i a b hab
      obtain ⟨V1, hV1, L1, hC1⟩ : ∃ V, wr.alloc (.cells #[.int .i64 a, .int .i64 b] 24) = V ∧ V.heap[wr.heap.size]? = some (.cells #[.int .i64 a, .int .i64 b] 24 (0, 0)) ∧ Below wr.heap.size wr V := ⟨_, rfl, heap_alloc_new _ _, bOne _⟩
      have m0 := blk_cell L1 0
      have m1 := blk_cell L1 1
      have hout := blk_below hJ.out.1 hC1
      have hlen : (rs.take i ++ zR8.drop i).length = 8 := by simp [hl, zR8]; omega
      obtain ⟨q0, q1⟩ := rc_get (rs.take i ++ zR8.drop i) i _ (List.getElem?_eq_getElem (by omega))
      obtain ⟨y0, y1, c0, c1⟩ : ∃ y0 y1 : Value, V1.cell? ⟨W2.heap.size, i * 2, none⟩ = some y0 ∧ V1.cell? ⟨W2.heap.size, i * 2 + 1, none⟩ = some y1 := ⟨_, _, (blk_cell hout _).trans (by simpa using q0), (blk_cell hout _).trans (by simpa using q1)⟩
      have c2 := blk_frozen hout (i * 2)
      have c3 := blk_frozen hout (i * 2 + 1)
      obtain ⟨V2, hV2⟩ : ∃ V, (V1.setCell ⟨W2.heap.size, i * 2, none⟩ (.int .i64 a)).setCell ⟨W2.heap.size, i * 2 + 1, none⟩ (.int .i64 b) = V := ⟨_, rfl⟩
      have hO : Only W2.heap.size V1 V2 := by rw [← hV2]; exact (Only.set _ _ _).trans (Only.set _ _ _)
      have hset : (rs.take i ++ zR8.drop i).set i ⟨a, b⟩ = rs.take (i + 1) ++ zR8.drop (i + 1) := by
        rw [List.set_append_right _ _ (by simp; omega), List.take_add_one, hab]
        have : i - (rs.take i).length = 0 := by simp; omega
        rw [this]
        have hd : zR8.drop i = zR8[i]'(by simp [zR8]; omega) :: zR8.drop (i + 1) := by rw [List.drop_eq_getElem_cons]
        rw [hd, List.set_cons_zero, List.append_assoc]
        rfl
      have hh2 : V2.heap[W2.heap.size]? = some (.cells (rc (rs.take (i + 1) ++ zR8.drop (i + 1))).toArray 34 (0, 0)) := by
        have h3 := rc_set (rs.take i ++ zR8.drop i) i a b
        rw [if_pos (by omega), hset] at h3
        rw [← hV2, ← h3, ← List.setIfInBounds_toArray, ← List.setIfInBounds_toArray]
        exact blk_set (blk_set hout _ _) _ _
      have HJ2 := Lib.hid (And.intro hh2 (And.intro (hO.mid (blk_below hJ.out.2.1 hC1) (by omega) (B := 0)) ((hJ.out.2.2.trans (below_le hC1 hJ.out.2.2.size)).trans (hO.below (by omega) (by have := hJ.out.2.2.size; have := hC1.size; omega)))))
      clear L1 hC1 hout q0 q1 hO hset hh2 hJ hz
      go_wp2_with fail
      obtain ⟨k1, rfl⟩ : ∃ m, gk = m + 1 := ⟨gk - 1, by have := hk.out; omega⟩
      go_roundg k1
      case measure => omega
      case rel => exact ⟨i + 1, by first | rfl | rw [wrap_next (by omega)] | (unfold wrap64; congr 1; omega), Lib.hid (by have := hk.out; omega), HJ2⟩
    · have hi2 : ¬ (i : Int) < 8 := by omega
      have hk0 : i = 8 := by have := hk.out; omega
      subst hk0
      have hz8 : (rs.take 8 ++ zR8.drop 8) = rs := by rw [List.take_of_length_le (by omega)]; simp [zR8]
      have hJ2 := hJ.out
      rw [hz8] at hJ2
      have hL2 := ld_whole (P := Try.prog) (ty := 34) hJ2.1 hu34 rfl (by rw [size34']; simp [rc_length, hl])
      obtain ⟨V3, hS3, K3, hO3⟩ := st_whole (P := Try.prog) (ty := 34) (vs := rc rs) hJ2.2.1 (by simp [rc_length, hl]) (by rw [size34', rc_length, hl]) (rc_one rs)
      have HE := Lib.hid (And.intro K3 (hJ2.2.2.trans (hO3.below (by omega) hJ2.2.2.size)))
      clear hJ hJ2 K3 hO3 hz
      go_wp2_with (first | refine wpList_ld rfl rfl hL2 ?_ | refine wpList_st rfl rfl hS3 ?_)
      exact bodyPost_ret (results_c1 rfl _ rfl HE.out.1 hu34 rfl (by rw [size34']; simp [rc_length, hl])) rfl ⟨rfl, HE.out.2⟩
/-- A world of the laws. -/
def worC (nv : Value) (rs : List S32) (fuel : Int) : Array Value := (nv :: (rc rs ++ [.int .i64 fuel])).toArray
theorem worC_fuel {nv : Value} {rs : List S32} {fuel : Int} (h : rs.length = 8) : (worC nv rs fuel)[17]? = some (.int .i64 fuel) := by
  have hl := rc_length rs
  unfold worC
  simp only [List.getElem?_toArray, List.getElem?_cons_succ]
  rw [List.getElem?_append_right (by omega)]
  simp [hl, h]
def heavyP (ln nn : Nat) (fuel : Int) : Bool := decide (220 < ln) || decide (100 < nn) || decide (3000 < fuel)
set_option maxRecDepth 100000 in
theorem heavy_calls (w : World) (A NA : Option Addr) (ln c nn nc : Nat) (rs : List S32) (fuel : Int) (hl : rs.length = 8) : Calls Try.prog 17 #[.slice A ln c, .agg (worC (.slice NA nn nc) rs fuel)] w fun e w' => e = .returned (.bool (heavyP ln nn fuel)) ∧ Below w.heap.size w w' := by
  have hu54 := Try.underlying54
  obtain ⟨W1, hW1, K1, hB1⟩ : ∃ V, w.alloc (.cells (worC (.slice NA nn nc) rs fuel) 54) = V ∧ V.heap[w.heap.size]? = some (.cells (worC (.slice NA nn nc) rs fuel) 54 (0, 0)) ∧ Below w.heap.size w V := ⟨_, rfl, heap_alloc_new _ _, bOne _⟩
  have k0 : W1.cell? ⟨w.heap.size, 0, none⟩ = some (.slice NA nn nc) := blk_cell K1 0
  have k1 : W1.cell? ⟨w.heap.size, 17, none⟩ = some (.int .i64 fuel) := (blk_cell K1 17).trans (worC_fuel hl)
  have HB := Lib.hid hB1
  clear K1 hB1
  unfold heavyP
  by_cases h1 : 220 < ln
  · have d1 : decide ((ln : Int) > 220) = true := by simp; omega
    rw [decide_eq_true h1]
    go_enter Try.func17, Try.ntmps17
    go_wp2_with fail
    go_ret
    exact ⟨rfl, HB.out⟩
  · have d1 : decide ((ln : Int) > 220) = false := by simp; omega
    rw [decide_eq_false h1]
    by_cases h2 : 100 < nn
    · have d2 : decide ((nn : Int) > 100) = true := by simp; omega
      rw [decide_eq_true h2]
      go_enter Try.func17, Try.ntmps17
      go_wp2_with fail
      go_ret
      exact ⟨rfl, HB.out⟩
    · have d2 : decide ((nn : Int) > 100) = false := by simp; omega
      rw [decide_eq_false h2]
      by_cases h3 : 3000 < fuel
      · have d3 : decide (fuel > 3000) = true := by simp; omega
        rw [decide_eq_true h3]
        go_enter Try.func17, Try.ntmps17
        go_wp2_with fail
        go_ret
        exact ⟨rfl, HB.out⟩
      · have d3 : decide (fuel > 3000) = false := by simp; omega
        rw [decide_eq_false h3]
        go_enter Try.func17, Try.ntmps17
        go_wp2_with fail
        go_ret
        exact ⟨rfl, HB.out⟩
end Go.Proofs.Ytgnjkegnddekeaa.Q
