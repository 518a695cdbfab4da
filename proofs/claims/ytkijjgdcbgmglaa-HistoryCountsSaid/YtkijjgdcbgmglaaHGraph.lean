/- The graph of a row of events, by hand. -/
import Derived.Test.YtkijjgdcbgmglaaHRight
import Derived.Test.YtkijjgdcbgmglaaHMat
import Derived.Test.YtkijjgdcbgmglaaHAhead
namespace Go.Proofs.Ytkijjgdcbgmglaa.Q
open Go.RowKit Go.Lib Go.Maps Go.Proofs.Ytkijjgdcbgmglaa Go.Proofs.YtkijjgdcbgmglaaW.PrintWords Go.Proofs.YtkijjgdcbgmglaaW.PrintLast Go.Proofs.YtkijjgdcbgmglaaW.PrintMore
set_option linter.unusedVariables false
set_option linter.unusedSimpArgs false
def graphIn (all : List Life) (i : Nat) (m : List Nat) (k : Nat) : List Nat := (List.range k).foldl (fun m j => if (decide (i ≠ j) && aheadL all i j) = true then putN m i j else m) m
def graphOut (all : List Life) (i : Nat) : List Nat := (List.range i).foldl (fun m i => graphIn all i m all.length) (List.replicate 32 0)
/-- Who has to stand ahead of whom, as rows of bits. -/
def graphL (all : List Life) : List Nat := graphOut all all.length
theorem graphIn_next (all : List Life) (i : Nat) (m : List Nat) (k : Nat) : graphIn all i m (k + 1) = if (decide (i ≠ k) && aheadL all i k) = true then putN (graphIn all i m k) i k else graphIn all i m k := by
  unfold graphIn
  rw [List.range_succ, List.foldl_append]
  rfl
theorem graphOut_next (all : List Life) (i : Nat) : graphOut all (i + 1) = graphIn all i (graphOut all i) all.length := by
  unfold graphOut
  rw [List.range_succ, List.foldl_append]
  rfl
theorem graphIn_wd (all : List Life) {i : Nat} (hi : i < 32) {m : List Nat} (hm : Wd m) : ∀ k, k ≤ 32 → Wd (graphIn all i m k)
  | 0, _ => hm
  | k + 1, h => by
    rw [graphIn_next]
    split
    · exact (graphIn_wd all hi hm k (by omega)).put hi (by omega)
    · exact graphIn_wd all hi hm k (by omega)
theorem zero_wd : Wd (List.replicate 32 0) := ⟨by simp, fun x hx => by simp at hx; subst hx; decide⟩
theorem graphOut_wd (all : List Life) (hl : all.length ≤ 32) : ∀ i, i ≤ 32 → Wd (graphOut all i)
  | 0, _ => zero_wd
  | i + 1, h => by
    rw [graphOut_next]
    exact graphIn_wd all (by omega) (graphOut_wd all hl i (by omega)) _ hl
/-- Blocks that lie ahead are turned. -/
theorem LivesV.off {base g : Nat} {W W' : World} {k : Nat} {v : Value} {bs : List (Nat × Nat × Nat)} {all : List Life} (h : LivesV base W k v bs all) (hO : ∀ q, q < W.heap.size → q ≠ g → W'.heap[q]? = W.heap[q]?) (hg : g < base) : LivesV base W' k v bs all := by
  refine ⟨⟨h.row.1, ?_⟩, h.at_.same fun q hq => hO q (h.at_.lt q hq) (by have := h.at_.lo q hq; omega)⟩
  rcases h.row.2 with ⟨e, h3⟩ | ⟨g', cap, cur, e, h3, h4, h5⟩
  · exact .inl ⟨e, h3⟩
  · exact .inr ⟨g', cap, cur, e, h3, (hO g' (blk_lt h4) (by omega)).trans h4, h5⟩
/-- What is kept. -/
def GRel (W : World) (mb base : Nat) (v : Value) (bs : List (Nat × Nat × Nat)) (all : List Life) (m : List Nat) (V : World) : Prop :=
  V.heap[mb]? = some (.cells (mc m) 27 (0, 0)) ∧ LivesV base V 2000 v bs all ∧ Below W.heap.size W V
set_option maxRecDepth 100000 in
set_option maxHeartbeats 2000000 in
theorem graph_calls (A0 : Option Addr) (c0 : Nat) (h : List S44) (W : World) (hC : Kd.C k44 W A0 h.length h) :
    Calls Try.prog 10 #[.slice A0 h.length c0] W fun e w' => e = .returned (.tuple #[.agg (mc (graphL (allL h))), .bool (livedL h).isSome]) ∧ Below W.heap.size W w' := by
  have hu27 := Try.underlying27
  have hu26 := Try.underlying26
  have hu69 := Try.underlying69
  obtain ⟨W1, hW1, K1, hB1⟩ : ∃ V, W.alloc (.cells #[.int .u64 0, .int .u64 0, .int .u64 0, .int .u64 0, .int .u64 0, .int .u64 0, .int .u64 0, .int .u64 0, .int .u64 0, .int .u64 0, .int .u64 0, .int .u64 0, .int .u64 0, .int .u64 0, .int .u64 0, .int .u64 0, .int .u64 0, .int .u64 0, .int .u64 0, .int .u64 0, .int .u64 0, .int .u64 0, .int .u64 0, .int .u64 0, .int .u64 0, .int .u64 0, .int .u64 0, .int .u64 0, .int .u64 0, .int .u64 0, .int .u64 0, .int .u64 0] 27) = V ∧ V.heap[W.heap.size]? = some (.cells #[.int .u64 0, .int .u64 0, .int .u64 0, .int .u64 0, .int .u64 0, .int .u64 0, .int .u64 0, .int .u64 0, .int .u64 0, .int .u64 0, .int .u64 0, .int .u64 0, .int .u64 0, .int .u64 0, .int .u64 0, .int .u64 0, .int .u64 0, .int .u64 0, .int .u64 0, .int .u64 0, .int .u64 0, .int .u64 0, .int .u64 0, .int .u64 0, .int .u64 0, .int .u64 0, .int .u64 0, .int .u64 0, .int .u64 0, .int .u64 0, .int .u64 0, .int .u64 0] 27 (0, 0)) ∧ Below W.heap.size W V := ⟨_, rfl, heap_alloc_new _ _, bOne _⟩
  have hZ : (#[.int .u64 0, .int .u64 0, .int .u64 0, .int .u64 0, .int .u64 0, .int .u64 0, .int .u64 0, .int .u64 0, .int .u64 0, .int .u64 0, .int .u64 0, .int .u64 0, .int .u64 0, .int .u64 0, .int .u64 0, .int .u64 0, .int .u64 0, .int .u64 0, .int .u64 0, .int .u64 0, .int .u64 0, .int .u64 0, .int .u64 0, .int .u64 0, .int .u64 0, .int .u64 0, .int .u64 0, .int .u64 0, .int .u64 0, .int .u64 0, .int .u64 0, .int .u64 0] : Array Value) = mc (List.replicate 32 0) := rfl
  rw [hZ] at K1
  have HLV := Lib.hid (lived_all A0 c0 h W1 (Kd.C_below hC hB1))
  have hok := allL_ok h
  have hempty : (livedL h).isSome = false → allL h = [] := by
    intro hs
    unfold allL
    cases hl : livedL h with
    | none => rfl
    | some x => rw [hl] at hs; cases hs
  generalize allL h = all at *
  generalize (livedL h).isSome = is at *
  have HE := Lib.hid hempty
  have HO := Lib.hid hok
  have HB := Lib.hid (And.intro K1 (And.intro hB1 (blk_lt K1)))
  clear hempty hok K1 hB1 hC hZ
  go_enter Try.func10, Try.ntmps10
  go_wp2_with fail
  refine HLV.out.mono ?_
  rintro e w2 ⟨A, c, bs, rfl, hL, hB2⟩
  have R0 := Lib.hid (show GRel W W.heap.size W1.heap.size (.slice A all.length c) bs all (List.replicate 32 0) w2 from ⟨blk_below HB.out.1 hB2, hL, bAfter HB.out.2.1 hB2⟩)
  clear hL hB2 HLV
  cases is with
  | false =>
    obtain rfl := HE.out rfl
    have hL2 := ld_whole (P := Try.prog) (ty := 27) R0.out.1 hu27 rfl (by rw [sz27]; rfl)
    obtain ⟨W7, hS7, K7, hO7⟩ := st_whole (P := Try.prog) (ty := 27) (vs := (mc (List.replicate 32 0)).toList) R0.out.1 (by simp only [Array.length_toList]) (by simp only [Array.length_toList]; rw [sz27]; rfl) (mc_one _)
    simp only [Array.toArray_toList] at hS7 K7
    have HR := Lib.hid (And.intro K7 (R0.out.2.2.trans (hO7.below (Nat.le_refl _) R0.out.2.2.size)))
    clear K7 hO7
    go_wp2_with (first | refine wpList_ld rfl rfl hL2 ?_ | refine wpList_st rfl rfl hS7 ?_)
    refine bodyPost_ret (results_ct rfl _ rfl HR.out.1 hu27 rfl (by rw [sz27]; rfl)) rfl ⟨rfl, HR.out.2⟩
  | true =>
    go_wp2_with fail
    go_loopg [17] all.length (fun kq v17 V => ∃ i : Nat, v17 = .int .i64 i ∧ Hid (kq + i = all.length) ∧ Hid (GRel W W.heap.size W1.heap.size (.slice A all.length c) bs all (graphOut all i) V))
    case atStart => exact ⟨0, rfl, by simp [Hid], R0⟩
    case round =>
      obtain ⟨i, rfl, hk, hJ⟩ := hrel
      clear R0
      have hi0 : (0 : Int) ≤ i := by omega
      by_cases hi : i < all.length
      · have hi2 : (i : Int) < all.length := by omega
        have HI := Lib.hid (And.intro hi hk.out)
        obtain ⟨g0, hg0⟩ : ∃ g, g = gk := ⟨_, rfl⟩
        subst hg0
        clear hi hk
        go_wp2_with fail
        go_loopg [22] all.length (fun kq v22 V => ∃ j : Nat, v22 = .int .i64 j ∧ Hid (kq + j = all.length) ∧ Hid (GRel W W.heap.size W1.heap.size (.slice A all.length c) bs all (graphIn all i (graphOut all i) j) V))
        case atStart => exact ⟨0, rfl, by simp [Hid], hJ⟩
        case round =>
          clear hJ
          obtain ⟨j, rfl, hk, hJ⟩ := hrel
          have hj0 : (0 : Int) ≤ j := by omega
          by_cases hj : j < all.length
          · have hj2 : (j : Int) < all.length := by omega
            have hnx := graphIn_next all i (graphOut all i) j
            have hwd := graphIn_wd all (i := i) (by have := HO.out.1; have := HI.out.1; omega) (graphOut_wd all HO.out.1 i (by have := HO.out.1; have := HI.out.1; omega)) j (by have := HO.out.1; omega)
            obtain ⟨m, hm⟩ : ∃ m, graphIn all i (graphOut all i) j = m := ⟨_, rfl⟩
            rw [hm] at hnx hwd hJ
            have HJ := Lib.hid (And.intro hj hk.out)
            have HA := fun (V : World) (hL : LivesV W1.heap.size V 2000 (.slice A all.length c) bs all) => ahead_calls V W1.heap.size 2000 A c bs all hL (by have := HO.out.1; omega) HO.out.2 i j HI.out.1 hj
            generalize aheadL all i j = ah at *
            have HA' := Lib.hid HA
            clear hj hk hm HA
            by_cases hij : i = j
            · have hne : ((i : Int) != (j : Int)) = false := by rw [hij]; simp
              have HN : Hid (GRel W W.heap.size W1.heap.size (.slice A all.length c) bs all (graphIn all i (graphOut all i) (j + 1)) wr) := Lib.hid (by rw [hnx, if_neg (by simp [hij])]; exact hJ.out)
              clear hnx hwd hJ hij
              go_wp2_with fail
              obtain ⟨k1, rfl⟩ : ∃ m, gk = m + 1 := ⟨gk - 1, by have := HJ.out; omega⟩
              go_roundg k1
              case measure => omega
              case rel => exact ⟨j + 1, by first | rfl | exact congrArg _ (wrap_next (by have := HO.out.1; have := HJ.out.1; omega)), by have := HJ.out.2; exact Lib.hid (by omega), HN⟩
            · have hne : ((i : Int) != (j : Int)) = true := by rw [bne_iff_ne]; omega
              have HW := Lib.hid (And.intro hwd (And.intro hij hnx))
              clear hnx hwd hij
              go_wp2_with fail
              refine (HA'.out wr hJ.out.2.1).mono ?_
              rintro e w5 ⟨rfl, hB5⟩
              have hG5 : GRel W W.heap.size W1.heap.size (.slice A all.length c) bs all m w5 := ⟨blk_below hJ.out.1 hB5, hJ.out.2.1.below hB5, bAfter hJ.out.2.2 hB5⟩
              have HG5 := Lib.hid hG5
              clear hB5 hG5 hJ
              cases ah with
              | false =>
                have HN : Hid (GRel W W.heap.size W1.heap.size (.slice A all.length c) bs all (graphIn all i (graphOut all i) (j + 1)) w5) := Lib.hid (by rw [HW.out.2.2, if_neg (by simp)]; exact HG5.out)
                go_wp2_with fail
                obtain ⟨k1, rfl⟩ : ∃ m, gk = m + 1 := ⟨gk - 1, by have := HJ.out; omega⟩
                go_roundg k1
                case measure => omega
                case rel => exact ⟨j + 1, by first | rfl | exact congrArg _ (wrap_next (by have := HO.out.1; have := HJ.out.1; omega)), by have := HJ.out.2; exact Lib.hid (by omega), HN⟩
              | true =>
                have hL5 := ld_whole (P := Try.prog) (ty := 27) HG5.out.1 hu27 rfl (by rw [sz27, mc_size, HW.out.1.1])
                have HP := Lib.hid (put_calls m i j w5 HW.out.1 (by have := HO.out.1; have := HI.out.1; omega) (by have := HO.out.1; have := HJ.out.1; omega) HW.out.2.1)
                go_wp2_with (refine wpList_ld rfl rfl hL5 ?_)
                refine HP.out.mono ?_
                rintro e w6 ⟨rfl, hB6⟩
                have hw2 := HW.out.1.put (a := i) (b := j) (by have := HO.out.1; have := HI.out.1; omega) (by have := HO.out.1; have := HJ.out.1; omega)
                have hK6 := blk_below HG5.out.1 hB6
                obtain ⟨W7, hS7, K7, hO7⟩ := st_whole (P := Try.prog) (ty := 27) (vs := (mc (putN m i j)).toList) hK6 (by simp only [Array.length_toList]; rw [mc_size, mc_size, HW.out.1.1, hw2.1]) (by simp only [Array.length_toList]; rw [sz27, mc_size, hw2.1]) (mc_one _)
                simp only [Array.toArray_toList] at hS7 K7
                have hB7 := bAfter HG5.out.2.2 hB6
                have HN : Hid (GRel W W.heap.size W1.heap.size (.slice A all.length c) bs all (graphIn all i (graphOut all i) (j + 1)) W7) := Lib.hid (by
                  rw [HW.out.2.2, if_pos (by simp [HW.out.2.1])]
                  exact ⟨K7, (HG5.out.2.1.below hB6).off hO7.block (by have := HB.out.2.2; exact this), hB7.trans (hO7.below (Nat.le_refl _) hB7.size)⟩)
                clear hB6 hw2 hK6 K7 hO7 hB7 HP hL5
                go_wp2_with (refine wpList_st rfl rfl hS7 ?_)
                obtain ⟨k1, rfl⟩ : ∃ m, gk = m + 1 := ⟨gk - 1, by have := HJ.out; omega⟩
                go_roundg k1
                case measure => omega
                case rel => exact ⟨j + 1, by first | rfl | exact congrArg _ (wrap_next (by have := HO.out.1; have := HJ.out.1; omega)), by have := HJ.out.2; exact Lib.hid (by omega), HN⟩
          · have hj2 : ¬ (j : Int) < all.length := by omega
            obtain rfl : j = all.length := by have := hk.out; omega
            have HN : Hid (GRel W W.heap.size W1.heap.size (.slice A all.length c) bs all (graphOut all (i + 1)) wr) := Lib.hid (by rw [graphOut_next]; exact hJ.out)
            clear hJ hk hj
            go_wp2_with fail
            obtain ⟨k1, rfl⟩ : ∃ m, g0 = m + 1 := ⟨g0 - 1, by have := HI.out; omega⟩
            go_roundg k1
            case measure => omega
            case rel => exact ⟨i + 1, by first | rfl | exact congrArg _ (wrap_next (by have := HO.out.1; have := HI.out.1; omega)), by have := HI.out.2; exact Lib.hid (by omega), HN⟩
      · have hi2 : ¬ (i : Int) < all.length := by omega
        obtain rfl : i = all.length := by have := hk.out; omega
        have hw2 := graphOut_wd all HO.out.1 all.length HO.out.1
        have hL2 := ld_whole (P := Try.prog) (ty := 27) hJ.out.1 hu27 rfl (by rw [sz27, mc_size, hw2.1])
        obtain ⟨W7, hS7, K7, hO7⟩ := st_whole (P := Try.prog) (ty := 27) (vs := (mc (graphOut all all.length)).toList) hJ.out.1 (by simp only [Array.length_toList]) (by simp only [Array.length_toList]; rw [sz27, mc_size, hw2.1]) (mc_one _)
        simp only [Array.toArray_toList] at hS7 K7
        have HR := Lib.hid (And.intro K7 (And.intro (hJ.out.2.2.trans (hO7.below (Nat.le_refl _) hJ.out.2.2.size)) hw2))
        clear K7 hO7 hw2 hk hi hJ
        go_wp2_with (first | refine wpList_ld rfl rfl hL2 ?_ | refine wpList_st rfl rfl hS7 ?_)
        refine bodyPost_ret (results_ct rfl _ rfl HR.out.1 hu27 rfl (by rw [sz27, mc_size, HR.out.2.2.1])) rfl ⟨rfl, HR.out.2.1⟩
end Go.Proofs.Ytkijjgdcbgmglaa.Q
