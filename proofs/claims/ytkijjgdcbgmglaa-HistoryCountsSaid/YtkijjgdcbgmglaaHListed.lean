/- Steps, by their variables, out of a map: by hand. -/
import Derived.Test.YtkijjgdcbgmglaaHSort
import Derived.Test.YtkijjgdcbgmglaaLoops
import Derived.Deep.LoopGhost
import Derived.WalkKit
namespace Go.Proofs.Ytkijjgdcbgmglaa.Q
open Go.RowKit Go.Lib Go.Maps Go.Proofs.Ytkijjgdcbgmglaa Go.Proofs.YtkijjgdcbgmglaaW.PrintWords Go.Proofs.YtkijjgdcbgmglaaW.PrintLast Go.Proofs.YtkijjgdcbgmglaaW.PrintMore
set_option linter.unusedVariables false
set_option linter.unusedSimpArgs false
theorem info103 : (Try.prog.info? 103).map (fun i => (i.zero, i.size, i.bytes)) = some (some (.agg #[.int .i64 0, .int .i64 0, .int .i64 0, .bool false]), 4, 32) := by kernel_rfl
theorem listOf_len (f : Int → Option Told) : (listOf f).length ≤ 64 := by
  unfold listOf
  have := List.length_filterMap_le (fun i : Nat => f (i : Int)) (List.range 64)
  simpa using this
/-- The steps of a map, by their variables. -/
def stepsOf (f : Int → Option Told) : List S103 := (listOf f).map (·.st)
set_option maxRecDepth 100000 in
set_option maxHeartbeats 2000000 in
theorem listed_calls (b nn : Nat) (D : DataW Told) (f : Int → Option Told) (w : World) (hown : w.ownsMap Try.prog 3 r105 b nn D) (hI : IsT D f) (hG : Good f) (hn : nn ≤ 1000000) :
    Calls Try.prog 38 #[.map (some b)] w fun e w' => ∃ v, e = .returned v ∧ Kd.R k103 103 w' w.heap.size (fun _ => True) v (stepsOf f) ∧ Below w.heap.size w w' := by
  have hu105 := Try.underlying105
  have hu103 := Try.underlying103
  have hu42 := Try.underlying42
  have C1 := Lib.hid (values_calls b w)
  have C2 := Lib.hid (sortedFunc_calls w.heap.size b nn D f (w.alloc (.cells #[.map (some b)] 84)) (heap_alloc_new _ _) (hown.alloc _) hI hG hn)
  have HN := Lib.hid (listOf_len f)
  unfold stepsOf
  generalize listOf f = L at *
  clear hown hI hG
  go_enter Try.func38, Try.ntmps38
  go_wp2_with fail
  refine C1.out.mono ?_
  rintro e w1 ⟨rfl, rfl⟩
  clear C1
  go_wp2_with fail
  refine C2.out.mono ?_
  rintro e w2 ⟨A, c, rfl, hC, hc, hB⟩
  have HC := Lib.hid (And.intro hC (And.intro hc (bAfter (bOne _) hB)))
  clear hC hc hB C2
  go_wp2_with fail
  go_loopg [2, 9] L.length (fun kq v2 v9 V => ∃ i : Nat, v9 = .int .i64 i ∧ Hid (kq + i = L.length) ∧ Hid (Kd.R k103 103 V w2.heap.size (fun _ => True) v2 ((L.take i).map (·.st)) ∧ Below w2.heap.size w2 V))
  case atStart => exact ⟨0, rfl, by simp [Hid], Lib.hid ⟨Kd.R_nil _ _ _ _ _, Below.refl _ _⟩⟩
  case round =>
    obtain ⟨i, rfl, hk, hJ⟩ := hrel
    have hi0 : (0 : Int) ≤ i := by omega
    by_cases hi : i < L.length
    · have hi2 : (i : Int) < L.length := by omega
      have HI := Lib.hid (And.intro hi hk.out)
      obtain ⟨ad, rfl, a0, a1, a2, a3, a4⟩ := at_T105 (Kd.C_below HC.out.1 hJ.out.2) (i : Int) hi0 hi2
      have hx : L[i]? = some (rd_T105 L (i : Int)) := by unfold rd_T105; rw [Int.toNat_natCast, List.getD_eq_getElem?_getD, List.getElem?_eq_getElem hi]; rfl
      simp only [Int.toNat_natCast] at a0 a1 a2 a3 a4
      generalize rd_T105 L (i : Int) = x at *
      obtain ⟨t, ⟨s0, ⟨s1, s2⟩, s3⟩⟩ := x
      dsimp only at a0 a1 a2 a3 a4
      have hrow : (L.take (i + 1)).map (fun t : Told => t.st) = (L.take i).map (fun t : Told => t.st) ++ [(⟨s0, ⟨s1, s2⟩, s3⟩ : S103)] := by
        rw [List.take_add_one, hx, List.map_append]
        rfl
      obtain ⟨W3, hW3, B3, hB3⟩ : ∃ W3, wr.alloc (.cells #[.int .i64 t, .int .i64 s0, .int .i64 s1, .int .i64 s2, .bool s3] 105) = W3 ∧ W3.heap[wr.heap.size]? = some (.cells #[.int .i64 t, .int .i64 s0, .int .i64 s1, .int .i64 s2, .bool s3] 105 (0, 0)) ∧ Below wr.heap.size wr W3 := ⟨_, rfl, heap_alloc_new _ _, bOne _⟩
      have b1 := blk_cell B3 1
      have b2 := blk_cell B3 2
      have b3 := blk_cell B3 3
      have b4 := blk_cell B3 4
      have HJ := Lib.hid (And.intro (Kd.R_below hJ.out.1 hB3) (And.intro (bAfter hJ.out.2 hB3) hrow))
      have hlen : ((L.take i).map (fun t : Told => t.st)).length = i := by simp; omega
      obtain ⟨xs, hxs⟩ : ∃ xs, (L.take i).map (fun t : Told => t.st) = xs := ⟨_, rfl⟩
      rw [hxs] at hlen
      have HX := Lib.hid (And.intro hxs hlen)
      have hR : Kd.R k103 103 W3 w2.heap.size (fun _ => True) u2 xs := by rw [← hxs]; exact HJ.out.1
      have hB := HJ.out.2.1
      clear hi hk hJ B3 hB3 hx hrow hxs hlen
      go_wp2_with (at_builtin; refine Kd.R_append k103 (w0 := w2) w2.heap.size rfl (.tmp 13) (.tmp 16) 45 103 (.agg #[.int .i64 0, .int .i64 0, .int .i64 0, .bool false]) 32 rfl Try.underlying45 info103 rfl (by decide) (by omega) u2 xs (⟨s0, ⟨s1, s2⟩, s3⟩ : S103) [.int .i64 s0, .int .i64 s1, .int .i64 s2, .bool s3] (fun _ => True) (fun _ => False) rfl rfl (k103_mkM _ _ _ ⟨s0, ⟨s1, s2⟩, s3⟩) (fun _ hk => hk.elim) (fun _ _ => trivial) hR hB hB.size ?aL ?_)
      case aL => have := HN.out; have := HX.out.2; have := HI.out.1; omega
      intro v9 w9 ho hb hg hat
      have HN2 : Hid (Kd.R k103 103 w9 w2.heap.size (fun _ => True) v9 ((L.take (i + 1)).map (fun t : Told => t.st)) ∧ Below w2.heap.size w2 w9) := Lib.hid ⟨by rw [HJ.out.2.2, HX.out.1]; exact ho, hb⟩
      clear ho hb hg hat hR hB
      go_wp2_with fail
      obtain ⟨k1, rfl⟩ : ∃ m, gk = m + 1 := ⟨gk - 1, by have := HI.out.1; have := HI.out.2; omega⟩
      go_roundg k1
      case measure => omega
      case rel => exact ⟨i + 1, by first | rfl | exact congrArg _ (wrap_next (by have := HN.out; have := HI.out.1; omega)), by have := HI.out.2; exact Lib.hid (by omega), HN2⟩
    · have hi2 : ¬ (i : Int) < L.length := by omega
      obtain rfl : i = L.length := by have := hk.out; omega
      have HF : Hid (Kd.R k103 103 wr w.heap.size (fun _ => True) u2 (L.map (·.st)) ∧ Below w.heap.size w wr) := Lib.hid ⟨by have := hJ.out.1; rw [List.take_length] at this; exact Kd.R_lower this HC.out.2.2.size, bAfter HC.out.2.2 hJ.out.2⟩
      clear hi hk hJ
      go_wp2_with fail
      go_ret
      exact ⟨_, rfl, HF.out⟩
end Go.Proofs.Ytkijjgdcbgmglaa.Q
