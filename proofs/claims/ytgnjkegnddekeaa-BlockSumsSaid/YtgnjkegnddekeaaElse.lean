/- A way that gives up: the law. -/
import Derived.Test.YtgnjkegnddekeaaElseP
import Derived.Test.YtgnjkegnddekeaaFlat2
namespace Go.Proofs.Ytgnjkegnddekeaa.Q
open Go.RowKit Go.Lib Go.Proofs.Ytgnjkegnddekeaa Go.Proofs.YtgnjkegnddekeaaW.PrintWords Go.Proofs.YtgnjkegnddekeaaW.PrintLast Go.Proofs.YtgnjkegnddekeaaW.PrintMore
set_option linter.unusedVariables false
set_option linter.unusedSimpArgs false
attribute [local go_sem high] eqA32

theorem res_tail {e u : Int} {rs : List S32} {x : Value} (h : (rc rs).length = 16) : (Value.int .i64 e :: Value.int .i64 u :: (rc rs ++ [x])).toArray[18]? = some x := by
  simp only [List.getElem?_toArray, List.getElem?_cons_succ]
  rw [List.getElem?_append_right (by omega), h]
  rfl
theorem addr_zero (ad : Addr) : ad.add 0 = ad := by
  unfold Addr.add
  split <;> simp_all
theorem z4_ok : ∀ v ∈ z4, R64 v.f1 := by
  intro v hv
  simp only [z4, List.mem_cons, List.not_mem_nil, or_false] at hv
  rcases hv with rfl | rfl | rfl | rfl <;> exact ⟨by simp, by simp⟩
theorem reps32 (w : World) (base : Nat) (ok : Nat → Prop) : ∀ (zs pre : List S32), Reps (k32.M w base ok) 2 pre (pre.flatMap encV) → Reps (k32.M w base ok) 2 (pre ++ zs) ((pre ++ zs).flatMap encV)
  | [], pre, h => by rw [List.append_nil]; exact h
  | z :: zs, pre, h => by
    have := reps32 w base ok zs (pre ++ [z]) (by rw [List.flatMap_append, List.flatMap_cons, List.flatMap_nil, List.append_nil]; exact Reps.snoc h (k32_mkM w base ok z) rfl)
    rwa [List.append_assoc] at this
set_option maxRecDepth 100000 in
/-- Four variables, at first. -/
theorem made_four (w : World) : ∃ w', (Instr.makeSlice 61 (.int .i64 4) (.int .i64 4)).run Try.prog w = .ok (.slice (some ⟨w.heap.size, 0, none⟩) 4 4) w' ∧ Kd.C k32 w' (some ⟨w.heap.size, 0, none⟩) 4 z4 ∧ Below w.heap.size w w' := by
  obtain ⟨i0, hi0, hz0, hz1, hz2⟩ := info_parts info32
  obtain ⟨w', hrun, hown, hgrow⟩ := run_makeSlice_full (P := Try.prog) w w.heap.size 61 32 i0 _ 2 Try.underlying61 hi0 hz0 hz1 .i64 .i64 4 (by omega) (by rw [hz2]; omega) (by simp only [maxLen]; omega) (Nat.le_refl _)
  have e : (madeCells (Value.agg #[.int .i64 0, .int .i64 0]).cells (4 * 2)).toList = z4.flatMap encV := by kernel_rfl
  rw [e] at hown
  have hR : Kd.R k32 32 w' w.heap.size (fun _ => True) (.slice (some ⟨w.heap.size, 0, none⟩) 4 4) z4 := ⟨fun _ _ => trivial, _, hown, reps32 w' _ _ z4 [] (Reps.none _ _)⟩
  exact ⟨w', hrun, (Kd.R_reads' hR).2.2, (Below.refl _ _).grown hgrow (Nat.le_refl _) (fun k e => by cases e)⟩
set_option maxRecDepth 100000 in
set_option maxHeartbeats 2000000 in
theorem else_core (n m x : Int) (hn : R64 n) (hm : R64 m) (hx0 : 0 ≤ x) (hx1 : x < 256) (W : World) (RD : ∀ (A : Option Addr) (c : Nat) (l : List S80) (w : World), Kd.C k80 w A l.length l → l.length ≤ 1000000 → Calls Try.prog 26 #[.slice A l.length c] w fun e w' => ∃ A c, e = .returned (.slice A (readsL l).length c) ∧ Kd.C k80 w' A (readsL l).length (readsL l) ∧ (readsL l).length ≤ c ∧ Below w.heap.size w w')
    (WR : ∀ (A : Option Addr) (c : Nat) (l : List S80) (w : World), Kd.C k80 w A l.length l → l.length ≤ 1000000 → Calls Try.prog 27 #[.slice A l.length c] w fun e w' => ∃ A c, e = .returned (.slice A (writesL l).length c) ∧ Kd.C k80 w' A (writesL l).length (writesL l) ∧ (writesL l).length ≤ c ∧ Below w.heap.size w w') :
    Calls Try.prog 8 #[.int .i64 n, .int .i64 m, .int .u8 x] W fun e w' => e = .returned (.bool true) ∧ Below W.heap.size W w' := by
  have hu34 := Try.underlying34
  have hu42 := Try.underlying42
  have hu61 := Try.underlying61
  have hu59 := Try.underlying59
  have hu56 := Try.underlying56
  have hu80 := Try.underlying80
  have hu74 := Try.underlying74
  have hu32 := Try.underlying32
  obtain ⟨k, hk⟩ : ∃ k : Int, x % 4 = k := ⟨_, rfl⟩
  have hk0 : 0 ≤ k := by omega
  have hk4 : k < 4 := by omega
  have HA := Lib.hid (alive_calls W)
  go_enter Try.func8, Try.ntmps8
  go_wp2_with fail
  refine HA.out.mono ?_
  rintro e w1 ⟨rfl, hB1⟩
  obtain ⟨W2, hW2, KW2, hBW2⟩ : ∃ V, w1.alloc (.cells #[.int .i64 12, .int .i64 0, .int .i64 0, .int .i64 5, .int .i64 0, .int .i64 2, .int .i64 0, .int .i64 k, .int .i64 0, .int .i64 0, .int .i64 0, .int .i64 1, .int .i64 0, .int .i64 0, .int .i64 n, .int .i64 9, .int .i64 0, .int .i64 1, .int .i64 0, .int .i64 0, .int .i64 14, .int .i64 0, .int .i64 0, .int .i64 0, .int .i64 0, .int .i64 2, .int .i64 0, .int .i64 k, .int .i64 0, .int .i64 0, .int .i64 0, .int .i64 1, .int .i64 0, .int .i64 0, .int .i64 m, .int .i64 9, .int .i64 0, .int .i64 1, .int .i64 0, .int .i64 0, .int .i64 16, .int .i64 0, .int .i64 0, .int .i64 0, .int .i64 0] 74) = V ∧ V.heap[w1.heap.size]? = some (.cells #[.int .i64 12, .int .i64 0, .int .i64 0, .int .i64 5, .int .i64 0, .int .i64 2, .int .i64 0, .int .i64 k, .int .i64 0, .int .i64 0, .int .i64 0, .int .i64 1, .int .i64 0, .int .i64 0, .int .i64 n, .int .i64 9, .int .i64 0, .int .i64 1, .int .i64 0, .int .i64 0, .int .i64 14, .int .i64 0, .int .i64 0, .int .i64 0, .int .i64 0, .int .i64 2, .int .i64 0, .int .i64 k, .int .i64 0, .int .i64 0, .int .i64 0, .int .i64 1, .int .i64 0, .int .i64 0, .int .i64 m, .int .i64 9, .int .i64 0, .int .i64 1, .int .i64 0, .int .i64 0, .int .i64 16, .int .i64 0, .int .i64 0, .int .i64 0, .int .i64 0] 74 (0, 0)) ∧ Below w1.heap.size w1 V := ⟨_, rfl, heap_alloc_new _ _, bOne _⟩
  obtain ⟨W3, hW3, KW3, hBW3⟩ := made_four W2
  have hC := C_lit k74 encO (fun W x => k74_mk W x) (elseL k n m) (blk_below KW2 hBW3) rfl (by simp [elseL])
  have hR := run_calls W3 _ 9 (elseL k n m) _ 4 z4 50 zR hC (Nat.le_refl _) KW3 (Nat.le_refl _) (by intro o ho; simp only [elseL, List.mem_cons, List.not_mem_nil, or_false] at ho; unfold R64 at hn hm; rcases ho with rfl | rfl | rfl | rfl | rfl | rfl | rfl | rfl | rfl <;> refine ⟨?_, ?_⟩ <;> unfold R64 <;> dsimp only <;> omega) z4_ok zR_ok (by omega)
  rw [show ((50 : Int).toNat + 1) = 51 from rfl, else_run k n m hk0 hk4] at hR
  have HR := Lib.hid hR
  have HB3 := Lib.hid (bAfter hB1 (bAfter hBW2 hBW3))
  clear hC hR KW2 KW3 hBW2 hBW3 hB1 HA hn hm
  go_wp2_with fail
  refine HR.out.mono ?_
  rintro e w4 ⟨TA, tc, rfl, hl8, hT, htc, hB4⟩
  dsimp only at hl8 hT
  obtain ⟨Vc, hVc, KVc, hBVc⟩ : ∃ V, w4.alloc (.cells #[.int .i64 0, .int .i64 0, .int .i64 0, .int .i64 0, .int .i64 0, .int .i64 0, .int .i64 0, .int .i64 0, .int .i64 0, .int .i64 0, .int .i64 0, .int .i64 0, .int .i64 0, .int .i64 0, .int .i64 0, .int .i64 0, .int .i64 0, .int .i64 0, .slice none 0 0] 59) = V ∧ V.heap[w4.heap.size]? = some (.cells #[.int .i64 0, .int .i64 0, .int .i64 0, .int .i64 0, .int .i64 0, .int .i64 0, .int .i64 0, .int .i64 0, .int .i64 0, .int .i64 0, .int .i64 0, .int .i64 0, .int .i64 0, .int .i64 0, .int .i64 0, .int .i64 0, .int .i64 0, .int .i64 0, .slice none 0 0] 59 (0, 0)) ∧ Below w4.heap.size w4 V := ⟨_, rfl, heap_alloc_new _ _, bOne _⟩
  obtain ⟨V8, hSV8, KKV8, hOV8⟩ := st_whole (P := Try.prog) (ty := 59) (vs := .int .i64 0 :: .int .i64 9 :: (rc (elseR k m) ++ [.slice TA 1 tc])) KVc (by have := rc_length (elseR k m); simp [this, hl8]) (by have := rc_length (elseR k m); rw [size59]; simp [this, hl8]) (by
    intro v hv
    simp only [List.mem_cons, List.mem_append, List.not_mem_nil, or_false] at hv
    rcases hv with rfl | rfl | hv | rfl
    · rfl
    · rfl
    · exact rc_one _ v hv
    · rfl)
  have r0 : V8.cell? ⟨w4.heap.size, 0, none⟩ = some (.int .i64 0) := blk_cell KKV8 0
  have r1 : V8.cell? ⟨w4.heap.size, 1, none⟩ = some (.int .i64 (9)) := blk_cell KKV8 1
  have r18 : V8.cell? ⟨w4.heap.size, 18, none⟩ = some (.slice TA 1 tc) := (blk_cell KKV8 18).trans (res_tail (by rw [rc_length, hl8]))
  have hB8 := bAfter HB3.out (bAfter hB4 (hBVc.trans (hOV8.below (Nat.le_refl _) hBVc.size)))
  have hT8 : Kd.C k80 V8 TA 1 [⟨k, ⟨1, m⟩, true⟩] := Kd.C_below hT (hBVc.trans (hOV8.below (Nat.le_refl _) hBVc.size))
  have hWR := WR TA tc [⟨k, ⟨1, m⟩, true⟩] V8 hT8 (by simp)
  rw [one_write ⟨k, ⟨1, m⟩, true⟩ rfl hk0 (by show k < 64; omega)] at hWR
  have HWR := Lib.hid hWR
  have H8 := Lib.hid (And.intro hB8 (And.intro hT8 KKV8))
  clear hWR hB8 hT8 hT hBVc hOV8 KVc KKV8 hB4 HR HB3
  go_wp2_with (refine wpList_st rfl rfl hSV8 ?_)
  refine HWR.out.mono ?_
  rintro e w9 ⟨A9, c9, rfl, g1, -, hB9⟩
  obtain ⟨ad, rfl, a0, a1, a2, a3⟩ := at_T80 g1 0 (by omega) (by simp)
  simp [rd_T80, addr_zero] at a0 a1 a2 a3
  have q0 := blk_cell (blk_below H8.out.2.2 hB9) 0
  have q1 := blk_cell (blk_below H8.out.2.2 hB9) 1
  have q18 := (blk_cell (blk_below H8.out.2.2 hB9) 18).trans (res_tail (by rw [rc_length, hl8]))
  have hRD := RD TA tc [⟨k, ⟨1, m⟩, true⟩] w9 (Kd.C_below H8.out.2.1 hB9) (by simp)
  rw [no_read ⟨k, ⟨1, m⟩, true⟩ rfl] at hRD
  have HRD := Lib.hid hRD
  have H9 := Lib.hid (bAfter H8.out.1 hB9)
  clear hRD hB9 g1 r0 r1 r18 H8 HWR
  go_wp2_with fail
  refine HRD.out.mono ?_
  rintro e wz ⟨Az, cz, rfl, -, -, hBz⟩
  have HZ := Lib.hid (bAfter H9.out hBz)
  clear hBz H9 HRD
  go_wp2_with fail
  go_ret
  exact ⟨rfl, HZ.out⟩
end Go.Proofs.Ytgnjkegnddekeaa.Q
