/- A step of a life that is no write, by hand; a step of any kind. -/
import Derived.Test.YtkijjgdcbgmglaaHLife
namespace Go.Proofs.Ytkijjgdcbgmglaa.Q
open Go.RowKit Go.Lib Go.Maps Go.Proofs.Ytkijjgdcbgmglaa Go.Proofs.YtkijjgdcbgmglaaW.PrintWords Go.Proofs.YtkijjgdcbgmglaaW.PrintLast Go.Proofs.YtkijjgdcbgmglaaW.PrintMore
set_option linter.unusedVariables false
set_option linter.unusedSimpArgs false
set_option maxRecDepth 100000 in
set_option maxHeartbeats 4000000 in
theorem life_read (W : World) (b rb wb k : Nat) (l : Life) (hA : LifeAt W b rb wb k l) (hne : rb ≠ wb) (hk : k < 1000000) (n e0 e1 e2 e3 e4 : Int) (h0 : 0 ≤ e2) (h1 : e2 < 64) (hv : valR e3 e4 = true) (he : e0 ≠ 2) :
    Calls Try.prog 64 #[ptr b, .int .i64 n, .agg #[.int .i64 e0, .int .i64 e1, .int .i64 e2, .int .i64 e3, .int .i64 e4]] W (Stepped W b rb wb (k + 1) (stepL l n ⟨e0, e1, e2, ⟨e3, e4⟩⟩)) := by
  obtain ⟨bw, hbw⟩ : ∃ x, (l.writes e2).isSome = x := ⟨_, rfl⟩
  obtain ⟨br, hbr⟩ : ∃ x, (l.reads e2).isSome = x := ⟨_, rfl⟩
  have hs : stepL l n ⟨e0, e1, e2, ⟨e3, e4⟩⟩ = if br = false ∧ bw = false then (⟨l.beg, l.fin, l.com, put l.reads e2 ⟨n, ⟨e2, ⟨e3, e4⟩, false⟩⟩, l.writes⟩, true) else (l, true) := by
    unfold stepL
    rw [if_neg (by rintro (h | h | h) <;> first | (dsimp only at h; omega) | (rw [hv] at h; cases h)), if_neg he]
    rw [← hbw, ← hbr]
    cases hr : l.reads e2 <;> cases hw : l.writes e2 <;> simp [hr, hw]
  rw [hs]
  obtain ⟨r, hr⟩ : ∃ r, (if br = false ∧ bw = false then ((⟨l.beg, l.fin, l.com, put l.reads e2 ⟨n, ⟨e2, ⟨e3, e4⟩, false⟩⟩, l.writes⟩, true) : Life × Bool) else (l, true)) = r := ⟨_, rfl⟩
  rw [hr]
  have HP := Lib.hid hr
  clear hr
  obtain ⟨⟨ta, tx, ⟨t0, t1⟩, tw⟩, hta⟩ : ∃ t, (l.writes e2).getD zT = t := ⟨_, rfl⟩
  obtain ⟨⟨sa, sx, ⟨s0, s1⟩, sw⟩, hsa⟩ : ∃ t, (l.reads e2).getD zT = t := ⟨_, rfl⟩
  have HT := Lib.hid (And.intro hta (And.intro hbw (And.intro hsa hbr)))
  clear hta hbw hsa hbr
  have hu44 := Try.underlying44
  have hu42 := Try.underlying42
  have hu103 := Try.underlying103
  have hu105 := Try.underlying105
  have hu86 := Try.underlying86
  have hu84 := Try.underlying84
  have hk3 := int_keyed Try.underlying3
  obtain ⟨W1, hW1, K1, hB1⟩ : ∃ W1, W.alloc (.cells #[.int .i64 e0, .int .i64 e1, .int .i64 e2, .int .i64 e3, .int .i64 e4] 44) = W1 ∧ W1.heap[W.heap.size]? = some (.cells #[.int .i64 e0, .int .i64 e1, .int .i64 e2, .int .i64 e3, .int .i64 e4] 44 (0, 0)) ∧ Below W.heap.size W W1 := ⟨_, rfl, heap_alloc_new _ _, bOne _⟩
  have q2 : W1.cell? ⟨W.heap.size, 2, none⟩ = some (.int .i64 e2) := blk_cell K1 2
  have q3 : W1.cell? ⟨W.heap.size, 3, none⟩ = some (.int .i64 e3) := blk_cell K1 3
  have q4 : W1.cell? ⟨W.heap.size, 4, none⟩ = some (.int .i64 e4) := blk_cell K1 4
  have HR := value_Right.calls e3 e4 (valR e3 e4) W1 (right_val e3 e4)
  rw [hv] at HR
  replace HR := Lib.hid HR
  have HH := Lib.hid (And.intro (hA.below hB1) (And.intro hB1 K1))
  have c1 : ¬ e2 < 0 := by omega
  have c2 : ¬ e2 ≥ 64 := by omega
  have heb : (e0 == 2) = false := by simpa using he
  clear hA hB1 K1 hs hv
  go_enter Try.func64, Try.ntmps64
  go_wp2_with fail
  refine HR.out.mono ?_
  rintro e w2 ⟨rfl, hB2⟩
  have q0 : w2.cell? ⟨W.heap.size, 0, none⟩ = some (.int .i64 e0) := blk_cell (blk_below HH.out.2.2 hB2) 0
  have q2 : w2.cell? ⟨W.heap.size, 2, none⟩ = some (.int .i64 e2) := blk_cell (blk_below HH.out.2.2 hB2) 2
  have q3 : w2.cell? ⟨W.heap.size, 3, none⟩ = some (.int .i64 e3) := blk_cell (blk_below HH.out.2.2 hB2) 3
  have q4 : w2.cell? ⟨W.heap.size, 4, none⟩ = some (.int .i64 e4) := blk_cell (blk_below HH.out.2.2 hB2) 4
  obtain ⟨Wa, W3, hWa, hS3, K3, hB3⟩ := laid (P := Try.prog) w2 105 [.int .i64 0, .int .i64 0, .int .i64 0, .int .i64 0, .bool false] [.int .i64 n, .int .i64 e2, .int .i64 e3, .int .i64 e4, .bool false] rfl (by kernel_rfl) (by simp [Value.oneCell'])
  have q0' : W3.cell? ⟨W.heap.size, 0, none⟩ = some (.int .i64 e0) := blk_cell (blk_below (blk_below HH.out.2.2 hB2) hB3) 0
  have HB := Lib.hid (And.intro (HH.out.1.below (bAfter hB2 hB3)) (And.intro (bAfter HH.out.2.1 (bAfter hB2 hB3)) (And.intro (blk_below (blk_below HH.out.2.2 hB2) hB3) K3)))
  clear hB2 HR hB3 K3
  have HAW3 := HB.out.1.below (Below.refl _ _)
  have n0 : ∀ W', Below W3.heap.size W3 W' → W'.cell? ⟨b, 4, none⟩ = some (.map (some wb)) := fun W' hB => blk_cell (blk_below HAW3.hb hB) 4
  have n7 : ∀ W', Below W3.heap.size W3 W' → W'.cell? ⟨b, 3, none⟩ = some (.map (some rb)) := fun W' hB => blk_cell (blk_below HAW3.hb hB) 3
  have n1 : ∀ W', Below W3.heap.size W3 W' → W'.cell? ⟨W.heap.size, 2, none⟩ = some (.int .i64 e2) := fun W' hB => blk_cell (blk_below (blk_below HB.out.2.2.1 (Below.refl _ _)) hB) 2
  have n2 : ∀ W', Below W3.heap.size W3 W' → W'.cell? ⟨w2.heap.size, 0, none⟩ = some (.int .i64 n) := fun W' hB => blk_cell (blk_below (blk_below HB.out.2.2.2 (Below.refl _ _)) hB) 0
  have n3 : ∀ W', Below W3.heap.size W3 W' → W'.cell? ⟨w2.heap.size, 1, none⟩ = some (.int .i64 e2) := fun W' hB => blk_cell (blk_below (blk_below HB.out.2.2.2 (Below.refl _ _)) hB) 1
  have n4 : ∀ W', Below W3.heap.size W3 W' → W'.cell? ⟨w2.heap.size, 2, none⟩ = some (.int .i64 e3) := fun W' hB => blk_cell (blk_below (blk_below HB.out.2.2.2 (Below.refl _ _)) hB) 2
  have n5 : ∀ W', Below W3.heap.size W3 W' → W'.cell? ⟨w2.heap.size, 3, none⟩ = some (.int .i64 e4) := fun W' hB => blk_cell (blk_below (blk_below HB.out.2.2.2 (Below.refl _ _)) hB) 3
  have n6 : ∀ W', Below W3.heap.size W3 W' → W'.cell? ⟨w2.heap.size, 4, none⟩ = some (.bool false) := fun W' hB => blk_cell (blk_below (blk_below HB.out.2.2.2 (Below.refl _ _)) hB) 4
  have nL : ∀ W', Below W3.heap.size W3 W' → (Instr.lookup 84 (.map (some wb)) (.int .i64 e2) true).run Try.prog W' = .ok (.tuple #[.agg #[.int .i64 ta, .int .i64 tx, .int .i64 t0, .int .i64 t1, .bool tw], .bool bw]) W' := fun W' hB => by
    have := look105 (HAW3.below hB).hw e2 (by omega) (by omega)
    rw [HT.out.1, HT.out.2.1] at this
    exact this
  have nM : ∀ W', Below W3.heap.size W3 W' → (Instr.lookup 84 (.map (some rb)) (.int .i64 e2) true).run Try.prog W' = .ok (.tuple #[.agg #[.int .i64 sa, .int .i64 sx, .int .i64 s0, .int .i64 s1, .bool sw], .bool br]) W' := fun W' hB => by
    have := look105 (HAW3.below hB).hr e2 (by omega) (by omega)
    rw [HT.out.2.2.1, HT.out.2.2.2] at this
    exact this
  clear HAW3
  go_wp2_with (refine wpList_st rfl rfl hS3 ?_)
  apply GR.wp_region_grow (R := RB) 11 (by kernel_rfl) (by kernel_rfl) (by kernel_rfl)
  · intro c a d v w h; cases d <;> exact h
  simp only [List.take_succ_cons, List.take_zero, List.drop_succ_cons, List.drop_zero]
  iterate 10
    apply GR.gw_val (by rfl)
    · (intro W' hB hD; have zn0 := n0 W' hB; have zn1 := n1 W' hB; have zn2 := n2 W' hB; have zn3 := n3 W' hB; have zn4 := n4 W' hB; have zn5 := n5 W' hB; have zn6 := n6 W' hB; have zn7 := n7 W' hB; have znL := nL W' hB; have znM := nM W' hB; go_simp; first | done | rfl)
    simp only [Act.put, List.setIfInBounds_toArray, List.set_cons_zero, List.set_cons_succ]
  apply GR.gw_rel (stable_TZ W3.heap.size (.cells [.int .i64 0, .int .i64 0, .int .i64 0, .int .i64 0, .bool false].toArray 105 (0, 0))) (by rfl)
  · intro W' hB hD
    refine ⟨_, _, ?_, bOne (.cells [.int .i64 0, .int .i64 0, .int .i64 0, .int .i64 0, .bool false].toArray 105), W'.heap.size, rfl, hB.size, heap_alloc_new _ _⟩
    go_simp
    first | done | rfl
  rintro v ⟨-, pV7, rfl, -, -⟩
  simp only [Act.put, List.setIfInBounds_toArray, List.set_cons_zero, List.set_cons_succ]
  apply GR.gw_nil
  intro WaV7 hVa hF hP
  have hx := hF (fun W => TZ W3.heap.size (.cells [.int .i64 0, .int .i64 0, .int .i64 0, .int .i64 0, .bool false].toArray 105 (0, 0)) W (ptr pV7)) (by simp)
  rw [TZ_ptr] at hx
  clear hF hP
  obtain ⟨hp, Kp⟩ := hx
  obtain ⟨V7, hSV7, KV7, hOV7⟩ := st_whole (P := Try.prog) (ty := 105) (vs := [.int .i64 ta, .int .i64 tx, .int .i64 t0, .int .i64 t1, .bool tw]) Kp rfl (by kernel_rfl) (by simp [Value.oneCell'])
  have HV7 := Lib.hid (hVa.trans (hOV7.below hp hVa.size))
  clear hVa Kp hp KV7 hOV7
  clear n0 n1 n2 n3 n4 n5 n6 n7 nL nM
  clear q0 q2 q3 q4 q0' hS3 hWa
  have HAV7 := HB.out.1.below HV7.out
  have n0 : ∀ W', Below V7.heap.size V7 W' → W'.cell? ⟨b, 4, none⟩ = some (.map (some wb)) := fun W' hB => blk_cell (blk_below HAV7.hb hB) 4
  have n7 : ∀ W', Below V7.heap.size V7 W' → W'.cell? ⟨b, 3, none⟩ = some (.map (some rb)) := fun W' hB => blk_cell (blk_below HAV7.hb hB) 3
  have n1 : ∀ W', Below V7.heap.size V7 W' → W'.cell? ⟨W.heap.size, 2, none⟩ = some (.int .i64 e2) := fun W' hB => blk_cell (blk_below (blk_below HB.out.2.2.1 HV7.out) hB) 2
  have n2 : ∀ W', Below V7.heap.size V7 W' → W'.cell? ⟨w2.heap.size, 0, none⟩ = some (.int .i64 n) := fun W' hB => blk_cell (blk_below (blk_below HB.out.2.2.2 HV7.out) hB) 0
  have n3 : ∀ W', Below V7.heap.size V7 W' → W'.cell? ⟨w2.heap.size, 1, none⟩ = some (.int .i64 e2) := fun W' hB => blk_cell (blk_below (blk_below HB.out.2.2.2 HV7.out) hB) 1
  have n4 : ∀ W', Below V7.heap.size V7 W' → W'.cell? ⟨w2.heap.size, 2, none⟩ = some (.int .i64 e3) := fun W' hB => blk_cell (blk_below (blk_below HB.out.2.2.2 HV7.out) hB) 2
  have n5 : ∀ W', Below V7.heap.size V7 W' → W'.cell? ⟨w2.heap.size, 3, none⟩ = some (.int .i64 e4) := fun W' hB => blk_cell (blk_below (blk_below HB.out.2.2.2 HV7.out) hB) 3
  have n6 : ∀ W', Below V7.heap.size V7 W' → W'.cell? ⟨w2.heap.size, 4, none⟩ = some (.bool false) := fun W' hB => blk_cell (blk_below (blk_below HB.out.2.2.2 HV7.out) hB) 4
  have nL : ∀ W', Below V7.heap.size V7 W' → (Instr.lookup 84 (.map (some wb)) (.int .i64 e2) true).run Try.prog W' = .ok (.tuple #[.agg #[.int .i64 ta, .int .i64 tx, .int .i64 t0, .int .i64 t1, .bool tw], .bool bw]) W' := fun W' hB => by
    have := look105 (HAV7.below hB).hw e2 (by omega) (by omega)
    rw [HT.out.1, HT.out.2.1] at this
    exact this
  have nM : ∀ W', Below V7.heap.size V7 W' → (Instr.lookup 84 (.map (some rb)) (.int .i64 e2) true).run Try.prog W' = .ok (.tuple #[.agg #[.int .i64 sa, .int .i64 sx, .int .i64 s0, .int .i64 s1, .bool sw], .bool br]) W' := fun W' hB => by
    have := look105 (HAV7.below hB).hr e2 (by omega) (by omega)
    rw [HT.out.2.2.1, HT.out.2.2.2] at this
    exact this
  clear HAV7
  go_wp2_with (refine wpList_st rfl rfl hSV7 ?_)
  apply GR.wp_region_grow (R := RB) 11 (by kernel_rfl) (by kernel_rfl) (by kernel_rfl)
  · intro c a d v w h; cases d <;> exact h
  simp only [List.take_succ_cons, List.take_zero, List.drop_succ_cons, List.drop_zero]
  iterate 10
    apply GR.gw_val (by rfl)
    · (intro W' hB hD; have zn0 := n0 W' hB; have zn1 := n1 W' hB; have zn2 := n2 W' hB; have zn3 := n3 W' hB; have zn4 := n4 W' hB; have zn5 := n5 W' hB; have zn6 := n6 W' hB; have zn7 := n7 W' hB; have znL := nL W' hB; have znM := nM W' hB; go_simp; first | done | rfl)
    simp only [Act.put, List.setIfInBounds_toArray, List.set_cons_zero, List.set_cons_succ]
  apply GR.gw_rel (stable_TZ V7.heap.size (.cells [.int .i64 0, .int .i64 0, .int .i64 0, .int .i64 0, .bool false].toArray 105 (0, 0))) (by rfl)
  · intro W' hB hD
    refine ⟨_, _, ?_, bOne (.cells [.int .i64 0, .int .i64 0, .int .i64 0, .int .i64 0, .bool false].toArray 105), W'.heap.size, rfl, hB.size, heap_alloc_new _ _⟩
    go_simp
    first | done | rfl
  rintro v ⟨-, pV8, rfl, -, -⟩
  simp only [Act.put, List.setIfInBounds_toArray, List.set_cons_zero, List.set_cons_succ]
  apply GR.gw_nil
  intro WaV8 hVa hF hP
  have hx := hF (fun W => TZ V7.heap.size (.cells [.int .i64 0, .int .i64 0, .int .i64 0, .int .i64 0, .bool false].toArray 105 (0, 0)) W (ptr pV8)) (by simp)
  rw [TZ_ptr] at hx
  clear hF hP
  obtain ⟨hp, Kp⟩ := hx
  obtain ⟨V8, hSV8, KV8, hOV8⟩ := st_whole (P := Try.prog) (ty := 105) (vs := [.int .i64 sa, .int .i64 sx, .int .i64 s0, .int .i64 s1, .bool sw]) Kp rfl (by kernel_rfl) (by simp [Value.oneCell'])
  have HV8 := Lib.hid (hVa.trans (hOV8.below hp hVa.size))
  clear hVa Kp hp KV8 hOV8
  clear n0 n1 n2 n3 n4 n5 n6 n7 nL nM
  have HV := Lib.hid (And.intro (HB.out.1.below (bAfter HV7.out HV8.out)) (bAfter HB.out.2.1 (bAfter HV7.out HV8.out)))
  by_cases hb : br = false ∧ bw = false
  · have hr := HP.out
    rw [if_pos hb] at hr
    subst hr
    clear HP
    obtain ⟨rfl, rfl⟩ := hb
    have n0 : ∀ W', Below V8.heap.size V8 W' → W'.cell? ⟨b, 3, none⟩ = some (.map (some rb)) := fun W' hB => blk_cell (blk_below HV.out.1.hb hB) 3
    have n1 : ∀ W', Below V8.heap.size V8 W' → W'.cell? ⟨W.heap.size, 2, none⟩ = some (.int .i64 e2) := fun W' hB => blk_cell (blk_below (blk_below HB.out.2.2.1 (bAfter HV7.out HV8.out)) hB) 2
    have n2 : ∀ W', Below V8.heap.size V8 W' → W'.cell? ⟨w2.heap.size, 0, none⟩ = some (.int .i64 n) := fun W' hB => blk_cell (blk_below (blk_below HB.out.2.2.2 (bAfter HV7.out HV8.out)) hB) 0
    have n3 : ∀ W', Below V8.heap.size V8 W' → W'.cell? ⟨w2.heap.size, 1, none⟩ = some (.int .i64 e2) := fun W' hB => blk_cell (blk_below (blk_below HB.out.2.2.2 (bAfter HV7.out HV8.out)) hB) 1
    have n4 : ∀ W', Below V8.heap.size V8 W' → W'.cell? ⟨w2.heap.size, 2, none⟩ = some (.int .i64 e3) := fun W' hB => blk_cell (blk_below (blk_below HB.out.2.2.2 (bAfter HV7.out HV8.out)) hB) 2
    have n5 : ∀ W', Below V8.heap.size V8 W' → W'.cell? ⟨w2.heap.size, 3, none⟩ = some (.int .i64 e4) := fun W' hB => blk_cell (blk_below (blk_below HB.out.2.2.2 (bAfter HV7.out HV8.out)) hB) 3
    have n6 : ∀ W', Below V8.heap.size V8 W' → W'.cell? ⟨w2.heap.size, 4, none⟩ = some (.bool false) := fun W' hB => blk_cell (blk_below (blk_below HB.out.2.2.2 (bAfter HV7.out HV8.out)) hB) 4
    go_wp2_with (refine wpList_st rfl rfl hSV8 ?_)
    clear hSV8 hSV7
    apply GR.wp_region_grow (R := RB) 7 (by kernel_rfl) (by kernel_rfl) (by kernel_rfl)
    · intro c a d v w h; cases d <;> exact h
    simp only [List.take_succ_cons, List.take_zero, List.drop_succ_cons, List.drop_zero]
    iterate 7
      apply GR.gw_val (by rfl)
      · (intro W' hB hD; have z0 := n0 W' hB; have z1 := n1 W' hB; have z2 := n2 W' hB; have z3 := n3 W' hB; have z4 := n4 W' hB; have z5 := n5 W' hB; have z6 := n6 W' hB; go_simp; first | done | rfl)
      simp only [Act.put, List.setIfInBounds_toArray, List.set_cons_zero, List.set_cons_succ]
    apply GR.gw_nil
    intro Wz hBz hF hP
    have hAz := HV.out.1.below hBz
    obtain ⟨m, D, hown, hI, hm⟩ := hAz.hr
    have HZ := Lib.hid (And.intro hAz (And.intro (bAfter HV.out.2 hBz) (And.intro hI hm)))
    clear hF hP hAz hI hm hBz n0 n1 n2 n3 n4 n5 n6
    refine wpList_mapUpdate_own _ rfl _ _ _ 84 rfl 3 105 hk3 hu84 r105 rb m D rfl hown (by have := HZ.out.2.2.2; simp only [maxLen]; omega) _ _ _ rfl rfl (Maps.keyOf_int_mk Try.underlying3 (wf64 (by omega) (by omega))) (.held ⟨n, ⟨e2, ⟨e3, e4⟩, false⟩⟩) [] rfl ?_
    intro w6 hown6 hgrow6
    obtain ⟨hAz, hBz, hI, hm⟩ := HZ.out
    have hfin : LifeAt w6 b rb wb (k + 1) ⟨l.beg, l.fin, l.com, put l.reads e2 ⟨n, ⟨e2, ⟨e3, e4⟩, false⟩⟩, l.writes⟩ :=
      ⟨(hgrow6.block _ (blk_lt hAz.hb) (fun e => by injection e with e; exact hAz.hr.not_cells (e ▸ hAz.hb))).trans hAz.hb, ⟨m + 1, _, hown6, hI.put e2 _, by omega⟩, (hAz.hw.same (hgrow6.block _ hAz.hw.lt (fun e => by injection e with e; exact hne e.symm))).more (Nat.le_succ _)⟩
    have HE := Lib.hid (And.intro hfin ((Turned.below hBz).trans (Turned.grown (ok := fun q => q = rb ∨ q = wb) hgrow6 (fun p e => by injection e with e; exact Or.inl e.symm))))
    clear hfin hAz hBz hI hm hown6 hgrow6 hown HZ
    go_wp2_with fail
    go_ret
    exact ⟨rfl, HE.out.1, HE.out.2⟩
  · have hr := HP.out
    rw [if_neg hb] at hr
    subst hr
    clear HP
    have HV' := Lib.hid (And.intro ((HV.out.1).more (Nat.le_succ k)) (Turned.below (ok := fun q => q = rb ∨ q = wb) HV.out.2))
    clear HV
    cases br with
    | true =>
      clear hb
      go_wp2_with (refine wpList_st rfl rfl hSV8 ?_)
      go_ret
      exact ⟨rfl, HV'.out.1, HV'.out.2⟩
    | false =>
      cases bw with
      | true =>
        clear hb
        go_wp2_with (refine wpList_st rfl rfl hSV8 ?_)
        go_ret
        exact ⟨rfl, HV'.out.1, HV'.out.2⟩
      | false => exact absurd ⟨rfl, rfl⟩ hb
/-- A step of a life. -/
theorem life_step (W : World) (b rb wb k : Nat) (l : Life) (hA : LifeAt W b rb wb k l) (hne : rb ≠ wb) (hk : k < 1000000) (n e0 e1 e2 e3 e4 : Int) :
    Calls Try.prog 64 #[ptr b, .int .i64 n, .agg #[.int .i64 e0, .int .i64 e1, .int .i64 e2, .int .i64 e3, .int .i64 e4]] W (Stepped W b rb wb (k + 1) (stepL l n ⟨e0, e1, e2, ⟨e3, e4⟩⟩)) := by
  by_cases hn : e2 < 0 ∨ 64 ≤ e2 ∨ valR e3 e4 = false
  · exact life_no W b rb wb k l hA n e0 e1 e2 e3 e4 hn
  · have h0 : 0 ≤ e2 := by by_cases h : e2 < 0; exact absurd (Or.inl h) hn; omega
    have h1 : e2 < 64 := by by_cases h : 64 ≤ e2; exact absurd (Or.inr (Or.inl h)) hn; omega
    have hv : valR e3 e4 = true := by cases h : valR e3 e4 with | true => rfl | false => exact absurd (Or.inr (Or.inr h)) hn
    by_cases he : e0 = 2
    · subst he
      exact life_write W b rb wb k l hA hne hk n e1 e2 e3 e4 h0 h1 hv
    · exact life_read W b rb wb k l hA hne hk n e0 e1 e2 e3 e4 h0 h1 hv he
end Go.Proofs.Ytkijjgdcbgmglaa.Q
