/- The walk of ChoiceOwn, by hand: a lot that is handed in is not changed, also when two grow out of it. -/
import Derived.Test.YtnegpjnjgdnmpaaHDoes
import Derived.Test.YtnegpjnjgdnmpaaFlat
import Derived.ProofKit
import Derived.OpenShut
import Derived.SizedLaws
import Derived.WideLaws
set_option linter.unusedSimpArgs false
set_option linter.unusedVariables false
namespace Go.Proofs.Ytnegpjnjgdnmpaa
open Go.ChangeShapes Go.WideShapes Go.ChangeAt Go.RowKit Go.Proofs.Ytnegpjnjgdnmpaa.Q Go.Proofs.YtnegpjnjgdnmpaaW.PrintWords Go.Proofs.YtnegpjnjgdnmpaaW.PrintLast Go.Proofs.YtnegpjnjgdnmpaaW.PrintMore

theorem stable_rd2 (P : List S37) (Q : List Int) : Stable (fun W v => Rd W P Q v) := fun W W' v h hb => h.below hb

set_option maxHeartbeats 2000000 in
set_option maxRecDepth 100000 in
theorem own_walk (A0 : Option Addr) (c0 : Nat) (P : List S37) (B0 : Option Addr) (d0 : Nat) (Q : List Int) (k1 i1 v1 k2 i2 v2 : Int) (w : World) (hP : Kd.C k37 w A0 P.length P) (hc : P.length ≤ c0) (hQ : Kd.C (Kd.int .i64) w B0 Q.length Q) (hd : Q.length ≤ d0) (hk1 : 0 ≤ k1 ∧ k1 ≤ 255) (hk2 : 0 ≤ k2 ∧ k2 ≤ 255) :
    Calls Try.prog 5 #[.agg #[.slice A0 P.length c0, .slice B0 Q.length d0], .agg #[.int .u8 k1, .int .i64 i1, .int .u64 v1], .agg #[.int .u8 k2, .int .i64 i2, .int .u64 v2]] w fun e w' => e = .returned (.bool true) ∧ Below w.heap.size w w' := by
  have hu := Try.underlying27
  have huR := Try.underlying46
  have huA := Try.underlying48
  have C1 := Lib.hid (fun W => warpbeamlaw18_alive.calls true W rfl)
  obtain ⟨W0, hW0, K0, KA, KB, HB0, -⟩ := three_named w (.cells #[.slice A0 P.length c0, .slice B0 Q.length d0] 46) (.cells #[.int .u8 k1, .int .i64 i1, .int .u64 v1] 48) (.cells #[.int .u8 k2, .int .i64 i2, .int .u64 v2] 48)
  have HP := Lib.hid (And.intro hP (And.intro hc (And.intro hQ (And.intro hd (And.intro hk1 hk2)))))
  have HK := Lib.hid (And.intro K0 (And.intro HB0 (And.intro KA KB)))
  clear hP hc hQ hd hk1 hk2 K0 HB0 KA KB
  by_cases h1 : (P.length : Int) > 150
  · go_enter Try.func5, Try.ntmps5
    go_wp2_with fail
    refine (C1.out _).mono ?_
    rintro e w1 ⟨rfl, hB1⟩
    have K1 := blk_below HK.out.1 hB1
    have k0 : w1.cell? ⟨w.heap.size, 0, none⟩ = some (.slice A0 P.length c0) := blk_cell K1 0
    have HZ := Lib.hid (bAfter HK.out.2.1 hB1)
    clear K1 hB1
    go_wp2_with fail
    go_ret
    exact ⟨rfl, HZ.out⟩
  · by_cases h2 : (Q.length : Int) > 150
    · go_enter Try.func5, Try.ntmps5
      go_wp2_with fail
      refine (C1.out _).mono ?_
      rintro e w1 ⟨rfl, hB1⟩
      have K1 := blk_below HK.out.1 hB1
      have k0 : w1.cell? ⟨w.heap.size, 0, none⟩ = some (.slice A0 P.length c0) := blk_cell K1 0
      have k1 : w1.cell? ⟨w.heap.size, 1, none⟩ = some (.slice B0 Q.length d0) := blk_cell K1 1
      have HZ := Lib.hid (bAfter HK.out.2.1 hB1)
      clear K1 hB1
      go_wp2_with fail
      go_ret
      exact ⟨rfl, HZ.out⟩
    · have hl : P.length ≤ 150 := by omega
      have hl2 : Q.length ≤ 150 := by omega
      have HL := Lib.hid (And.intro hl hl2)
      clear hl hl2
      go_enter Try.func5, Try.ntmps5
      go_wp2_with fail
      refine (C1.out _).mono ?_
      rintro e w1 ⟨rfl, hB1⟩
      have K1 := blk_below HK.out.1 hB1
      have KA := blk_below HK.out.2.2.1 hB1
      have KB := blk_below HK.out.2.2.2 hB1
      have k0 : w1.cell? ⟨w.heap.size, 0, none⟩ = some (.slice A0 P.length c0) := blk_cell K1 0
      have k1 : w1.cell? ⟨w.heap.size, 1, none⟩ = some (.slice B0 Q.length d0) := blk_cell K1 1
      have HB1 := Lib.hid (bAfter HK.out.2.1 hB1)
      clear hB1 C1 HK hW0
      go_wp2_with fail
      refine (theirs_lot A0 c0 P B0 d0 Q w1 (Kd.C_below HP.out.1 HB1.out) HP.out.2.1 (Kd.C_below HP.out.2.2.1 HB1.out) HP.out.2.2.2.1 (by have := HL.out.1; omega) (by have := HL.out.2; omega)).mono ?_
      rintro e w3 ⟨A3, c3, B3, d3, rfl, hL3, hB3⟩
      have K1 := blk_below K1 hB3
      have KA := blk_below KA hB3
      have KB := blk_below KB hB3
      have HB3 := Lib.hid (bAfter HB1.out hB3)
      clear hB3 HB1 k0 k1
      obtain ⟨t, ht⟩ : ∃ t, P.map thS = t := ⟨_, rfl⟩
      rw [ht] at hL3
      have hou : t.map ouS = P := by rw [← ht, ou_th]
      have hlm : P.length = t.length := by rw [← ht, List.length_map]
      have htl : t.length ≤ 150 := by have := HL.out.1; omega
      clear ht
      rw [hlm]
      have HT := Lib.hid (And.intro hou htl)
      clear hlm hou htl
      obtain ⟨W4, hW4, K4, hB4⟩ : ∃ W4, w3.alloc (.cells #[.slice A3 t.length c3, .slice B3 Q.length d3] 27) = W4 ∧ W4.heap[w3.heap.size]? = some (.cells #[.slice A3 t.length c3, .slice B3 Q.length d3] 27 (0, 0)) ∧ Below w3.heap.size w3 W4 := ⟨_, rfl, heap_alloc_new _ _, bOne _⟩
      have K1 := blk_below K1 hB4
      have KA := blk_below KA hB4
      have KB := blk_below KB hB4
      have hL4 := hL3.below hB4
      have HB4 := Lib.hid (bAfter HB3.out hB4)
      have t0 : W4.cell? ⟨w3.heap.size, 0, none⟩ = some (.slice A3 t.length c3) := blk_cell K4 0
      have t1 : W4.cell? ⟨w3.heap.size, 1, none⟩ = some (.slice B3 Q.length d3) := blk_cell K4 1
      have a0 : W4.cell? ⟨w.heap.size + 1, 0, none⟩ = some (.int .u8 k1) := blk_cell KA 0
      have a1 : W4.cell? ⟨w.heap.size + 1, 1, none⟩ = some (.int .i64 i1) := blk_cell KA 1
      have a2 : W4.cell? ⟨w.heap.size + 1, 2, none⟩ = some (.int .u64 v1) := blk_cell KA 2
      clear hB4 HB3 hL3
      go_wp2_with fail
      refine (does_lot (N := 150) (by decide) hL4 (by have := HT.out.2; omega) (by have := HL.out.2; omega) k1 i1 v1 HP.out.2.2.2.2.1).mono ?_
      rintro _ w5 ⟨A5, c5, p, B5, d5, q, A6, n6, c6, B6, m6, d6, r5, rfl, hL5, hpl, hql, hB5⟩
      have HX := Lib.hid (And.intro hpl hql)
      obtain ⟨W6, hW6, K5, K6, hB6, -⟩ := two_named w5 (.cells #[.slice A5 p.length c5, .slice B5 q.length d5] 27) (.cells #[.slice A6 n6 c6, .slice B6 m6 d6] 46)
      have hB46 := bAfter hB5 hB6
      have K1 := blk_below K1 hB46
      have KA := blk_below KA hB46
      have KB := blk_below KB hB46
      have K4 := blk_below K4 hB46
      have hL4 := hL4.below hB46
      have hL5 := hL5.below hB6
      have HB6 := Lib.hid (bAfter HB4.out hB46)
      have x0 : W6.cell? ⟨w5.heap.size, 0, none⟩ = some (.slice A5 p.length c5) := blk_cell K5 0
      have x1 : W6.cell? ⟨w5.heap.size, 1, none⟩ = some (.slice B5 q.length d5) := blk_cell K5 1
      clear hpl hql hB5 hB6 hB46 HB4 a0 a1 a2 hW4 K6 t0 t1
      go_wp2_with fail
      refine (ours_lot A5 c5 p B5 d5 q W6 hL5.reads.1 hL5.reads.2.1 hL5.reads.2.2.1 hL5.reads.2.2.2 (by have := HX.out.1; omega) (by have := HX.out.2; omega)).mono ?_
      rintro _ w7 ⟨A7, c7, B7, d7, rfl, hL7, hB7⟩
      obtain ⟨pu, hpu⟩ : ∃ pu, p.map ouS = pu := ⟨_, rfl⟩
      rw [hpu] at hL7
      have hlm : p.length = pu.length := by rw [← hpu, List.length_map]
      have hR7 := And.intro (Kd.V_reads' hL7.1).2.2 (And.intro (Kd.V_reads' hL7.1).2.1 (And.intro (Kd.V_reads' hL7.2).2.2 (Kd.V_reads' hL7.2).2.1))
      obtain ⟨W8, hW8, K7, hB8⟩ : ∃ W8, w7.alloc (.cells #[.slice A7 p.length c7, .slice B7 q.length d7] 46) = W8 ∧ W8.heap[w7.heap.size]? = some (.cells #[.slice A7 p.length c7, .slice B7 q.length d7] 46 (0, 0)) ∧ Below w7.heap.size w7 W8 := ⟨_, rfl, heap_alloc_new _ _, bOne _⟩
      have hB68 := bAfter hB7 hB8
      have K1 := blk_below K1 hB68
      have KB := blk_below KB hB68
      have K4 := blk_below K4 hB68
      have K5 := blk_below K5 hB68
      have hL4 := hL4.below hB68
      have hL5 := hL5.below hB68
      have HB8 := Lib.hid (bAfter HB6.out hB68)
      have HR8 := Lib.hid (And.intro (Kd.C_below hR7.1 hB8) (And.intro hR7.2.1 (And.intro (Kd.C_below hR7.2.2.1 hB8) hR7.2.2.2)))
      have t0 : W8.cell? ⟨w3.heap.size, 0, none⟩ = some (.slice A3 t.length c3) := blk_cell K4 0
      have t1 : W8.cell? ⟨w3.heap.size, 1, none⟩ = some (.slice B3 Q.length d3) := blk_cell K4 1
      have a0 : W8.cell? ⟨w.heap.size + 1 + 1, 0, none⟩ = some (.int .u8 k2) := blk_cell KB 0
      have a1 : W8.cell? ⟨w.heap.size + 1 + 1, 1, none⟩ = some (.int .i64 i2) := blk_cell KB 1
      have a2 : W8.cell? ⟨w.heap.size + 1 + 1, 2, none⟩ = some (.int .u64 v2) := blk_cell KB 2
      have HU := Lib.hid (And.intro hpu hlm)
      clear hB7 hB8 hB68 hL7 hR7 hpu hlm x0 x1 hW6 HB6 KA
      go_wp2_with fail
      refine (does_lot (N := 150) (by decide) hL4 (by have := HT.out.2; omega) (by have := HL.out.2; omega) k2 i2 v2 HP.out.2.2.2.2.2).mono ?_
      rintro _ w9 ⟨_, _, _, _, _, _, _, _, _, _, _, _, _, rfl, -, -, -, hB9⟩
      have K1 := blk_below K1 hB9
      have KB := blk_below KB hB9
      have K4 := blk_below K4 hB9
      have K5 := blk_below K5 hB9
      have K7 := blk_below K7 hB9
      have hL4 := hL4.below hB9
      have hL5 := hL5.below hB9
      have HB9 := Lib.hid (bAfter HB8.out hB9)
      have HR9 := Lib.hid (And.intro (Kd.C_below HR8.out.1 hB9) (And.intro HR8.out.2.1 (And.intro (Kd.C_below HR8.out.2.2.1 hB9) HR8.out.2.2.2)))
      clear hB9 HR8 HB8 t0 t1 a0 a1 a2 hW8
      have x0 : w9.cell? ⟨w5.heap.size, 0, none⟩ = some (.slice A5 p.length c5) := blk_cell K5 0
      have x1 : w9.cell? ⟨w5.heap.size, 1, none⟩ = some (.slice B5 q.length d5) := blk_cell K5 1
      have a0 : w9.cell? ⟨w.heap.size + 1 + 1, 0, none⟩ = some (.int .u8 k2) := blk_cell KB 0
      have a1 : w9.cell? ⟨w.heap.size + 1 + 1, 1, none⟩ = some (.int .i64 i2) := blk_cell KB 1
      have a2 : w9.cell? ⟨w.heap.size + 1 + 1, 2, none⟩ = some (.int .u64 v2) := blk_cell KB 2
      go_wp2_with fail
      refine (does_lot (N := 151) (by decide) hL5 HX.out.1 HX.out.2 k2 i2 v2 HP.out.2.2.2.2.2).mono ?_
      rintro _ w10 ⟨_, _, _, _, _, _, _, _, _, _, _, _, _, rfl, -, -, -, hB10⟩
      have K1 := blk_below K1 hB10
      have K4 := blk_below K4 hB10
      have K5 := blk_below K5 hB10
      have K7 := blk_below K7 hB10
      have hL4 := hL4.below hB10
      have hL5 := hL5.below hB10
      have HB10 := Lib.hid (bAfter HB9.out hB10)
      have HR10 := Lib.hid (And.intro (Kd.C_below HR9.out.1 hB10) (And.intro HR9.out.2.1 (And.intro (Kd.C_below HR9.out.2.2.1 hB10) HR9.out.2.2.2)))
      have F0 := stays (show w10.cell? ⟨w3.heap.size, 0, none⟩ = some (.slice A3 t.length c3) from blk_cell K4 0)
      have F1 := stays (show w10.cell? ⟨w3.heap.size, 1, none⟩ = some (.slice B3 Q.length d3) from blk_cell K4 1)
      have F2 := stays (show w10.cell? ⟨w5.heap.size, 0, none⟩ = some (.slice A5 p.length c5) from blk_cell K5 0)
      have F3 := stays (show w10.cell? ⟨w5.heap.size, 1, none⟩ = some (.slice B5 q.length d5) from blk_cell K5 1)
      have F4 := stays (show w10.cell? ⟨w7.heap.size, 0, none⟩ = some (.slice A7 p.length c7) from blk_cell K7 0)
      have F5 := stays (show w10.cell? ⟨w7.heap.size, 1, none⟩ = some (.slice B7 q.length d7) from blk_cell K7 1)
      have F6 := stays (show w10.cell? ⟨w.heap.size, 0, none⟩ = some (.slice A0 P.length c0) from blk_cell K1 0)
      have F7 := stays (show w10.cell? ⟨w.heap.size, 1, none⟩ = some (.slice B0 Q.length d0) from blk_cell K1 1)
      have HM := Lib.hid (And.intro hL4 hL5)
      clear hB10 HB9 HR9 K1 K4 K5 K7 KB x0 x1 a0 a1 a2 hL4 hL5
      go_wp2_with fail
      apply wp_region_grows (by kernel_rfl) (by kernel_rfl)
      apply gw_val (by rfl)
      · intro W hB hD; go_simp; try rfl
      simp only [Act.put, List.setIfInBounds_toArray, List.set_cons_zero, List.set_cons_succ]
      apply gw_callR (stable_rd2 P Q) (by rfl)
      · intro W hB hD; go_simp; exact ⟨rfl, rfl⟩
      · intro W hB hD
        have := ours_rd (HM.out.1.below hB) (by have := HT.out.2; omega) (by have := HL.out.2; omega)
        rw [HT.out.1] at this
        exact this
      rintro v ⟨Wv, Av, cv, Bv, dv, rfl, -⟩
      simp only [Act.put, List.setIfInBounds_toArray, List.set_cons_zero, List.set_cons_succ]
      apply gw_val (by rfl)
      · intro W hB hD; go_simp; try rfl
      simp only [Act.put, List.setIfInBounds_toArray, List.set_cons_zero, List.set_cons_succ]
      apply gw_call (by rfl)
      · intro W hB hD; go_simp; exact ⟨rfl, rfl⟩
      · intro W hB hD
        have h1 : Rd W P Q _ := hD.1 rfl
        exact same_rd h1 ⟨A0, c0, B0, d0, rfl, Kd.C_below (Kd.C_below HP.out.1 HB10.out) hB, HP.out.2.1, Kd.C_below (Kd.C_below HP.out.2.2.1 HB10.out) hB, HP.out.2.2.2.1⟩ (by have := HL.out.1; omega) (by have := HL.out.2; omega)
      simp only [Act.put, List.setIfInBounds_toArray, List.set_cons_zero, List.set_cons_succ]
      apply gw_val (by rfl)
      · intro W hB hD; go_simp; try rfl
      simp only [Act.put, List.setIfInBounds_toArray, List.set_cons_zero, List.set_cons_succ]
      apply gw_val (by rfl)
      · intro W hB hD; go_simp; try rfl
      simp only [Act.put, List.setIfInBounds_toArray, List.set_cons_zero, List.set_cons_succ]
      apply gw_callR (stable_rd2 pu q) (by rfl)
      · intro W hB hD; go_simp; exact ⟨rfl, rfl⟩
      · intro W hB hD
        have := ours_rd (HM.out.2.below hB) (by have := HX.out.1; omega) (by have := HX.out.2; omega)
        rw [HU.out.1] at this
        exact this
      rintro v ⟨Wv2, Av2, cv2, Bv2, dv2, rfl, -⟩
      simp only [Act.put, List.setIfInBounds_toArray, List.set_cons_zero, List.set_cons_succ]
      apply gw_val (by rfl)
      · intro W hB hD; go_simp; try rfl
      simp only [Act.put, List.setIfInBounds_toArray, List.set_cons_zero, List.set_cons_succ]
      apply gw_call (by rfl)
      · intro W hB hD; go_simp; exact ⟨rfl, rfl⟩
      · intro W hB hD
        have h1 : Rd W pu q _ := hD.1 rfl
        exact same_rd h1 ⟨A7, c7, B7, d7, by rw [HU.out.2], Kd.C_below HR10.out.1 hB, HR10.out.2.1, Kd.C_below HR10.out.2.2.1 hB, HR10.out.2.2.2⟩ (by have := HX.out.1; have := HU.out.2; omega) (by have := HX.out.2; omega)
      simp only [Act.put, List.setIfInBounds_toArray, List.set_cons_zero, List.set_cons_succ]
      apply gw_val (by rfl)
      · intro W hB hD; go_simp; try rfl
      simp only [Act.put, List.setIfInBounds_toArray, List.set_cons_zero, List.set_cons_succ]
      apply gw_val (by rfl)
      · intro W hB hD; go_simp; try rfl
      simp only [Act.put, List.setIfInBounds_toArray, List.set_cons_zero, List.set_cons_succ]
      apply gw_nil
      intro W hW _ _
      have HZ := Lib.hid (bAfter HB10.out hW)
      clear F0 F1 F2 F3 F4 F5 F6 F7 hW
      go_wp2_with fail
      go_ret
      exact ⟨rfl, HZ.out⟩

theorem flat_act : Flat Try.prog 48 [.int .u8, .int .i64, .int .u64] :=
  flat_struct [[.int .u8], [.int .i64], [.int .u64]] Try.underlying48 rfl (by kernel_rfl) (by kernel_rfl) fun i f ls hf hl => by
    rcases i with _ | _ | _ | i
    · cases hf; cases hl; exact flat_int (by kernel_rfl)
    · cases hf; cases hl; exact flat_int (by kernel_rfl)
    · cases hf; cases hl; exact flat_int (by kernel_rfl)
    · simp at hl
theorem act_of {cs : Array Value} (h : Fits [.int .u8, .int .i64, .int .u64] cs.toList) : ∃ k a b : Int, cs = #[.int .u8 k, .int .i64 a, .int .u64 b] ∧ 0 ≤ k ∧ k ≤ 255 := by
  rcases cs with ⟨l⟩
  obtain ⟨k, r, e1, hw, h⟩ := fits_int h
  obtain ⟨a, r, rfl, -, h⟩ := fits_int h
  obtain ⟨b, r, rfl, -, h⟩ := fits_int h
  obtain rfl := fits_nil h
  have e2 : l = _ := e1
  rw [e2]
  simp only [Lit.wf, Bool.and_eq_true, decide_eq_true_eq] at hw
  have m1 : IntKind.u8.min = 0 := by decide
  have m2 : IntKind.u8.max = 255 := by decide
  rw [m1, m2] at hw
  exact ⟨k, a, b, rfl, hw⟩

theorem walk_ChoiceOwn {H : Type} {enc : TypeId × Value → H} (W : World) (base : Nat) (v0 : Value) (d0 : DataW H) (p0 : List MemPlace) (o0 : Value.okWide Try.prog W .any base 46 v0) (h0 : DataW.Trod enc Try.prog W 0 (fun _ => true) true 46 v0 d0 p0) (v1 : Value) (d1 : DataW H) (p1 : List MemPlace) (o1 : Value.okWide Try.prog W .any base 48 v1) (h1 : DataW.Trod enc Try.prog W 0 (fun _ => true) true 48 v1 d1 p1) (v2 : Value) (d2 : DataW H) (p2 : List MemPlace) (o2 : Value.okWide Try.prog W .any base 48 v2) (h2 : DataW.Trod enc Try.prog W 0 (fun _ => true) true 48 v2 d2 p2) {P : Prop} (_hsz : P) :
    Calls Try.prog 5 #[v0, v1, v2] W fun e w' => e = .returned (.bool true) ∧ Below W.heap.size W w' := by
  obtain ⟨A, c, P', B, d, Q, rfl, hP, hc, hQ, hd⟩ := lot_of o0 h0
  obtain ⟨cs, rfl, hf⟩ := open_struct Try.underlying48 flat_act o1 h1
  obtain ⟨k1, i1, a1, rfl, hk1⟩ := act_of hf
  obtain ⟨cs, rfl, hf⟩ := open_struct Try.underlying48 flat_act o2 h2
  obtain ⟨k2, i2, a2, rfl, hk2⟩ := act_of hf
  exact own_walk A c P' B d Q k1 i1 a1 k2 i2 a2 W hP hc hQ hd hk1 hk2

end Go.Proofs.Ytnegpjnjgdnmpaa
