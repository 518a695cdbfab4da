/- More fuel: the walk, by hand. -/
import Derived.Test.YtgnjkegnddekeaaFlat2
import Derived.Test.YtgnjkegnddekeaaOursT
import Derived.Test.YtgnjkegnddekeaaFuelP
import Derived.Test.YtgnjkegnddekeaaGrow
import Derived.Test.YtgnjkegnddekeaaRows
import Derived.ProofKit
import Derived.OpenShut
import Derived.SizedLaws
import Derived.WideLaws
namespace Go.Proofs.Ytgnjkegnddekeaa.Q
open Go.RowKit Go.Lib Go.Proofs.Ytgnjkegnddekeaa Go.Proofs.YtgnjkegnddekeaaW.PrintWords Go.Proofs.YtgnjkegnddekeaaW.PrintLast Go.Proofs.YtgnjkegnddekeaaW.PrintMore
attribute [local go_sem] max2_int min2_int max_two min_two
set_option linter.unusedVariables false
set_option linter.unusedSimpArgs false

theorem stable_R {α : Type} (d : Kd α) (e base : Nat) (L : List α) : Stable (fun W v => Kd.R d e W base (fun _ => True) v L) := fun _ _ _ h hb => Kd.R_below h hb
/-- A row of the call's own, wherever another block alone was written that holds something else. -/
theorem R_off {α : Type} {d : Kd α} {e base : Nat} {v : Value} {L : List α} {W W' : World} {b : Nat} {cs : Array Value} {t : Nat} (h : Kd.R d e W base (fun _ => True) v L) (hb : W.heap[b]? = some (.cells cs t (0, 0))) (ht : ∀ q ∈ e :: d.E, q ≠ t) (hO : Only b W W') : Kd.R d e W' base (fun _ => True) v L :=
  Kd.R_mono (Kd.R_step (Kd.R_bound h) fun k hk hlt => by
    refine hO.block k hlt fun e1 => ?_
    obtain ⟨-, -, -, q, hq, cells, hc⟩ := hk
    rw [e1, hb] at hc
    injection hc with hc
    injection hc with _ hc
    exact ht q hq hc.symm) fun _ _ => trivial
theorem same_calls {b0 : Nat} (A : Option Addr) (c : Nat) (A2 : Option Addr) (c2 : Nat) (T : List S114) (w : World) (h1 : Kd.R k114 114 w b0 (fun _ => True) (.slice A T.length c) T) (h2 : Kd.R k114 114 w b0 (fun _ => True) (.slice A2 T.length c2) T) (hl : T.length ≤ 1000000) :
    Calls Try.prog 23 #[.slice A T.length c, .slice A2 T.length c2] w fun e w' => e = .returned (.bool true) ∧ Below w.heap.size w w' := by
  obtain ⟨A1, c1, e1, q1, g1⟩ := Kd.R_reads h1
  injection e1 with e1a e1b e1c
  subst e1a; subst e1c
  obtain ⟨A3, c3, e2, q2, g2⟩ := Kd.R_reads h2
  injection e2 with e2a e2b e2c
  subst e2a; subst e2c
  exact (warpbeamref08_Same.calls (T.length + 1) A c T A2 c2 T true w g1 q1 g2 q2 (same_f T hl _ (by omega))).mono fun e w' h => ⟨h.1, h.2.below⟩
theorem res_tail {e u : Int} {rs : List S32} {x : Value} (h : (rc rs).length = 16) : (Value.int .i64 e :: Value.int .i64 u :: (rc rs ++ [x])).toArray[18]? = some x := by
  simp only [List.getElem?_toArray, List.getElem?_cons_succ]
  rw [List.getElem?_append_right (by omega), h]
  rfl
set_option maxRecDepth 100000 in
set_option maxHeartbeats 2000000 in
theorem fuel_core (l : List S97) (A : Option Addr) (c : Nat) (NA : Option Addr) (nc : Nat) (now : List S24) (rs : List S32) (fuel more : Int) (W : World) (hC : Kd.C k97 W A l.length l) (hlc : l.length ≤ c) (hN : Kd.C k24 W NA now.length now) (hnc : now.length ≤ nc)
    (hgo : ∀ x ∈ l, goodOp x) (hgv : ∀ v ∈ now, goodVal v) (h8 : rs.length = 8) (hrr : ∀ v ∈ rs, R64 v.f1) (hfu : R64 fuel) (hm0 : 0 ≤ more) (hm1 : more < 65536) :
    Calls Try.prog 5 #[.slice A l.length c, .agg (worC (.slice NA now.length nc) rs fuel), .int .u16 more] W fun e w' => e = .returned (.bool true) ∧ Below W.heap.size W w' := by
  have hu54 := Try.underlying54
  have hu26 := Try.underlying26
  have hu34 := Try.underlying34
  have hu59 := Try.underlying59
  have size54 : (Try.prog.info? 54).map (·.size) = some 18 := by kernel_rfl
  have size26 : (Try.prog.info? 26).map (·.size) = some 16 := by kernel_rfl
  have hwl : (worC (.slice NA now.length nc) rs fuel).size = 18 := by have := rc_length rs; simp [worC, this, h8]
  obtain ⟨W1, hW1, KW1, hBW1⟩ : ∃ V, W.alloc (.cells (worC (.slice NA now.length nc) rs fuel) 54) = V ∧ V.heap[W.heap.size]? = some (.cells (worC (.slice NA now.length nc) rs fuel) 54 (0, 0)) ∧ Below W.heap.size W V := ⟨_, rfl, heap_alloc_new _ _, bOne _⟩
  have HA := Lib.hid (alive_calls W1)
  have HH := Lib.hid (And.intro hC (And.intro hN (And.intro hBW1 KW1)))
  clear hC hN hBW1 KW1
  by_cases hh : heavyP l.length now.length fuel = true
  · go_enter Try.func5, Try.ntmps5
    go_wp2_with fail
    refine HA.out.mono ?_
    rintro e w2 ⟨rfl, hB2⟩
    have hL := ld_whole (P := Try.prog) (ty := 54) (blk_below HH.out.2.2.2 hB2) hu54 rfl (by rw [size54, hwl])
    have HB := Lib.hid (bAfter HH.out.2.2.1 hB2)
    have hv := heavy_calls w2 A NA l.length c now.length nc rs fuel h8
    rw [hh] at hv
    have HV := Lib.hid hv
    clear hv hB2 HH HA
    go_wp2_with (refine wpList_ld rfl rfl hL ?_)
    refine HV.out.mono ?_
    rintro e w3 ⟨rfl, hB3⟩
    have HE := Lib.hid (bAfter HB.out hB3)
    clear hB3 HB HV
    go_wp2_with fail
    go_ret
    exact ⟨rfl, HE.out⟩
  have hhf : heavyP l.length now.length fuel = false := by simpa using hh
  have hb3 : l.length ≤ 220 ∧ now.length ≤ 100 ∧ fuel ≤ 3000 := by
    unfold heavyP at hhf
    simp only [Bool.or_eq_false_iff, decide_eq_false_iff_not] at hhf
    omega
  obtain ⟨hb1, hb2, hb3⟩ := hb3
  obtain ⟨L, hLd⟩ : ∃ L, l.map conv74 = L := ⟨_, rfl⟩
  obtain ⟨N, hNd⟩ : ∃ N, now.map conv32 = N := ⟨_, rfl⟩
  have hlL : ∀ o ∈ L, R64 o.f2 ∧ R64 o.f4 := by
    intro o ho
    rw [← hLd] at ho
    obtain ⟨x, hx, rfl⟩ := List.mem_map.1 ho
    exact ⟨(hgo x hx).2.2.1, (hgo x hx).2.2.2.2⟩
  have hnN : ∀ v ∈ N, R64 v.f1 := by
    intro v hv
    rw [← hNd] at hv
    obtain ⟨x, hx, rfl⟩ := List.mem_map.1 hv
    exact (hgv x hx).2
  have hTH : warpbeamlaw16_Theirs.f l = some L := by unfold warpbeamlaw16_Theirs.f; rw [if_pos (by omega), hLd]
  have hTN : warpbeamlaw10_Theirs.f now = some N := by unfold warpbeamlaw10_Theirs.f; rw [if_pos (by omega), hNd]
  have hw1 : wrap64 (fuel + more) = fuel + more := by unfold R64 at hfu; unfold wrap64; omega
  have hM := run_more L N fuel (fuel + more) (by omega) (by omega) hlL hnN (fuel.toNat + 1) ((fuel + more).toNat + 1) ⟨0, 0, rs, []⟩ [] (inv_first h8 hrr) (by show (fuel - 0).toNat < _; omega) (by show (fuel + more - 0).toNat < _; omega)
  have hT1 := run_tl L N fuel hlL hnN (by omega) (fuel.toNat + 1) ⟨0, 0, rs, []⟩ [] (inv_first h8 hrr)
  obtain ⟨r, hr⟩ : ∃ r, runP L N fuel (fuel.toNat + 1) ⟨0, 0, rs, []⟩ [] = r := ⟨_, rfl⟩
  obtain ⟨s, hs⟩ : ∃ s, runP L N (fuel + more) ((fuel + more).toNat + 1) ⟨0, 0, rs, []⟩ [] = s := ⟨_, rfl⟩
  rw [hr, hs] at hM
  rw [hr] at hT1
  obtain ⟨m1, m2, m3⟩ := hM
  have m1' : r.used ≤ max fuel 0 := m1
  have HP := Lib.hid (And.intro hlL (And.intro hnN (And.intro hTH (And.intro hTN (And.intro hr (And.intro hs hT1))))))
  obtain ⟨mx, hmx⟩ : ∃ mx, (if fuel < 0 then 0 else fuel) = mx := ⟨_, rfl⟩
  have m0 : decide (r.used > mx) = false := by rw [← hmx]; simp only [decide_eq_false_iff_not]; split <;> omega
  clear hlL hnN hTH hTN hr hs hT1 m1 m1' hLd hNd hgo hgv hh
  go_enter Try.func5, Try.ntmps5
  go_wp2_with fail
  refine HA.out.mono ?_
  rintro e w2 ⟨rfl, hB2⟩
  have hL := ld_whole (P := Try.prog) (ty := 54) (blk_below HH.out.2.2.2 hB2) hu54 rfl (by rw [size54, hwl])
  have HB := Lib.hid hB2
  have hv := heavy_calls w2 A NA l.length c now.length nc rs fuel h8
  rw [hhf] at hv
  have HV := Lib.hid hv
  clear hv hB2 HA
  go_wp2_with (refine wpList_ld rfl rfl hL ?_)
  refine HV.out.mono ?_
  rintro e w3 ⟨rfl, hB3⟩
  have hW3 := bAfter HB.out hB3
  have n0 : ∀ W', Below w3.heap.size w3 W' → W'.cell? ⟨W.heap.size, 0, none⟩ = some (.slice NA now.length nc) := fun W' hB => blk_cell (blk_below HH.out.2.2.2 (bAfter hW3 hB)) 0
  have n1 : ∀ W', Below w3.heap.size w3 W' → (Instr.loadAt 26 (.pointer (some ⟨W.heap.size, 1, none⟩))).run Try.prog W' = .ok (.agg (rc rs).toArray) W' := fun W' hB =>
    ld_range (P := Try.prog) (ty := 26) (range_of (W := W') (g := W.heap.size) (pre := [.slice NA now.length nc]) (cs := rc rs) (post := [.int .i64 fuel]) (t := 54) (fr := (0, 0)) (by simpa [worC] using blk_below HH.out.2.2.2 (bAfter hW3 hB))) hu26 rfl (by rw [size26, rc_length, h8])
  have n2 : ∀ W', Below w3.heap.size w3 W' → Kd.C k97 W' A l.length l := fun W' hB => Kd.C_below HH.out.1 (bAfter HH.out.2.2.1 (bAfter hW3 hB))
  have n3 : ∀ W', Below w3.heap.size w3 W' → Kd.C k24 W' NA now.length now := fun W' hB => Kd.C_below HH.out.2.1 (bAfter HH.out.2.2.1 (bAfter hW3 hB))
  have N2 := Lib.hid n2
  have N3 := Lib.hid n3
  have HW3 := Lib.hid hW3
  clear hB3 hW3 hL HB HV n2 n3
  go_wp2_with fail
  apply wp_region_grow 9 (by kernel_rfl) (by kernel_rfl) (by kernel_rfl)
  simp only [List.take_succ_cons, List.take_zero, List.drop_succ_cons, List.drop_zero]
  repeat
    apply gw_val (by rfl)
    · (intro W' hB hD; have e0 := n0 W' hB; go_simp; first | done | rfl)
    simp only [Act.put, List.setIfInBounds_toArray, List.set_cons_zero, List.set_cons_succ]
  apply gw_callR (stable_R k74 74 w3.heap.size L) (by rfl)
  · (intro W' hB hD; go_simp; first | done | rfl | exact ⟨rfl, rfl⟩)
  · (intro W' hB hD; exact (warpbeamlaw16_Theirs.calls A c l L W' (N2.out W' hB) hlc HP.out.2.2.1).mono fun e w' hh => by
      obtain ⟨v, he, hv, hb⟩ := hh
      exact ⟨v, he, hb, Kd.R_lower hv hB.size⟩)
  rintro v ⟨Wv, hv⟩
  obtain ⟨B, d, rfl⟩ := Kd.R_slice hv
  clear hv Wv
  simp only [Act.put, List.setIfInBounds_toArray, List.set_cons_zero, List.set_cons_succ]
  repeat
    apply gw_val (by rfl)
    · (intro W' hB hD; have e0 := n0 W' hB; go_simp; first | done | rfl)
    simp only [Act.put, List.setIfInBounds_toArray, List.set_cons_zero, List.set_cons_succ]
  apply gw_callR (stable_R k32 32 w3.heap.size N) (by rfl)
  · (intro W' hB hD; go_simp; first | done | rfl | exact ⟨rfl, rfl⟩)
  · (intro W' hB hD; exact (warpbeamlaw10_Theirs.calls NA nc now N W' (N3.out W' hB) hnc HP.out.2.2.2.1).mono fun e w' hh => by
      obtain ⟨v, he, hv, hb⟩ := hh
      exact ⟨v, he, hb, Kd.R_lower hv hB.size⟩)
  rintro v ⟨Wv, hv⟩
  obtain ⟨B2, d2, rfl⟩ := Kd.R_slice hv
  clear hv Wv
  simp only [Act.put, List.setIfInBounds_toArray, List.set_cons_zero, List.set_cons_succ]
  repeat
    apply gw_val (by rfl)
    · (intro W' hB hD; have e0 := n0 W' hB; go_simp; first | done | rfl)
    simp only [Act.put, List.setIfInBounds_toArray, List.set_cons_zero, List.set_cons_succ]
  apply gw_val (by rfl)
  · (intro W' hB hD; exact exec_ld rfl (n1 W' hB))
  simp only [Act.put, List.setIfInBounds_toArray, List.set_cons_zero, List.set_cons_succ]
  apply gw_call (by rfl)
  · (intro W' hB hD; go_simp; first | done | rfl | exact ⟨rfl, rfl⟩)
  · (intro W' hB hD; exact regs_calls W' rs h8)
  simp only [Act.put, List.setIfInBounds_toArray, List.set_cons_zero, List.set_cons_succ]
  apply gw_alloc (cs := #[.int .i64 0, .int .i64 0, .int .i64 0, .int .i64 0, .int .i64 0, .int .i64 0, .int .i64 0, .int .i64 0, .int .i64 0, .int .i64 0, .int .i64 0, .int .i64 0, .int .i64 0, .int .i64 0, .int .i64 0, .int .i64 0]) (t := 34) (by rfl)
  · (intro W' hB hD; go_simp; first | done | rfl)
  intro b hb
  simp only [Act.put, List.setIfInBounds_toArray, List.set_cons_zero, List.set_cons_succ]
  apply gw_nil
  intro Va hVa hF hP
  have f1 : Kd.R k74 74 Va w3.heap.size (fun _ => True) (.slice B L.length d) L := hF (fun W => Kd.R k74 74 W w3.heap.size (fun _ => True) (.slice B L.length d) L) (by simp)
  have f2 : Kd.R k32 32 Va w3.heap.size (fun _ => True) (.slice B2 N.length d2) N := hF (fun W => Kd.R k32 32 W w3.heap.size (fun _ => True) (.slice B2 N.length d2) N) (by simp)
  have f3 : Va.heap[b]? = some (.cells #[.int .i64 0, .int .i64 0, .int .i64 0, .int .i64 0, .int .i64 0, .int .i64 0, .int .i64 0, .int .i64 0, .int .i64 0, .int .i64 0, .int .i64 0, .int .i64 0, .int .i64 0, .int .i64 0, .int .i64 0, .int .i64 0] 34 (0, 0)) := hF (fun W => W.heap[b]? = some (.cells #[.int .i64 0, .int .i64 0, .int .i64 0, .int .i64 0, .int .i64 0, .int .i64 0, .int .i64 0, .int .i64 0, .int .i64 0, .int .i64 0, .int .i64 0, .int .i64 0, .int .i64 0, .int .i64 0, .int .i64 0, .int .i64 0] 34 (0, 0))) (by simp)
  obtain ⟨Vb, hSb, Kb, hOb⟩ := st_whole (P := Try.prog) (ty := 34) (vs := rc rs) f3 (by simp [rc_length, h8]) (by rw [size34, rc_length, h8]) (rc_one rs)
  have f1' := R_off f1 f3 (by decide) hOb
  have f2' := R_off f2 f3 (by decide) hOb
  obtain ⟨A1, c1, e1, q1, g1⟩ := Kd.R_reads f1'
  injection e1 with e1a e1b e1c
  subst e1a; subst e1c
  obtain ⟨A2, c2, e2, q2, g2⟩ := Kd.R_reads f2'
  injection e2 with e2a e2b e2c
  subst e2a; subst e2c
  have hVb : Below w3.heap.size w3 Vb := hVa.trans (hOb.below hb hVa.size)
  have kc := blk_cell (blk_below HH.out.2.2.2 (bAfter HW3.out hVb)) 17
  rw [worC_fuel h8] at kc
  have hL9 := ld_whole (P := Try.prog) (ty := 34) Kb hu34 rfl (by rw [size34]; simp [rc_length, h8])
  have hR := run_calls Vb B d L B2 d2 N fuel rs g1 q1 g2 q2 HP.out.1 HP.out.2.1 ⟨h8, hrr⟩ (by omega)
  rw [HP.out.2.2.2.2.1] at hR
  have HR := Lib.hid hR
  have HG := Lib.hid (And.intro g1 (And.intro q1 (And.intro g2 (And.intro q2 (And.intro Kb hVb)))))
  clear f1 f2 f3 f1' f2' g1 q1 g2 q2 Kb hVb hF hP hVa hOb hR n0 n1 N2 N3
  go_wp2_with (first | refine wpList_st rfl rfl hSb ?_ | refine wpList_ld rfl rfl hL9 ?_)
  refine HR.out.mono ?_
  rintro e w5 ⟨TA, tc, rfl, hl1, hT, htc, hB5⟩
  obtain ⟨Vc, hVc, KVc, hBVc⟩ : ∃ V, w5.alloc (.cells #[.int .i64 0, .int .i64 0, .int .i64 0, .int .i64 0, .int .i64 0, .int .i64 0, .int .i64 0, .int .i64 0, .int .i64 0, .int .i64 0, .int .i64 0, .int .i64 0, .int .i64 0, .int .i64 0, .int .i64 0, .int .i64 0, .int .i64 0, .int .i64 0, .slice none 0 0] 59) = V ∧ V.heap[w5.heap.size]? = some (.cells #[.int .i64 0, .int .i64 0, .int .i64 0, .int .i64 0, .int .i64 0, .int .i64 0, .int .i64 0, .int .i64 0, .int .i64 0, .int .i64 0, .int .i64 0, .int .i64 0, .int .i64 0, .int .i64 0, .int .i64 0, .int .i64 0, .int .i64 0, .int .i64 0, .slice none 0 0] 59 (0, 0)) ∧ Below w5.heap.size w5 V := ⟨_, rfl, heap_alloc_new _ _, bOne _⟩
  obtain ⟨V6, hSV6, KKV6, hOV6⟩ := st_whole (P := Try.prog) (ty := 59) (vs := .int .i64 r.e :: .int .i64 r.used :: (rc r.rs ++ [.slice TA r.t.length tc])) KVc (by have := rc_length r.rs; simp [this, hl1]) (by have := rc_length r.rs; rw [size59]; simp [this, hl1]) (by
    intro v hv
    simp only [List.mem_cons, List.mem_append, List.not_mem_nil, or_false] at hv
    rcases hv with rfl | rfl | hv | rfl
    · rfl
    · rfl
    · exact rc_one _ v hv
    · rfl)
  have hV6 : Below Vb.heap.size Vb V6 := bAfter hB5 (hBVc.trans (hOV6.below (Nat.le_refl _) hBVc.size))
  have hL96 := ld_whole (P := Try.prog) (ty := 34) (blk_below HG.out.2.2.2.2.1 hV6) hu34 rfl (by rw [size34]; simp [rc_length, h8])
  have kc6 := blk_cell (blk_below HH.out.2.2.2 (bAfter HW3.out (bAfter HG.out.2.2.2.2.2 hV6))) 17
  rw [worC_fuel h8] at kc6
  have hR2 := run_calls V6 B d L B2 d2 N (fuel + more) rs (Kd.C_below HG.out.1 hV6) HG.out.2.1 (Kd.C_below HG.out.2.2.1 hV6) HG.out.2.2.2.1 HP.out.1 HP.out.2.1 ⟨h8, hrr⟩ (by omega)
  rw [HP.out.2.2.2.2.2.1] at hR2
  have HR2 := Lib.hid hR2
  have HT1 := Lib.hid (And.intro (Kd.C_below hT (hBVc.trans (hOV6.below (Nat.le_refl _) hBVc.size))) (And.intro htc (And.intro hl1 (And.intro KKV6 (bAfter HG.out.2.2.2.2.2 hV6)))))
  clear hV6 hR2 hT htc KKV6 hOV6 hBVc KVc hB5 HR kc hL9 HG
  go_wp2_with (first | refine wpList_st rfl rfl hSV6 ?_ | refine wpList_ld rfl rfl hL96 ?_)
  refine HR2.out.mono ?_
  rintro e w7 ⟨TA2, tc2, rfl, hl2, hT2, htc2, hB7⟩
  obtain ⟨Vd, hVd, KVd, hBVd⟩ : ∃ V, w7.alloc (.cells #[.int .i64 0, .int .i64 0, .int .i64 0, .int .i64 0, .int .i64 0, .int .i64 0, .int .i64 0, .int .i64 0, .int .i64 0, .int .i64 0, .int .i64 0, .int .i64 0, .int .i64 0, .int .i64 0, .int .i64 0, .int .i64 0, .int .i64 0, .int .i64 0, .slice none 0 0] 59) = V ∧ V.heap[w7.heap.size]? = some (.cells #[.int .i64 0, .int .i64 0, .int .i64 0, .int .i64 0, .int .i64 0, .int .i64 0, .int .i64 0, .int .i64 0, .int .i64 0, .int .i64 0, .int .i64 0, .int .i64 0, .int .i64 0, .int .i64 0, .int .i64 0, .int .i64 0, .int .i64 0, .int .i64 0, .slice none 0 0] 59 (0, 0)) ∧ Below w7.heap.size w7 V := ⟨_, rfl, heap_alloc_new _ _, bOne _⟩
  obtain ⟨V8, hSV8, KKV8, hOV8⟩ := st_whole (P := Try.prog) (ty := 59) (vs := .int .i64 s.e :: .int .i64 s.used :: (rc s.rs ++ [.slice TA2 s.t.length tc2])) KVd (by have := rc_length s.rs; simp [this, hl2]) (by have := rc_length s.rs; rw [size59]; simp [this, hl2]) (by
    intro v hv
    simp only [List.mem_cons, List.mem_append, List.not_mem_nil, or_false] at hv
    rcases hv with rfl | rfl | hv | rfl
    · rfl
    · rfl
    · exact rc_one _ v hv
    · rfl)
  have hV8 : Below V6.heap.size V6 V8 := bAfter hB7 (hBVd.trans (hOV8.below (Nat.le_refl _) hBVd.size))
  have kc8 := blk_cell (blk_below HH.out.2.2.2 (bAfter HW3.out (bAfter HT1.out.2.2.2.2 hV8))) 17
  rw [worC_fuel h8] at kc8
  have K6 := blk_below HT1.out.2.2.2.1 hV8
  have a0 : V8.cell? ⟨w5.heap.size, 0, none⟩ = some (.int .i64 r.e) := blk_cell K6 0
  have a1 : V8.cell? ⟨w5.heap.size, 1, none⟩ = some (.int .i64 r.used) := blk_cell K6 1
  have b0 : V8.cell? ⟨w7.heap.size, 0, none⟩ = some (.int .i64 s.e) := blk_cell KKV8 0
  have b1 : V8.cell? ⟨w7.heap.size, 1, none⟩ = some (.int .i64 s.used) := blk_cell KKV8 1
  have HT2 := Lib.hid (And.intro (Kd.C_below hT2 (hBVd.trans (hOV8.below (Nat.le_refl _) hBVd.size))) (And.intro htc2 (And.intro hl2 (And.intro KKV8 (And.intro K6 (And.intro (Kd.C_below HT1.out.1 hV8) (bAfter HT1.out.2.2.2.2 hV8)))))))
  clear hV8 hT2 htc2 KKV8 hOV8 hBVd KVd hB7 HR2 kc6 hL96 K6
  by_cases e3 : r.e = 3
  · have e3' : (r.e == 3) = true := by simpa using e3
    have m2' : decide (s.used ≥ r.used) = true := by simpa using m2
    go_wp2_with (refine wpList_st rfl rfl hSV8 ?_)
    go_ret
    exact ⟨rfl, (bAfter HH.out.2.2.1 (bAfter HW3.out HT2.out.2.2.2.2.2.2))⟩
  obtain rfl := m3 e3
  have e3' : (s.e == 3) = false := by simpa using e3
  have k6 : V8.heap[w5.heap.size]? = some (.cells (.int .i64 s.e :: .int .i64 s.used :: (rc s.rs ++ [.slice TA s.t.length tc])).toArray 59 (0, 0)) := HT2.out.2.2.2.2.1
  have k8 := HT2.out.2.2.2.1
  have l18 : (rc s.rs).length = 16 := by rw [rc_length, hl2]
  have c0 : ∀ W', Below V8.heap.size V8 W' → W'.cell? ⟨w5.heap.size, 0, none⟩ = some (.int .i64 s.e) := fun W' hB => blk_cell (blk_below k6 hB) 0
  have c1 : ∀ W', Below V8.heap.size V8 W' → W'.cell? ⟨w5.heap.size, 1, none⟩ = some (.int .i64 s.used) := fun W' hB => blk_cell (blk_below k6 hB) 1
  have c2 : ∀ W', Below V8.heap.size V8 W' → W'.cell? ⟨w7.heap.size, 0, none⟩ = some (.int .i64 s.e) := fun W' hB => blk_cell (blk_below k8 hB) 0
  have c3 : ∀ W', Below V8.heap.size V8 W' → W'.cell? ⟨w7.heap.size, 1, none⟩ = some (.int .i64 s.used) := fun W' hB => blk_cell (blk_below k8 hB) 1
  have c4 : ∀ W', Below V8.heap.size V8 W' → W'.cell? ⟨w5.heap.size, 18, none⟩ = some (.slice TA s.t.length tc) := fun W' hB => (blk_cell (blk_below k6 hB) 18).trans (res_tail l18)
  have c5 : ∀ W', Below V8.heap.size V8 W' → W'.cell? ⟨w7.heap.size, 18, none⟩ = some (.slice TA2 s.t.length tc2) := fun W' hB => (blk_cell (blk_below k8 hB) 18).trans (res_tail l18)
  have c6 : ∀ W', Below V8.heap.size V8 W' → (Instr.loadAt 34 (.pointer (some ⟨w5.heap.size, 2, none⟩))).run Try.prog W' = .ok (.agg (rc s.rs).toArray) W' := fun W' hB =>
    ld_range (P := Try.prog) (ty := 34) (range_of (W := W') (g := w5.heap.size) (pre := [.int .i64 s.e, .int .i64 s.used]) (cs := rc s.rs) (post := [.slice TA s.t.length tc]) (t := 59) (fr := (0, 0)) (by simpa using blk_below k6 hB)) hu34 rfl (by rw [size34, l18])
  have c7 : ∀ W', Below V8.heap.size V8 W' → (Instr.loadAt 34 (.pointer (some ⟨w7.heap.size, 2, none⟩))).run Try.prog W' = .ok (.agg (rc s.rs).toArray) W' := fun W' hB =>
    ld_range (P := Try.prog) (ty := 34) (range_of (W := W') (g := w7.heap.size) (pre := [.int .i64 s.e, .int .i64 s.used]) (cs := rc s.rs) (post := [.slice TA2 s.t.length tc2]) (t := 59) (fr := (0, 0)) (by simpa using blk_below k8 hB)) hu34 rfl (by rw [size34, l18])
  have c8 : ∀ W', Below V8.heap.size V8 W' → Kd.C k80 W' TA s.t.length s.t := fun W' hB => Kd.C_below HT2.out.2.2.2.2.2.1 hB
  have c9 : ∀ W', Below V8.heap.size V8 W' → Kd.C k80 W' TA2 s.t.length s.t := fun W' hB => Kd.C_below HT2.out.1 hB
  have HC8 := Lib.hid (And.intro c8 c9)
  have HTC := Lib.hid (show s.t.length ≤ tc ∧ s.t.length ≤ tc2 from ⟨HT1.out.2.1, HT2.out.2.1⟩)
  clear k6 k8 c8 c9
  obtain ⟨T, hTT⟩ : ∃ T, s.t.map our80 = T := ⟨_, rfl⟩
  have HTT := Lib.hid (And.intro hTT (show T.length ≤ 1000000 by rw [← hTT, List.length_map]; have := HP.out.2.2.2.2.2.2; omega))
  clear hTT
  go_wp2_with (refine wpList_st rfl rfl hSV8 ?_)
  clear a0 a1 b0 b1
  apply wp_region_grows (by kernel_rfl) (by kernel_rfl)
  iterate 6
    apply gw_val (by rfl)
    · (intro W' hB hD; have e0 := c0 W' hB; have e1 := c1 W' hB; have e2 := c2 W' hB; have e3 := c3 W' hB; have e4 := c4 W' hB; have e5 := c5 W' hB; go_simp; first | done | rfl)
    simp only [Act.put, List.setIfInBounds_toArray, List.set_cons_zero, List.set_cons_succ]
  iterate 6
    apply gw_val (by rfl)
    · (intro W' hB hD; have e0 := c0 W' hB; have e1 := c1 W' hB; have e2 := c2 W' hB; have e3 := c3 W' hB; have e4 := c4 W' hB; have e5 := c5 W' hB; go_simp; first | done | rfl)
    simp only [Act.put, List.setIfInBounds_toArray, List.set_cons_zero, List.set_cons_succ]
  iterate 2
    apply gw_val (by rfl)
    · (intro W' hB hD; have e0 := c0 W' hB; have e1 := c1 W' hB; have e2 := c2 W' hB; have e3 := c3 W' hB; have e4 := c4 W' hB; have e5 := c5 W' hB; go_simp; first | done | rfl)
    simp only [Act.put, List.setIfInBounds_toArray, List.set_cons_zero, List.set_cons_succ]
  apply gw_val (by rfl)
  · (intro W' hB hD; exact exec_ld rfl (c7 W' hB))
  simp only [Act.put, List.setIfInBounds_toArray, List.set_cons_zero, List.set_cons_succ]
  iterate 1
    apply gw_val (by rfl)
    · (intro W' hB hD; have e0 := c0 W' hB; have e1 := c1 W' hB; have e2 := c2 W' hB; have e3 := c3 W' hB; have e4 := c4 W' hB; have e5 := c5 W' hB; go_simp; first | done | rfl)
    simp only [Act.put, List.setIfInBounds_toArray, List.set_cons_zero, List.set_cons_succ]
  apply gw_val (by rfl)
  · (intro W' hB hD; exact exec_ld rfl (c6 W' hB))
  simp only [Act.put, List.setIfInBounds_toArray, List.set_cons_zero, List.set_cons_succ]
  apply gw_val (c := .bool true) (by rfl)
  · (intro W' hB hD; clear c0 c1 c2 c3 c4 c5 c6 c7; have eR : (Op.equalIn 10000 34 (.agg (rc s.rs).toArray) (.agg (rc s.rs).toArray)).run Try.prog W' = .ok true W' := eqR_same 9997 W' s.rs hl2; go_simp; first | done | rfl)
  simp only [Act.put, List.setIfInBounds_toArray, List.set_cons_zero, List.set_cons_succ]
  iterate 4
    apply gw_val (by rfl)
    · (intro W' hB hD; have e0 := c0 W' hB; have e1 := c1 W' hB; have e2 := c2 W' hB; have e3 := c3 W' hB; have e4 := c4 W' hB; have e5 := c5 W' hB; go_simp; first | done | rfl)
    simp only [Act.put, List.setIfInBounds_toArray, List.set_cons_zero, List.set_cons_succ]
  apply gw_callR (stable_R k114 114 V8.heap.size T) (by rfl)
  · (intro W' hB hD; go_simp; first | done | rfl | exact ⟨rfl, rfl⟩)
  · (intro W' hB hD; exact (ours_calls TA2 tc2 s.t W' (HC8.out.2 W' hB) HTC.out.2 (by have := HP.out.2.2.2.2.2.2; omega)).mono fun e w' hh => by
      obtain ⟨v, he, hv, hb⟩ := hh
      rw [HTT.out.1] at hv
      exact ⟨v, he, hb, Kd.R_lower hv hB.size⟩)
  rintro v ⟨Wv, hv⟩
  obtain ⟨X1, y1, rfl⟩ := Kd.R_slice hv
  clear hv Wv
  simp only [Act.put, List.setIfInBounds_toArray, List.set_cons_zero, List.set_cons_succ]
  iterate 2
    apply gw_val (by rfl)
    · (intro W' hB hD; have e0 := c0 W' hB; have e1 := c1 W' hB; have e2 := c2 W' hB; have e3 := c3 W' hB; have e4 := c4 W' hB; have e5 := c5 W' hB; go_simp; first | done | rfl)
    simp only [Act.put, List.setIfInBounds_toArray, List.set_cons_zero, List.set_cons_succ]
  apply gw_callR (stable_R k114 114 V8.heap.size T) (by rfl)
  · (intro W' hB hD; go_simp; first | done | rfl | exact ⟨rfl, rfl⟩)
  · (intro W' hB hD; exact (ours_calls TA tc s.t W' (HC8.out.1 W' hB) HTC.out.1 (by have := HP.out.2.2.2.2.2.2; omega)).mono fun e w' hh => by
      obtain ⟨v, he, hv, hb⟩ := hh
      rw [HTT.out.1] at hv
      exact ⟨v, he, hb, Kd.R_lower hv hB.size⟩)
  rintro v ⟨Wv, hv⟩
  obtain ⟨X2, y2, rfl⟩ := Kd.R_slice hv
  clear hv Wv
  simp only [Act.put, List.setIfInBounds_toArray, List.set_cons_zero, List.set_cons_succ]
  apply gw_call (c := .bool true) (by rfl)
  · (intro W' hB hD; go_simp; first | done | rfl | exact ⟨rfl, rfl⟩)
  · intro W' hB hD
    simp [depFacts, Region.binds] at hD
    exact same_calls X1 y1 X2 y2 T W' hD.1 hD.2 HTT.out.2
  simp only [Act.put, List.setIfInBounds_toArray, List.set_cons_zero, List.set_cons_succ]
  iterate 2
    apply gw_val (by rfl)
    · (intro W' hB hD; have e0 := c0 W' hB; have e1 := c1 W' hB; have e2 := c2 W' hB; have e3 := c3 W' hB; have e4 := c4 W' hB; have e5 := c5 W' hB; go_simp; first | done | rfl)
    simp only [Act.put, List.setIfInBounds_toArray, List.set_cons_zero, List.set_cons_succ]
  apply gw_nil
  intro Wz hBz hF hP
  clear hF hP
  have hE : Below W.heap.size W Wz := bAfter HH.out.2.2.1 (bAfter HW3.out (bAfter HT2.out.2.2.2.2.2.2 hBz))
  have HE := Lib.hid hE
  clear hE hBz
  go_wp2_with fail
  go_ret
  exact ⟨rfl, HE.out⟩
end Go.Proofs.Ytgnjkegnddekeaa.Q
namespace Go.Proofs.Ytgnjkegnddekeaa
open Go.ChangeShapes Go.WideShapes Go.ChangeAt Go.RowKit Go.Proofs.Ytgnjkegnddekeaa.Q Go.Proofs.YtgnjkegnddekeaaW.PrintWords Go.Proofs.YtgnjkegnddekeaaW.PrintLast Go.Proofs.YtgnjkegnddekeaaW.PrintMore
set_option maxRecDepth 100000 in
theorem walk_BlockFuel {H : Type} {enc : TypeId × Value → H} (W : World) (base : Nat) (v0 : Value) (d0 : DataW H) (p0 : List MemPlace) (o0 : Value.okWide Try.prog W .any base 22 v0) (h0 : DataW.Trod enc Try.prog W 0 (fun _ => true) true 22 v0 d0 p0) (v1 : Value) (d1 : DataW H) (p1 : List MemPlace) (o1 : Value.okWide Try.prog W .any base 54 v1) (h1 : DataW.Trod enc Try.prog W 0 (fun _ => true) true 54 v1 d1 p1) (v2 : Value) (d2 : DataW H) (p2 : List MemPlace) (o2 : Value.okWide Try.prog W .any base 71 v2) (h2 : DataW.Trod enc Try.prog W 0 (fun _ => true) true 71 v2 d2 p2) (_hsz : (DataW.weightsEach Try.prog (Try.f5.params.toList ++ Rows.blockFuelSpec.plain.varTypes Try.prog) ([d0, d1, d2] ++ [])).all (· ≤ reachBytes) = true) :
    Calls Try.prog 5 #[v0, v1, v2] W fun e w' => e = .returned (.bool true) ∧ Below W.heap.size W w' := by
  obtain ⟨A, c, l, rfl, q1, q2, q3⟩ := ops_of o0 h0
  obtain ⟨NA, nc, now, rs, fuel, rfl, g1, g2, g3, g4, g5, g6⟩ := world_of o1 h1
  obtain ⟨f, rfl, _, _, hf⟩ := open_int Try.underlying71 o2 h2
  simp only [Lit.wf, Bool.and_eq_true, decide_eq_true_eq] at hf
  have m3 : IntKind.u16.min = 0 := by decide
  have m4 : IntKind.u16.max = 65535 := by decide
  rw [m3, m4] at hf
  exact fuel_core l A c NA nc now rs fuel f W q2 q1 g3 g2 q3 g4 g1 g5 g6 (by omega) (by omega)
end Go.Proofs.Ytgnjkegnddekeaa
