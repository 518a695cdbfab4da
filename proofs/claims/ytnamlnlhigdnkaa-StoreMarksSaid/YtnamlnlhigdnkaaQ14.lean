/- Plain functions that say what functions of the program compute, and proofs that they do; written by the printer for this claim, beside functions proved by hand. -/
import Derived.Test.YtnamlnlhigdnkaaQ0
import Derived.Test.YtnamlnlhigdnkaaQ4
import Derived.Test.YtnamlnlhigdnkaaHAlive
import Derived.Test.YtnamlnlhigdnkaaHMark
import Derived.Test.YtnamlnlhigdnkaaHPut2
namespace Go.Proofs.Ytnamlnlhigdnkaa.Q
open Go.RowKit Go.Proofs.YtnamlnlhigdnkaaW.PrintWords Go.Proofs.YtnamlnlhigdnkaaW.PrintLast Go.Proofs.YtnamlnlhigdnkaaW.PrintMore
attribute [local go_sem] max2_int min2_int max_two min_two max_three min_three max_four min_four   -- for this text's walks alone
set_option linter.unusedVariables false
set_option linter.unusedSimpArgs false

/-! ### warpbeamlaw07_StoreMarks: function 5 -/
mutual
def warpbeamlaw07_StoreMarks.j0 : Nat → List (S40) → List Int → Bool → Option (Bool)
  | 0, _, _, _ => none
  | k + 1, x0, x1, x27 => if x27 = true then (some true) else ((warpbeamlaw07_Theirs.f k x0).bind fun t283 => (if 0 < (t283.length : Int) then (warpbeamlaw07_StoreMarks.l0 k t283 ((rd_T35 t283 0).f3) x1 (x1.length : Int) 0) else (none)))
def warpbeamlaw07_StoreMarks.l0 : Nat → List (S35) → Int → List Int → Int → Int → Option (Bool)
  | 0, _, _, _, _, _ => none
  | k + 1, x5, x6, x34, x35, x36 => if x36 < x35 then (if 0 ≤ x36 then (if x36 < (x34.length : Int) then ((store_Mark.f x5 0 (Int.tmod (wrap64 (rd x34 x36)) 32)).bind fun bt293 => (if bt293.2 = 0 then ((set_With.f x6 (Int.tmod (wrap64 (rd x34 x36)) 32)).bind fun t297 => (if 0 < (bt293.1.length : Int) then (if ((rd_T35 bt293.1 0).f3) = t297 then (warpbeamlaw07_StoreMarks.l0 k bt293.1 t297 x34 x35 (wrap64 (x36 + 1))) else (some false)) else (none))) else (some false))) else (none)) else (none)) else ((store_Put.f x5 0 1 0 1 (-1)).bind fun bt287 => (if bt287.2 = 0 then (if 0 < (bt287.1.length : Int) then (some (((rd_T35 bt287.1 0).f3) == 0)) else (none)) else (some false)))
end
def warpbeamlaw07_StoreMarks.f (k : Nat) (l0 : List (S40)) (l1 : List Int) : Option (Bool) := (warpbeamlaw07_alive.f).bind fun t282 => (if t282 = true then (if (l0.length : Int) > 100 then (warpbeamlaw07_StoreMarks.j0 k l0 l1 true) else (if (l1.length : Int) > 100 then (warpbeamlaw07_StoreMarks.j0 k l0 l1 true) else (warpbeamlaw07_StoreMarks.j0 k l0 l1 ((l0.length : Int) == 0)))) else (some false))
theorem warpbeamlaw07_StoreMarks.mono_l : ∀ k, (∀ y0 y1 y2, LeO (warpbeamlaw07_StoreMarks.j0 k y0 y1 y2) (warpbeamlaw07_StoreMarks.j0 (k + 1) y0 y1 y2)) ∧ (∀ y0 y1 y2 y3 y4, LeO (warpbeamlaw07_StoreMarks.l0 k y0 y1 y2 y3 y4) (warpbeamlaw07_StoreMarks.l0 (k + 1) y0 y1 y2 y3 y4))
  | 0 => ⟨fun _ _ _ r h => by simp [warpbeamlaw07_StoreMarks.j0] at h, fun _ _ _ _ _ r h => by simp [warpbeamlaw07_StoreMarks.l0] at h⟩
  | k + 1 => by
    obtain ⟨ih0, ih1⟩ := warpbeamlaw07_StoreMarks.mono_l k
    refine ⟨?_, ?_⟩
    · intro y0 y1 y2
      unfold warpbeamlaw07_StoreMarks.j0
      repeat' first
      | (with_reducible exact ih0 _ _ _)
      | (with_reducible exact ih1 _ _ _ _ _)
      | (with_reducible exact warpbeamlaw07_Theirs.mono _ _)
      | (with_reducible exact LeO.refl _)
      | (with_reducible exact LeO.none _)
      | (with_reducible refine LeO.ite ?_ ?_)
      | (with_reducible refine LeO.bind ?_ (fun _ => ?_))
      | exact ih0 _ _ _
      | exact ih1 _ _ _ _ _
      | exact warpbeamlaw07_Theirs.mono _ _
      | exact LeO.none _
      | refine LeO.ite ?_ ?_
      | refine LeO.bind ?_ (fun _ => ?_)
    · intro y0 y1 y2 y3 y4
      unfold warpbeamlaw07_StoreMarks.l0
      repeat' first
      | (with_reducible exact ih0 _ _ _)
      | (with_reducible exact ih1 _ _ _ _ _)
      | (with_reducible exact warpbeamlaw07_Theirs.mono _ _)
      | (with_reducible exact LeO.refl _)
      | (with_reducible exact LeO.none _)
      | (with_reducible refine LeO.ite ?_ ?_)
      | (with_reducible refine LeO.bind ?_ (fun _ => ?_))
      | exact ih0 _ _ _
      | exact ih1 _ _ _ _ _
      | exact warpbeamlaw07_Theirs.mono _ _
      | exact LeO.none _
      | refine LeO.ite ?_ ?_
      | refine LeO.bind ?_ (fun _ => ?_)
theorem warpbeamlaw07_StoreMarks.mono : ∀ a0 a1 k, LeO (warpbeamlaw07_StoreMarks.f k a0 a1) (warpbeamlaw07_StoreMarks.f (k + 1) a0 a1) := by
  intro a0 a1 k
  obtain ⟨ih0, ih1⟩ := warpbeamlaw07_StoreMarks.mono_l k
  unfold warpbeamlaw07_StoreMarks.f
  repeat' first
      | (with_reducible exact ih0 _ _ _)
      | (with_reducible exact ih1 _ _ _ _ _)
      | (with_reducible exact warpbeamlaw07_Theirs.mono _ _)
      | (with_reducible exact LeO.refl _)
      | (with_reducible exact LeO.none _)
      | (with_reducible refine LeO.ite ?_ ?_)
      | (with_reducible refine LeO.bind ?_ (fun _ => ?_))
      | exact ih0 _ _ _
      | exact ih1 _ _ _ _ _
      | exact warpbeamlaw07_Theirs.mono _ _
      | exact LeO.none _
      | refine LeO.ite ?_ ?_
      | refine LeO.bind ?_ (fun _ => ?_)
set_option maxHeartbeats 8000000 in
set_option maxRecDepth 100000 in
theorem warpbeamlaw07_StoreMarks.calls (k : Nat) (A0 : Option Addr) (c0 : Nat) (l0 : List (S40)) (A1 : Option Addr) (c1 : Nat) (l1 : List Int) (r : Bool) (w : World) (hr0 : Kd.C k40 w A0 l0.length l0) (hc0 : l0.length ≤ c0) (hr1 : Kd.C (Kd.int .u8) w A1 l1.length l1) (hc1 : l1.length ≤ c1) (h : warpbeamlaw07_StoreMarks.f k l0 l1 = some r) :
    Calls Try.prog 5 #[.slice A0 l0.length c0, .slice A1 l1.length c1] w fun e w' => e = .returned (.bool r) ∧ Below w.heap.size w w' := by
  have hu31 := Try.underlying31
  have HR0 := Aside0.mk hr0
  have HC0 := Aside0.mk hc0
  clear hr0 hc0
  have HR1 := Aside0.mk hr1
  have HC1 := Aside0.mk hc1
  clear hr1 hc1
  have HB := Aside0.mk (Below.refl w.heap.size w)
  have H : ((warpbeamlaw07_alive.f).bind fun t282 => (if t282 = true then (if (l0.length : Int) > 100 then (warpbeamlaw07_StoreMarks.j0 k l0 l1 true) else (if (l1.length : Int) > 100 then (warpbeamlaw07_StoreMarks.j0 k l0 l1 true) else (warpbeamlaw07_StoreMarks.j0 k l0 l1 ((l0.length : Int) == 0)))) else (some false))) = some r := h
  clear h
  replace H := Option.bind_eq_some_iff.mp H
  obtain ⟨t282, A30, H⟩ := H
  replace H : (if t282 = true then (if (l0.length : Int) > 100 then (warpbeamlaw07_StoreMarks.j0 k l0 l1 true) else (if (l1.length : Int) > 100 then (warpbeamlaw07_StoreMarks.j0 k l0 l1 true) else (warpbeamlaw07_StoreMarks.j0 k l0 l1 ((l0.length : Int) == 0)))) else (some false)) = some r := H
  have A3 := Aside0.mk A30
  clear A30
  by_cases c4 : t282 = true
  · subst c4
    have H1 : (if (l0.length : Int) > 100 then (warpbeamlaw07_StoreMarks.j0 k l0 l1 true) else (if (l1.length : Int) > 100 then (warpbeamlaw07_StoreMarks.j0 k l0 l1 true) else (warpbeamlaw07_StoreMarks.j0 k l0 l1 ((l0.length : Int) == 0)))) = some r := by rw [if_pos rfl] at H; exact H
    clear H
    have H := H1
    clear H1
    have HC5 := Aside0.mk H
    clear H
    go_enter Try.func5, Try.ntmps5
    go_upto_region 3 with (first | ((with_reducible refine gate_callee (f := 9) rfl ?_); refine goesL_ (some 13) rfl rfl Try.func9 (by kernel_rfl) rfl #[] rfl (by (try simp only [List.map_toArray, List.map_cons, List.map_nil]); first | done | rfl | (simp only [List.length_drop, List.length_take]; rfl)) ?_; (with_reducible refine (warpbeamlaw07_alive.calls  true _ A3.out).mono ?_); rintro e w6 ⟨rfl, hb⟩; refine ⟨_, rfl, ?_⟩; have n0_ := Aside0.mk (below_step (by repeat (first | (with_reducible first | exact HB.out | apply below_alloc | apply pw_below_drewN | apply below_drew1) | exact HB.out)) hb); clear HB; have HB := n0_; clear n0_; (try clear hb); (try clear hb2); (try clear hk); (try clear hi)))
    (try simp only [Act.put, List.setIfInBounds_toArray, List.set_cons_zero, List.set_cons_succ])
    go_cut [27] (fun v27 wc => ∃ (kq : Nat) (x27_4 : Bool), v27 = .bool x27_4 ∧ Aside0 (warpbeamlaw07_StoreMarks.j0 kq l0 l1 x27_4 = some r) ∧ Aside0 (kq ≤ k) ∧ Aside0 (Below w.heap.size w wc))
    case first =>
      have H := HC5.out
      clear HC5
      by_cases c7 : (l0.length : Int) > 100
      · rw [if_pos c7] at H
        have c7b0 : decide (100 < (l0.length : Int)) = true := decide_eq_true c7
        have c7b1 : decide (100 < l0.length) = true := decide_eq_true (by omega)
        clear c7
        (first | rw [c7b0] | (simp only [i64_w, i32_w]; rw [c7b0]) | skip)
        have H' := Aside0.mk H
        clear H
        go_wp2
        go_meet
        case rel => exact ⟨_, (true), (by first | rfl | (simp; done) | (simp [*]; done)), H', ⟨by first | omega | exact Nat.le_refl _⟩, ⟨by repeat (first | (with_reducible first | exact HB.out | apply below_alloc | apply pw_below_drewN | apply below_drew1) | exact HB.out)⟩⟩
      · rw [if_neg c7] at H
        have c7b0 : decide (100 < (l0.length : Int)) = false := decide_eq_false c7
        have c7b1 : decide (100 < l0.length) = false := decide_eq_false (by omega)
        clear c7
        (first | rw [c7b0] | (simp only [i64_w, i32_w]; rw [c7b0]) | skip)
        by_cases c8 : (l1.length : Int) > 100
        · rw [if_pos c8] at H
          have c8b0 : decide (100 < (l1.length : Int)) = true := decide_eq_true c8
          have c8b1 : decide (100 < l1.length) = true := decide_eq_true (by omega)
          clear c8
          have H' := Aside0.mk H
          clear H
          go_wp2
          go_meet
          case rel => exact ⟨_, (true), (by first | rfl | (simp; done) | (simp [*]; done)), H', ⟨by first | omega | exact Nat.le_refl _⟩, ⟨by repeat (first | (with_reducible first | exact HB.out | apply below_alloc | apply pw_below_drewN | apply below_drew1) | exact HB.out)⟩⟩
        · rw [if_neg c8] at H
          have c8b0 : decide (100 < (l1.length : Int)) = false := decide_eq_false c8
          have c8b1 : decide (100 < l1.length) = false := decide_eq_false (by omega)
          clear c8
          have H' := Aside0.mk H
          clear H
          go_wp2
          go_meet
          case rel => exact ⟨_, (((l0.length : Int) == 0)), (by first | rfl | (simp; done) | (simp [*]; done)), H', ⟨by first | omega | exact Nat.le_refl _⟩, ⟨by repeat (first | (with_reducible first | exact HB.out | apply below_alloc | apply pw_below_drewN | apply below_drew1) | exact HB.out)⟩⟩
    case rest =>
      clear HC5
      try clear c1
      try clear p2
      try clear c4
      try clear c5
      try clear c7
      try clear c7b0
      try clear c7b1
      try clear c8
      try clear c8b0
      try clear c8b1
      obtain ⟨kq, x27_4, rfl, HA, HJ4, HB⟩ := hcut
      cases kq with
      | zero => exact absurd HA.out (by simp [warpbeamlaw07_StoreMarks.j0])
      | succ kj4 =>
        have H := HA.out
        clear HA
        simp only [warpbeamlaw07_StoreMarks.j0] at H
        by_cases c9 : x27_4 = true
        · subst c9
          have H1 : (some true) = some r := by rw [if_pos rfl] at H; exact H
          clear H
          have H := H1
          clear H1
          obtain rfl := Option.some.inj H
          go_wp2
          go_ret
          exact ⟨by first | rfl | (simp [errW_none, errW_some] <;> rfl) | (simp [*, errW_none, errW_some] <;> rfl), by repeat (first | (with_reducible first | exact HB.out | apply below_alloc | apply pw_below_drewN | apply below_drew1) | exact HB.out)⟩
        · replace c9 := Bool.eq_false_iff.mpr c9
          subst c9
          have H1 : ((warpbeamlaw07_Theirs.f kj4 l0).bind fun t283 => (if 0 < (t283.length : Int) then (warpbeamlaw07_StoreMarks.l0 kj4 t283 ((rd_T35 t283 0).f3) l1 (l1.length : Int) 0) else (none))) = some r := by rw [if_neg (show ¬ (false = true) by decide)] at H; exact H
          clear H
          have H := H1
          clear H1
          replace H := Option.bind_eq_some_iff.mp H
          obtain ⟨t283, A100, H⟩ := H
          replace H : (if 0 < (t283.length : Int) then (warpbeamlaw07_StoreMarks.l0 kj4 t283 ((rd_T35 t283 0).f3) l1 (l1.length : Int) 0) else (none)) = some r := H
          have A10 := Aside0.mk A100
          clear A100
          by_cases c11 : 0 < (t283.length : Int)
          · rw [if_pos c11] at H
            have c11b0 : decide (0 < (t283.length : Int)) = true := decide_eq_true c11
            have c11b1 : decide (0 < t283.length) = true := decide_eq_true (by omega)
            clear c11
            have H' := Aside0.mk H
            clear H
            go_wp2_with (first | ((with_reducible refine gate_callee (f := 10) rfl ?_); refine goesL_ (some 29) rfl rfl Try.func10 (by kernel_rfl) rfl #[.slice A0 l0.length c0] rfl (by (try simp only [List.map_toArray, List.map_cons, List.map_nil]); first | done | rfl | (simp only [List.length_drop, List.length_take]; rfl)) ?_; (with_reducible refine (warpbeamlaw07_Theirs.calls kj4 _ _ l0 t283 _ ?side1 ?side2 A10.out).mono ?_); (case side1 => repeat (first | exact (Kd.C_below HR0.out HB.out) | (with_reducible refine Kd.C_alloc ?_ _) | (with_reducible refine Kd.C_drewN ?_ _) | (with_reducible refine Kd.C_drew ?_))); (case side2 => exact HC0.out); rintro e w12 ⟨v284, rfl, ho0, hb⟩; refine ⟨_, rfl, ?_⟩; have n0_ := Aside0.mk (Kd.R_lower ho0 (below_size (by repeat (first | (with_reducible first | exact HB.out | apply below_alloc | apply pw_below_drewN | apply below_drew1) | exact HB.out)))); have n1_ := Aside0.mk (below_step (by repeat (first | (with_reducible first | exact HB.out | apply below_alloc | apply pw_below_drewN | apply below_drew1) | exact HB.out)) hb); clear HB; have HO285 := n0_; have HB := n1_; clear n0_ n1_; (try clear hb); (try clear hb2); (try clear hk); (try clear hi); (try clear ho0); obtain ⟨Ao13, co13, eo13⟩ := Kd.R_slice HO285.out; subst eo13; have p286 : 0 ≤ (0 : Int) := (by omega); have q286 : 0 < (t283.length : Int) := of_decide_eq_true (by first | (with_reducible assumption) | assumption); obtain ⟨ad286, e286, hx286_0, hx286_1, hx286_2, hx286_3, hx286_4⟩ := at_T35 (Kd.R_reads' HO285.out).2.2 0 p286 q286; cases e286; have qi286 : (0 < t283.length) = True := eq_true (by omega); (try rw [show ((0 : Int)).toNat = 0 from rfl] at hx286_0); (try rw [show 0 * 5 = 0 from rfl] at hx286_0); (try rw [Addr.add_zero'] at hx286_0); (try rw [show ((0 : Int)).toNat = 0 from rfl] at hx286_1); (try rw [show 0 * 5 = 0 from rfl] at hx286_1); (try rw [Addr.add_zero'] at hx286_1); (try rw [show ((0 : Int)).toNat = 0 from rfl] at hx286_2); (try rw [show 0 * 5 = 0 from rfl] at hx286_2); (try rw [Addr.add_zero'] at hx286_2); (try rw [show ((0 : Int)).toNat = 0 from rfl] at hx286_3); (try rw [show 0 * 5 = 0 from rfl] at hx286_3); (try rw [Addr.add_zero'] at hx286_3); (try rw [show ((0 : Int)).toNat = 0 from rfl] at hx286_4); (try rw [show 0 * 5 = 0 from rfl] at hx286_4); (try rw [Addr.add_zero'] at hx286_4); replace p286 := eq_true p286; replace q286 := eq_true q286))
            go_loopg [5, 6, 36] kj4 (fun kq v5 v6 v36 w' => ∃ (x5_2 : List (S35)) (x6_2 : Int) (x36_2 : Int), v6 = .int .u64 x6_2 ∧ v36 = .int .i64 x36_2 ∧ Aside0 (warpbeamlaw07_StoreMarks.l0 kq x5_2 x6_2 l1 (l1.length : Int) x36_2 = some r) ∧ Aside0 (kq ≤ kj4) ∧ Aside0 (Kd.V k35 35 w' w.heap.size (fun _ => True) v5 x5_2) ∧ Aside0 (Below w.heap.size w w'))
            case atStart => exact ⟨(t283), ((rd_T35 t283 0).f3), (0), (by first | rfl | (simp; done) | (simp [*]; done)), (by first | rfl | (simp; done) | (simp [*]; done)), H', ⟨Nat.le_refl _⟩, ⟨Kd.R_V (by (with_reducible repeat (first | apply Kd.R_alloc | apply Kd.R_drewN | apply Kd.R_drew)); exact HO285.out)⟩, ⟨by repeat (first | (with_reducible first | exact HB.out | apply below_alloc | apply pw_below_drewN | apply below_drew1) | exact HB.out)⟩⟩
            case round =>
              clear H'
              try clear c1
              try clear p2
              try clear q2
              try clear hx2
              try clear qi2
              try clear c4
              try clear c5
              try clear c7
              try clear c7b0
              try clear c7b1
              try clear c8
              try clear c8b0
              try clear c8b1
              try clear c9
              try clear c10
              try clear c11
              try clear c11b0
              try clear c11b1
              try clear hx286_0
              try clear hx286_1
              try clear hx286_2
              try clear hx286_3
              try clear hx286_4
              try clear p2
              try clear p286
              try clear q286
              obtain ⟨x5_2, x6_2, x36_2, rfl, rfl, HA, HK2, HO_5, HB⟩ := hrel
              cases gk with
              | zero => exact absurd HA.out (by simp [warpbeamlaw07_StoreMarks.l0])
              | succ k2 =>
                have H := HA.out
                clear HA
                simp only [warpbeamlaw07_StoreMarks.l0] at H
                by_cases c14 : x36_2 < (l1.length : Int)
                · rw [if_pos c14] at H
                  have c14b0 : decide (x36_2 < (l1.length : Int)) = true := decide_eq_true c14
                  clear c14
                  by_cases c15 : 0 ≤ x36_2
                  · rw [if_pos c15] at H
                    have c15b0 : decide (0 ≤ x36_2) = true := decide_eq_true c15
                    clear c15
                    by_cases c16 : x36_2 < (l1.length : Int)
                    · rw [if_pos c16] at H
                      have c16b0 : decide (x36_2 < (l1.length : Int)) = true := decide_eq_true c16
                      clear c16
                      replace H := Option.bind_eq_some_iff.mp H
                      obtain ⟨⟨t293, t296⟩, A170, H⟩ := H
                      replace H : (if t296 = 0 then ((set_With.f x6_2 (Int.tmod (wrap64 (rd l1 x36_2)) 32)).bind fun t297 => (if 0 < (t293.length : Int) then (if ((rd_T35 t293 0).f3) = t297 then (warpbeamlaw07_StoreMarks.l0 k2 t293 t297 l1 (l1.length : Int) (wrap64 (x36_2 + 1))) else (some false)) else (none))) else (some false)) = some r := H
                      have A17 := Aside0.mk A170
                      clear A170
                      by_cases c18 : t296 = 0
                      · rw [if_pos c18] at H
                        have c18b0 : (t296 == 0) = true := beq_iff_eq.mpr c18
                        have c18b1 : (t296 != 0) = false := bne_eq_false_iff_eq.mpr c18
                        clear c18
                        replace H := Option.bind_eq_some_iff.mp H
                        obtain ⟨t297, A190, H⟩ := H
                        replace H : (if 0 < (t293.length : Int) then (if ((rd_T35 t293 0).f3) = t297 then (warpbeamlaw07_StoreMarks.l0 k2 t293 t297 l1 (l1.length : Int) (wrap64 (x36_2 + 1))) else (some false)) else (none)) = some r := H
                        have A19 := Aside0.mk A190
                        clear A190
                        by_cases c20 : 0 < (t293.length : Int)
                        · rw [if_pos c20] at H
                          have c20b0 : decide (0 < (t293.length : Int)) = true := decide_eq_true c20
                          have c20b1 : decide (0 < t293.length) = true := decide_eq_true (by omega)
                          clear c20
                          by_cases c21 : ((rd_T35 t293 0).f3) = t297
                          · rw [if_pos c21] at H
                            have c21b0 : (((rd_T35 t293 0).f3) == t297) = true := beq_iff_eq.mpr c21
                            have c21b1 : (((rd_T35 t293 0).f3) != t297) = false := bne_eq_false_iff_eq.mpr c21
                            clear c21
                            have H' := Aside0.mk H
                            clear H
                            have p292 : 0 ≤ (x36_2 : Int) := of_decide_eq_true (by first | (with_reducible assumption) | assumption)
                            have q292 : x36_2 < (l1.length : Int) := of_decide_eq_true (by first | (with_reducible assumption) | assumption)
                            obtain ⟨ad292, e292, hx292_0⟩ := Kd.at_int HR1.out x36_2 p292 q292
                            cases e292
                            replace hx292_0 := (HB.out.cell (World.block_lt_of_cell? w _ hx292_0)).trans hx292_0
                            replace p292 := eq_true p292
                            replace q292 := eq_true q292
                            obtain ⟨Ao22, co22, eo22⟩ := Kd.V_slice HO_5.out
                            subst eo22
                            go_wp2_with (first | ((with_reducible refine gate_callee (f := 15) rfl ?_); refine goesL_ (some 45) rfl rfl Try.func15 (by kernel_rfl) rfl #[.slice Ao22 x5_2.length co22, .int .i64 0, .int .i64 (Int.tmod (wrap64 (rd l1 x36_2)) 32)] rfl (by (try simp only [List.map_toArray, List.map_cons, List.map_nil]); first | done | rfl | (simp only [List.length_drop, List.length_take]; rfl)) ?_; (with_reducible refine (store_Mark.calls (fun k_ => True) _ _ x5_2 0 (Int.tmod (wrap64 (rd l1 x36_2)) 32) t293 t296 _ ?side1 A17.out).mono ?_); (case side1 => exact HO_5.out); rintro e w23 ⟨v294, rfl, ho0, hb⟩; refine ⟨_, rfl, ?_⟩; have n0_ := Aside0.mk (Kd.V_below (by (with_reducible repeat (first | apply Kd.V_alloc | apply Kd.V_drewN | apply Kd.V_drew)); exact HO_5.out) hb); have n1_ := Aside0.mk (Kd.V_lower (Kd.V_mono (ok' := fun k_ => True) ho0 (fun k_ hk_ => trivial)) (below_size (by repeat (first | (with_reducible first | exact HB.out | apply below_alloc | apply pw_below_drewN | apply below_drew1) | exact HB.out)))); have n2_ := Aside0.mk (below_step (by repeat (first | (with_reducible first | exact HB.out | apply below_alloc | apply pw_below_drewN | apply below_drew1) | exact HB.out)) hb); clear HO_5; clear HB; have HO_5 := n0_; have HO295 := n1_; have HB := n2_; clear n0_ n1_ n2_; (try clear hb); (try clear hb2); (try clear hk); (try clear hi); (try clear ho0)) | ((with_reducible refine gate_callee (f := 24) rfl ?_); refine goesL_ (some 55) rfl rfl Try.func24 (by kernel_rfl) rfl #[.int .u64 x6_2, .int .i64 (Int.tmod (wrap64 (rd l1 x36_2)) 32)] rfl (by (try simp only [List.map_toArray, List.map_cons, List.map_nil]); first | done | rfl | (simp only [List.length_drop, List.length_take]; rfl)) ?_; (with_reducible refine (set_With.calls x6_2 (Int.tmod (wrap64 (rd l1 x36_2)) 32) t297 _ A19.out).mono ?_); rintro e w' ⟨rfl, ⟨nd, rfl⟩⟩; refine ⟨_, rfl, ?_⟩; obtain ⟨Ao24, co24, eo24⟩ := Kd.V_slice HO295.out; subst eo24; have p298 : 0 ≤ (0 : Int) := (by omega); have q298 : 0 < (t293.length : Int) := of_decide_eq_true (by first | (with_reducible assumption) | assumption); obtain ⟨ad298, e298, hx298_0, hx298_1, hx298_2, hx298_3, hx298_4⟩ := at_T35 (Kd.V_reads' HO295.out).2.2 0 p298 q298; cases e298; have qi298 : (0 < t293.length) = True := eq_true (by omega); (try rw [show ((0 : Int)).toNat = 0 from rfl] at hx298_0); (try rw [show 0 * 5 = 0 from rfl] at hx298_0); (try rw [Addr.add_zero'] at hx298_0); (try rw [show ((0 : Int)).toNat = 0 from rfl] at hx298_1); (try rw [show 0 * 5 = 0 from rfl] at hx298_1); (try rw [Addr.add_zero'] at hx298_1); (try rw [show ((0 : Int)).toNat = 0 from rfl] at hx298_2); (try rw [show 0 * 5 = 0 from rfl] at hx298_2); (try rw [Addr.add_zero'] at hx298_2); (try rw [show ((0 : Int)).toNat = 0 from rfl] at hx298_3); (try rw [show 0 * 5 = 0 from rfl] at hx298_3); (try rw [Addr.add_zero'] at hx298_3); (try rw [show ((0 : Int)).toNat = 0 from rfl] at hx298_4); (try rw [show 0 * 5 = 0 from rfl] at hx298_4); (try rw [Addr.add_zero'] at hx298_4); replace p298 := eq_true p298; replace q298 := eq_true q298))
                            go_roundg k2
                            case measure => have := HJ4.out; have := HK2.out; omega
                            case rel => exact ⟨(t293), (t297), (wrap64 (x36_2 + 1)), (by first | rfl | (simp; done) | (simp [*]; done)), (by first | rfl | (simp; done) | (simp [*]; done)), H', ⟨by have := HJ4.out; have := HK2.out; omega⟩, ⟨by (with_reducible repeat (first | apply Kd.V_alloc | apply Kd.V_drewN | apply Kd.V_drew)); exact HO295.out⟩, ⟨by repeat (first | (with_reducible first | exact HB.out | apply below_alloc | apply pw_below_drewN | apply below_drew1) | exact HB.out)⟩⟩
                          · rw [if_neg c21] at H
                            have c21b0 : (((rd_T35 t293 0).f3) == t297) = false := beq_eq_false_iff_ne.mpr c21
                            have c21b1 : (((rd_T35 t293 0).f3) != t297) = true := bne_iff_ne.mpr c21
                            obtain rfl := Option.some.inj H
                            have p292 : 0 ≤ (x36_2 : Int) := of_decide_eq_true (by first | (with_reducible assumption) | assumption)
                            have q292 : x36_2 < (l1.length : Int) := of_decide_eq_true (by first | (with_reducible assumption) | assumption)
                            obtain ⟨ad292, e292, hx292_0⟩ := Kd.at_int HR1.out x36_2 p292 q292
                            cases e292
                            replace hx292_0 := (HB.out.cell (World.block_lt_of_cell? w _ hx292_0)).trans hx292_0
                            replace p292 := eq_true p292
                            replace q292 := eq_true q292
                            obtain ⟨Ao25, co25, eo25⟩ := Kd.V_slice HO_5.out
                            subst eo25
                            go_wp2_with (first | ((with_reducible refine gate_callee (f := 15) rfl ?_); refine goesL_ (some 45) rfl rfl Try.func15 (by kernel_rfl) rfl #[.slice Ao25 x5_2.length co25, .int .i64 0, .int .i64 (Int.tmod (wrap64 (rd l1 x36_2)) 32)] rfl (by (try simp only [List.map_toArray, List.map_cons, List.map_nil]); first | done | rfl | (simp only [List.length_drop, List.length_take]; rfl)) ?_; (with_reducible refine (store_Mark.calls (fun k_ => True) _ _ x5_2 0 (Int.tmod (wrap64 (rd l1 x36_2)) 32) t293 t296 _ ?side1 A17.out).mono ?_); (case side1 => exact HO_5.out); rintro e w26 ⟨v294, rfl, ho0, hb⟩; refine ⟨_, rfl, ?_⟩; have n0_ := Aside0.mk (Kd.V_below (by (with_reducible repeat (first | apply Kd.V_alloc | apply Kd.V_drewN | apply Kd.V_drew)); exact HO_5.out) hb); have n1_ := Aside0.mk (Kd.V_lower (Kd.V_mono (ok' := fun k_ => True) ho0 (fun k_ hk_ => trivial)) (below_size (by repeat (first | (with_reducible first | exact HB.out | apply below_alloc | apply pw_below_drewN | apply below_drew1) | exact HB.out)))); have n2_ := Aside0.mk (below_step (by repeat (first | (with_reducible first | exact HB.out | apply below_alloc | apply pw_below_drewN | apply below_drew1) | exact HB.out)) hb); clear HO_5; clear HB; have HO_5 := n0_; have HO295 := n1_; have HB := n2_; clear n0_ n1_ n2_; (try clear hb); (try clear hb2); (try clear hk); (try clear hi); (try clear ho0)) | ((with_reducible refine gate_callee (f := 24) rfl ?_); refine goesL_ (some 55) rfl rfl Try.func24 (by kernel_rfl) rfl #[.int .u64 x6_2, .int .i64 (Int.tmod (wrap64 (rd l1 x36_2)) 32)] rfl (by (try simp only [List.map_toArray, List.map_cons, List.map_nil]); first | done | rfl | (simp only [List.length_drop, List.length_take]; rfl)) ?_; (with_reducible refine (set_With.calls x6_2 (Int.tmod (wrap64 (rd l1 x36_2)) 32) t297 _ A19.out).mono ?_); rintro e w' ⟨rfl, ⟨nd, rfl⟩⟩; refine ⟨_, rfl, ?_⟩; obtain ⟨Ao27, co27, eo27⟩ := Kd.V_slice HO295.out; subst eo27; have p298 : 0 ≤ (0 : Int) := (by omega); have q298 : 0 < (t293.length : Int) := of_decide_eq_true (by first | (with_reducible assumption) | assumption); obtain ⟨ad298, e298, hx298_0, hx298_1, hx298_2, hx298_3, hx298_4⟩ := at_T35 (Kd.V_reads' HO295.out).2.2 0 p298 q298; cases e298; have qi298 : (0 < t293.length) = True := eq_true (by omega); (try rw [show ((0 : Int)).toNat = 0 from rfl] at hx298_0); (try rw [show 0 * 5 = 0 from rfl] at hx298_0); (try rw [Addr.add_zero'] at hx298_0); (try rw [show ((0 : Int)).toNat = 0 from rfl] at hx298_1); (try rw [show 0 * 5 = 0 from rfl] at hx298_1); (try rw [Addr.add_zero'] at hx298_1); (try rw [show ((0 : Int)).toNat = 0 from rfl] at hx298_2); (try rw [show 0 * 5 = 0 from rfl] at hx298_2); (try rw [Addr.add_zero'] at hx298_2); (try rw [show ((0 : Int)).toNat = 0 from rfl] at hx298_3); (try rw [show 0 * 5 = 0 from rfl] at hx298_3); (try rw [Addr.add_zero'] at hx298_3); (try rw [show ((0 : Int)).toNat = 0 from rfl] at hx298_4); (try rw [show 0 * 5 = 0 from rfl] at hx298_4); (try rw [Addr.add_zero'] at hx298_4); replace p298 := eq_true p298; replace q298 := eq_true q298))
                            go_ret
                            exact ⟨by first | rfl | (simp [errW_none, errW_some] <;> rfl) | (simp [*, errW_none, errW_some] <;> rfl), by repeat (first | (with_reducible first | exact HB.out | apply below_alloc | apply pw_below_drewN | apply below_drew1) | exact HB.out)⟩
                        · rw [if_neg c20] at H
                          exact absurd H (by simp)
                      · rw [if_neg c18] at H
                        have c18b0 : (t296 == 0) = false := beq_eq_false_iff_ne.mpr c18
                        have c18b1 : (t296 != 0) = true := bne_iff_ne.mpr c18
                        obtain rfl := Option.some.inj H
                        have p292 : 0 ≤ (x36_2 : Int) := of_decide_eq_true (by first | (with_reducible assumption) | assumption)
                        have q292 : x36_2 < (l1.length : Int) := of_decide_eq_true (by first | (with_reducible assumption) | assumption)
                        obtain ⟨ad292, e292, hx292_0⟩ := Kd.at_int HR1.out x36_2 p292 q292
                        cases e292
                        replace hx292_0 := (HB.out.cell (World.block_lt_of_cell? w _ hx292_0)).trans hx292_0
                        replace p292 := eq_true p292
                        replace q292 := eq_true q292
                        obtain ⟨Ao28, co28, eo28⟩ := Kd.V_slice HO_5.out
                        subst eo28
                        go_wp2_with (first | ((with_reducible refine gate_callee (f := 15) rfl ?_); refine goesL_ (some 45) rfl rfl Try.func15 (by kernel_rfl) rfl #[.slice Ao28 x5_2.length co28, .int .i64 0, .int .i64 (Int.tmod (wrap64 (rd l1 x36_2)) 32)] rfl (by (try simp only [List.map_toArray, List.map_cons, List.map_nil]); first | done | rfl | (simp only [List.length_drop, List.length_take]; rfl)) ?_; (with_reducible refine (store_Mark.calls (fun k_ => True) _ _ x5_2 0 (Int.tmod (wrap64 (rd l1 x36_2)) 32) t293 t296 _ ?side1 A17.out).mono ?_); (case side1 => exact HO_5.out); rintro e w29 ⟨v294, rfl, ho0, hb⟩; refine ⟨_, rfl, ?_⟩; have n0_ := Aside0.mk (Kd.V_below (by (with_reducible repeat (first | apply Kd.V_alloc | apply Kd.V_drewN | apply Kd.V_drew)); exact HO_5.out) hb); have n1_ := Aside0.mk (Kd.V_lower (Kd.V_mono (ok' := fun k_ => True) ho0 (fun k_ hk_ => trivial)) (below_size (by repeat (first | (with_reducible first | exact HB.out | apply below_alloc | apply pw_below_drewN | apply below_drew1) | exact HB.out)))); have n2_ := Aside0.mk (below_step (by repeat (first | (with_reducible first | exact HB.out | apply below_alloc | apply pw_below_drewN | apply below_drew1) | exact HB.out)) hb); clear HO_5; clear HB; have HO_5 := n0_; have HO295 := n1_; have HB := n2_; clear n0_ n1_ n2_; (try clear hb); (try clear hb2); (try clear hk); (try clear hi); (try clear ho0)))
                        go_ret
                        exact ⟨by first | rfl | (simp [errW_none, errW_some] <;> rfl) | (simp [*, errW_none, errW_some] <;> rfl), by repeat (first | (with_reducible first | exact HB.out | apply below_alloc | apply pw_below_drewN | apply below_drew1) | exact HB.out)⟩
                    · rw [if_neg c16] at H
                      exact absurd H (by simp)
                  · rw [if_neg c15] at H
                    exact absurd H (by simp)
                · rw [if_neg c14] at H
                  have c14b0 : decide (x36_2 < (l1.length : Int)) = false := decide_eq_false c14
                  clear c14
                  replace H := Option.bind_eq_some_iff.mp H
                  obtain ⟨⟨t287, t290⟩, A300, H⟩ := H
                  replace H : (if t290 = 0 then (if 0 < (t287.length : Int) then (some (((rd_T35 t287 0).f3) == 0)) else (none)) else (some false)) = some r := H
                  have A30 := Aside0.mk A300
                  clear A300
                  by_cases c31 : t290 = 0
                  · rw [if_pos c31] at H
                    have c31b0 : (t290 == 0) = true := beq_iff_eq.mpr c31
                    have c31b1 : (t290 != 0) = false := bne_eq_false_iff_eq.mpr c31
                    clear c31
                    by_cases c32 : 0 < (t287.length : Int)
                    · rw [if_pos c32] at H
                      have c32b0 : decide (0 < (t287.length : Int)) = true := decide_eq_true c32
                      have c32b1 : decide (0 < t287.length) = true := decide_eq_true (by omega)
                      clear c32
                      obtain rfl := Option.some.inj H
                      obtain ⟨Ao33, co33, eo33⟩ := Kd.V_slice HO_5.out
                      subst eo33
                      go_wp2_with (first | ((with_reducible refine gate_callee (f := 13) rfl ?_); refine goesL_ (some 66) rfl rfl Try.func13 (by kernel_rfl) rfl #[.slice Ao33 x5_2.length co33, .int .i64 0, .agg #[.int .i64 1, .int .i64 0], .int .i64 1, .int .i64 (-1)] rfl (by (try simp only [List.map_toArray, List.map_cons, List.map_nil]); first | done | rfl | (simp only [List.length_drop, List.length_take]; rfl)) ?_; (with_reducible refine (store_Put.calls (fun k_ => True) _ _ x5_2 0 1 0 1 (-1) t287 t290 _ ?side1 A30.out).mono ?_); (case side1 => exact HO_5.out); rintro e w34 ⟨v288, rfl, ho0, hb⟩; refine ⟨_, rfl, ?_⟩; have n0_ := Aside0.mk (Kd.V_below (by (with_reducible repeat (first | apply Kd.V_alloc | apply Kd.V_drewN | apply Kd.V_drew)); exact HO_5.out) hb); have n1_ := Aside0.mk (Kd.V_lower (Kd.V_mono (ok' := fun k_ => True) ho0 (fun k_ hk_ => trivial)) (below_size (by repeat (first | (with_reducible first | exact HB.out | apply below_alloc | apply pw_below_drewN | apply below_drew1) | exact HB.out)))); have n2_ := Aside0.mk (below_step (by repeat (first | (with_reducible first | exact HB.out | apply below_alloc | apply pw_below_drewN | apply below_drew1) | exact HB.out)) hb); clear HO_5; clear HB; have HO_5 := n0_; have HO289 := n1_; have HB := n2_; clear n0_ n1_ n2_; (try clear hb); (try clear hb2); (try clear hk); (try clear hi); (try clear ho0); obtain ⟨Ao35, co35, eo35⟩ := Kd.V_slice HO289.out; subst eo35; have p291 : 0 ≤ (0 : Int) := (by omega); have q291 : 0 < (t287.length : Int) := of_decide_eq_true (by first | (with_reducible assumption) | assumption); obtain ⟨ad291, e291, hx291_0, hx291_1, hx291_2, hx291_3, hx291_4⟩ := at_T35 (Kd.V_reads' HO289.out).2.2 0 p291 q291; cases e291; have qi291 : (0 < t287.length) = True := eq_true (by omega); (try rw [show ((0 : Int)).toNat = 0 from rfl] at hx291_0); (try rw [show 0 * 5 = 0 from rfl] at hx291_0); (try rw [Addr.add_zero'] at hx291_0); (try rw [show ((0 : Int)).toNat = 0 from rfl] at hx291_1); (try rw [show 0 * 5 = 0 from rfl] at hx291_1); (try rw [Addr.add_zero'] at hx291_1); (try rw [show ((0 : Int)).toNat = 0 from rfl] at hx291_2); (try rw [show 0 * 5 = 0 from rfl] at hx291_2); (try rw [Addr.add_zero'] at hx291_2); (try rw [show ((0 : Int)).toNat = 0 from rfl] at hx291_3); (try rw [show 0 * 5 = 0 from rfl] at hx291_3); (try rw [Addr.add_zero'] at hx291_3); (try rw [show ((0 : Int)).toNat = 0 from rfl] at hx291_4); (try rw [show 0 * 5 = 0 from rfl] at hx291_4); (try rw [Addr.add_zero'] at hx291_4); replace p291 := eq_true p291; replace q291 := eq_true q291))
                      go_ret
                      exact ⟨by first | rfl | (simp [errW_none, errW_some] <;> rfl) | (simp [*, errW_none, errW_some] <;> rfl), by repeat (first | (with_reducible first | exact HB.out | apply below_alloc | apply pw_below_drewN | apply below_drew1) | exact HB.out)⟩
                    · rw [if_neg c32] at H
                      exact absurd H (by simp)
                  · rw [if_neg c31] at H
                    have c31b0 : (t290 == 0) = false := beq_eq_false_iff_ne.mpr c31
                    have c31b1 : (t290 != 0) = true := bne_iff_ne.mpr c31
                    obtain rfl := Option.some.inj H
                    obtain ⟨Ao36, co36, eo36⟩ := Kd.V_slice HO_5.out
                    subst eo36
                    go_wp2_with (first | ((with_reducible refine gate_callee (f := 13) rfl ?_); refine goesL_ (some 66) rfl rfl Try.func13 (by kernel_rfl) rfl #[.slice Ao36 x5_2.length co36, .int .i64 0, .agg #[.int .i64 1, .int .i64 0], .int .i64 1, .int .i64 (-1)] rfl (by (try simp only [List.map_toArray, List.map_cons, List.map_nil]); first | done | rfl | (simp only [List.length_drop, List.length_take]; rfl)) ?_; (with_reducible refine (store_Put.calls (fun k_ => True) _ _ x5_2 0 1 0 1 (-1) t287 t290 _ ?side1 A30.out).mono ?_); (case side1 => exact HO_5.out); rintro e w37 ⟨v288, rfl, ho0, hb⟩; refine ⟨_, rfl, ?_⟩; have n0_ := Aside0.mk (Kd.V_below (by (with_reducible repeat (first | apply Kd.V_alloc | apply Kd.V_drewN | apply Kd.V_drew)); exact HO_5.out) hb); have n1_ := Aside0.mk (Kd.V_lower (Kd.V_mono (ok' := fun k_ => True) ho0 (fun k_ hk_ => trivial)) (below_size (by repeat (first | (with_reducible first | exact HB.out | apply below_alloc | apply pw_below_drewN | apply below_drew1) | exact HB.out)))); have n2_ := Aside0.mk (below_step (by repeat (first | (with_reducible first | exact HB.out | apply below_alloc | apply pw_below_drewN | apply below_drew1) | exact HB.out)) hb); clear HO_5; clear HB; have HO_5 := n0_; have HO289 := n1_; have HB := n2_; clear n0_ n1_ n2_; (try clear hb); (try clear hb2); (try clear hk); (try clear hi); (try clear ho0)))
                    go_ret
                    exact ⟨by first | rfl | (simp [errW_none, errW_some] <;> rfl) | (simp [*, errW_none, errW_some] <;> rfl), by repeat (first | (with_reducible first | exact HB.out | apply below_alloc | apply pw_below_drewN | apply below_drew1) | exact HB.out)⟩
          · rw [if_neg c11] at H
            exact absurd H (by simp)
  · replace c4 := Bool.eq_false_iff.mpr c4
    subst c4
    have H1 : (some false) = some r := by rw [if_neg (show ¬ (false = true) by decide)] at H; exact H
    clear H
    have H := H1
    clear H1
    obtain rfl := Option.some.inj H
    go_enter Try.func5, Try.ntmps5
    go_wp2_with (first | ((with_reducible refine gate_callee (f := 9) rfl ?_); refine goesL_ (some 13) rfl rfl Try.func9 (by kernel_rfl) rfl #[] rfl (by (try simp only [List.map_toArray, List.map_cons, List.map_nil]); first | done | rfl | (simp only [List.length_drop, List.length_take]; rfl)) ?_; (with_reducible refine (warpbeamlaw07_alive.calls  false _ A3.out).mono ?_); rintro e w38 ⟨rfl, hb⟩; refine ⟨_, rfl, ?_⟩; have n0_ := Aside0.mk (below_step (by repeat (first | (with_reducible first | exact HB.out | apply below_alloc | apply pw_below_drewN | apply below_drew1) | exact HB.out)) hb); clear HB; have HB := n0_; clear n0_; (try clear hb); (try clear hb2); (try clear hk); (try clear hi)))
    go_ret
    exact ⟨by first | rfl | (simp [errW_none, errW_some] <;> rfl) | (simp [*, errW_none, errW_some] <;> rfl), by repeat (first | (with_reducible first | exact HB.out | apply below_alloc | apply pw_below_drewN | apply below_drew1) | exact HB.out)⟩

-- NOT PRINTED: function 3 (warpbeamlaw07_StoreTells)

end Go.Proofs.Ytnamlnlhigdnkaa.Q
