/- Plain functions that say what functions of the program compute, and proofs that they do; written by the printer for this claim, beside functions proved by hand. -/
import Derived.Test.YtnegpjnjgdnmpaaQ0
import Derived.Test.YtnegpjnjgdnmpaaQ3
import Derived.Test.YtnegpjnjgdnmpaaQ8
import Derived.Test.YtnegpjnjgdnmpaaHAlive
import Derived.Test.YtnegpjnjgdnmpaaHAsk
import Derived.Test.YtnegpjnjgdnmpaaHPass
namespace Go.Proofs.Ytnegpjnjgdnmpaa.Q
open Go.RowKit Go.Proofs.YtnegpjnjgdnmpaaW.PrintWords Go.Proofs.YtnegpjnjgdnmpaaW.PrintLast Go.Proofs.YtnegpjnjgdnmpaaW.PrintMore
attribute [local go_sem] max2_int min2_int max_two min_two max_three min_three max_four min_four   -- for this text's walks alone
set_option linter.unusedVariables false
set_option linter.unusedSimpArgs false

-- BY HAND: function 7 (warpbeamlaw18_alive)

/-! ### warpbeamlaw18_ChoiceTurns: function 3 -/
mutual
def warpbeamlaw18_ChoiceTurns.l0 : Nat → List Int → List Int → Int → Int → List (S43) → List Int → Option (Bool)
  | 0, _, _, _, _, _, _ => none
  | k + 1, x4, x20, x21, x22, x169000, x169001 => if x22 < x21 then (if 0 ≤ x22 then (if x22 < (x20.length : Int) then ((choice_Ask.f x169000 x169001 (wrap64 (1 + (wrap64 (rd x20 x22))))).bind fun bt170 => (if bt170.2.2 = 0 then (if x4.length < 17592186044416 then (warpbeamlaw18_ChoiceTurns.l0 k (x4 ++ [wrap64 (1 + (wrap64 (rd x20 x22)))]) x20 x21 (wrap64 (x22 + 1)) bt170.1 bt170.2.1) else (none)) else (warpbeamlaw18_ChoiceTurns.l0 k x4 x20 x21 (wrap64 (x22 + 1)) bt170.1 bt170.2.1))) else (none)) else (none)) else (warpbeamlaw18_ChoiceTurns.l1 k x4 (x4.length : Int) 0 x169000 x169001)
def warpbeamlaw18_ChoiceTurns.l1 : Nat → List Int → Int → Int → List (S43) → List Int → Option (Bool)
  | 0, _, _, _, _, _ => none
  | k + 1, x43, x44, x45, x169000, x169001 => if x45 < x44 then (if 0 ≤ x45 then (if x45 < (x43.length : Int) then ((choice_Holder.f k x169000 x169001).bind fun t184 => (if t184 = (rd x43 x45) then ((choice_May.f k x169000 x169001 (rd x43 x45)).bind fun t185 => (if t185 = true then ((choice_May.f k x169000 x169001 1000).bind fun t186 => (warpbeamlaw18_ChoiceTurns.j2 k (rd x43 x45) x43 x44 x45 t186 x169000 x169001)) else (warpbeamlaw18_ChoiceTurns.j2 k (rd x43 x45) x43 x44 x45 true x169000 x169001))) else (warpbeamlaw18_ChoiceTurns.j2 k (rd x43 x45) x43 x44 x45 true x169000 x169001))) else (none)) else (none)) else ((choice_Holder.f k x169000 x169001).bind fun t181 => (if t181 = 0 then ((choice_May.f k x169000 x169001 1000).bind fun t182 => (some t182)) else (some false)))
def warpbeamlaw18_ChoiceTurns.j2 : Nat → Int → List Int → Int → Int → Bool → List (S43) → List Int → Option (Bool)
  | 0, _, _, _, _, _, _, _ => none
  | k + 1, x11, x43, x44, x45, x62, x169000, x169001 => if x62 = true then (some false) else ((choice_Pass.f x169000 x169001 x11).bind fun bt187 => (if bt187.2.2 = 0 then (warpbeamlaw18_ChoiceTurns.l1 k x43 x44 (wrap64 (x45 + 1)) bt187.1 bt187.2.1) else (some false)))
end
def warpbeamlaw18_ChoiceTurns.f (k : Nat) (l0 : List Int) : Option (Bool) := (warpbeamlaw18_alive.f).bind fun t167 => (if t167 = true then (if (l0.length : Int) > 150 then (some true) else (warpbeamlaw18_ChoiceTurns.l0 k ([] : List Int) l0 (l0.length : Int) 0 ([] : List (S43)) ([] : List Int))) else (some false))
theorem warpbeamlaw18_ChoiceTurns.mono_l : ∀ k, (∀ y0 y1 y2 y3 y4 y5, LeO (warpbeamlaw18_ChoiceTurns.l0 k y0 y1 y2 y3 y4 y5) (warpbeamlaw18_ChoiceTurns.l0 (k + 1) y0 y1 y2 y3 y4 y5)) ∧ (∀ y0 y1 y2 y3 y4, LeO (warpbeamlaw18_ChoiceTurns.l1 k y0 y1 y2 y3 y4) (warpbeamlaw18_ChoiceTurns.l1 (k + 1) y0 y1 y2 y3 y4)) ∧ (∀ y0 y1 y2 y3 y4 y5 y6, LeO (warpbeamlaw18_ChoiceTurns.j2 k y0 y1 y2 y3 y4 y5 y6) (warpbeamlaw18_ChoiceTurns.j2 (k + 1) y0 y1 y2 y3 y4 y5 y6))
  | 0 => ⟨fun _ _ _ _ _ _ r h => by simp [warpbeamlaw18_ChoiceTurns.l0] at h, fun _ _ _ _ _ r h => by simp [warpbeamlaw18_ChoiceTurns.l1] at h, fun _ _ _ _ _ _ _ r h => by simp [warpbeamlaw18_ChoiceTurns.j2] at h⟩
  | k + 1 => by
    obtain ⟨ih0, ih1, ih2⟩ := warpbeamlaw18_ChoiceTurns.mono_l k
    refine ⟨?_, ?_, ?_⟩
    · intro y0 y1 y2 y3 y4 y5
      unfold warpbeamlaw18_ChoiceTurns.l0
      repeat' first
      | (with_reducible exact ih0 _ _ _ _ _ _)
      | (with_reducible exact ih1 _ _ _ _ _)
      | (with_reducible exact ih2 _ _ _ _ _ _ _)
      | (with_reducible exact choice_Holder.mono _ _ _)
      | (with_reducible exact choice_May.mono _ _ _ _)
      | (with_reducible exact LeO.refl _)
      | (with_reducible exact LeO.none _)
      | (with_reducible refine LeO.ite ?_ ?_)
      | (with_reducible refine LeO.bind ?_ (fun _ => ?_))
      | exact ih0 _ _ _ _ _ _
      | exact ih1 _ _ _ _ _
      | exact ih2 _ _ _ _ _ _ _
      | exact choice_Holder.mono _ _ _
      | exact choice_May.mono _ _ _ _
      | exact LeO.none _
      | refine LeO.ite ?_ ?_
      | refine LeO.bind ?_ (fun _ => ?_)
    · intro y0 y1 y2 y3 y4
      unfold warpbeamlaw18_ChoiceTurns.l1
      repeat' first
      | (with_reducible exact ih0 _ _ _ _ _ _)
      | (with_reducible exact ih1 _ _ _ _ _)
      | (with_reducible exact ih2 _ _ _ _ _ _ _)
      | (with_reducible exact choice_Holder.mono _ _ _)
      | (with_reducible exact choice_May.mono _ _ _ _)
      | (with_reducible exact LeO.refl _)
      | (with_reducible exact LeO.none _)
      | (with_reducible refine LeO.ite ?_ ?_)
      | (with_reducible refine LeO.bind ?_ (fun _ => ?_))
      | exact ih0 _ _ _ _ _ _
      | exact ih1 _ _ _ _ _
      | exact ih2 _ _ _ _ _ _ _
      | exact choice_Holder.mono _ _ _
      | exact choice_May.mono _ _ _ _
      | exact LeO.none _
      | refine LeO.ite ?_ ?_
      | refine LeO.bind ?_ (fun _ => ?_)
    · intro y0 y1 y2 y3 y4 y5 y6
      unfold warpbeamlaw18_ChoiceTurns.j2
      repeat' first
      | (with_reducible exact ih0 _ _ _ _ _ _)
      | (with_reducible exact ih1 _ _ _ _ _)
      | (with_reducible exact ih2 _ _ _ _ _ _ _)
      | (with_reducible exact choice_Holder.mono _ _ _)
      | (with_reducible exact choice_May.mono _ _ _ _)
      | (with_reducible exact LeO.refl _)
      | (with_reducible exact LeO.none _)
      | (with_reducible refine LeO.ite ?_ ?_)
      | (with_reducible refine LeO.bind ?_ (fun _ => ?_))
      | exact ih0 _ _ _ _ _ _
      | exact ih1 _ _ _ _ _
      | exact ih2 _ _ _ _ _ _ _
      | exact choice_Holder.mono _ _ _
      | exact choice_May.mono _ _ _ _
      | exact LeO.none _
      | refine LeO.ite ?_ ?_
      | refine LeO.bind ?_ (fun _ => ?_)
theorem warpbeamlaw18_ChoiceTurns.mono : ∀ a0 k, LeO (warpbeamlaw18_ChoiceTurns.f k a0) (warpbeamlaw18_ChoiceTurns.f (k + 1) a0) := by
  intro a0 k
  obtain ⟨ih0, ih1, ih2⟩ := warpbeamlaw18_ChoiceTurns.mono_l k
  unfold warpbeamlaw18_ChoiceTurns.f
  repeat' first
      | (with_reducible exact ih0 _ _ _ _ _ _)
      | (with_reducible exact ih1 _ _ _ _ _)
      | (with_reducible exact ih2 _ _ _ _ _ _ _)
      | (with_reducible exact choice_Holder.mono _ _ _)
      | (with_reducible exact choice_May.mono _ _ _ _)
      | (with_reducible exact LeO.refl _)
      | (with_reducible exact LeO.none _)
      | (with_reducible refine LeO.ite ?_ ?_)
      | (with_reducible refine LeO.bind ?_ (fun _ => ?_))
      | exact ih0 _ _ _ _ _ _
      | exact ih1 _ _ _ _ _
      | exact ih2 _ _ _ _ _ _ _
      | exact choice_Holder.mono _ _ _
      | exact choice_May.mono _ _ _ _
      | exact LeO.none _
      | refine LeO.ite ?_ ?_
      | refine LeO.bind ?_ (fun _ => ?_)
set_option maxHeartbeats 8000000 in
set_option maxRecDepth 100000 in
theorem warpbeamlaw18_ChoiceTurns.calls (k : Nat) (A0 : Option Addr) (c0 : Nat) (l0 : List Int) (r : Bool) (w : World) (hr0 : Kd.C (Kd.int .u8) w A0 l0.length l0) (hc0 : l0.length ≤ c0) (h : warpbeamlaw18_ChoiceTurns.f k l0 = some r) :
    Calls Try.prog 3 #[.slice A0 l0.length c0] w fun e w' => e = .returned (.bool r) ∧ Below w.heap.size w w' := by
  have hu27 := Try.underlying27
  have HR0 := Aside0.mk hr0
  have HC0 := Aside0.mk hc0
  clear hr0 hc0
  have HB := Aside0.mk (Below.refl w.heap.size w)
  have H : ((warpbeamlaw18_alive.f).bind fun t167 => (if t167 = true then (if (l0.length : Int) > 150 then (some true) else (warpbeamlaw18_ChoiceTurns.l0 k ([] : List Int) l0 (l0.length : Int) 0 ([] : List (S43)) ([] : List Int))) else (some false))) = some r := h
  clear h
  replace H := Option.bind_eq_some_iff.mp H
  obtain ⟨t167, A20, H⟩ := H
  replace H : (if t167 = true then (if (l0.length : Int) > 150 then (some true) else (warpbeamlaw18_ChoiceTurns.l0 k ([] : List Int) l0 (l0.length : Int) 0 ([] : List (S43)) ([] : List Int))) else (some false)) = some r := H
  have A2 := Aside0.mk A20
  clear A20
  by_cases c3 : t167 = true
  · subst c3
    have H1 : (if (l0.length : Int) > 150 then (some true) else (warpbeamlaw18_ChoiceTurns.l0 k ([] : List Int) l0 (l0.length : Int) 0 ([] : List (S43)) ([] : List Int))) = some r := by rw [if_pos rfl] at H; exact H
    clear H
    have H := H1
    clear H1
    by_cases c4 : (l0.length : Int) > 150
    · rw [if_pos c4] at H
      have c4b0 : decide (150 < (l0.length : Int)) = true := decide_eq_true c4
      have c4b1 : decide (150 < l0.length) = true := decide_eq_true (by omega)
      clear c4
      obtain rfl := Option.some.inj H
      go_enter Try.func3, Try.ntmps3
      go_wp2_with (first | ((with_reducible refine gate_callee (f := 7) rfl ?_); refine goesL_ (some 14) rfl rfl Try.func7 (by kernel_rfl) rfl #[] rfl (by (try simp only [List.map_toArray, List.map_cons, List.map_nil]); first | done | rfl | (simp only [List.length_drop, List.length_take]; rfl)) ?_; (with_reducible refine (warpbeamlaw18_alive.calls  true _ A2.out).mono ?_); rintro e w5 ⟨rfl, hb⟩; refine ⟨_, rfl, ?_⟩; have n0_ := Aside0.mk (below_step (by repeat (first | (with_reducible first | exact HB.out | apply below_alloc | apply pw_below_drewN | apply below_drew1) | exact HB.out)) hb); clear HB; have HB := n0_; clear n0_; (try clear hb); (try clear hb2); (try clear hk); (try clear hi)))
      go_ret
      exact ⟨by first | rfl | (simp [errW_none, errW_some] <;> rfl) | (simp [*, errW_none, errW_some] <;> rfl), by repeat (first | (with_reducible first | exact HB.out | apply below_alloc | apply pw_below_drewN | apply below_drew1) | exact HB.out)⟩
    · rw [if_neg c4] at H
      have c4b0 : decide (150 < (l0.length : Int)) = false := decide_eq_false c4
      have c4b1 : decide (150 < l0.length) = false := decide_eq_false (by omega)
      clear c4
      have H' := Aside0.mk H
      clear H
      go_enter Try.func3, Try.ntmps3
      go_wp2_with (first | ((with_reducible refine gate_callee (f := 7) rfl ?_); refine goesL_ (some 14) rfl rfl Try.func7 (by kernel_rfl) rfl #[] rfl (by (try simp only [List.map_toArray, List.map_cons, List.map_nil]); first | done | rfl | (simp only [List.length_drop, List.length_take]; rfl)) ?_; (with_reducible refine (warpbeamlaw18_alive.calls  true _ A2.out).mono ?_); rintro e w6 ⟨rfl, hb⟩; refine ⟨_, rfl, ?_⟩; have n0_ := Aside0.mk (below_step (by repeat (first | (with_reducible first | exact HB.out | apply below_alloc | apply pw_below_drewN | apply below_drew1) | exact HB.out)) hb); clear HB; have HB := n0_; clear n0_; (try clear hb); (try clear hb2); (try clear hk); (try clear hi)) | ((with_reducible refine gate_dst (N := 3) rfl ?_); refine box_event ?hg (N := 3) ?hd (cs := #[.slice none 0 0, .slice none 0 0]) (t := 27) ?hr ?_; (case hd => rfl); (case hg => rfl); (case hr => first | (go_simp; done) | (go_simp; rfl)); intro gb168 hg w7 hbox hb; have n0_ := Aside0.mk (below_step (by repeat (first | (with_reducible first | exact HB.out | apply below_alloc | apply pw_below_drewN | apply below_drew1) | exact HB.out)) hb); have n1_ := Aside0.mk (hbox); have n2_ := Aside0.mk ((by rw [hg]; exact (below_size (by repeat (first | (with_reducible first | exact HB.out | apply below_alloc | apply pw_below_drewN | apply below_drew1) | exact HB.out))) : w.heap.size ≤ gb168)); have n3_ := Aside0.mk ((by rw [hg]; exact (below_size (by repeat (first | (with_reducible first | exact HB.out | apply below_alloc | apply pw_below_drewN | apply below_drew1) | exact HB.out))) : w.heap.size ≤ gb168)); clear HB; have HB := n0_; have BK168 := n1_; have GW168 := n2_; have GE168 := n3_; clear n0_ n1_ n2_ n3_; clear hb hbox hg; have hcz8_0 : w7.cell? ⟨gb168, 0, none⟩ = some (.slice none 0 0) := (blk_cell BK168.out 0).trans rfl; have hcz8_1 : w7.cell? ⟨gb168, 1, none⟩ = some (.slice none 0 0) := (blk_cell BK168.out 1).trans rfl; have hfz8_0 := blk_frozen BK168.out 0; have hfz8_1 := blk_frozen BK168.out 1))
      go_loopg [4, 22] k (fun kq v4 v22 w' => ∃ (x4_1 : List Int) (x22_1 : Int) (x169000_1 : List (S43)) (x169001_1 : List Int) (u169000 : Value) (u169001 : Value), v22 = .int .i64 x22_1 ∧ Aside0 (warpbeamlaw18_ChoiceTurns.l0 kq x4_1 l0 (l0.length : Int) x22_1 x169000_1 x169001_1 = some r) ∧ Aside0 (kq ≤ k) ∧ Aside0 (Kd.R (Kd.int .i64) 3 w' w.heap.size (fun _ => True) v4 x4_1) ∧ Aside0 (Kd.V k43 43 w' w.heap.size (fun k_ => some k_ ≠ (v4 : Value).ownBlock ∧ k_ ≠ gb168) u169000 x169000_1) ∧ Aside0 (Kd.V (Kd.int .i64) 3 w' w.heap.size (fun k_ => some k_ ≠ (v4 : Value).ownBlock ∧ k_ ≠ gb168) u169001 x169001_1) ∧ Aside0 (w'.heap[gb168]? = some (.cells #[u169000, u169001] 27 (0, 0))) ∧ Aside0 (Below w.heap.size w w'))
      case atStart => exact ⟨(([] : List Int)), (0), (([] : List (S43))), (([] : List Int)), (.slice none 0 0), (.slice none 0 0), (by first | rfl | (simp; done) | (simp [*]; done)), H', ⟨Nat.le_refl _⟩, ⟨by first | exact Kd.R_nil _ _ _ _ _ | exact Kd.N_nil _ _ _ _ _ | exact Kd.V_nil _ _ _ _ _ | exact Kd.Q_nil _ _ _ _ _ | exact Kd.S_nil _ _ _ _ _⟩, ⟨Kd.V_nil _ _ _ _ _⟩, ⟨Kd.V_nil _ _ _ _ _⟩, ⟨by (with_reducible repeat (first | refine blk_drewN ?_ _ | refine blk_drew ?_ | refine blk_alloc ?_ _)); refine blk_put (cs := #[.slice none 0 0, .slice none 0 0]) ?_ 1 _ rfl; (with_reducible repeat (first | refine blk_drewN ?_ _ | refine blk_drew ?_ | refine blk_alloc ?_ _)); refine blk_put (cs := #[.slice none 0 0, .slice none 0 0]) ?_ 0 _ rfl; (with_reducible repeat (first | refine blk_drewN ?_ _ | refine blk_drew ?_ | refine blk_alloc ?_ _)); exact BK168.out⟩, ⟨by repeat (first | (with_reducible first | exact HB.out | apply below_alloc | apply pw_below_drewN | apply below_drew1 | refine below_set ?_ GE168.out) | exact HB.out)⟩⟩
      case round =>
        clear H'
        try clear p2
        try clear c3
        try clear c4
        try clear c4b0
        try clear c4b1
        try clear c7
        try clear hcz8_0
        try clear hcz8_1
        try clear hfz8_0
        try clear hfz8_1
        obtain ⟨x4_1, x22_1, x169000_1, x169001_1, u169000, u169001, rfl, HA, HK1, HO_4, HO_169000, HO_169001, BK168, HB⟩ := hrel
        cases gk with
        | zero => exact absurd HA.out (by simp [warpbeamlaw18_ChoiceTurns.l0])
        | succ k1 =>
          have H := HA.out
          clear HA
          simp only [warpbeamlaw18_ChoiceTurns.l0] at H
          by_cases c9 : x22_1 < (l0.length : Int)
          · rw [if_pos c9] at H
            have c9b0 : decide (x22_1 < (l0.length : Int)) = true := decide_eq_true c9
            clear c9
            by_cases c10 : 0 ≤ x22_1
            · rw [if_pos c10] at H
              have c10b0 : decide (0 ≤ x22_1) = true := decide_eq_true c10
              clear c10
              by_cases c11 : x22_1 < (l0.length : Int)
              · rw [if_pos c11] at H
                have c11b0 : decide (x22_1 < (l0.length : Int)) = true := decide_eq_true c11
                clear c11
                replace H := Option.bind_eq_some_iff.mp H
                obtain ⟨⟨t170, t173, t176⟩, A120, H⟩ := H
                replace H : (if t176 = 0 then (if x4_1.length < 17592186044416 then (warpbeamlaw18_ChoiceTurns.l0 k1 (x4_1 ++ [wrap64 (1 + (wrap64 (rd l0 x22_1)))]) l0 (l0.length : Int) (wrap64 (x22_1 + 1)) t170 t173) else (none)) else (warpbeamlaw18_ChoiceTurns.l0 k1 x4_1 l0 (l0.length : Int) (wrap64 (x22_1 + 1)) t170 t173)) = some r := H
                have A12 := Aside0.mk A120
                clear A120
                by_cases c13 : t176 = 0
                · rw [if_pos c13] at H
                  have c13b0 : (t176 == 0) = true := beq_iff_eq.mpr c13
                  have c13b1 : (t176 != 0) = false := bne_eq_false_iff_eq.mpr c13
                  clear c13
                  by_cases c14 : x4_1.length < 17592186044416
                  · rw [if_pos c14] at H
                    have LMc14 := Aside0.mk c14
                    clear c14
                    obtain ⟨y178, hy178⟩ : ∃ y_ : List Int, y_ = (x4_1 ++ [wrap64 (1 + (wrap64 (rd l0 x22_1)))]) := ⟨_, rfl⟩
                    replace H : (warpbeamlaw18_ChoiceTurns.l0 k1 y178 l0 (l0.length : Int) (wrap64 (x22_1 + 1)) t170 t173) = some r := by first | (rw [hy178]; with_reducible exact H) | (have H2_ := (Option.bind_some _ _).symm.trans H; rw [hy178]; with_reducible exact H2_) | (have H2_ := (Option.bind_some _ _).symm.trans H; with_reducible exact H2_) | with_reducible exact H | (rw [hy178]; exact H) | exact H
                    have Ny178 := Aside0.mk hy178
                    clear hy178
                    have H' := Aside0.mk H
                    clear H
                    have p169 : 0 ≤ (x22_1 : Int) := of_decide_eq_true (by first | (with_reducible assumption) | assumption)
                    have q169 : x22_1 < (l0.length : Int) := of_decide_eq_true (by first | (with_reducible assumption) | assumption)
                    obtain ⟨ad169, e169, hx169_0⟩ := Kd.at_int HR0.out x22_1 p169 q169
                    cases e169
                    replace hx169_0 := (HB.out.cell (World.block_lt_of_cell? w _ hx169_0)).trans hx169_0
                    replace p169 := eq_true p169
                    replace q169 := eq_true q169
                    have hcz15_0 : wr.cell? ⟨gb168, 0, none⟩ = some (u169000) := (blk_cell BK168.out 0).trans rfl
                    have hcz15_1 : wr.cell? ⟨gb168, 1, none⟩ = some (u169001) := (blk_cell BK168.out 1).trans rfl
                    have hfz15_0 := blk_frozen BK168.out 0
                    have hfz15_1 := blk_frozen BK168.out 1
                    obtain ⟨Ao16, co16, eo16⟩ := Kd.V_slice HO_169000.out
                    subst eo16
                    obtain ⟨Ao17, co17, eo17⟩ := Kd.V_slice HO_169001.out
                    subst eo17
                    go_wp2_with (first | ((with_reducible refine gate_callee (f := 8) rfl ?_); refine goesL_ (some 32) rfl rfl Try.func8 (by kernel_rfl) rfl #[.agg #[.slice Ao16 x169000_1.length co16, .slice Ao17 x169001_1.length co17], .int .i64 (wrap64 (1 + (wrap64 (rd l0 x22_1))))] rfl (by (try simp only [List.map_toArray, List.map_cons, List.map_nil]); first | done | rfl | (simp only [List.length_drop, List.length_take]; rfl)) ?_; (with_reducible refine (choice_Ask.calls (fun k_ => (some k_ ≠ (u4 : Value).ownBlock ∧ k_ ≠ gb168)) _ _ x169000_1 (fun k_ => (some k_ ≠ (u4 : Value).ownBlock ∧ k_ ≠ gb168)) _ _ x169001_1 (wrap64 (1 + (wrap64 (rd l0 x22_1)))) t170 t173 t176 _ ?side1 ?side2 A12.out).mono ?_); (case side1 => exact HO_169000.out); (case side2 => exact HO_169001.out); rintro e w18 ⟨v171, v174, rfl, ho0, ho1, hb⟩; refine ⟨_, rfl, ?_⟩; have n0_ := Aside0.mk (Kd.R_below (by (with_reducible repeat (first | apply Kd.R_alloc | apply Kd.R_drewN | apply Kd.R_drew)); exact HO_4.out) hb); have n1_ := Aside0.mk (Kd.V_below (by (with_reducible repeat (first | apply Kd.V_alloc | apply Kd.V_drewN | apply Kd.V_drew)); exact HO_169000.out) hb); have n2_ := Aside0.mk (Kd.V_below (by (with_reducible repeat (first | apply Kd.V_alloc | apply Kd.V_drewN | apply Kd.V_drew)); exact HO_169001.out) hb); have n3_ := Aside0.mk (Kd.V_lower (Kd.V_mono (ok' := fun k_ => some k_ ≠ (u4 : Value).ownBlock ∧ k_ ≠ gb168) ho0 (fun k_ hk_ => ⟨Or.elim hk_ (fun hs_ => Or.elim hs_ (fun hs_ => hs_.1) (fun hs_ => hs_.1)) (fun hn_ => (Kd.fresh' (Kd.R_lt (by (with_reducible repeat (first | apply Kd.R_alloc | apply Kd.R_drewN | apply Kd.R_drew)); exact HO_4.out)) k_ hn_)), Or.elim hk_ (fun hs_ => Or.elim hs_ (fun hs_ => hs_.2) (fun hs_ => hs_.2)) (fun hn_ => (Kd.freshB (g := gb168) (o := .cells #[.slice Ao16 x169000_1.length co16, .slice Ao17 x169001_1.length co17] 27 (0, 0)) (by (with_reducible repeat (first | refine blk_drewN ?_ _ | refine blk_drew ?_ | refine blk_alloc ?_ _)); exact BK168.out) k_ hn_))⟩)) (below_size (by repeat (first | (with_reducible first | exact HB.out | apply below_alloc | apply pw_below_drewN | apply below_drew1 | refine below_set ?_ GE168.out) | exact HB.out)))); have n4_ := Aside0.mk (Kd.V_lower (Kd.V_mono (ok' := fun k_ => some k_ ≠ (u4 : Value).ownBlock ∧ k_ ≠ gb168) ho1 (fun k_ hk_ => ⟨Or.elim hk_ (fun hs_ => Or.elim hs_ (fun hs_ => hs_.1) (fun hs_ => hs_.1)) (fun hn_ => (Kd.fresh' (Kd.R_lt (by (with_reducible repeat (first | apply Kd.R_alloc | apply Kd.R_drewN | apply Kd.R_drew)); exact HO_4.out)) k_ hn_)), Or.elim hk_ (fun hs_ => Or.elim hs_ (fun hs_ => hs_.2) (fun hs_ => hs_.2)) (fun hn_ => (Kd.freshB (g := gb168) (o := .cells #[.slice Ao16 x169000_1.length co16, .slice Ao17 x169001_1.length co17] 27 (0, 0)) (by (with_reducible repeat (first | refine blk_drewN ?_ _ | refine blk_drew ?_ | refine blk_alloc ?_ _)); exact BK168.out) k_ hn_))⟩)) (below_size (by repeat (first | (with_reducible first | exact HB.out | apply below_alloc | apply pw_below_drewN | apply below_drew1 | refine below_set ?_ GE168.out) | exact HB.out)))); have n5_ := Aside0.mk (blk_below (g := gb168) (o := .cells #[.slice Ao16 x169000_1.length co16, .slice Ao17 x169001_1.length co17] 27 (0, 0)) (by (with_reducible repeat (first | refine blk_drewN ?_ _ | refine blk_drew ?_ | refine blk_alloc ?_ _)); exact BK168.out) hb); have n6_ := Aside0.mk (below_step (by repeat (first | (with_reducible first | exact HB.out | apply below_alloc | apply pw_below_drewN | apply below_drew1 | refine below_set ?_ GE168.out) | exact HB.out)) hb); clear HO_4; clear HO_169000; clear HO_169001; clear BK168; clear HB; have HO_4 := n0_; have HO_169000 := n1_; have HO_169001 := n2_; have HO172 := n3_; have HO175 := n4_; have BK168 := n5_; have HB := n6_; clear n0_ n1_ n2_ n3_ n4_ n5_ n6_; (try clear hb); (try clear hb2); (try clear hk); (try clear hi); (try clear ho0); (try clear ho1)) | ((with_reducible refine gate_dst (N := 8) rfl ?_); refine box_event ?hg (N := 8) ?hd (cs := #[.slice none 0 0, .slice none 0 0]) (t := 27) ?hr ?_; (case hd => rfl); (case hg => rfl); (case hr => first | (go_simp; done) | (go_simp; rfl)); intro gb177 hg w19 hbox hb; have n0_ := Aside0.mk (Kd.R_below (by (with_reducible repeat (first | apply Kd.R_alloc | apply Kd.R_drewN | apply Kd.R_drew)); exact HO_4.out) hb); have n1_ := Aside0.mk (Kd.V_below (Kd.V_elderB (by (with_reducible repeat (first | apply Kd.V_alloc | apply Kd.V_drewN | apply Kd.V_drew)); exact HO_169000.out) gb177 (Nat.le_of_eq hg.symm)) hb); have n2_ := Aside0.mk (Kd.V_below (Kd.V_elderB (by (with_reducible repeat (first | apply Kd.V_alloc | apply Kd.V_drewN | apply Kd.V_drew)); exact HO_169001.out) gb177 (Nat.le_of_eq hg.symm)) hb); have n3_ := Aside0.mk (Kd.V_below (Kd.V_elderB (by (with_reducible repeat (first | apply Kd.V_alloc | apply Kd.V_drewN | apply Kd.V_drew)); exact HO172.out) gb177 (Nat.le_of_eq hg.symm)) hb); have n4_ := Aside0.mk (Kd.V_below (Kd.V_elderB (by (with_reducible repeat (first | apply Kd.V_alloc | apply Kd.V_drewN | apply Kd.V_drew)); exact HO175.out) gb177 (Nat.le_of_eq hg.symm)) hb); have n5_ := Aside0.mk (blk_below (g := gb168) (o := .cells #[.slice Ao16 x169000_1.length co16, .slice Ao17 x169001_1.length co17] 27 (0, 0)) (by (with_reducible repeat (first | refine blk_drewN ?_ _ | refine blk_drew ?_ | refine blk_alloc ?_ _)); exact BK168.out) hb); have n6_ := Aside0.mk (below_step (by repeat (first | (with_reducible first | exact HB.out | apply below_alloc | apply pw_below_drewN | apply below_drew1 | refine below_set ?_ GE168.out) | exact HB.out)) hb); have n7_ := Aside0.mk (hbox); have n8_ := Aside0.mk ((by rw [hg]; exact (below_size (by repeat (first | (with_reducible first | exact HB.out | apply below_alloc | apply pw_below_drewN | apply below_drew1 | refine below_set ?_ GE168.out) | exact HB.out))) : w.heap.size ≤ gb177)); have n9_ := Aside0.mk ((by rw [hg]; exact (below_size (by repeat (first | (with_reducible first | exact HB.out | apply below_alloc | apply pw_below_drewN | apply below_drew1 | refine below_set ?_ GE168.out) | exact HB.out))) : w.heap.size ≤ gb177)); have n10_ := Aside0.mk ((by rw [hg]; exact Nat.ne_of_lt (blk_lt (g := gb168) (o := .cells #[.slice Ao16 x169000_1.length co16, .slice Ao17 x169001_1.length co17] 27 (0, 0)) (by (with_reducible repeat (first | refine blk_drewN ?_ _ | refine blk_drew ?_ | refine blk_alloc ?_ _)); exact BK168.out)) : gb168 ≠ gb177)); have n11_ := Aside0.mk ((by rw [hg]; exact Nat.ne_of_gt (blk_lt (g := gb168) (o := .cells #[.slice Ao16 x169000_1.length co16, .slice Ao17 x169001_1.length co17] 27 (0, 0)) (by (with_reducible repeat (first | refine blk_drewN ?_ _ | refine blk_drew ?_ | refine blk_alloc ?_ _)); exact BK168.out)) : gb177 ≠ gb168)); clear HO_4; clear HO_169000; clear HO_169001; clear HO172; clear HO175; clear BK168; clear HB; have HO_4 := n0_; have HO_169000 := n1_; have HO_169001 := n2_; have HO172 := n3_; have HO175 := n4_; have BK168 := n5_; have HB := n6_; have BK177 := n7_; have GW177 := n8_; have GE177 := n9_; have NB168_177 := n10_; have NB177_168 := n11_; clear n0_ n1_ n2_ n3_ n4_ n5_ n6_ n7_ n8_ n9_ n10_ n11_; clear hb hbox hg; obtain ⟨Ao20, co20, eo20⟩ := Kd.V_slice HO172.out; subst eo20; have hnb21 := NB177_168.out; have hnc21 := NB168_177.out; have hcz22_0 : w19.cell? ⟨gb177, 0, none⟩ = some (.slice none 0 0) := (blk_cell BK177.out 0).trans rfl; have hcz22_1 : w19.cell? ⟨gb177, 1, none⟩ = some (.slice none 0 0) := (blk_cell BK177.out 1).trans rfl; have hfz22_0 := blk_frozen BK177.out 0; have hfz22_1 := blk_frozen BK177.out 1; obtain ⟨Ao23, co23, eo23⟩ := Kd.V_slice HO175.out; subst eo23; have hcz24_0 : w19.cell? ⟨gb168, 0, none⟩ = some (.slice Ao16 x169000_1.length co16) := (blk_cell BK168.out 0).trans rfl; have hcz24_1 : w19.cell? ⟨gb168, 1, none⟩ = some (.slice Ao17 x169001_1.length co17) := (blk_cell BK168.out 1).trans rfl; have hfz24_0 := blk_frozen BK168.out 0; have hfz24_1 := blk_frozen BK168.out 1) | ((with_reducible refine gate_builtin (b := .append) (xs := #[.tmp 38, .tmp 40]) rfl ?_); at_builtin; refine Kd.R_append (Kd.int .i64) (w0 := w) w.heap.size rfl (.tmp 38) (.tmp 40) 25 3 (.int .i64 0) 8 rfl Try.underlying25 info3 rfl (by decide) (by omega) u4 x4_1 (wrap64 (1 + (wrap64 (rd l0 x22_1)))) [.int .i64 (wrap64 (1 + (wrap64 (rd l0 x22_1))))] (fun _ => True) (fun _ => False) rfl (by first | (go_simp; done) | (go_simp; rfl)) ?aP (fun _ hk => hk.elim) ?aF ?aO ?aB ?aS ?aL ?_; (case aP => exact rfl); (case aB => exact (by repeat (first | (with_reducible first | exact HB.out | apply below_alloc | apply pw_below_drewN | apply below_drew1 | refine below_set ?_ GE168.out | refine below_set ?_ GE177.out) | exact HB.out))); (case aF => exact (fun _ _ => trivial)); (case aO => exact (by (with_reducible repeat (first | apply Kd.R_alloc | apply Kd.R_drewN | apply Kd.R_drew)); exact Kd.R_mono (Kd.R_far (p := ⟨gb168, 1, none⟩) (Kd.R_far (p := ⟨gb168, 0, none⟩) (Kd.R_far (p := ⟨gb177, 1, none⟩) (Kd.R_far (p := ⟨gb177, 0, none⟩) (Kd.R_types (Kd.R_types HO_4.out BK177.out (by decide)) BK168.out (by decide)) (fun _ hk => hk.1.2) (.slice Ao20 t170.length co20)) (fun _ hk => hk.1.2) (.slice Ao23 t173.length co23)) (fun _ hk => hk.2) (.slice Ao20 t170.length co20)) (fun _ hk => hk.2) (.slice Ao23 t173.length co23)) (fun _ hk => trivial))); (case aS => exact (below_size (by repeat (first | (with_reducible first | exact HB.out | apply below_alloc | apply pw_below_drewN | apply below_drew1 | refine below_set ?_ GE168.out | refine below_set ?_ GE177.out) | exact HB.out)))); (case aL => have := LMc14.out; omega); intro v179 w25 ho hb hg hat; rw [← Ny178.out] at ho; have n0_ := Aside0.mk (Kd.V_afterv (ok := (fun k_ => k_ ≠ gb168 ∧ k_ ≠ gb177)) (by (with_reducible repeat (first | apply Kd.V_alloc | apply Kd.V_drewN | apply Kd.V_drew)); exact Kd.V_mono (Kd.V_far (p := ⟨gb168, 1, none⟩) (Kd.V_far (p := ⟨gb168, 0, none⟩) (Kd.V_far (p := ⟨gb177, 1, none⟩) (Kd.V_far (p := ⟨gb177, 0, none⟩) (Kd.V_mono (Kd.V_mono HO_169000.out (fun k_ hk => (⟨hk, hk.2⟩ : _ ∧ k_ ≠ gb177))) (fun k_ hk => (⟨hk, hk.1.1.2⟩ : _ ∧ k_ ≠ gb168))) (fun _ hk => hk.1.2) (.slice Ao20 t170.length co20)) (fun _ hk => hk.1.2) (.slice Ao23 t173.length co23)) (fun _ hk => hk.2) (.slice Ao20 t170.length co20)) (fun _ hk => hk.2) (.slice Ao23 t173.length co23)) (fun _ hk => ⟨⟨hk.1.1.1.2, hk.1.1.2⟩, hk.1.1.1.1⟩)) hg hat); have n1_ := Aside0.mk (Kd.V_afterv (ok := (fun k_ => k_ ≠ gb168 ∧ k_ ≠ gb177)) (by (with_reducible repeat (first | apply Kd.V_alloc | apply Kd.V_drewN | apply Kd.V_drew)); exact Kd.V_mono (Kd.V_far (p := ⟨gb168, 1, none⟩) (Kd.V_far (p := ⟨gb168, 0, none⟩) (Kd.V_far (p := ⟨gb177, 1, none⟩) (Kd.V_far (p := ⟨gb177, 0, none⟩) (Kd.V_mono (Kd.V_mono HO_169001.out (fun k_ hk => (⟨hk, hk.2⟩ : _ ∧ k_ ≠ gb177))) (fun k_ hk => (⟨hk, hk.1.1.2⟩ : _ ∧ k_ ≠ gb168))) (fun _ hk => hk.1.2) (.slice Ao20 t170.length co20)) (fun _ hk => hk.1.2) (.slice Ao23 t173.length co23)) (fun _ hk => hk.2) (.slice Ao20 t170.length co20)) (fun _ hk => hk.2) (.slice Ao23 t173.length co23)) (fun _ hk => ⟨⟨hk.1.1.1.2, hk.1.1.2⟩, hk.1.1.1.1⟩)) hg hat); have n2_ := Aside0.mk (blk_grown (g := gb168) (o := .cells #[.slice Ao20 t170.length co20, .slice Ao23 t173.length co23] 27 (0, 0)) (by (with_reducible repeat (first | refine blk_drewN ?_ _ | refine blk_drew ?_ | refine blk_alloc ?_ _)); refine blk_put (cs := #[.slice Ao20 t170.length co20, .slice Ao17 x169001_1.length co17]) ?_ 1 _ rfl; (with_reducible repeat (first | refine blk_drewN ?_ _ | refine blk_drew ?_ | refine blk_alloc ?_ _)); refine blk_put (cs := #[.slice Ao16 x169000_1.length co16, .slice Ao17 x169001_1.length co17]) ?_ 0 _ rfl; (with_reducible repeat (first | refine blk_drewN ?_ _ | refine blk_drew ?_ | refine blk_alloc ?_ _)); refine blk_far ?_ NB168_177.out _; (with_reducible repeat (first | refine blk_drewN ?_ _ | refine blk_drew ?_ | refine blk_alloc ?_ _)); refine blk_far ?_ NB168_177.out _; (with_reducible repeat (first | refine blk_drewN ?_ _ | refine blk_drew ?_ | refine blk_alloc ?_ _)); exact BK168.out) hg (Kd.R_ne HO_4.out BK168.out (by decide))); have n3_ := Aside0.mk (Kd.V_afterv (ok := (fun k_ => k_ ≠ gb168 ∧ k_ ≠ gb177)) (by (with_reducible repeat (first | apply Kd.V_alloc | apply Kd.V_drewN | apply Kd.V_drew)); exact Kd.V_mono (Kd.V_far (p := ⟨gb168, 1, none⟩) (Kd.V_far (p := ⟨gb168, 0, none⟩) (Kd.V_far (p := ⟨gb177, 1, none⟩) (Kd.V_far (p := ⟨gb177, 0, none⟩) (Kd.V_mono (Kd.V_mono HO172.out (fun k_ hk => (⟨hk, hk.2⟩ : _ ∧ k_ ≠ gb177))) (fun k_ hk => (⟨hk, hk.1.1.2⟩ : _ ∧ k_ ≠ gb168))) (fun _ hk => hk.1.2) (.slice Ao20 t170.length co20)) (fun _ hk => hk.1.2) (.slice Ao23 t173.length co23)) (fun _ hk => hk.2) (.slice Ao20 t170.length co20)) (fun _ hk => hk.2) (.slice Ao23 t173.length co23)) (fun _ hk => ⟨⟨hk.1.1.1.2, hk.1.1.2⟩, hk.1.1.1.1⟩)) hg hat); have n4_ := Aside0.mk (Kd.V_afterv (ok := (fun k_ => k_ ≠ gb168 ∧ k_ ≠ gb177)) (by (with_reducible repeat (first | apply Kd.V_alloc | apply Kd.V_drewN | apply Kd.V_drew)); exact Kd.V_mono (Kd.V_far (p := ⟨gb168, 1, none⟩) (Kd.V_far (p := ⟨gb168, 0, none⟩) (Kd.V_far (p := ⟨gb177, 1, none⟩) (Kd.V_far (p := ⟨gb177, 0, none⟩) (Kd.V_mono (Kd.V_mono HO175.out (fun k_ hk => (⟨hk, hk.2⟩ : _ ∧ k_ ≠ gb177))) (fun k_ hk => (⟨hk, hk.1.1.2⟩ : _ ∧ k_ ≠ gb168))) (fun _ hk => hk.1.2) (.slice Ao20 t170.length co20)) (fun _ hk => hk.1.2) (.slice Ao23 t173.length co23)) (fun _ hk => hk.2) (.slice Ao20 t170.length co20)) (fun _ hk => hk.2) (.slice Ao23 t173.length co23)) (fun _ hk => ⟨⟨hk.1.1.1.2, hk.1.1.2⟩, hk.1.1.1.1⟩)) hg hat); have n5_ := Aside0.mk (blk_grown (g := gb177) (o := .cells #[.slice Ao20 t170.length co20, .slice Ao23 t173.length co23] 27 (0, 0)) (by (with_reducible repeat (first | refine blk_drewN ?_ _ | refine blk_drew ?_ | refine blk_alloc ?_ _)); refine blk_far ?_ NB177_168.out _; (with_reducible repeat (first | refine blk_drewN ?_ _ | refine blk_drew ?_ | refine blk_alloc ?_ _)); refine blk_far ?_ NB177_168.out _; (with_reducible repeat (first | refine blk_drewN ?_ _ | refine blk_drew ?_ | refine blk_alloc ?_ _)); refine blk_put (cs := #[.slice Ao20 t170.length co20, .slice none 0 0]) ?_ 1 _ rfl; (with_reducible repeat (first | refine blk_drewN ?_ _ | refine blk_drew ?_ | refine blk_alloc ?_ _)); refine blk_put (cs := #[.slice none 0 0, .slice none 0 0]) ?_ 0 _ rfl; (with_reducible repeat (first | refine blk_drewN ?_ _ | refine blk_drew ?_ | refine blk_alloc ?_ _)); exact BK177.out) hg (Kd.R_ne HO_4.out BK177.out (by decide))); have n6_ := Aside0.mk (hb); have n7_ := Aside0.mk (ho); clear HO_169000; clear HO_169001; clear BK168; clear HO172; clear HO175; clear BK177; clear HB; clear HO_4; have HO_169000 := n0_; have HO_169001 := n1_; have BK168 := n2_; have HO172 := n3_; have HO175 := n4_; have BK177 := n5_; have HB := n6_; have HO180 := n7_; clear n0_ n1_ n2_ n3_ n4_ n5_ n6_ n7_; clear ho hb hg hat))
                    go_roundg k1
                    case measure => have := HK1.out; omega
                    case rel => exact ⟨(y178), (wrap64 (x22_1 + 1)), (t170), (t173), (.slice Ao20 t170.length co20), (.slice Ao23 t173.length co23), (by first | rfl | (simp; done) | (simp [*]; done)), H', ⟨by have := HK1.out; omega⟩, ⟨by (with_reducible repeat (first | apply Kd.R_alloc | apply Kd.R_drewN | apply Kd.R_drew)); exact HO180.out⟩, ⟨by (with_reducible repeat (first | apply Kd.V_alloc | apply Kd.V_drewN | apply Kd.V_drew)); exact Kd.V_mono HO172.out (fun _ hk => ⟨hk.2, hk.1.1⟩)⟩, ⟨by (with_reducible repeat (first | apply Kd.V_alloc | apply Kd.V_drewN | apply Kd.V_drew)); exact Kd.V_mono HO175.out (fun _ hk => ⟨hk.2, hk.1.1⟩)⟩, ⟨by (with_reducible repeat (first | refine blk_drewN ?_ _ | refine blk_drew ?_ | refine blk_alloc ?_ _)); exact BK168.out⟩, ⟨by repeat (first | (with_reducible first | exact HB.out | apply below_alloc | apply pw_below_drewN | apply below_drew1 | refine below_set ?_ GE168.out | refine below_set ?_ GE177.out) | exact HB.out)⟩⟩
                  · rw [if_neg c14] at H
                    exact absurd H (by simp)
                · rw [if_neg c13] at H
                  have c13b0 : (t176 == 0) = false := beq_eq_false_iff_ne.mpr c13
                  have c13b1 : (t176 != 0) = true := bne_iff_ne.mpr c13
                  have H' := Aside0.mk H
                  clear H
                  have p169 : 0 ≤ (x22_1 : Int) := of_decide_eq_true (by first | (with_reducible assumption) | assumption)
                  have q169 : x22_1 < (l0.length : Int) := of_decide_eq_true (by first | (with_reducible assumption) | assumption)
                  obtain ⟨ad169, e169, hx169_0⟩ := Kd.at_int HR0.out x22_1 p169 q169
                  cases e169
                  replace hx169_0 := (HB.out.cell (World.block_lt_of_cell? w _ hx169_0)).trans hx169_0
                  replace p169 := eq_true p169
                  replace q169 := eq_true q169
                  have hcz26_0 : wr.cell? ⟨gb168, 0, none⟩ = some (u169000) := (blk_cell BK168.out 0).trans rfl
                  have hcz26_1 : wr.cell? ⟨gb168, 1, none⟩ = some (u169001) := (blk_cell BK168.out 1).trans rfl
                  have hfz26_0 := blk_frozen BK168.out 0
                  have hfz26_1 := blk_frozen BK168.out 1
                  obtain ⟨Ao27, co27, eo27⟩ := Kd.V_slice HO_169000.out
                  subst eo27
                  obtain ⟨Ao28, co28, eo28⟩ := Kd.V_slice HO_169001.out
                  subst eo28
                  go_wp2_with (first | ((with_reducible refine gate_callee (f := 8) rfl ?_); refine goesL_ (some 32) rfl rfl Try.func8 (by kernel_rfl) rfl #[.agg #[.slice Ao27 x169000_1.length co27, .slice Ao28 x169001_1.length co28], .int .i64 (wrap64 (1 + (wrap64 (rd l0 x22_1))))] rfl (by (try simp only [List.map_toArray, List.map_cons, List.map_nil]); first | done | rfl | (simp only [List.length_drop, List.length_take]; rfl)) ?_; (with_reducible refine (choice_Ask.calls (fun k_ => (some k_ ≠ (u4 : Value).ownBlock ∧ k_ ≠ gb168)) _ _ x169000_1 (fun k_ => (some k_ ≠ (u4 : Value).ownBlock ∧ k_ ≠ gb168)) _ _ x169001_1 (wrap64 (1 + (wrap64 (rd l0 x22_1)))) t170 t173 t176 _ ?side1 ?side2 A12.out).mono ?_); (case side1 => exact HO_169000.out); (case side2 => exact HO_169001.out); rintro e w29 ⟨v171, v174, rfl, ho0, ho1, hb⟩; refine ⟨_, rfl, ?_⟩; have n0_ := Aside0.mk (Kd.R_below (by (with_reducible repeat (first | apply Kd.R_alloc | apply Kd.R_drewN | apply Kd.R_drew)); exact HO_4.out) hb); have n1_ := Aside0.mk (Kd.V_below (by (with_reducible repeat (first | apply Kd.V_alloc | apply Kd.V_drewN | apply Kd.V_drew)); exact HO_169000.out) hb); have n2_ := Aside0.mk (Kd.V_below (by (with_reducible repeat (first | apply Kd.V_alloc | apply Kd.V_drewN | apply Kd.V_drew)); exact HO_169001.out) hb); have n3_ := Aside0.mk (Kd.V_lower (Kd.V_mono (ok' := fun k_ => some k_ ≠ (u4 : Value).ownBlock ∧ k_ ≠ gb168) ho0 (fun k_ hk_ => ⟨Or.elim hk_ (fun hs_ => Or.elim hs_ (fun hs_ => hs_.1) (fun hs_ => hs_.1)) (fun hn_ => (Kd.fresh' (Kd.R_lt (by (with_reducible repeat (first | apply Kd.R_alloc | apply Kd.R_drewN | apply Kd.R_drew)); exact HO_4.out)) k_ hn_)), Or.elim hk_ (fun hs_ => Or.elim hs_ (fun hs_ => hs_.2) (fun hs_ => hs_.2)) (fun hn_ => (Kd.freshB (g := gb168) (o := .cells #[.slice Ao27 x169000_1.length co27, .slice Ao28 x169001_1.length co28] 27 (0, 0)) (by (with_reducible repeat (first | refine blk_drewN ?_ _ | refine blk_drew ?_ | refine blk_alloc ?_ _)); exact BK168.out) k_ hn_))⟩)) (below_size (by repeat (first | (with_reducible first | exact HB.out | apply below_alloc | apply pw_below_drewN | apply below_drew1 | refine below_set ?_ GE168.out) | exact HB.out)))); have n4_ := Aside0.mk (Kd.V_lower (Kd.V_mono (ok' := fun k_ => some k_ ≠ (u4 : Value).ownBlock ∧ k_ ≠ gb168) ho1 (fun k_ hk_ => ⟨Or.elim hk_ (fun hs_ => Or.elim hs_ (fun hs_ => hs_.1) (fun hs_ => hs_.1)) (fun hn_ => (Kd.fresh' (Kd.R_lt (by (with_reducible repeat (first | apply Kd.R_alloc | apply Kd.R_drewN | apply Kd.R_drew)); exact HO_4.out)) k_ hn_)), Or.elim hk_ (fun hs_ => Or.elim hs_ (fun hs_ => hs_.2) (fun hs_ => hs_.2)) (fun hn_ => (Kd.freshB (g := gb168) (o := .cells #[.slice Ao27 x169000_1.length co27, .slice Ao28 x169001_1.length co28] 27 (0, 0)) (by (with_reducible repeat (first | refine blk_drewN ?_ _ | refine blk_drew ?_ | refine blk_alloc ?_ _)); exact BK168.out) k_ hn_))⟩)) (below_size (by repeat (first | (with_reducible first | exact HB.out | apply below_alloc | apply pw_below_drewN | apply below_drew1 | refine below_set ?_ GE168.out) | exact HB.out)))); have n5_ := Aside0.mk (blk_below (g := gb168) (o := .cells #[.slice Ao27 x169000_1.length co27, .slice Ao28 x169001_1.length co28] 27 (0, 0)) (by (with_reducible repeat (first | refine blk_drewN ?_ _ | refine blk_drew ?_ | refine blk_alloc ?_ _)); exact BK168.out) hb); have n6_ := Aside0.mk (below_step (by repeat (first | (with_reducible first | exact HB.out | apply below_alloc | apply pw_below_drewN | apply below_drew1 | refine below_set ?_ GE168.out) | exact HB.out)) hb); clear HO_4; clear HO_169000; clear HO_169001; clear BK168; clear HB; have HO_4 := n0_; have HO_169000 := n1_; have HO_169001 := n2_; have HO172 := n3_; have HO175 := n4_; have BK168 := n5_; have HB := n6_; clear n0_ n1_ n2_ n3_ n4_ n5_ n6_; (try clear hb); (try clear hb2); (try clear hk); (try clear hi); (try clear ho0); (try clear ho1)) | ((with_reducible refine gate_dst (N := 8) rfl ?_); refine box_event ?hg (N := 8) ?hd (cs := #[.slice none 0 0, .slice none 0 0]) (t := 27) ?hr ?_; (case hd => rfl); (case hg => rfl); (case hr => first | (go_simp; done) | (go_simp; rfl)); intro gb177 hg w30 hbox hb; have n0_ := Aside0.mk (Kd.R_below (by (with_reducible repeat (first | apply Kd.R_alloc | apply Kd.R_drewN | apply Kd.R_drew)); exact HO_4.out) hb); have n1_ := Aside0.mk (Kd.V_below (Kd.V_elderB (by (with_reducible repeat (first | apply Kd.V_alloc | apply Kd.V_drewN | apply Kd.V_drew)); exact HO_169000.out) gb177 (Nat.le_of_eq hg.symm)) hb); have n2_ := Aside0.mk (Kd.V_below (Kd.V_elderB (by (with_reducible repeat (first | apply Kd.V_alloc | apply Kd.V_drewN | apply Kd.V_drew)); exact HO_169001.out) gb177 (Nat.le_of_eq hg.symm)) hb); have n3_ := Aside0.mk (Kd.V_below (Kd.V_elderB (by (with_reducible repeat (first | apply Kd.V_alloc | apply Kd.V_drewN | apply Kd.V_drew)); exact HO172.out) gb177 (Nat.le_of_eq hg.symm)) hb); have n4_ := Aside0.mk (Kd.V_below (Kd.V_elderB (by (with_reducible repeat (first | apply Kd.V_alloc | apply Kd.V_drewN | apply Kd.V_drew)); exact HO175.out) gb177 (Nat.le_of_eq hg.symm)) hb); have n5_ := Aside0.mk (blk_below (g := gb168) (o := .cells #[.slice Ao27 x169000_1.length co27, .slice Ao28 x169001_1.length co28] 27 (0, 0)) (by (with_reducible repeat (first | refine blk_drewN ?_ _ | refine blk_drew ?_ | refine blk_alloc ?_ _)); exact BK168.out) hb); have n6_ := Aside0.mk (below_step (by repeat (first | (with_reducible first | exact HB.out | apply below_alloc | apply pw_below_drewN | apply below_drew1 | refine below_set ?_ GE168.out) | exact HB.out)) hb); have n7_ := Aside0.mk (hbox); have n8_ := Aside0.mk ((by rw [hg]; exact (below_size (by repeat (first | (with_reducible first | exact HB.out | apply below_alloc | apply pw_below_drewN | apply below_drew1 | refine below_set ?_ GE168.out) | exact HB.out))) : w.heap.size ≤ gb177)); have n9_ := Aside0.mk ((by rw [hg]; exact (below_size (by repeat (first | (with_reducible first | exact HB.out | apply below_alloc | apply pw_below_drewN | apply below_drew1 | refine below_set ?_ GE168.out) | exact HB.out))) : w.heap.size ≤ gb177)); have n10_ := Aside0.mk ((by rw [hg]; exact Nat.ne_of_lt (blk_lt (g := gb168) (o := .cells #[.slice Ao27 x169000_1.length co27, .slice Ao28 x169001_1.length co28] 27 (0, 0)) (by (with_reducible repeat (first | refine blk_drewN ?_ _ | refine blk_drew ?_ | refine blk_alloc ?_ _)); exact BK168.out)) : gb168 ≠ gb177)); have n11_ := Aside0.mk ((by rw [hg]; exact Nat.ne_of_gt (blk_lt (g := gb168) (o := .cells #[.slice Ao27 x169000_1.length co27, .slice Ao28 x169001_1.length co28] 27 (0, 0)) (by (with_reducible repeat (first | refine blk_drewN ?_ _ | refine blk_drew ?_ | refine blk_alloc ?_ _)); exact BK168.out)) : gb177 ≠ gb168)); clear HO_4; clear HO_169000; clear HO_169001; clear HO172; clear HO175; clear BK168; clear HB; have HO_4 := n0_; have HO_169000 := n1_; have HO_169001 := n2_; have HO172 := n3_; have HO175 := n4_; have BK168 := n5_; have HB := n6_; have BK177 := n7_; have GW177 := n8_; have GE177 := n9_; have NB168_177 := n10_; have NB177_168 := n11_; clear n0_ n1_ n2_ n3_ n4_ n5_ n6_ n7_ n8_ n9_ n10_ n11_; clear hb hbox hg; obtain ⟨Ao31, co31, eo31⟩ := Kd.V_slice HO172.out; subst eo31; have hnb32 := NB177_168.out; have hnc32 := NB168_177.out; have hcz33_0 : w30.cell? ⟨gb177, 0, none⟩ = some (.slice none 0 0) := (blk_cell BK177.out 0).trans rfl; have hcz33_1 : w30.cell? ⟨gb177, 1, none⟩ = some (.slice none 0 0) := (blk_cell BK177.out 1).trans rfl; have hfz33_0 := blk_frozen BK177.out 0; have hfz33_1 := blk_frozen BK177.out 1; obtain ⟨Ao34, co34, eo34⟩ := Kd.V_slice HO175.out; subst eo34; have hcz35_0 : w30.cell? ⟨gb168, 0, none⟩ = some (.slice Ao27 x169000_1.length co27) := (blk_cell BK168.out 0).trans rfl; have hcz35_1 : w30.cell? ⟨gb168, 1, none⟩ = some (.slice Ao28 x169001_1.length co28) := (blk_cell BK168.out 1).trans rfl; have hfz35_0 := blk_frozen BK168.out 0; have hfz35_1 := blk_frozen BK168.out 1))
                  go_roundg k1
                  case measure => have := HK1.out; omega
                  case rel => exact ⟨(x4_1), (wrap64 (x22_1 + 1)), (t170), (t173), (.slice Ao31 t170.length co31), (.slice Ao34 t173.length co34), (by first | rfl | (simp; done) | (simp [*]; done)), H', ⟨by have := HK1.out; omega⟩, ⟨by (with_reducible repeat (first | apply Kd.R_alloc | apply Kd.R_drewN | apply Kd.R_drew)); exact Kd.R_mono (Kd.R_far (p := ⟨gb168, 1, none⟩) (Kd.R_far (p := ⟨gb168, 0, none⟩) (Kd.R_far (p := ⟨gb177, 1, none⟩) (Kd.R_far (p := ⟨gb177, 0, none⟩) (Kd.R_types (Kd.R_types HO_4.out BK177.out (by decide)) BK168.out (by decide)) (fun _ hk => hk.1.2) (.slice Ao31 t170.length co31)) (fun _ hk => hk.1.2) (.slice Ao34 t173.length co34)) (fun _ hk => hk.2) (.slice Ao31 t170.length co31)) (fun _ hk => hk.2) (.slice Ao34 t173.length co34)) (fun _ hk => trivial)⟩, ⟨by (with_reducible repeat (first | apply Kd.V_alloc | apply Kd.V_drewN | apply Kd.V_drew)); exact Kd.V_mono (Kd.V_far (p := ⟨gb168, 1, none⟩) (Kd.V_far (p := ⟨gb168, 0, none⟩) (Kd.V_far (p := ⟨gb177, 1, none⟩) (Kd.V_far (p := ⟨gb177, 0, none⟩) (Kd.V_mono (Kd.V_mono HO172.out (fun k_ hk => (⟨hk, hk.2⟩ : _ ∧ k_ ≠ gb177))) (fun k_ hk => (⟨hk, hk.1.1.2⟩ : _ ∧ k_ ≠ gb168))) (fun _ hk => hk.1.2) (.slice Ao31 t170.length co31)) (fun _ hk => hk.1.2) (.slice Ao34 t173.length co34)) (fun _ hk => hk.2) (.slice Ao31 t170.length co31)) (fun _ hk => hk.2) (.slice Ao34 t173.length co34)) (fun _ hk => ⟨hk.1.1.1.1, hk.1.1.1.2⟩)⟩, ⟨by (with_reducible repeat (first | apply Kd.V_alloc | apply Kd.V_drewN | apply Kd.V_drew)); exact Kd.V_mono (Kd.V_far (p := ⟨gb168, 1, none⟩) (Kd.V_far (p := ⟨gb168, 0, none⟩) (Kd.V_far (p := ⟨gb177, 1, none⟩) (Kd.V_far (p := ⟨gb177, 0, none⟩) (Kd.V_mono (Kd.V_mono HO175.out (fun k_ hk => (⟨hk, hk.2⟩ : _ ∧ k_ ≠ gb177))) (fun k_ hk => (⟨hk, hk.1.1.2⟩ : _ ∧ k_ ≠ gb168))) (fun _ hk => hk.1.2) (.slice Ao31 t170.length co31)) (fun _ hk => hk.1.2) (.slice Ao34 t173.length co34)) (fun _ hk => hk.2) (.slice Ao31 t170.length co31)) (fun _ hk => hk.2) (.slice Ao34 t173.length co34)) (fun _ hk => ⟨hk.1.1.1.1, hk.1.1.1.2⟩)⟩, ⟨by (with_reducible repeat (first | refine blk_drewN ?_ _ | refine blk_drew ?_ | refine blk_alloc ?_ _)); refine blk_put (cs := #[.slice Ao31 t170.length co31, .slice Ao28 x169001_1.length co28]) ?_ 1 _ rfl; (with_reducible repeat (first | refine blk_drewN ?_ _ | refine blk_drew ?_ | refine blk_alloc ?_ _)); refine blk_put (cs := #[.slice Ao27 x169000_1.length co27, .slice Ao28 x169001_1.length co28]) ?_ 0 _ rfl; (with_reducible repeat (first | refine blk_drewN ?_ _ | refine blk_drew ?_ | refine blk_alloc ?_ _)); refine blk_far ?_ NB168_177.out _; (with_reducible repeat (first | refine blk_drewN ?_ _ | refine blk_drew ?_ | refine blk_alloc ?_ _)); refine blk_far ?_ NB168_177.out _; (with_reducible repeat (first | refine blk_drewN ?_ _ | refine blk_drew ?_ | refine blk_alloc ?_ _)); exact BK168.out⟩, ⟨by repeat (first | (with_reducible first | exact HB.out | apply below_alloc | apply pw_below_drewN | apply below_drew1 | refine below_set ?_ GE168.out | refine below_set ?_ GE177.out) | exact HB.out)⟩⟩
              · rw [if_neg c11] at H
                exact absurd H (by simp)
            · rw [if_neg c10] at H
              exact absurd H (by simp)
          · rw [if_neg c9] at H
            have c9b0 : decide (x22_1 < (l0.length : Int)) = false := decide_eq_false c9
            clear c9
            have H' := Aside0.mk H
            clear H
            obtain ⟨Ao36, co36, eo36⟩ := Kd.R_slice HO_4.out
            subst eo36
            go_wp2
            go_loopg [45] k1 (fun kq v45 w' => ∃ (x45_2 : Int) (x169000_2 : List (S43)) (x169001_2 : List Int) (u169000 : Value) (u169001 : Value), v45 = .int .i64 x45_2 ∧ Aside0 (warpbeamlaw18_ChoiceTurns.l1 kq x4_1 (x4_1.length : Int) x45_2 x169000_2 x169001_2 = some r) ∧ Aside0 (kq ≤ k1) ∧ Aside0 (Kd.R (Kd.int .i64) 3 w' w.heap.size (fun _ => True) (.slice Ao36 x4_1.length co36) x4_1) ∧ Aside0 (Kd.V k43 43 w' w.heap.size (fun k_ => some k_ ≠ ((.slice Ao36 x4_1.length co36) : Value).ownBlock ∧ k_ ≠ gb168) u169000 x169000_2) ∧ Aside0 (Kd.V (Kd.int .i64) 3 w' w.heap.size (fun k_ => some k_ ≠ ((.slice Ao36 x4_1.length co36) : Value).ownBlock ∧ k_ ≠ gb168) u169001 x169001_2) ∧ Aside0 (w'.heap[gb168]? = some (.cells #[u169000, u169001] 27 (0, 0))) ∧ Aside0 (Below w.heap.size w w'))
            case atStart => exact ⟨(0), (x169000_1), (x169001_1), (u169000), (u169001), (by first | rfl | (simp; done) | (simp [*]; done)), H', ⟨Nat.le_refl _⟩, ⟨by (with_reducible repeat (first | apply Kd.R_alloc | apply Kd.R_drewN | apply Kd.R_drew)); exact HO_4.out⟩, ⟨by (with_reducible repeat (first | apply Kd.V_alloc | apply Kd.V_drewN | apply Kd.V_drew)); exact HO_169000.out⟩, ⟨by (with_reducible repeat (first | apply Kd.V_alloc | apply Kd.V_drewN | apply Kd.V_drew)); exact HO_169001.out⟩, ⟨by (with_reducible repeat (first | refine blk_drewN ?_ _ | refine blk_drew ?_ | refine blk_alloc ?_ _)); exact BK168.out⟩, ⟨by repeat (first | (with_reducible first | exact HB.out | apply below_alloc | apply pw_below_drewN | apply below_drew1 | refine below_set ?_ GE168.out) | exact HB.out)⟩⟩
            case round =>
              clear H'
              try clear c1
              try clear p1
              try clear q1
              try clear hx1
              try clear c2
              try clear p2
              try clear c3
              try clear c4
              try clear c4b0
              try clear c4b1
              try clear p6
              try clear c7
              try clear c8
              try clear c9
              try clear c9b0
              try clear c10
              try clear c10b0
              try clear c11
              try clear c11b0
              try clear c13
              try clear c13b0
              try clear c13b1
              try clear c14
              try clear p16
              try clear q16
              try clear hx16
              try clear c21
              try clear c32
              try clear hcz15_0
              try clear hcz15_1
              try clear hcz22_0
              try clear hcz22_1
              try clear hcz24_0
              try clear hcz24_1
              try clear hcz26_0
              try clear hcz26_1
              try clear hcz33_0
              try clear hcz33_1
              try clear hcz35_0
              try clear hcz35_1
              try clear hcz8_0
              try clear hcz8_1
              try clear hfz15_0
              try clear hfz15_1
              try clear hfz22_0
              try clear hfz22_1
              try clear hfz24_0
              try clear hfz24_1
              try clear hfz26_0
              try clear hfz26_1
              try clear hfz33_0
              try clear hfz33_1
              try clear hfz35_0
              try clear hfz35_1
              try clear hfz8_0
              try clear hfz8_1
              try clear hx169_0
              try clear p169
              try clear p2
              try clear q169
              obtain ⟨x45_2, x169000_2, x169001_2, u169000, u169001, rfl, HA, HK2, HO_43, HO_169000, HO_169001, BK168, HB⟩ := hrel
              cases gk with
              | zero => exact absurd HA.out (by simp [warpbeamlaw18_ChoiceTurns.l1])
              | succ k2 =>
                have H := HA.out
                clear HA
                simp only [warpbeamlaw18_ChoiceTurns.l1] at H
                by_cases c37 : x45_2 < (x4_1.length : Int)
                · rw [if_pos c37] at H
                  have c37b0 : decide (x45_2 < (x4_1.length : Int)) = true := decide_eq_true c37
                  clear c37
                  by_cases c38 : 0 ≤ x45_2
                  · rw [if_pos c38] at H
                    have c38b0 : decide (0 ≤ x45_2) = true := decide_eq_true c38
                    clear c38
                    by_cases c39 : x45_2 < (x4_1.length : Int)
                    · rw [if_pos c39] at H
                      have c39b0 : decide (x45_2 < (x4_1.length : Int)) = true := decide_eq_true c39
                      clear c39
                      have HC40 := Aside0.mk H
                      clear H
                      have p183 : 0 ≤ (x45_2 : Int) := of_decide_eq_true (by first | (with_reducible assumption) | assumption)
                      have q183 : x45_2 < (x4_1.length : Int) := of_decide_eq_true (by first | (with_reducible assumption) | assumption)
                      obtain ⟨ad183, e183, hx183_0⟩ := Kd.at_int (Kd.R_reads' HO_43.out).2.2 x45_2 p183 q183
                      cases e183
                      replace p183 := eq_true p183
                      replace q183 := eq_true q183
                      go_upto_region 19 with (fail)
                      go_cut [62] (fun v62 wc => ∃ (kq : Nat) (x62_39 : Bool), v62 = .bool x62_39 ∧ Aside0 (warpbeamlaw18_ChoiceTurns.j2 kq (rd x4_1 x45_2) x4_1 (x4_1.length : Int) x45_2 x62_39 x169000_2 x169001_2 = some r) ∧ Aside0 (kq ≤ k2) ∧ Aside0 (Kd.R (Kd.int .i64) 3 wc w.heap.size (fun _ => True) (.slice (some ad183) x4_1.length co36) x4_1) ∧ Aside0 (Kd.V k43 43 wc w.heap.size (fun k_ => some k_ ≠ ((.slice (some ad183) x4_1.length co36) : Value).ownBlock ∧ k_ ≠ gb168) u169000 x169000_2) ∧ Aside0 (Kd.V (Kd.int .i64) 3 wc w.heap.size (fun k_ => some k_ ≠ ((.slice (some ad183) x4_1.length co36) : Value).ownBlock ∧ k_ ≠ gb168) u169001 x169001_2) ∧ Aside0 (wc.heap[gb168]? = some (.cells #[u169000, u169001] 27 (0, 0))) ∧ Aside0 (Below w.heap.size w wc))
                      case first =>
                        have H := HC40.out
                        clear HC40
                        replace H := Option.bind_eq_some_iff.mp H
                        obtain ⟨t184, A410, H⟩ := H
                        replace H : (if t184 = (rd x4_1 x45_2) then ((choice_May.f k2 x169000_2 x169001_2 (rd x4_1 x45_2)).bind fun t185 => (if t185 = true then ((choice_May.f k2 x169000_2 x169001_2 1000).bind fun t186 => (warpbeamlaw18_ChoiceTurns.j2 k2 (rd x4_1 x45_2) x4_1 (x4_1.length : Int) x45_2 t186 x169000_2 x169001_2)) else (warpbeamlaw18_ChoiceTurns.j2 k2 (rd x4_1 x45_2) x4_1 (x4_1.length : Int) x45_2 true x169000_2 x169001_2))) else (warpbeamlaw18_ChoiceTurns.j2 k2 (rd x4_1 x45_2) x4_1 (x4_1.length : Int) x45_2 true x169000_2 x169001_2)) = some r := H
                        have A41 := Aside0.mk A410
                        clear A410
                        by_cases c42 : t184 = (rd x4_1 x45_2)
                        · rw [if_pos c42] at H
                          have c42b0 : (t184 == (rd x4_1 x45_2)) = true := beq_iff_eq.mpr c42
                          have c42b1 : (t184 != (rd x4_1 x45_2)) = false := bne_eq_false_iff_eq.mpr c42
                          clear c42
                          (first | rw [c42b0] | (simp only [i64_w, i32_w]; rw [c42b0]) | skip)
                          replace H := Option.bind_eq_some_iff.mp H
                          obtain ⟨t185, A430, H⟩ := H
                          replace H : (if t185 = true then ((choice_May.f k2 x169000_2 x169001_2 1000).bind fun t186 => (warpbeamlaw18_ChoiceTurns.j2 k2 (rd x4_1 x45_2) x4_1 (x4_1.length : Int) x45_2 t186 x169000_2 x169001_2)) else (warpbeamlaw18_ChoiceTurns.j2 k2 (rd x4_1 x45_2) x4_1 (x4_1.length : Int) x45_2 true x169000_2 x169001_2)) = some r := H
                          have A43 := Aside0.mk A430
                          clear A430
                          by_cases c44 : t185 = true
                          · subst c44
                            have H1 : ((choice_May.f k2 x169000_2 x169001_2 1000).bind fun t186 => (warpbeamlaw18_ChoiceTurns.j2 k2 (rd x4_1 x45_2) x4_1 (x4_1.length : Int) x45_2 t186 x169000_2 x169001_2)) = some r := by rw [if_pos rfl] at H; exact H
                            clear H
                            have H := H1
                            clear H1
                            replace H := Option.bind_eq_some_iff.mp H
                            obtain ⟨t186, A450, H⟩ := H
                            replace H : (warpbeamlaw18_ChoiceTurns.j2 k2 (rd x4_1 x45_2) x4_1 (x4_1.length : Int) x45_2 t186 x169000_2 x169001_2) = some r := H
                            have A45 := Aside0.mk A450
                            clear A450
                            have H' := Aside0.mk H
                            clear H
                            have hcz46_0 : wr.cell? ⟨gb168, 0, none⟩ = some (u169000) := (blk_cell BK168.out 0).trans rfl
                            have hcz46_1 : wr.cell? ⟨gb168, 1, none⟩ = some (u169001) := (blk_cell BK168.out 1).trans rfl
                            have hfz46_0 := blk_frozen BK168.out 0
                            have hfz46_1 := blk_frozen BK168.out 1
                            obtain ⟨Ao47, co47, eo47⟩ := Kd.V_slice HO_169000.out
                            subst eo47
                            obtain ⟨Ao48, co48, eo48⟩ := Kd.V_slice HO_169001.out
                            subst eo48
                            go_wp2_with (first | ((with_reducible refine gate_callee (f := 9) rfl ?_); refine goesL_ (some 50) rfl rfl Try.func9 (by kernel_rfl) rfl #[.agg #[.slice Ao47 x169000_2.length co47, .slice Ao48 x169001_2.length co48]] rfl (by (try simp only [List.map_toArray, List.map_cons, List.map_nil]); first | done | rfl | (simp only [List.length_drop, List.length_take]; rfl)) ?_; (with_reducible refine (choice_Holder.calls k2 _ _ x169000_2 _ _ x169001_2 t184 _ ?side1 ?side2 ?side3 ?side4 A41.out).mono ?_); (case side1 => repeat (first | exact (Kd.V_reads' HO_169000.out).2.2 | (with_reducible refine Kd.C_alloc ?_ _) | (with_reducible refine Kd.C_drewN ?_ _) | (with_reducible refine Kd.C_drew ?_))); (case side2 => exact (Kd.V_reads' HO_169000.out).2.1); (case side3 => repeat (first | exact (Kd.V_reads' HO_169001.out).2.2 | (with_reducible refine Kd.C_alloc ?_ _) | (with_reducible refine Kd.C_drewN ?_ _) | (with_reducible refine Kd.C_drew ?_))); (case side4 => exact (Kd.V_reads' HO_169001.out).2.1); rintro e w49 ⟨rfl, hb⟩; refine ⟨_, rfl, ?_⟩; have n0_ := Aside0.mk (Kd.R_below (by (with_reducible repeat (first | apply Kd.R_alloc | apply Kd.R_drewN | apply Kd.R_drew)); exact HO_43.out) hb); have n1_ := Aside0.mk (Kd.V_below (by (with_reducible repeat (first | apply Kd.V_alloc | apply Kd.V_drewN | apply Kd.V_drew)); exact HO_169000.out) hb); have n2_ := Aside0.mk (Kd.V_below (by (with_reducible repeat (first | apply Kd.V_alloc | apply Kd.V_drewN | apply Kd.V_drew)); exact HO_169001.out) hb); have n3_ := Aside0.mk (blk_below (g := gb168) (o := .cells #[.slice Ao47 x169000_2.length co47, .slice Ao48 x169001_2.length co48] 27 (0, 0)) (by (with_reducible repeat (first | refine blk_drewN ?_ _ | refine blk_drew ?_ | refine blk_alloc ?_ _)); exact BK168.out) hb); have n4_ := Aside0.mk (below_step (by repeat (first | (with_reducible first | exact HB.out | apply below_alloc | apply pw_below_drewN | apply below_drew1 | refine below_set ?_ GE168.out) | exact HB.out)) hb); clear HO_43; clear HO_169000; clear HO_169001; clear BK168; clear HB; have HO_43 := n0_; have HO_169000 := n1_; have HO_169001 := n2_; have BK168 := n3_; have HB := n4_; clear n0_ n1_ n2_ n3_ n4_; (try clear hb); (try clear hb2); (try clear hk); (try clear hi); have hcz50_0 : w49.cell? ⟨gb168, 0, none⟩ = some (.slice Ao47 x169000_2.length co47) := (blk_cell BK168.out 0).trans rfl; have hcz50_1 : w49.cell? ⟨gb168, 1, none⟩ = some (.slice Ao48 x169001_2.length co48) := (blk_cell BK168.out 1).trans rfl; have hfz50_0 := blk_frozen BK168.out 0; have hfz50_1 := blk_frozen BK168.out 1) | (go_at_call 10; (with_reducible refine (choice_May.calls k2 _ _ x169000_2 _ _ x169001_2 (rd x4_1 x45_2) true _ ?side1 ?side2 ?side3 ?side4 A43.out).mono ?_); (case side1 => repeat (first | exact (Kd.V_reads' HO_169000.out).2.2 | (with_reducible refine Kd.C_alloc ?_ _) | (with_reducible refine Kd.C_drewN ?_ _) | (with_reducible refine Kd.C_drew ?_))); (case side2 => exact (Kd.V_reads' HO_169000.out).2.1); (case side3 => repeat (first | exact (Kd.V_reads' HO_169001.out).2.2 | (with_reducible refine Kd.C_alloc ?_ _) | (with_reducible refine Kd.C_drewN ?_ _) | (with_reducible refine Kd.C_drew ?_))); (case side4 => exact (Kd.V_reads' HO_169001.out).2.1); rintro e w51 ⟨rfl, hb⟩; have n0_ := Aside0.mk (Kd.R_below (by (with_reducible repeat (first | apply Kd.R_alloc | apply Kd.R_drewN | apply Kd.R_drew)); exact HO_43.out) hb); have n1_ := Aside0.mk (Kd.V_below (by (with_reducible repeat (first | apply Kd.V_alloc | apply Kd.V_drewN | apply Kd.V_drew)); exact HO_169000.out) hb); have n2_ := Aside0.mk (Kd.V_below (by (with_reducible repeat (first | apply Kd.V_alloc | apply Kd.V_drewN | apply Kd.V_drew)); exact HO_169001.out) hb); have n3_ := Aside0.mk (blk_below (g := gb168) (o := .cells #[.slice Ao47 x169000_2.length co47, .slice Ao48 x169001_2.length co48] 27 (0, 0)) (by (with_reducible repeat (first | refine blk_drewN ?_ _ | refine blk_drew ?_ | refine blk_alloc ?_ _)); exact BK168.out) hb); have n4_ := Aside0.mk (below_step (by repeat (first | (with_reducible first | exact HB.out | apply below_alloc | apply pw_below_drewN | apply below_drew1 | refine below_set ?_ GE168.out) | exact HB.out)) hb); clear HO_43; clear HO_169000; clear HO_169001; clear BK168; clear HB; have HO_43 := n0_; have HO_169000 := n1_; have HO_169001 := n2_; have BK168 := n3_; have HB := n4_; clear n0_ n1_ n2_ n3_ n4_; (try clear hb); (try clear hb2); (try clear hk); (try clear hi); have hcz52_0 : w51.cell? ⟨gb168, 0, none⟩ = some (.slice Ao47 x169000_2.length co47) := (blk_cell BK168.out 0).trans rfl; have hcz52_1 : w51.cell? ⟨gb168, 1, none⟩ = some (.slice Ao48 x169001_2.length co48) := (blk_cell BK168.out 1).trans rfl; have hfz52_0 := blk_frozen BK168.out 0; have hfz52_1 := blk_frozen BK168.out 1) | (go_at_call 10; (with_reducible refine (choice_May.calls k2 _ _ x169000_2 _ _ x169001_2 1000 t186 _ ?side1 ?side2 ?side3 ?side4 A45.out).mono ?_); (case side1 => repeat (first | exact (Kd.V_reads' HO_169000.out).2.2 | (with_reducible refine Kd.C_alloc ?_ _) | (with_reducible refine Kd.C_drewN ?_ _) | (with_reducible refine Kd.C_drew ?_))); (case side2 => exact (Kd.V_reads' HO_169000.out).2.1); (case side3 => repeat (first | exact (Kd.V_reads' HO_169001.out).2.2 | (with_reducible refine Kd.C_alloc ?_ _) | (with_reducible refine Kd.C_drewN ?_ _) | (with_reducible refine Kd.C_drew ?_))); (case side4 => exact (Kd.V_reads' HO_169001.out).2.1); rintro e w53 ⟨rfl, hb⟩; have n0_ := Aside0.mk (Kd.R_below (by (with_reducible repeat (first | apply Kd.R_alloc | apply Kd.R_drewN | apply Kd.R_drew)); exact HO_43.out) hb); have n1_ := Aside0.mk (Kd.V_below (by (with_reducible repeat (first | apply Kd.V_alloc | apply Kd.V_drewN | apply Kd.V_drew)); exact HO_169000.out) hb); have n2_ := Aside0.mk (Kd.V_below (by (with_reducible repeat (first | apply Kd.V_alloc | apply Kd.V_drewN | apply Kd.V_drew)); exact HO_169001.out) hb); have n3_ := Aside0.mk (blk_below (g := gb168) (o := .cells #[.slice Ao47 x169000_2.length co47, .slice Ao48 x169001_2.length co48] 27 (0, 0)) (by (with_reducible repeat (first | refine blk_drewN ?_ _ | refine blk_drew ?_ | refine blk_alloc ?_ _)); exact BK168.out) hb); have n4_ := Aside0.mk (below_step (by repeat (first | (with_reducible first | exact HB.out | apply below_alloc | apply pw_below_drewN | apply below_drew1 | refine below_set ?_ GE168.out) | exact HB.out)) hb); clear HO_43; clear HO_169000; clear HO_169001; clear BK168; clear HB; have HO_43 := n0_; have HO_169000 := n1_; have HO_169001 := n2_; have BK168 := n3_; have HB := n4_; clear n0_ n1_ n2_ n3_ n4_; (try clear hb); (try clear hb2); (try clear hk); (try clear hi)))
                            go_meet
                            case rel => exact ⟨_, (t186), (by first | rfl | (simp; done) | (simp [*]; done)), H', ⟨by have := HK1.out; have := HK2.out; first | omega | exact Nat.le_refl _⟩, ⟨by (with_reducible repeat (first | apply Kd.R_alloc | apply Kd.R_drewN | apply Kd.R_drew)); exact HO_43.out⟩, ⟨by (with_reducible repeat (first | apply Kd.V_alloc | apply Kd.V_drewN | apply Kd.V_drew)); exact HO_169000.out⟩, ⟨by (with_reducible repeat (first | apply Kd.V_alloc | apply Kd.V_drewN | apply Kd.V_drew)); exact HO_169001.out⟩, ⟨by (with_reducible repeat (first | refine blk_drewN ?_ _ | refine blk_drew ?_ | refine blk_alloc ?_ _)); exact BK168.out⟩, ⟨by repeat (first | (with_reducible first | exact HB.out | apply below_alloc | apply pw_below_drewN | apply below_drew1 | refine below_set ?_ GE168.out) | exact HB.out)⟩⟩
                          · replace c44 := Bool.eq_false_iff.mpr c44
                            subst c44
                            have H1 : (warpbeamlaw18_ChoiceTurns.j2 k2 (rd x4_1 x45_2) x4_1 (x4_1.length : Int) x45_2 true x169000_2 x169001_2) = some r := by rw [if_neg (show ¬ (false = true) by decide)] at H; exact H
                            clear H
                            have H := H1
                            clear H1
                            have H' := Aside0.mk H
                            clear H
                            have hcz54_0 : wr.cell? ⟨gb168, 0, none⟩ = some (u169000) := (blk_cell BK168.out 0).trans rfl
                            have hcz54_1 : wr.cell? ⟨gb168, 1, none⟩ = some (u169001) := (blk_cell BK168.out 1).trans rfl
                            have hfz54_0 := blk_frozen BK168.out 0
                            have hfz54_1 := blk_frozen BK168.out 1
                            obtain ⟨Ao55, co55, eo55⟩ := Kd.V_slice HO_169000.out
                            subst eo55
                            obtain ⟨Ao56, co56, eo56⟩ := Kd.V_slice HO_169001.out
                            subst eo56
                            go_wp2_with (first | ((with_reducible refine gate_callee (f := 9) rfl ?_); refine goesL_ (some 50) rfl rfl Try.func9 (by kernel_rfl) rfl #[.agg #[.slice Ao55 x169000_2.length co55, .slice Ao56 x169001_2.length co56]] rfl (by (try simp only [List.map_toArray, List.map_cons, List.map_nil]); first | done | rfl | (simp only [List.length_drop, List.length_take]; rfl)) ?_; (with_reducible refine (choice_Holder.calls k2 _ _ x169000_2 _ _ x169001_2 t184 _ ?side1 ?side2 ?side3 ?side4 A41.out).mono ?_); (case side1 => repeat (first | exact (Kd.V_reads' HO_169000.out).2.2 | (with_reducible refine Kd.C_alloc ?_ _) | (with_reducible refine Kd.C_drewN ?_ _) | (with_reducible refine Kd.C_drew ?_))); (case side2 => exact (Kd.V_reads' HO_169000.out).2.1); (case side3 => repeat (first | exact (Kd.V_reads' HO_169001.out).2.2 | (with_reducible refine Kd.C_alloc ?_ _) | (with_reducible refine Kd.C_drewN ?_ _) | (with_reducible refine Kd.C_drew ?_))); (case side4 => exact (Kd.V_reads' HO_169001.out).2.1); rintro e w57 ⟨rfl, hb⟩; refine ⟨_, rfl, ?_⟩; have n0_ := Aside0.mk (Kd.R_below (by (with_reducible repeat (first | apply Kd.R_alloc | apply Kd.R_drewN | apply Kd.R_drew)); exact HO_43.out) hb); have n1_ := Aside0.mk (Kd.V_below (by (with_reducible repeat (first | apply Kd.V_alloc | apply Kd.V_drewN | apply Kd.V_drew)); exact HO_169000.out) hb); have n2_ := Aside0.mk (Kd.V_below (by (with_reducible repeat (first | apply Kd.V_alloc | apply Kd.V_drewN | apply Kd.V_drew)); exact HO_169001.out) hb); have n3_ := Aside0.mk (blk_below (g := gb168) (o := .cells #[.slice Ao55 x169000_2.length co55, .slice Ao56 x169001_2.length co56] 27 (0, 0)) (by (with_reducible repeat (first | refine blk_drewN ?_ _ | refine blk_drew ?_ | refine blk_alloc ?_ _)); exact BK168.out) hb); have n4_ := Aside0.mk (below_step (by repeat (first | (with_reducible first | exact HB.out | apply below_alloc | apply pw_below_drewN | apply below_drew1 | refine below_set ?_ GE168.out) | exact HB.out)) hb); clear HO_43; clear HO_169000; clear HO_169001; clear BK168; clear HB; have HO_43 := n0_; have HO_169000 := n1_; have HO_169001 := n2_; have BK168 := n3_; have HB := n4_; clear n0_ n1_ n2_ n3_ n4_; (try clear hb); (try clear hb2); (try clear hk); (try clear hi); have hcz58_0 : w57.cell? ⟨gb168, 0, none⟩ = some (.slice Ao55 x169000_2.length co55) := (blk_cell BK168.out 0).trans rfl; have hcz58_1 : w57.cell? ⟨gb168, 1, none⟩ = some (.slice Ao56 x169001_2.length co56) := (blk_cell BK168.out 1).trans rfl; have hfz58_0 := blk_frozen BK168.out 0; have hfz58_1 := blk_frozen BK168.out 1) | (go_at_call 10; (with_reducible refine (choice_May.calls k2 _ _ x169000_2 _ _ x169001_2 (rd x4_1 x45_2) false _ ?side1 ?side2 ?side3 ?side4 A43.out).mono ?_); (case side1 => repeat (first | exact (Kd.V_reads' HO_169000.out).2.2 | (with_reducible refine Kd.C_alloc ?_ _) | (with_reducible refine Kd.C_drewN ?_ _) | (with_reducible refine Kd.C_drew ?_))); (case side2 => exact (Kd.V_reads' HO_169000.out).2.1); (case side3 => repeat (first | exact (Kd.V_reads' HO_169001.out).2.2 | (with_reducible refine Kd.C_alloc ?_ _) | (with_reducible refine Kd.C_drewN ?_ _) | (with_reducible refine Kd.C_drew ?_))); (case side4 => exact (Kd.V_reads' HO_169001.out).2.1); rintro e w59 ⟨rfl, hb⟩; have n0_ := Aside0.mk (Kd.R_below (by (with_reducible repeat (first | apply Kd.R_alloc | apply Kd.R_drewN | apply Kd.R_drew)); exact HO_43.out) hb); have n1_ := Aside0.mk (Kd.V_below (by (with_reducible repeat (first | apply Kd.V_alloc | apply Kd.V_drewN | apply Kd.V_drew)); exact HO_169000.out) hb); have n2_ := Aside0.mk (Kd.V_below (by (with_reducible repeat (first | apply Kd.V_alloc | apply Kd.V_drewN | apply Kd.V_drew)); exact HO_169001.out) hb); have n3_ := Aside0.mk (blk_below (g := gb168) (o := .cells #[.slice Ao55 x169000_2.length co55, .slice Ao56 x169001_2.length co56] 27 (0, 0)) (by (with_reducible repeat (first | refine blk_drewN ?_ _ | refine blk_drew ?_ | refine blk_alloc ?_ _)); exact BK168.out) hb); have n4_ := Aside0.mk (below_step (by repeat (first | (with_reducible first | exact HB.out | apply below_alloc | apply pw_below_drewN | apply below_drew1 | refine below_set ?_ GE168.out) | exact HB.out)) hb); clear HO_43; clear HO_169000; clear HO_169001; clear BK168; clear HB; have HO_43 := n0_; have HO_169000 := n1_; have HO_169001 := n2_; have BK168 := n3_; have HB := n4_; clear n0_ n1_ n2_ n3_ n4_; (try clear hb); (try clear hb2); (try clear hk); (try clear hi)))
                            go_meet
                            case rel => exact ⟨_, (true), (by first | rfl | (simp; done) | (simp [*]; done)), H', ⟨by have := HK1.out; have := HK2.out; first | omega | exact Nat.le_refl _⟩, ⟨by (with_reducible repeat (first | apply Kd.R_alloc | apply Kd.R_drewN | apply Kd.R_drew)); exact HO_43.out⟩, ⟨by (with_reducible repeat (first | apply Kd.V_alloc | apply Kd.V_drewN | apply Kd.V_drew)); exact HO_169000.out⟩, ⟨by (with_reducible repeat (first | apply Kd.V_alloc | apply Kd.V_drewN | apply Kd.V_drew)); exact HO_169001.out⟩, ⟨by (with_reducible repeat (first | refine blk_drewN ?_ _ | refine blk_drew ?_ | refine blk_alloc ?_ _)); exact BK168.out⟩, ⟨by repeat (first | (with_reducible first | exact HB.out | apply below_alloc | apply pw_below_drewN | apply below_drew1 | refine below_set ?_ GE168.out) | exact HB.out)⟩⟩
                        · rw [if_neg c42] at H
                          have c42b0 : (t184 == (rd x4_1 x45_2)) = false := beq_eq_false_iff_ne.mpr c42
                          have c42b1 : (t184 != (rd x4_1 x45_2)) = true := bne_iff_ne.mpr c42
                          (first | rw [c42b0] | (simp only [i64_w, i32_w]; rw [c42b0]) | skip)
                          have H' := Aside0.mk H
                          clear H
                          have hcz60_0 : wr.cell? ⟨gb168, 0, none⟩ = some (u169000) := (blk_cell BK168.out 0).trans rfl
                          have hcz60_1 : wr.cell? ⟨gb168, 1, none⟩ = some (u169001) := (blk_cell BK168.out 1).trans rfl
                          have hfz60_0 := blk_frozen BK168.out 0
                          have hfz60_1 := blk_frozen BK168.out 1
                          obtain ⟨Ao61, co61, eo61⟩ := Kd.V_slice HO_169000.out
                          subst eo61
                          obtain ⟨Ao62, co62, eo62⟩ := Kd.V_slice HO_169001.out
                          subst eo62
                          go_wp2_with (first | ((with_reducible refine gate_callee (f := 9) rfl ?_); refine goesL_ (some 50) rfl rfl Try.func9 (by kernel_rfl) rfl #[.agg #[.slice Ao61 x169000_2.length co61, .slice Ao62 x169001_2.length co62]] rfl (by (try simp only [List.map_toArray, List.map_cons, List.map_nil]); first | done | rfl | (simp only [List.length_drop, List.length_take]; rfl)) ?_; (with_reducible refine (choice_Holder.calls k2 _ _ x169000_2 _ _ x169001_2 t184 _ ?side1 ?side2 ?side3 ?side4 A41.out).mono ?_); (case side1 => repeat (first | exact (Kd.V_reads' HO_169000.out).2.2 | (with_reducible refine Kd.C_alloc ?_ _) | (with_reducible refine Kd.C_drewN ?_ _) | (with_reducible refine Kd.C_drew ?_))); (case side2 => exact (Kd.V_reads' HO_169000.out).2.1); (case side3 => repeat (first | exact (Kd.V_reads' HO_169001.out).2.2 | (with_reducible refine Kd.C_alloc ?_ _) | (with_reducible refine Kd.C_drewN ?_ _) | (with_reducible refine Kd.C_drew ?_))); (case side4 => exact (Kd.V_reads' HO_169001.out).2.1); rintro e w63 ⟨rfl, hb⟩; refine ⟨_, rfl, ?_⟩; have n0_ := Aside0.mk (Kd.R_below (by (with_reducible repeat (first | apply Kd.R_alloc | apply Kd.R_drewN | apply Kd.R_drew)); exact HO_43.out) hb); have n1_ := Aside0.mk (Kd.V_below (by (with_reducible repeat (first | apply Kd.V_alloc | apply Kd.V_drewN | apply Kd.V_drew)); exact HO_169000.out) hb); have n2_ := Aside0.mk (Kd.V_below (by (with_reducible repeat (first | apply Kd.V_alloc | apply Kd.V_drewN | apply Kd.V_drew)); exact HO_169001.out) hb); have n3_ := Aside0.mk (blk_below (g := gb168) (o := .cells #[.slice Ao61 x169000_2.length co61, .slice Ao62 x169001_2.length co62] 27 (0, 0)) (by (with_reducible repeat (first | refine blk_drewN ?_ _ | refine blk_drew ?_ | refine blk_alloc ?_ _)); exact BK168.out) hb); have n4_ := Aside0.mk (below_step (by repeat (first | (with_reducible first | exact HB.out | apply below_alloc | apply pw_below_drewN | apply below_drew1 | refine below_set ?_ GE168.out) | exact HB.out)) hb); clear HO_43; clear HO_169000; clear HO_169001; clear BK168; clear HB; have HO_43 := n0_; have HO_169000 := n1_; have HO_169001 := n2_; have BK168 := n3_; have HB := n4_; clear n0_ n1_ n2_ n3_ n4_; (try clear hb); (try clear hb2); (try clear hk); (try clear hi)))
                          go_meet
                          case rel => exact ⟨_, (true), (by first | rfl | (simp; done) | (simp [*]; done)), H', ⟨by have := HK1.out; have := HK2.out; first | omega | exact Nat.le_refl _⟩, ⟨by (with_reducible repeat (first | apply Kd.R_alloc | apply Kd.R_drewN | apply Kd.R_drew)); exact HO_43.out⟩, ⟨by (with_reducible repeat (first | apply Kd.V_alloc | apply Kd.V_drewN | apply Kd.V_drew)); exact HO_169000.out⟩, ⟨by (with_reducible repeat (first | apply Kd.V_alloc | apply Kd.V_drewN | apply Kd.V_drew)); exact HO_169001.out⟩, ⟨by (with_reducible repeat (first | refine blk_drewN ?_ _ | refine blk_drew ?_ | refine blk_alloc ?_ _)); exact BK168.out⟩, ⟨by repeat (first | (with_reducible first | exact HB.out | apply below_alloc | apply pw_below_drewN | apply below_drew1 | refine below_set ?_ GE168.out) | exact HB.out)⟩⟩
                      case rest =>
                        clear HC40
                        try clear c1
                        try clear p1
                        try clear q1
                        try clear hx1
                        try clear c2
                        try clear p2
                        try clear c3
                        try clear c4
                        try clear c4b0
                        try clear c4b1
                        try clear p6
                        try clear c7
                        try clear c8
                        try clear c9
                        try clear c9b0
                        try clear c10
                        try clear c10b0
                        try clear c11
                        try clear c11b0
                        try clear c13
                        try clear c13b0
                        try clear c13b1
                        try clear c14
                        try clear p16
                        try clear q16
                        try clear hx16
                        try clear p18
                        try clear q18
                        try clear hx18
                        try clear c21
                        try clear c32
                        try clear c37
                        try clear c37b0
                        try clear c38
                        try clear c38b0
                        try clear c39
                        try clear c39b0
                        try clear c42
                        try clear c42b0
                        try clear c42b1
                        try clear c44
                        try clear hcz15_0
                        try clear hcz15_1
                        try clear hcz22_0
                        try clear hcz22_1
                        try clear hcz24_0
                        try clear hcz24_1
                        try clear hcz26_0
                        try clear hcz26_1
                        try clear hcz33_0
                        try clear hcz33_1
                        try clear hcz35_0
                        try clear hcz35_1
                        try clear hcz46_0
                        try clear hcz46_1
                        try clear hcz50_0
                        try clear hcz50_1
                        try clear hcz52_0
                        try clear hcz52_1
                        try clear hcz54_0
                        try clear hcz54_1
                        try clear hcz58_0
                        try clear hcz58_1
                        try clear hcz60_0
                        try clear hcz60_1
                        try clear hcz8_0
                        try clear hcz8_1
                        try clear hfz15_0
                        try clear hfz15_1
                        try clear hfz22_0
                        try clear hfz22_1
                        try clear hfz24_0
                        try clear hfz24_1
                        try clear hfz26_0
                        try clear hfz26_1
                        try clear hfz33_0
                        try clear hfz33_1
                        try clear hfz35_0
                        try clear hfz35_1
                        try clear hfz46_0
                        try clear hfz46_1
                        try clear hfz50_0
                        try clear hfz50_1
                        try clear hfz52_0
                        try clear hfz52_1
                        try clear hfz54_0
                        try clear hfz54_1
                        try clear hfz58_0
                        try clear hfz58_1
                        try clear hfz60_0
                        try clear hfz60_1
                        try clear hfz8_0
                        try clear hfz8_1
                        try clear hx169_0
                        try clear hx183_0
                        try clear p1
                        try clear p16
                        try clear p169
                        try clear p183
                        try clear p2
                        try clear p6
                        try clear q1
                        try clear q16
                        try clear q169
                        try clear q183
                        obtain ⟨kq, x62_39, rfl, HA, HJ39, HO_43, HO_169000, HO_169001, BK168, HB⟩ := hcut
                        cases kq with
                        | zero => exact absurd HA.out (by simp [warpbeamlaw18_ChoiceTurns.j2])
                        | succ kj39 =>
                          have H := HA.out
                          clear HA
                          simp only [warpbeamlaw18_ChoiceTurns.j2] at H
                          by_cases c64 : x62_39 = true
                          · subst c64
                            have H1 : (some false) = some r := by rw [if_pos rfl] at H; exact H
                            clear H
                            have H := H1
                            clear H1
                            obtain rfl := Option.some.inj H
                            go_wp2
                            go_ret
                            exact ⟨by first | rfl | (simp [errW_none, errW_some] <;> rfl) | (simp [*, errW_none, errW_some] <;> rfl), by repeat (first | (with_reducible first | exact HB.out | apply below_alloc | apply pw_below_drewN | apply below_drew1 | refine below_set ?_ GE168.out) | exact HB.out)⟩
                          · replace c64 := Bool.eq_false_iff.mpr c64
                            subst c64
                            have H1 : ((choice_Pass.f x169000_2 x169001_2 (rd x4_1 x45_2)).bind fun bt187 => (if bt187.2.2 = 0 then (warpbeamlaw18_ChoiceTurns.l1 kj39 x4_1 (x4_1.length : Int) (wrap64 (x45_2 + 1)) bt187.1 bt187.2.1) else (some false))) = some r := by rw [if_neg (show ¬ (false = true) by decide)] at H; exact H
                            clear H
                            have H := H1
                            clear H1
                            replace H := Option.bind_eq_some_iff.mp H
                            obtain ⟨⟨t187, t190, t193⟩, A650, H⟩ := H
                            replace H : (if t193 = 0 then (warpbeamlaw18_ChoiceTurns.l1 kj39 x4_1 (x4_1.length : Int) (wrap64 (x45_2 + 1)) t187 t190) else (some false)) = some r := H
                            have A65 := Aside0.mk A650
                            clear A650
                            by_cases c66 : t193 = 0
                            · rw [if_pos c66] at H
                              have c66b0 : (t193 == 0) = true := beq_iff_eq.mpr c66
                              have c66b1 : (t193 != 0) = false := bne_eq_false_iff_eq.mpr c66
                              clear c66
                              have H' := Aside0.mk H
                              clear H
                              have hcz67_0 : wc.cell? ⟨gb168, 0, none⟩ = some (u169000) := (blk_cell BK168.out 0).trans rfl
                              have hcz67_1 : wc.cell? ⟨gb168, 1, none⟩ = some (u169001) := (blk_cell BK168.out 1).trans rfl
                              have hfz67_0 := blk_frozen BK168.out 0
                              have hfz67_1 := blk_frozen BK168.out 1
                              obtain ⟨Ao68, co68, eo68⟩ := Kd.V_slice HO_169000.out
                              subst eo68
                              obtain ⟨Ao69, co69, eo69⟩ := Kd.V_slice HO_169001.out
                              subst eo69
                              go_wp2_with (first | ((with_reducible refine gate_callee (f := 11) rfl ?_); refine goesL_ (some 66) rfl rfl Try.func11 (by kernel_rfl) rfl #[.agg #[.slice Ao68 x169000_2.length co68, .slice Ao69 x169001_2.length co69], .int .i64 (rd x4_1 x45_2)] rfl (by (try simp only [List.map_toArray, List.map_cons, List.map_nil]); first | done | rfl | (simp only [List.length_drop, List.length_take]; rfl)) ?_; (with_reducible refine (choice_Pass.calls (fun k_ => (some k_ ≠ (.slice (some ad183) x4_1.length co36 : Value).ownBlock ∧ k_ ≠ gb168)) _ _ x169000_2 (fun k_ => (some k_ ≠ (.slice (some ad183) x4_1.length co36 : Value).ownBlock ∧ k_ ≠ gb168)) _ _ x169001_2 (rd x4_1 x45_2) t187 t190 t193 _ ?side1 ?side2 A65.out).mono ?_); (case side1 => exact HO_169000.out); (case side2 => exact HO_169001.out); rintro e w70 ⟨v188, v191, rfl, ho0, ho1, hb⟩; refine ⟨_, rfl, ?_⟩; have n0_ := Aside0.mk (Kd.R_below (by (with_reducible repeat (first | apply Kd.R_alloc | apply Kd.R_drewN | apply Kd.R_drew)); exact HO_43.out) hb); have n1_ := Aside0.mk (Kd.V_below (by (with_reducible repeat (first | apply Kd.V_alloc | apply Kd.V_drewN | apply Kd.V_drew)); exact HO_169000.out) hb); have n2_ := Aside0.mk (Kd.V_below (by (with_reducible repeat (first | apply Kd.V_alloc | apply Kd.V_drewN | apply Kd.V_drew)); exact HO_169001.out) hb); have n3_ := Aside0.mk (Kd.V_lower (Kd.V_mono (ok' := fun k_ => some k_ ≠ (.slice (some ad183) x4_1.length co36 : Value).ownBlock ∧ k_ ≠ gb168) ho0 (fun k_ hk_ => ⟨Or.elim hk_ (fun hs_ => Or.elim hs_ (fun hs_ => hs_.1) (fun hs_ => hs_.1)) (fun hn_ => (Kd.fresh' (Kd.R_lt (by (with_reducible repeat (first | apply Kd.R_alloc | apply Kd.R_drewN | apply Kd.R_drew)); exact HO_43.out)) k_ hn_)), Or.elim hk_ (fun hs_ => Or.elim hs_ (fun hs_ => hs_.2) (fun hs_ => hs_.2)) (fun hn_ => (Kd.freshB (g := gb168) (o := .cells #[.slice Ao68 x169000_2.length co68, .slice Ao69 x169001_2.length co69] 27 (0, 0)) (by (with_reducible repeat (first | refine blk_drewN ?_ _ | refine blk_drew ?_ | refine blk_alloc ?_ _)); exact BK168.out) k_ hn_))⟩)) (below_size (by repeat (first | (with_reducible first | exact HB.out | apply below_alloc | apply pw_below_drewN | apply below_drew1 | refine below_set ?_ GE168.out) | exact HB.out)))); have n4_ := Aside0.mk (Kd.V_lower (Kd.V_mono (ok' := fun k_ => some k_ ≠ (.slice (some ad183) x4_1.length co36 : Value).ownBlock ∧ k_ ≠ gb168) ho1 (fun k_ hk_ => ⟨Or.elim hk_ (fun hs_ => Or.elim hs_ (fun hs_ => hs_.1) (fun hs_ => hs_.1)) (fun hn_ => (Kd.fresh' (Kd.R_lt (by (with_reducible repeat (first | apply Kd.R_alloc | apply Kd.R_drewN | apply Kd.R_drew)); exact HO_43.out)) k_ hn_)), Or.elim hk_ (fun hs_ => Or.elim hs_ (fun hs_ => hs_.2) (fun hs_ => hs_.2)) (fun hn_ => (Kd.freshB (g := gb168) (o := .cells #[.slice Ao68 x169000_2.length co68, .slice Ao69 x169001_2.length co69] 27 (0, 0)) (by (with_reducible repeat (first | refine blk_drewN ?_ _ | refine blk_drew ?_ | refine blk_alloc ?_ _)); exact BK168.out) k_ hn_))⟩)) (below_size (by repeat (first | (with_reducible first | exact HB.out | apply below_alloc | apply pw_below_drewN | apply below_drew1 | refine below_set ?_ GE168.out) | exact HB.out)))); have n5_ := Aside0.mk (blk_below (g := gb168) (o := .cells #[.slice Ao68 x169000_2.length co68, .slice Ao69 x169001_2.length co69] 27 (0, 0)) (by (with_reducible repeat (first | refine blk_drewN ?_ _ | refine blk_drew ?_ | refine blk_alloc ?_ _)); exact BK168.out) hb); have n6_ := Aside0.mk (below_step (by repeat (first | (with_reducible first | exact HB.out | apply below_alloc | apply pw_below_drewN | apply below_drew1 | refine below_set ?_ GE168.out) | exact HB.out)) hb); clear HO_43; clear HO_169000; clear HO_169001; clear BK168; clear HB; have HO_43 := n0_; have HO_169000 := n1_; have HO_169001 := n2_; have HO189 := n3_; have HO192 := n4_; have BK168 := n5_; have HB := n6_; clear n0_ n1_ n2_ n3_ n4_ n5_ n6_; (try clear hb); (try clear hb2); (try clear hk); (try clear hi); (try clear ho0); (try clear ho1)) | ((with_reducible refine gate_dst (N := 12) rfl ?_); refine box_event ?hg (N := 12) ?hd (cs := #[.slice none 0 0, .slice none 0 0]) (t := 27) ?hr ?_; (case hd => rfl); (case hg => rfl); (case hr => first | (go_simp; done) | (go_simp; rfl)); intro gb194 hg w71 hbox hb; have n0_ := Aside0.mk (Kd.R_below (by (with_reducible repeat (first | apply Kd.R_alloc | apply Kd.R_drewN | apply Kd.R_drew)); exact HO_43.out) hb); have n1_ := Aside0.mk (Kd.V_below (Kd.V_elderB (by (with_reducible repeat (first | apply Kd.V_alloc | apply Kd.V_drewN | apply Kd.V_drew)); exact HO_169000.out) gb194 (Nat.le_of_eq hg.symm)) hb); have n2_ := Aside0.mk (Kd.V_below (Kd.V_elderB (by (with_reducible repeat (first | apply Kd.V_alloc | apply Kd.V_drewN | apply Kd.V_drew)); exact HO_169001.out) gb194 (Nat.le_of_eq hg.symm)) hb); have n3_ := Aside0.mk (Kd.V_below (Kd.V_elderB (by (with_reducible repeat (first | apply Kd.V_alloc | apply Kd.V_drewN | apply Kd.V_drew)); exact HO189.out) gb194 (Nat.le_of_eq hg.symm)) hb); have n4_ := Aside0.mk (Kd.V_below (Kd.V_elderB (by (with_reducible repeat (first | apply Kd.V_alloc | apply Kd.V_drewN | apply Kd.V_drew)); exact HO192.out) gb194 (Nat.le_of_eq hg.symm)) hb); have n5_ := Aside0.mk (blk_below (g := gb168) (o := .cells #[.slice Ao68 x169000_2.length co68, .slice Ao69 x169001_2.length co69] 27 (0, 0)) (by (with_reducible repeat (first | refine blk_drewN ?_ _ | refine blk_drew ?_ | refine blk_alloc ?_ _)); exact BK168.out) hb); have n6_ := Aside0.mk (below_step (by repeat (first | (with_reducible first | exact HB.out | apply below_alloc | apply pw_below_drewN | apply below_drew1 | refine below_set ?_ GE168.out) | exact HB.out)) hb); have n7_ := Aside0.mk (hbox); have n8_ := Aside0.mk ((by rw [hg]; exact (below_size (by repeat (first | (with_reducible first | exact HB.out | apply below_alloc | apply pw_below_drewN | apply below_drew1 | refine below_set ?_ GE168.out) | exact HB.out))) : w.heap.size ≤ gb194)); have n9_ := Aside0.mk ((by rw [hg]; exact (below_size (by repeat (first | (with_reducible first | exact HB.out | apply below_alloc | apply pw_below_drewN | apply below_drew1 | refine below_set ?_ GE168.out) | exact HB.out))) : w.heap.size ≤ gb194)); have n10_ := Aside0.mk ((by rw [hg]; exact Nat.ne_of_lt (blk_lt (g := gb168) (o := .cells #[.slice Ao68 x169000_2.length co68, .slice Ao69 x169001_2.length co69] 27 (0, 0)) (by (with_reducible repeat (first | refine blk_drewN ?_ _ | refine blk_drew ?_ | refine blk_alloc ?_ _)); exact BK168.out)) : gb168 ≠ gb194)); have n11_ := Aside0.mk ((by rw [hg]; exact Nat.ne_of_gt (blk_lt (g := gb168) (o := .cells #[.slice Ao68 x169000_2.length co68, .slice Ao69 x169001_2.length co69] 27 (0, 0)) (by (with_reducible repeat (first | refine blk_drewN ?_ _ | refine blk_drew ?_ | refine blk_alloc ?_ _)); exact BK168.out)) : gb194 ≠ gb168)); clear HO_43; clear HO_169000; clear HO_169001; clear HO189; clear HO192; clear BK168; clear HB; have HO_43 := n0_; have HO_169000 := n1_; have HO_169001 := n2_; have HO189 := n3_; have HO192 := n4_; have BK168 := n5_; have HB := n6_; have BK194 := n7_; have GW194 := n8_; have GE194 := n9_; have NB168_194 := n10_; have NB194_168 := n11_; clear n0_ n1_ n2_ n3_ n4_ n5_ n6_ n7_ n8_ n9_ n10_ n11_; clear hb hbox hg; obtain ⟨Ao72, co72, eo72⟩ := Kd.V_slice HO189.out; subst eo72; have hnb73 := NB194_168.out; have hnc73 := NB168_194.out; have hcz74_0 : w71.cell? ⟨gb194, 0, none⟩ = some (.slice none 0 0) := (blk_cell BK194.out 0).trans rfl; have hcz74_1 : w71.cell? ⟨gb194, 1, none⟩ = some (.slice none 0 0) := (blk_cell BK194.out 1).trans rfl; have hfz74_0 := blk_frozen BK194.out 0; have hfz74_1 := blk_frozen BK194.out 1; obtain ⟨Ao75, co75, eo75⟩ := Kd.V_slice HO192.out; subst eo75; have hcz76_0 : w71.cell? ⟨gb168, 0, none⟩ = some (.slice Ao68 x169000_2.length co68) := (blk_cell BK168.out 0).trans rfl; have hcz76_1 : w71.cell? ⟨gb168, 1, none⟩ = some (.slice Ao69 x169001_2.length co69) := (blk_cell BK168.out 1).trans rfl; have hfz76_0 := blk_frozen BK168.out 0; have hfz76_1 := blk_frozen BK168.out 1))
                              go_roundg kj39
                              case measure => have := HK1.out; have := HK2.out; have := HJ39.out; omega
                              case rel => exact ⟨(wrap64 (x45_2 + 1)), (t187), (t190), (.slice Ao72 t187.length co72), (.slice Ao75 t190.length co75), (by first | rfl | (simp; done) | (simp [*]; done)), H', ⟨by have := HK1.out; have := HK2.out; have := HJ39.out; omega⟩, ⟨by (with_reducible repeat (first | apply Kd.R_alloc | apply Kd.R_drewN | apply Kd.R_drew)); exact Kd.R_mono (Kd.R_far (p := ⟨gb168, 1, none⟩) (Kd.R_far (p := ⟨gb168, 0, none⟩) (Kd.R_far (p := ⟨gb194, 1, none⟩) (Kd.R_far (p := ⟨gb194, 0, none⟩) (Kd.R_types (Kd.R_types HO_43.out BK194.out (by decide)) BK168.out (by decide)) (fun _ hk => hk.1.2) (.slice Ao72 t187.length co72)) (fun _ hk => hk.1.2) (.slice Ao75 t190.length co75)) (fun _ hk => hk.2) (.slice Ao72 t187.length co72)) (fun _ hk => hk.2) (.slice Ao75 t190.length co75)) (fun _ hk => trivial)⟩, ⟨by (with_reducible repeat (first | apply Kd.V_alloc | apply Kd.V_drewN | apply Kd.V_drew)); exact Kd.V_mono (Kd.V_far (p := ⟨gb168, 1, none⟩) (Kd.V_far (p := ⟨gb168, 0, none⟩) (Kd.V_far (p := ⟨gb194, 1, none⟩) (Kd.V_far (p := ⟨gb194, 0, none⟩) (Kd.V_mono (Kd.V_mono HO189.out (fun k_ hk => (⟨hk, hk.2⟩ : _ ∧ k_ ≠ gb194))) (fun k_ hk => (⟨hk, hk.1.1.2⟩ : _ ∧ k_ ≠ gb168))) (fun _ hk => hk.1.2) (.slice Ao72 t187.length co72)) (fun _ hk => hk.1.2) (.slice Ao75 t190.length co75)) (fun _ hk => hk.2) (.slice Ao72 t187.length co72)) (fun _ hk => hk.2) (.slice Ao75 t190.length co75)) (fun _ hk => ⟨hk.1.1.1.1, hk.1.1.1.2⟩)⟩, ⟨by (with_reducible repeat (first | apply Kd.V_alloc | apply Kd.V_drewN | apply Kd.V_drew)); exact Kd.V_mono (Kd.V_far (p := ⟨gb168, 1, none⟩) (Kd.V_far (p := ⟨gb168, 0, none⟩) (Kd.V_far (p := ⟨gb194, 1, none⟩) (Kd.V_far (p := ⟨gb194, 0, none⟩) (Kd.V_mono (Kd.V_mono HO192.out (fun k_ hk => (⟨hk, hk.2⟩ : _ ∧ k_ ≠ gb194))) (fun k_ hk => (⟨hk, hk.1.1.2⟩ : _ ∧ k_ ≠ gb168))) (fun _ hk => hk.1.2) (.slice Ao72 t187.length co72)) (fun _ hk => hk.1.2) (.slice Ao75 t190.length co75)) (fun _ hk => hk.2) (.slice Ao72 t187.length co72)) (fun _ hk => hk.2) (.slice Ao75 t190.length co75)) (fun _ hk => ⟨hk.1.1.1.1, hk.1.1.1.2⟩)⟩, ⟨by (with_reducible repeat (first | refine blk_drewN ?_ _ | refine blk_drew ?_ | refine blk_alloc ?_ _)); refine blk_put (cs := #[.slice Ao72 t187.length co72, .slice Ao69 x169001_2.length co69]) ?_ 1 _ rfl; (with_reducible repeat (first | refine blk_drewN ?_ _ | refine blk_drew ?_ | refine blk_alloc ?_ _)); refine blk_put (cs := #[.slice Ao68 x169000_2.length co68, .slice Ao69 x169001_2.length co69]) ?_ 0 _ rfl; (with_reducible repeat (first | refine blk_drewN ?_ _ | refine blk_drew ?_ | refine blk_alloc ?_ _)); refine blk_far ?_ NB168_194.out _; (with_reducible repeat (first | refine blk_drewN ?_ _ | refine blk_drew ?_ | refine blk_alloc ?_ _)); refine blk_far ?_ NB168_194.out _; (with_reducible repeat (first | refine blk_drewN ?_ _ | refine blk_drew ?_ | refine blk_alloc ?_ _)); exact BK168.out⟩, ⟨by repeat (first | (with_reducible first | exact HB.out | apply below_alloc | apply pw_below_drewN | apply below_drew1 | refine below_set ?_ GE168.out | refine below_set ?_ GE194.out) | exact HB.out)⟩⟩
                            · rw [if_neg c66] at H
                              have c66b0 : (t193 == 0) = false := beq_eq_false_iff_ne.mpr c66
                              have c66b1 : (t193 != 0) = true := bne_iff_ne.mpr c66
                              obtain rfl := Option.some.inj H
                              have hcz77_0 : wc.cell? ⟨gb168, 0, none⟩ = some (u169000) := (blk_cell BK168.out 0).trans rfl
                              have hcz77_1 : wc.cell? ⟨gb168, 1, none⟩ = some (u169001) := (blk_cell BK168.out 1).trans rfl
                              have hfz77_0 := blk_frozen BK168.out 0
                              have hfz77_1 := blk_frozen BK168.out 1
                              obtain ⟨Ao78, co78, eo78⟩ := Kd.V_slice HO_169000.out
                              subst eo78
                              obtain ⟨Ao79, co79, eo79⟩ := Kd.V_slice HO_169001.out
                              subst eo79
                              go_wp2_with (first | ((with_reducible refine gate_callee (f := 11) rfl ?_); refine goesL_ (some 66) rfl rfl Try.func11 (by kernel_rfl) rfl #[.agg #[.slice Ao78 x169000_2.length co78, .slice Ao79 x169001_2.length co79], .int .i64 (rd x4_1 x45_2)] rfl (by (try simp only [List.map_toArray, List.map_cons, List.map_nil]); first | done | rfl | (simp only [List.length_drop, List.length_take]; rfl)) ?_; (with_reducible refine (choice_Pass.calls (fun k_ => (some k_ ≠ (.slice (some ad183) x4_1.length co36 : Value).ownBlock ∧ k_ ≠ gb168)) _ _ x169000_2 (fun k_ => (some k_ ≠ (.slice (some ad183) x4_1.length co36 : Value).ownBlock ∧ k_ ≠ gb168)) _ _ x169001_2 (rd x4_1 x45_2) t187 t190 t193 _ ?side1 ?side2 A65.out).mono ?_); (case side1 => exact HO_169000.out); (case side2 => exact HO_169001.out); rintro e w80 ⟨v188, v191, rfl, ho0, ho1, hb⟩; refine ⟨_, rfl, ?_⟩; have n0_ := Aside0.mk (Kd.R_below (by (with_reducible repeat (first | apply Kd.R_alloc | apply Kd.R_drewN | apply Kd.R_drew)); exact HO_43.out) hb); have n1_ := Aside0.mk (Kd.V_below (by (with_reducible repeat (first | apply Kd.V_alloc | apply Kd.V_drewN | apply Kd.V_drew)); exact HO_169000.out) hb); have n2_ := Aside0.mk (Kd.V_below (by (with_reducible repeat (first | apply Kd.V_alloc | apply Kd.V_drewN | apply Kd.V_drew)); exact HO_169001.out) hb); have n3_ := Aside0.mk (Kd.V_lower (Kd.V_mono (ok' := fun k_ => some k_ ≠ (.slice (some ad183) x4_1.length co36 : Value).ownBlock ∧ k_ ≠ gb168) ho0 (fun k_ hk_ => ⟨Or.elim hk_ (fun hs_ => Or.elim hs_ (fun hs_ => hs_.1) (fun hs_ => hs_.1)) (fun hn_ => (Kd.fresh' (Kd.R_lt (by (with_reducible repeat (first | apply Kd.R_alloc | apply Kd.R_drewN | apply Kd.R_drew)); exact HO_43.out)) k_ hn_)), Or.elim hk_ (fun hs_ => Or.elim hs_ (fun hs_ => hs_.2) (fun hs_ => hs_.2)) (fun hn_ => (Kd.freshB (g := gb168) (o := .cells #[.slice Ao78 x169000_2.length co78, .slice Ao79 x169001_2.length co79] 27 (0, 0)) (by (with_reducible repeat (first | refine blk_drewN ?_ _ | refine blk_drew ?_ | refine blk_alloc ?_ _)); exact BK168.out) k_ hn_))⟩)) (below_size (by repeat (first | (with_reducible first | exact HB.out | apply below_alloc | apply pw_below_drewN | apply below_drew1 | refine below_set ?_ GE168.out) | exact HB.out)))); have n4_ := Aside0.mk (Kd.V_lower (Kd.V_mono (ok' := fun k_ => some k_ ≠ (.slice (some ad183) x4_1.length co36 : Value).ownBlock ∧ k_ ≠ gb168) ho1 (fun k_ hk_ => ⟨Or.elim hk_ (fun hs_ => Or.elim hs_ (fun hs_ => hs_.1) (fun hs_ => hs_.1)) (fun hn_ => (Kd.fresh' (Kd.R_lt (by (with_reducible repeat (first | apply Kd.R_alloc | apply Kd.R_drewN | apply Kd.R_drew)); exact HO_43.out)) k_ hn_)), Or.elim hk_ (fun hs_ => Or.elim hs_ (fun hs_ => hs_.2) (fun hs_ => hs_.2)) (fun hn_ => (Kd.freshB (g := gb168) (o := .cells #[.slice Ao78 x169000_2.length co78, .slice Ao79 x169001_2.length co79] 27 (0, 0)) (by (with_reducible repeat (first | refine blk_drewN ?_ _ | refine blk_drew ?_ | refine blk_alloc ?_ _)); exact BK168.out) k_ hn_))⟩)) (below_size (by repeat (first | (with_reducible first | exact HB.out | apply below_alloc | apply pw_below_drewN | apply below_drew1 | refine below_set ?_ GE168.out) | exact HB.out)))); have n5_ := Aside0.mk (blk_below (g := gb168) (o := .cells #[.slice Ao78 x169000_2.length co78, .slice Ao79 x169001_2.length co79] 27 (0, 0)) (by (with_reducible repeat (first | refine blk_drewN ?_ _ | refine blk_drew ?_ | refine blk_alloc ?_ _)); exact BK168.out) hb); have n6_ := Aside0.mk (below_step (by repeat (first | (with_reducible first | exact HB.out | apply below_alloc | apply pw_below_drewN | apply below_drew1 | refine below_set ?_ GE168.out) | exact HB.out)) hb); clear HO_43; clear HO_169000; clear HO_169001; clear BK168; clear HB; have HO_43 := n0_; have HO_169000 := n1_; have HO_169001 := n2_; have HO189 := n3_; have HO192 := n4_; have BK168 := n5_; have HB := n6_; clear n0_ n1_ n2_ n3_ n4_ n5_ n6_; (try clear hb); (try clear hb2); (try clear hk); (try clear hi); (try clear ho0); (try clear ho1)) | ((with_reducible refine gate_dst (N := 12) rfl ?_); refine box_event ?hg (N := 12) ?hd (cs := #[.slice none 0 0, .slice none 0 0]) (t := 27) ?hr ?_; (case hd => rfl); (case hg => rfl); (case hr => first | (go_simp; done) | (go_simp; rfl)); intro gb194 hg w81 hbox hb; have n0_ := Aside0.mk (Kd.R_below (by (with_reducible repeat (first | apply Kd.R_alloc | apply Kd.R_drewN | apply Kd.R_drew)); exact HO_43.out) hb); have n1_ := Aside0.mk (Kd.V_below (Kd.V_elderB (by (with_reducible repeat (first | apply Kd.V_alloc | apply Kd.V_drewN | apply Kd.V_drew)); exact HO_169000.out) gb194 (Nat.le_of_eq hg.symm)) hb); have n2_ := Aside0.mk (Kd.V_below (Kd.V_elderB (by (with_reducible repeat (first | apply Kd.V_alloc | apply Kd.V_drewN | apply Kd.V_drew)); exact HO_169001.out) gb194 (Nat.le_of_eq hg.symm)) hb); have n3_ := Aside0.mk (Kd.V_below (Kd.V_elderB (by (with_reducible repeat (first | apply Kd.V_alloc | apply Kd.V_drewN | apply Kd.V_drew)); exact HO189.out) gb194 (Nat.le_of_eq hg.symm)) hb); have n4_ := Aside0.mk (Kd.V_below (Kd.V_elderB (by (with_reducible repeat (first | apply Kd.V_alloc | apply Kd.V_drewN | apply Kd.V_drew)); exact HO192.out) gb194 (Nat.le_of_eq hg.symm)) hb); have n5_ := Aside0.mk (blk_below (g := gb168) (o := .cells #[.slice Ao78 x169000_2.length co78, .slice Ao79 x169001_2.length co79] 27 (0, 0)) (by (with_reducible repeat (first | refine blk_drewN ?_ _ | refine blk_drew ?_ | refine blk_alloc ?_ _)); exact BK168.out) hb); have n6_ := Aside0.mk (below_step (by repeat (first | (with_reducible first | exact HB.out | apply below_alloc | apply pw_below_drewN | apply below_drew1 | refine below_set ?_ GE168.out) | exact HB.out)) hb); have n7_ := Aside0.mk (hbox); have n8_ := Aside0.mk ((by rw [hg]; exact (below_size (by repeat (first | (with_reducible first | exact HB.out | apply below_alloc | apply pw_below_drewN | apply below_drew1 | refine below_set ?_ GE168.out) | exact HB.out))) : w.heap.size ≤ gb194)); have n9_ := Aside0.mk ((by rw [hg]; exact (below_size (by repeat (first | (with_reducible first | exact HB.out | apply below_alloc | apply pw_below_drewN | apply below_drew1 | refine below_set ?_ GE168.out) | exact HB.out))) : w.heap.size ≤ gb194)); have n10_ := Aside0.mk ((by rw [hg]; exact Nat.ne_of_lt (blk_lt (g := gb168) (o := .cells #[.slice Ao78 x169000_2.length co78, .slice Ao79 x169001_2.length co79] 27 (0, 0)) (by (with_reducible repeat (first | refine blk_drewN ?_ _ | refine blk_drew ?_ | refine blk_alloc ?_ _)); exact BK168.out)) : gb168 ≠ gb194)); have n11_ := Aside0.mk ((by rw [hg]; exact Nat.ne_of_gt (blk_lt (g := gb168) (o := .cells #[.slice Ao78 x169000_2.length co78, .slice Ao79 x169001_2.length co79] 27 (0, 0)) (by (with_reducible repeat (first | refine blk_drewN ?_ _ | refine blk_drew ?_ | refine blk_alloc ?_ _)); exact BK168.out)) : gb194 ≠ gb168)); clear HO_43; clear HO_169000; clear HO_169001; clear HO189; clear HO192; clear BK168; clear HB; have HO_43 := n0_; have HO_169000 := n1_; have HO_169001 := n2_; have HO189 := n3_; have HO192 := n4_; have BK168 := n5_; have HB := n6_; have BK194 := n7_; have GW194 := n8_; have GE194 := n9_; have NB168_194 := n10_; have NB194_168 := n11_; clear n0_ n1_ n2_ n3_ n4_ n5_ n6_ n7_ n8_ n9_ n10_ n11_; clear hb hbox hg; obtain ⟨Ao82, co82, eo82⟩ := Kd.V_slice HO189.out; subst eo82; have hnb83 := NB194_168.out; have hnc83 := NB168_194.out; have hcz84_0 : w81.cell? ⟨gb194, 0, none⟩ = some (.slice none 0 0) := (blk_cell BK194.out 0).trans rfl; have hcz84_1 : w81.cell? ⟨gb194, 1, none⟩ = some (.slice none 0 0) := (blk_cell BK194.out 1).trans rfl; have hfz84_0 := blk_frozen BK194.out 0; have hfz84_1 := blk_frozen BK194.out 1; obtain ⟨Ao85, co85, eo85⟩ := Kd.V_slice HO192.out; subst eo85))
                              go_ret
                              exact ⟨by first | rfl | (simp [errW_none, errW_some] <;> rfl) | (simp [*, errW_none, errW_some] <;> rfl), by repeat (first | (with_reducible first | exact HB.out | apply below_alloc | apply pw_below_drewN | apply below_drew1 | refine below_set ?_ GE168.out | refine below_set ?_ GE194.out) | exact HB.out)⟩
                    · rw [if_neg c39] at H
                      exact absurd H (by simp)
                  · rw [if_neg c38] at H
                    exact absurd H (by simp)
                · rw [if_neg c37] at H
                  have c37b0 : decide (x45_2 < (x4_1.length : Int)) = false := decide_eq_false c37
                  clear c37
                  replace H := Option.bind_eq_some_iff.mp H
                  obtain ⟨t181, A860, H⟩ := H
                  replace H : (if t181 = 0 then ((choice_May.f k2 x169000_2 x169001_2 1000).bind fun t182 => (some t182)) else (some false)) = some r := H
                  have A86 := Aside0.mk A860
                  clear A860
                  by_cases c87 : t181 = 0
                  · rw [if_pos c87] at H
                    have c87b0 : (t181 == 0) = true := beq_iff_eq.mpr c87
                    have c87b1 : (t181 != 0) = false := bne_eq_false_iff_eq.mpr c87
                    clear c87
                    replace H := Option.bind_eq_some_iff.mp H
                    obtain ⟨t182, A880, H⟩ := H
                    replace H : (some t182) = some r := H
                    have A88 := Aside0.mk A880
                    clear A880
                    obtain rfl := Option.some.inj H
                    have hcz89_0 : wr.cell? ⟨gb168, 0, none⟩ = some (u169000) := (blk_cell BK168.out 0).trans rfl
                    have hcz89_1 : wr.cell? ⟨gb168, 1, none⟩ = some (u169001) := (blk_cell BK168.out 1).trans rfl
                    have hfz89_0 := blk_frozen BK168.out 0
                    have hfz89_1 := blk_frozen BK168.out 1
                    obtain ⟨Ao90, co90, eo90⟩ := Kd.V_slice HO_169000.out
                    subst eo90
                    obtain ⟨Ao91, co91, eo91⟩ := Kd.V_slice HO_169001.out
                    subst eo91
                    go_wp2_with (first | ((with_reducible refine gate_callee (f := 9) rfl ?_); refine goesL_ (some 74) rfl rfl Try.func9 (by kernel_rfl) rfl #[.agg #[.slice Ao90 x169000_2.length co90, .slice Ao91 x169001_2.length co91]] rfl (by (try simp only [List.map_toArray, List.map_cons, List.map_nil]); first | done | rfl | (simp only [List.length_drop, List.length_take]; rfl)) ?_; (with_reducible refine (choice_Holder.calls k2 _ _ x169000_2 _ _ x169001_2 t181 _ ?side1 ?side2 ?side3 ?side4 A86.out).mono ?_); (case side1 => repeat (first | exact (Kd.V_reads' HO_169000.out).2.2 | (with_reducible refine Kd.C_alloc ?_ _) | (with_reducible refine Kd.C_drewN ?_ _) | (with_reducible refine Kd.C_drew ?_))); (case side2 => exact (Kd.V_reads' HO_169000.out).2.1); (case side3 => repeat (first | exact (Kd.V_reads' HO_169001.out).2.2 | (with_reducible refine Kd.C_alloc ?_ _) | (with_reducible refine Kd.C_drewN ?_ _) | (with_reducible refine Kd.C_drew ?_))); (case side4 => exact (Kd.V_reads' HO_169001.out).2.1); rintro e w92 ⟨rfl, hb⟩; refine ⟨_, rfl, ?_⟩; have n0_ := Aside0.mk (Kd.R_below (by (with_reducible repeat (first | apply Kd.R_alloc | apply Kd.R_drewN | apply Kd.R_drew)); exact HO_43.out) hb); have n1_ := Aside0.mk (Kd.V_below (by (with_reducible repeat (first | apply Kd.V_alloc | apply Kd.V_drewN | apply Kd.V_drew)); exact HO_169000.out) hb); have n2_ := Aside0.mk (Kd.V_below (by (with_reducible repeat (first | apply Kd.V_alloc | apply Kd.V_drewN | apply Kd.V_drew)); exact HO_169001.out) hb); have n3_ := Aside0.mk (blk_below (g := gb168) (o := .cells #[.slice Ao90 x169000_2.length co90, .slice Ao91 x169001_2.length co91] 27 (0, 0)) (by (with_reducible repeat (first | refine blk_drewN ?_ _ | refine blk_drew ?_ | refine blk_alloc ?_ _)); exact BK168.out) hb); have n4_ := Aside0.mk (below_step (by repeat (first | (with_reducible first | exact HB.out | apply below_alloc | apply pw_below_drewN | apply below_drew1 | refine below_set ?_ GE168.out) | exact HB.out)) hb); clear HO_43; clear HO_169000; clear HO_169001; clear BK168; clear HB; have HO_43 := n0_; have HO_169000 := n1_; have HO_169001 := n2_; have BK168 := n3_; have HB := n4_; clear n0_ n1_ n2_ n3_ n4_; (try clear hb); (try clear hb2); (try clear hk); (try clear hi); have hcz93_0 : w92.cell? ⟨gb168, 0, none⟩ = some (.slice Ao90 x169000_2.length co90) := (blk_cell BK168.out 0).trans rfl; have hcz93_1 : w92.cell? ⟨gb168, 1, none⟩ = some (.slice Ao91 x169001_2.length co91) := (blk_cell BK168.out 1).trans rfl; have hfz93_0 := blk_frozen BK168.out 0; have hfz93_1 := blk_frozen BK168.out 1) | (go_at_call 10; (with_reducible refine (choice_May.calls k2 _ _ x169000_2 _ _ x169001_2 1000 t182 _ ?side1 ?side2 ?side3 ?side4 A88.out).mono ?_); (case side1 => repeat (first | exact (Kd.V_reads' HO_169000.out).2.2 | (with_reducible refine Kd.C_alloc ?_ _) | (with_reducible refine Kd.C_drewN ?_ _) | (with_reducible refine Kd.C_drew ?_))); (case side2 => exact (Kd.V_reads' HO_169000.out).2.1); (case side3 => repeat (first | exact (Kd.V_reads' HO_169001.out).2.2 | (with_reducible refine Kd.C_alloc ?_ _) | (with_reducible refine Kd.C_drewN ?_ _) | (with_reducible refine Kd.C_drew ?_))); (case side4 => exact (Kd.V_reads' HO_169001.out).2.1); rintro e w94 ⟨rfl, hb⟩; have n0_ := Aside0.mk (Kd.R_below (by (with_reducible repeat (first | apply Kd.R_alloc | apply Kd.R_drewN | apply Kd.R_drew)); exact HO_43.out) hb); have n1_ := Aside0.mk (Kd.V_below (by (with_reducible repeat (first | apply Kd.V_alloc | apply Kd.V_drewN | apply Kd.V_drew)); exact HO_169000.out) hb); have n2_ := Aside0.mk (Kd.V_below (by (with_reducible repeat (first | apply Kd.V_alloc | apply Kd.V_drewN | apply Kd.V_drew)); exact HO_169001.out) hb); have n3_ := Aside0.mk (blk_below (g := gb168) (o := .cells #[.slice Ao90 x169000_2.length co90, .slice Ao91 x169001_2.length co91] 27 (0, 0)) (by (with_reducible repeat (first | refine blk_drewN ?_ _ | refine blk_drew ?_ | refine blk_alloc ?_ _)); exact BK168.out) hb); have n4_ := Aside0.mk (below_step (by repeat (first | (with_reducible first | exact HB.out | apply below_alloc | apply pw_below_drewN | apply below_drew1 | refine below_set ?_ GE168.out) | exact HB.out)) hb); clear HO_43; clear HO_169000; clear HO_169001; clear BK168; clear HB; have HO_43 := n0_; have HO_169000 := n1_; have HO_169001 := n2_; have BK168 := n3_; have HB := n4_; clear n0_ n1_ n2_ n3_ n4_; (try clear hb); (try clear hb2); (try clear hk); (try clear hi)))
                    go_ret
                    exact ⟨by first | rfl | (simp [errW_none, errW_some] <;> rfl) | (simp [*, errW_none, errW_some] <;> rfl), by repeat (first | (with_reducible first | exact HB.out | apply below_alloc | apply pw_below_drewN | apply below_drew1 | refine below_set ?_ GE168.out) | exact HB.out)⟩
                  · rw [if_neg c87] at H
                    have c87b0 : (t181 == 0) = false := beq_eq_false_iff_ne.mpr c87
                    have c87b1 : (t181 != 0) = true := bne_iff_ne.mpr c87
                    obtain rfl := Option.some.inj H
                    have hcz95_0 : wr.cell? ⟨gb168, 0, none⟩ = some (u169000) := (blk_cell BK168.out 0).trans rfl
                    have hcz95_1 : wr.cell? ⟨gb168, 1, none⟩ = some (u169001) := (blk_cell BK168.out 1).trans rfl
                    have hfz95_0 := blk_frozen BK168.out 0
                    have hfz95_1 := blk_frozen BK168.out 1
                    obtain ⟨Ao96, co96, eo96⟩ := Kd.V_slice HO_169000.out
                    subst eo96
                    obtain ⟨Ao97, co97, eo97⟩ := Kd.V_slice HO_169001.out
                    subst eo97
                    go_wp2_with (first | ((with_reducible refine gate_callee (f := 9) rfl ?_); refine goesL_ (some 74) rfl rfl Try.func9 (by kernel_rfl) rfl #[.agg #[.slice Ao96 x169000_2.length co96, .slice Ao97 x169001_2.length co97]] rfl (by (try simp only [List.map_toArray, List.map_cons, List.map_nil]); first | done | rfl | (simp only [List.length_drop, List.length_take]; rfl)) ?_; (with_reducible refine (choice_Holder.calls k2 _ _ x169000_2 _ _ x169001_2 t181 _ ?side1 ?side2 ?side3 ?side4 A86.out).mono ?_); (case side1 => repeat (first | exact (Kd.V_reads' HO_169000.out).2.2 | (with_reducible refine Kd.C_alloc ?_ _) | (with_reducible refine Kd.C_drewN ?_ _) | (with_reducible refine Kd.C_drew ?_))); (case side2 => exact (Kd.V_reads' HO_169000.out).2.1); (case side3 => repeat (first | exact (Kd.V_reads' HO_169001.out).2.2 | (with_reducible refine Kd.C_alloc ?_ _) | (with_reducible refine Kd.C_drewN ?_ _) | (with_reducible refine Kd.C_drew ?_))); (case side4 => exact (Kd.V_reads' HO_169001.out).2.1); rintro e w98 ⟨rfl, hb⟩; refine ⟨_, rfl, ?_⟩; have n0_ := Aside0.mk (Kd.R_below (by (with_reducible repeat (first | apply Kd.R_alloc | apply Kd.R_drewN | apply Kd.R_drew)); exact HO_43.out) hb); have n1_ := Aside0.mk (Kd.V_below (by (with_reducible repeat (first | apply Kd.V_alloc | apply Kd.V_drewN | apply Kd.V_drew)); exact HO_169000.out) hb); have n2_ := Aside0.mk (Kd.V_below (by (with_reducible repeat (first | apply Kd.V_alloc | apply Kd.V_drewN | apply Kd.V_drew)); exact HO_169001.out) hb); have n3_ := Aside0.mk (blk_below (g := gb168) (o := .cells #[.slice Ao96 x169000_2.length co96, .slice Ao97 x169001_2.length co97] 27 (0, 0)) (by (with_reducible repeat (first | refine blk_drewN ?_ _ | refine blk_drew ?_ | refine blk_alloc ?_ _)); exact BK168.out) hb); have n4_ := Aside0.mk (below_step (by repeat (first | (with_reducible first | exact HB.out | apply below_alloc | apply pw_below_drewN | apply below_drew1 | refine below_set ?_ GE168.out) | exact HB.out)) hb); clear HO_43; clear HO_169000; clear HO_169001; clear BK168; clear HB; have HO_43 := n0_; have HO_169000 := n1_; have HO_169001 := n2_; have BK168 := n3_; have HB := n4_; clear n0_ n1_ n2_ n3_ n4_; (try clear hb); (try clear hb2); (try clear hk); (try clear hi)))
                    go_ret
                    exact ⟨by first | rfl | (simp [errW_none, errW_some] <;> rfl) | (simp [*, errW_none, errW_some] <;> rfl), by repeat (first | (with_reducible first | exact HB.out | apply below_alloc | apply pw_below_drewN | apply below_drew1 | refine below_set ?_ GE168.out) | exact HB.out)⟩
  · replace c3 := Bool.eq_false_iff.mpr c3
    subst c3
    have H1 : (some false) = some r := by rw [if_neg (show ¬ (false = true) by decide)] at H; exact H
    clear H
    have H := H1
    clear H1
    obtain rfl := Option.some.inj H
    go_enter Try.func3, Try.ntmps3
    go_wp2_with (first | ((with_reducible refine gate_callee (f := 7) rfl ?_); refine goesL_ (some 14) rfl rfl Try.func7 (by kernel_rfl) rfl #[] rfl (by (try simp only [List.map_toArray, List.map_cons, List.map_nil]); first | done | rfl | (simp only [List.length_drop, List.length_take]; rfl)) ?_; (with_reducible refine (warpbeamlaw18_alive.calls  false _ A2.out).mono ?_); rintro e w99 ⟨rfl, hb⟩; refine ⟨_, rfl, ?_⟩; have n0_ := Aside0.mk (below_step (by repeat (first | (with_reducible first | exact HB.out | apply below_alloc | apply pw_below_drewN | apply below_drew1) | exact HB.out)) hb); clear HB; have HB := n0_; clear n0_; (try clear hb); (try clear hb2); (try clear hk); (try clear hi)))
    go_ret
    exact ⟨by first | rfl | (simp [errW_none, errW_some] <;> rfl) | (simp [*, errW_none, errW_some] <;> rfl), by repeat (first | (with_reducible first | exact HB.out | apply below_alloc | apply pw_below_drewN | apply below_drew1) | exact HB.out)⟩

end Go.Proofs.Ytnegpjnjgdnmpaa.Q
