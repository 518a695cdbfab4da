/- Plain functions that say what functions of the program compute, and proofs that they do; written by the printer for this claim, beside functions proved by hand. -/
import Derived.Test.YtnegpjnjgdnmpaaQ0
import Derived.Test.YtnegpjnjgdnmpaaQ2
import Derived.Test.YtnegpjnjgdnmpaaQ8
import Derived.Test.YtnegpjnjgdnmpaaHAlive
import Derived.Test.YtnegpjnjgdnmpaaHPark
import Derived.Test.YtnegpjnjgdnmpaaHWake
namespace Go.Proofs.Ytnegpjnjgdnmpaa.Q
open Go.RowKit Go.Proofs.YtnegpjnjgdnmpaaW.PrintWords Go.Proofs.YtnegpjnjgdnmpaaW.PrintLast Go.Proofs.YtnegpjnjgdnmpaaW.PrintMore
attribute [local go_sem] max2_int min2_int max_two min_two max_three min_three max_four min_four   -- for this text's walks alone
set_option linter.unusedVariables false
set_option linter.unusedSimpArgs false

attribute [local go_sem high] eqA43
/-! ### warpbeamlaw18_ChoiceWakes: function 4 -/
mutual
def warpbeamlaw18_ChoiceWakes.l0 : Nat → Int → List (S37) → Int → Int → List (S43) → List Int → Option (Bool)
  | 0, _, _, _, _, _, _ => none
  | k + 1, x1, x20, x21, x22, x197000, x197001 => if x22 < x21 then (if 0 ≤ x22 then (if x22 < (x20.length : Int) then ((choice_Park.f x197000 x197001 ((rd_T37 x20 x22).f0) ((rd_T37 x20 x22).f1)).bind fun bt199 => (warpbeamlaw18_ChoiceWakes.l0 k x1 x20 x21 (wrap64 (x22 + 1)) bt199.1 bt199.2.1)) else (none)) else (none)) else ((choice_Wake.f x197000 x197001 x1).bind fun bt206 => (if (wrap64 ((bt206.2.2.length : Int) + (bt206.1.length : Int))) = (x197000.length : Int) then (warpbeamlaw18_ChoiceWakes.l1 k x1 bt206.2.2 0 0 x197000 (x197000.length : Int) 0 bt206.1 bt206.2.1) else (some false)))
def warpbeamlaw18_ChoiceWakes.l1 : Nat → Int → List Int → Int → Int → List (S43) → Int → Int → List (S43) → List Int → Option (Bool)
  | 0, _, _, _, _, _, _, _, _, _ => none
  | k + 1, x1, x9, x10, x11, x53, x54, x55, x216000, x216001 => if x55 < x54 then (if 0 ≤ x55 then (if x55 < (x53.length : Int) then (if (Go.bits .and .u64 ((rd_T43 x53 x55).f1) x1) = 0 then (if x11 ≥ (x216000.length : Int) then (some false) else (if 0 ≤ x11 then (if x11 < (x216000.length : Int) then (if (!(((rd_T43 x216000 x11).f0) == ((rd_T43 x53 x55).f0)) || (!(((rd_T43 x216000 x11).f1) == ((rd_T43 x53 x55).f1)))) = true then (some false) else ((choice_May.f k x216000 x216001 ((rd_T43 x53 x55).f0)).bind fun t219 => (if t219 = true then (some false) else (warpbeamlaw18_ChoiceWakes.l1 k x1 x9 x10 (wrap64 (x11 + 1)) x53 x54 (wrap64 (x55 + 1)) x216000 x216001)))) else (none)) else (none))) else (if x10 ≥ (x9.length : Int) then (warpbeamlaw18_ChoiceWakes.j2 k x1 x9 x10 x11 x53 x54 x55 true x216000 x216001) else (if 0 ≤ x10 then (if x10 < (x9.length : Int) then (if (rd x9 x10) = ((rd_T43 x53 x55).f0) then ((choice_May.f k x216000 x216001 ((rd_T43 x53 x55).f0)).bind fun t221 => (warpbeamlaw18_ChoiceWakes.j2 k x1 x9 x10 x11 x53 x54 x55 (!t221) x216000 x216001)) else (warpbeamlaw18_ChoiceWakes.j2 k x1 x9 x10 x11 x53 x54 x55 true x216000 x216001)) else (none)) else (none)))) else (none)) else (none)) else (some true)
def warpbeamlaw18_ChoiceWakes.j2 : Nat → Int → List Int → Int → Int → List (S43) → Int → Int → Bool → List (S43) → List Int → Option (Bool)
  | 0, _, _, _, _, _, _, _, _, _, _ => none
  | k + 1, x1, x9, x10, x11, x53, x54, x55, x83, x216000, x216001 => if x83 = true then (some false) else (warpbeamlaw18_ChoiceWakes.l1 k x1 x9 (wrap64 (x10 + 1)) x11 x53 x54 (wrap64 (x55 + 1)) x216000 x216001)
end
def warpbeamlaw18_ChoiceWakes.f (k : Nat) (l0 : List (S37)) (a1 : Int) : Option (Bool) := (warpbeamlaw18_alive.f).bind fun t195 => (if t195 = true then (if (l0.length : Int) > 150 then (some true) else (warpbeamlaw18_ChoiceWakes.l0 k a1 l0 (l0.length : Int) 0 ([] : List (S43)) ([] : List Int))) else (some false))
theorem warpbeamlaw18_ChoiceWakes.mono_l : ∀ k, (∀ y0 y1 y2 y3 y4 y5, LeO (warpbeamlaw18_ChoiceWakes.l0 k y0 y1 y2 y3 y4 y5) (warpbeamlaw18_ChoiceWakes.l0 (k + 1) y0 y1 y2 y3 y4 y5)) ∧ (∀ y0 y1 y2 y3 y4 y5 y6 y7 y8, LeO (warpbeamlaw18_ChoiceWakes.l1 k y0 y1 y2 y3 y4 y5 y6 y7 y8) (warpbeamlaw18_ChoiceWakes.l1 (k + 1) y0 y1 y2 y3 y4 y5 y6 y7 y8)) ∧ (∀ y0 y1 y2 y3 y4 y5 y6 y7 y8 y9, LeO (warpbeamlaw18_ChoiceWakes.j2 k y0 y1 y2 y3 y4 y5 y6 y7 y8 y9) (warpbeamlaw18_ChoiceWakes.j2 (k + 1) y0 y1 y2 y3 y4 y5 y6 y7 y8 y9))
  | 0 => ⟨fun _ _ _ _ _ _ r h => by simp [warpbeamlaw18_ChoiceWakes.l0] at h, fun _ _ _ _ _ _ _ _ _ r h => by simp [warpbeamlaw18_ChoiceWakes.l1] at h, fun _ _ _ _ _ _ _ _ _ _ r h => by simp [warpbeamlaw18_ChoiceWakes.j2] at h⟩
  | k + 1 => by
    obtain ⟨ih0, ih1, ih2⟩ := warpbeamlaw18_ChoiceWakes.mono_l k
    refine ⟨?_, ?_, ?_⟩
    · intro y0 y1 y2 y3 y4 y5
      unfold warpbeamlaw18_ChoiceWakes.l0
      repeat' first
      | (with_reducible exact ih0 _ _ _ _ _ _)
      | (with_reducible exact ih1 _ _ _ _ _ _ _ _ _)
      | (with_reducible exact ih2 _ _ _ _ _ _ _ _ _ _)
      | (with_reducible exact choice_May.mono _ _ _ _)
      | (with_reducible exact LeO.refl _)
      | (with_reducible exact LeO.none _)
      | (with_reducible refine LeO.ite ?_ ?_)
      | (with_reducible refine LeO.bind ?_ (fun _ => ?_))
      | exact ih0 _ _ _ _ _ _
      | exact ih1 _ _ _ _ _ _ _ _ _
      | exact ih2 _ _ _ _ _ _ _ _ _ _
      | exact choice_May.mono _ _ _ _
      | exact LeO.none _
      | refine LeO.ite ?_ ?_
      | refine LeO.bind ?_ (fun _ => ?_)
    · intro y0 y1 y2 y3 y4 y5 y6 y7 y8
      unfold warpbeamlaw18_ChoiceWakes.l1
      repeat' first
      | (with_reducible exact ih0 _ _ _ _ _ _)
      | (with_reducible exact ih1 _ _ _ _ _ _ _ _ _)
      | (with_reducible exact ih2 _ _ _ _ _ _ _ _ _ _)
      | (with_reducible exact choice_May.mono _ _ _ _)
      | (with_reducible exact LeO.refl _)
      | (with_reducible exact LeO.none _)
      | (with_reducible refine LeO.ite ?_ ?_)
      | (with_reducible refine LeO.bind ?_ (fun _ => ?_))
      | exact ih0 _ _ _ _ _ _
      | exact ih1 _ _ _ _ _ _ _ _ _
      | exact ih2 _ _ _ _ _ _ _ _ _ _
      | exact choice_May.mono _ _ _ _
      | exact LeO.none _
      | refine LeO.ite ?_ ?_
      | refine LeO.bind ?_ (fun _ => ?_)
    · intro y0 y1 y2 y3 y4 y5 y6 y7 y8 y9
      unfold warpbeamlaw18_ChoiceWakes.j2
      repeat' first
      | (with_reducible exact ih0 _ _ _ _ _ _)
      | (with_reducible exact ih1 _ _ _ _ _ _ _ _ _)
      | (with_reducible exact ih2 _ _ _ _ _ _ _ _ _ _)
      | (with_reducible exact choice_May.mono _ _ _ _)
      | (with_reducible exact LeO.refl _)
      | (with_reducible exact LeO.none _)
      | (with_reducible refine LeO.ite ?_ ?_)
      | (with_reducible refine LeO.bind ?_ (fun _ => ?_))
      | exact ih0 _ _ _ _ _ _
      | exact ih1 _ _ _ _ _ _ _ _ _
      | exact ih2 _ _ _ _ _ _ _ _ _ _
      | exact choice_May.mono _ _ _ _
      | exact LeO.none _
      | refine LeO.ite ?_ ?_
      | refine LeO.bind ?_ (fun _ => ?_)
theorem warpbeamlaw18_ChoiceWakes.mono : ∀ a0 a1 k, LeO (warpbeamlaw18_ChoiceWakes.f k a0 a1) (warpbeamlaw18_ChoiceWakes.f (k + 1) a0 a1) := by
  intro a0 a1 k
  obtain ⟨ih0, ih1, ih2⟩ := warpbeamlaw18_ChoiceWakes.mono_l k
  unfold warpbeamlaw18_ChoiceWakes.f
  repeat' first
      | (with_reducible exact ih0 _ _ _ _ _ _)
      | (with_reducible exact ih1 _ _ _ _ _ _ _ _ _)
      | (with_reducible exact ih2 _ _ _ _ _ _ _ _ _ _)
      | (with_reducible exact choice_May.mono _ _ _ _)
      | (with_reducible exact LeO.refl _)
      | (with_reducible exact LeO.none _)
      | (with_reducible refine LeO.ite ?_ ?_)
      | (with_reducible refine LeO.bind ?_ (fun _ => ?_))
      | exact ih0 _ _ _ _ _ _
      | exact ih1 _ _ _ _ _ _ _ _ _
      | exact ih2 _ _ _ _ _ _ _ _ _ _
      | exact choice_May.mono _ _ _ _
      | exact LeO.none _
      | refine LeO.ite ?_ ?_
      | refine LeO.bind ?_ (fun _ => ?_)
def warpbeamlaw18_ChoiceWakes.T19 : Bool × List (List Nat × List Nat) := (true, [([], []), ([], []), ([1], [1]), ([0, 2], [0, 2]), ([3], [3]), ([4], [4]), ([4], [4]), ([5, 6, 4], [4, 5, 6]), ([7, 4], [4, 7]), ([4], [4]), ([9, 4], [4, 9]), ([8, 10, 4], [4, 8, 10]), ([4, 11], [4, 11]), ([12, 4], [12]), ([13], [13]), ([13], [13]), ([15, 13], [13, 15]), ([14, 16, 13, 13], [13, 14, 16]), ([17, 13], [13, 17]), ([13, 18], [13, 18])])
def warpbeamlaw18_ChoiceWakes.B19 : List Nat := [0, 0, 2, 7, 15, 31, 31, 127, 255, 31, 543, 2047, 4095, 8191, 16383, 16383, 49151, 131071, 262143, 524287]
theorem warpbeamlaw18_ChoiceWakes.tab19 : rtab .any (opsOf Try.f4 19) = warpbeamlaw18_ChoiceWakes.T19 := by kernel_rfl
theorem warpbeamlaw18_ChoiceWakes.bits19 : waitsOk warpbeamlaw18_ChoiceWakes.T19.2 warpbeamlaw18_ChoiceWakes.B19 = true := by kernel_rfl
def warpbeamlaw18_ChoiceWakes.T22 : Bool × List (List Nat × List Nat) := (true, [([], []), ([], []), ([1], [1]), ([2], [2]), ([0, 3], [0, 3]), ([4], [4]), ([5], [5]), ([6, 5], [5, 6]), ([5], [5]), ([7, 8, 5], [5, 7, 8]), ([9, 5], [5, 9]), ([5], [5]), ([10, 11, 5], [5, 10, 11]), ([5, 12], [5, 12]), ([13, 5], [13]), ([14], [14]), ([14], [14]), ([16, 14], [14, 16]), ([15, 17, 14, 14], [14, 15, 17]), ([14, 18], [14, 18])])
def warpbeamlaw18_ChoiceWakes.B22 : List Nat := [0, 0, 2, 6, 15, 31, 63, 127, 63, 511, 1023, 63, 4095, 8191, 16383, 32767, 32767, 98303, 262143, 524287]
theorem warpbeamlaw18_ChoiceWakes.tab22 : rtab .any (opsOf Try.f4 22) = warpbeamlaw18_ChoiceWakes.T22 := by kernel_rfl
theorem warpbeamlaw18_ChoiceWakes.bits22 : waitsOk warpbeamlaw18_ChoiceWakes.T22.2 warpbeamlaw18_ChoiceWakes.B22 = true := by kernel_rfl
set_option maxHeartbeats 8000000 in
set_option maxRecDepth 100000 in
theorem warpbeamlaw18_ChoiceWakes.calls (k : Nat) (A0 : Option Addr) (c0 : Nat) (l0 : List (S37)) (a1 : Int) (r : Bool) (w : World) (hr0 : Kd.C k37 w A0 l0.length l0) (hc0 : l0.length ≤ c0) (h : warpbeamlaw18_ChoiceWakes.f k l0 a1 = some r) :
  Calls Try.prog 4 #[.slice A0 l0.length c0, .int .u64 a1] w fun e w' => e = .returned (.bool r) ∧ Below w.heap.size w w' := by
 have hu27 := Try.underlying27
 have hu37 := Try.underlying37
 have hu43 := Try.underlying43
 have HR0 := Aside0.mk hr0
 have HC0 := Aside0.mk hc0
 clear hr0 hc0
 have HB := Aside0.mk (Below.refl w.heap.size w)
 have H : ((warpbeamlaw18_alive.f).bind fun t195 => (if t195 = true then (if (l0.length : Int) > 150 then (some true) else (warpbeamlaw18_ChoiceWakes.l0 k a1 l0 (l0.length : Int) 0 ([] : List (S43)) ([] : List Int))) else (some false))) = some r := h
 clear h
 replace H := Option.bind_eq_some_iff.mp H
 obtain ⟨t195, A30, H⟩ := H
 replace H : (if t195 = true then (if (l0.length : Int) > 150 then (some true) else (warpbeamlaw18_ChoiceWakes.l0 k a1 l0 (l0.length : Int) 0 ([] : List (S43)) ([] : List Int))) else (some false)) = some r := H
 have A3 := Aside0.mk A30
 clear A30
 by_cases c4 : t195 = true
 ·
  subst c4
  have H1 : (if (l0.length : Int) > 150 then (some true) else (warpbeamlaw18_ChoiceWakes.l0 k a1 l0 (l0.length : Int) 0 ([] : List (S43)) ([] : List Int))) = some r := by rw [if_pos rfl] at H; exact H
  clear H
  have H := H1
  clear H1
  by_cases c5 : (l0.length : Int) > 150
  ·
   rw [if_pos c5] at H
   have c5b0 : decide (150 < (l0.length : Int)) = true := decide_eq_true c5
   have c5b1 : decide (150 < l0.length) = true := decide_eq_true (by omega)
   clear c5
   obtain rfl := Option.some.inj H
   go_enter Try.func4, Try.ntmps4
   go_wp2_with (first | ((with_reducible refine gate_callee (f := 7) rfl ?_); refine goesL_ (some 14) rfl rfl Try.func7 (by kernel_rfl) rfl #[] rfl (by (try simp only [List.map_toArray, List.map_cons, List.map_nil]); first | done | rfl | (simp only [List.length_drop, List.length_take]; rfl)) ?_; (with_reducible refine (warpbeamlaw18_alive.calls  true _ A3.out).mono ?_); rintro e w6 ⟨rfl, hb⟩; refine ⟨_, rfl, ?_⟩; have n0_ := Aside0.mk (below_step (by repeat (first | (with_reducible first | exact HB.out | apply below_alloc | apply pw_below_drewN | apply below_drew1) | exact HB.out)) hb); clear HB; have HB := n0_; clear n0_; (try clear hb); (try clear hb2); (try clear hk); (try clear hi)))
   go_ret
   exact ⟨by first | rfl | (simp [errW_none, errW_some] <;> rfl) | (simp [*, errW_none, errW_some] <;> rfl), by repeat (first | (with_reducible first | exact HB.out | apply below_alloc | apply pw_below_drewN | apply below_drew1) | exact HB.out)⟩
  ·
   rw [if_neg c5] at H
   have c5b0 : decide (150 < (l0.length : Int)) = false := decide_eq_false c5
   have c5b1 : decide (150 < l0.length) = false := decide_eq_false (by omega)
   clear c5
   have H' := Aside0.mk H
   clear H
   go_enter Try.func4, Try.ntmps4
   go_wp2_with (first | ((with_reducible refine gate_callee (f := 7) rfl ?_); refine goesL_ (some 14) rfl rfl Try.func7 (by kernel_rfl) rfl #[] rfl (by (try simp only [List.map_toArray, List.map_cons, List.map_nil]); first | done | rfl | (simp only [List.length_drop, List.length_take]; rfl)) ?_; (with_reducible refine (warpbeamlaw18_alive.calls  true _ A3.out).mono ?_); rintro e w7 ⟨rfl, hb⟩; refine ⟨_, rfl, ?_⟩; have n0_ := Aside0.mk (below_step (by repeat (first | (with_reducible first | exact HB.out | apply below_alloc | apply pw_below_drewN | apply below_drew1) | exact HB.out)) hb); clear HB; have HB := n0_; clear n0_; (try clear hb); (try clear hb2); (try clear hk); (try clear hi)) | ((with_reducible refine gate_dst (N := 5) rfl ?_); refine box_event ?hg (N := 5) ?hd (cs := #[.slice none 0 0, .slice none 0 0]) (t := 27) ?hr ?_; (case hd => rfl); (case hg => rfl); (case hr => first | (go_simp; done) | (go_simp; rfl)); intro gb196 hg w8 hbox hb; have n0_ := Aside0.mk (below_step (by repeat (first | (with_reducible first | exact HB.out | apply below_alloc | apply pw_below_drewN | apply below_drew1) | exact HB.out)) hb); have n1_ := Aside0.mk (hbox); have n2_ := Aside0.mk ((by rw [hg]; exact (below_size (by repeat (first | (with_reducible first | exact HB.out | apply below_alloc | apply pw_below_drewN | apply below_drew1) | exact HB.out))) : w.heap.size ≤ gb196)); have n3_ := Aside0.mk ((by rw [hg]; exact (below_size (by repeat (first | (with_reducible first | exact HB.out | apply below_alloc | apply pw_below_drewN | apply below_drew1) | exact HB.out))) : w.heap.size ≤ gb196)); clear HB; have HB := n0_; have BK196 := n1_; have GW196 := n2_; have GE196 := n3_; clear n0_ n1_ n2_ n3_; clear hb hbox hg; have hcz9_0 : w8.cell? ⟨gb196, 0, none⟩ = some (.slice none 0 0) := (blk_cell BK196.out 0).trans rfl; have hcz9_1 : w8.cell? ⟨gb196, 1, none⟩ = some (.slice none 0 0) := (blk_cell BK196.out 1).trans rfl; have hfz9_0 := blk_frozen BK196.out 0; have hfz9_1 := blk_frozen BK196.out 1))
   go_loopg [22] k (fun kq v22 w' => ∃ (x22_1 : Int) (x197000_1 : List (S43)) (x197001_1 : List Int) (u197000 : Value) (u197001 : Value), v22 = .int .i64 x22_1 ∧ Aside0 (warpbeamlaw18_ChoiceWakes.l0 kq a1 l0 (l0.length : Int) x22_1 x197000_1 x197001_1 = some r) ∧ Aside0 (kq ≤ k) ∧ Aside0 (Kd.V k43 43 w' w.heap.size (fun k_ => k_ ≠ gb196) u197000 x197000_1) ∧ Aside0 (Kd.V (Kd.int .i64) 3 w' w.heap.size (fun k_ => k_ ≠ gb196) u197001 x197001_1) ∧ Aside0 (w'.heap[gb196]? = some (.cells #[u197000, u197001] 27 (0, 0))) ∧ Aside0 (Below w.heap.size w w'))
   case atStart => exact ⟨(0), (([] : List (S43))), (([] : List Int)), (.slice none 0 0), (.slice none 0 0), (by first | rfl | (simp; done) | (simp [*]; done)), H', ⟨Nat.le_refl _⟩, ⟨Kd.V_nil _ _ _ _ _⟩, ⟨Kd.V_nil _ _ _ _ _⟩, ⟨by (with_reducible repeat (first | refine blk_drewN ?_ _ | refine blk_drew ?_ | refine blk_alloc ?_ _)); refine blk_put (cs := #[.slice none 0 0, .slice none 0 0]) ?_ 1 _ rfl; (with_reducible repeat (first | refine blk_drewN ?_ _ | refine blk_drew ?_ | refine blk_alloc ?_ _)); refine blk_put (cs := #[.slice none 0 0, .slice none 0 0]) ?_ 0 _ rfl; (with_reducible repeat (first | refine blk_drewN ?_ _ | refine blk_drew ?_ | refine blk_alloc ?_ _)); exact BK196.out⟩, ⟨by repeat (first | (with_reducible first | exact HB.out | apply below_alloc | apply pw_below_drewN | apply below_drew1 | refine below_set ?_ GE196.out) | exact HB.out)⟩⟩
   case round =>
    clear H'
    try clear p2
    try clear c4
    try clear c5
    try clear c5b0
    try clear c5b1
    try clear c7
    try clear hcz9_0
    try clear hcz9_1
    try clear hfz9_0
    try clear hfz9_1
    obtain ⟨x22_1, x197000_1, x197001_1, u197000, u197001, rfl, HA, HK1, HO_197000, HO_197001, BK196, HB⟩ := hrel
    cases gk with
    | zero => exact absurd HA.out (by simp [warpbeamlaw18_ChoiceWakes.l0])
    | succ k1 =>
     have H := HA.out
     clear HA
     simp only [warpbeamlaw18_ChoiceWakes.l0] at H
     by_cases c10 : x22_1 < (l0.length : Int)
     ·
      rw [if_pos c10] at H
      have c10b0 : decide (x22_1 < (l0.length : Int)) = true := decide_eq_true c10
      clear c10
      by_cases c11 : 0 ≤ x22_1
      ·
       rw [if_pos c11] at H
       have c11b0 : decide (0 ≤ x22_1) = true := decide_eq_true c11
       clear c11
       by_cases c12 : x22_1 < (l0.length : Int)
       ·
        rw [if_pos c12] at H
        have c12b0 : decide (x22_1 < (l0.length : Int)) = true := decide_eq_true c12
        clear c12
        replace H := Option.bind_eq_some_iff.mp H
        obtain ⟨⟨t199, t202, t205⟩, A130, H⟩ := H
        replace H : (warpbeamlaw18_ChoiceWakes.l0 k1 a1 l0 (l0.length : Int) (wrap64 (x22_1 + 1)) t199 t202) = some r := H
        have A13 := Aside0.mk A130
        clear A130
        have H' := Aside0.mk H
        clear H
        have p197 : 0 ≤ (x22_1 : Int) := of_decide_eq_true (by first | (with_reducible assumption) | assumption)
        have q197 : x22_1 < (l0.length : Int) := of_decide_eq_true (by first | (with_reducible assumption) | assumption)
        obtain ⟨ad197, e197, hx197_0, hx197_1⟩ := at_T37 HR0.out x22_1 p197 q197
        cases e197
        replace hx197_0 := (HB.out.cell (World.block_lt_of_cell? w _ hx197_0)).trans hx197_0
        replace hx197_1 := (HB.out.cell (World.block_lt_of_cell? w _ hx197_1)).trans hx197_1
        replace p197 := eq_true p197
        replace q197 := eq_true q197
        go_wp2_with (first | ((with_reducible refine gate_dst (N := 7) rfl ?_); refine box_event ?hg (N := 7) ?hd (cs := #[.int .i64 0, .int .u64 0]) (t := 37) ?hr ?_; (case hd => rfl); (case hg => rfl); (case hr => first | (go_simp; done) | (go_simp; rfl)); intro gb198 hg w14 hbox hb; have n0_ := Aside0.mk (Kd.V_below (Kd.V_elderB (by (with_reducible repeat (first | apply Kd.V_alloc | apply Kd.V_drewN | apply Kd.V_drew)); exact HO_197000.out) gb198 (Nat.le_of_eq hg.symm)) hb); have n1_ := Aside0.mk (Kd.V_below (Kd.V_elderB (by (with_reducible repeat (first | apply Kd.V_alloc | apply Kd.V_drewN | apply Kd.V_drew)); exact HO_197001.out) gb198 (Nat.le_of_eq hg.symm)) hb); have n2_ := Aside0.mk (blk_below (g := gb196) (o := .cells #[u197000, u197001] 27 (0, 0)) (by (with_reducible repeat (first | refine blk_drewN ?_ _ | refine blk_drew ?_ | refine blk_alloc ?_ _)); exact BK196.out) hb); have n3_ := Aside0.mk (below_step (by repeat (first | (with_reducible first | exact HB.out | apply below_alloc | apply pw_below_drewN | apply below_drew1 | refine below_set ?_ GE196.out) | exact HB.out)) hb); have n4_ := Aside0.mk (hbox); have n5_ := Aside0.mk ((by rw [hg]; exact (below_size (by repeat (first | (with_reducible first | exact HB.out | apply below_alloc | apply pw_below_drewN | apply below_drew1 | refine below_set ?_ GE196.out) | exact HB.out))) : w.heap.size ≤ gb198)); have n6_ := Aside0.mk ((by rw [hg]; exact (below_size (by repeat (first | (with_reducible first | exact HB.out | apply below_alloc | apply pw_below_drewN | apply below_drew1 | refine below_set ?_ GE196.out) | exact HB.out))) : w.heap.size ≤ gb198)); have n7_ := Aside0.mk ((by rw [hg]; exact Nat.ne_of_lt (blk_lt (g := gb196) (o := .cells #[u197000, u197001] 27 (0, 0)) (by (with_reducible repeat (first | refine blk_drewN ?_ _ | refine blk_drew ?_ | refine blk_alloc ?_ _)); exact BK196.out)) : gb196 ≠ gb198)); have n8_ := Aside0.mk ((by rw [hg]; exact Nat.ne_of_gt (blk_lt (g := gb196) (o := .cells #[u197000, u197001] 27 (0, 0)) (by (with_reducible repeat (first | refine blk_drewN ?_ _ | refine blk_drew ?_ | refine blk_alloc ?_ _)); exact BK196.out)) : gb198 ≠ gb196)); clear HO_197000; clear HO_197001; clear BK196; clear HB; have HO_197000 := n0_; have HO_197001 := n1_; have BK196 := n2_; have HB := n3_; have BK198 := n4_; have GW198 := n5_; have GE198 := n6_; have NB196_198 := n7_; have NB198_196 := n8_; clear n0_ n1_ n2_ n3_ n4_ n5_ n6_ n7_ n8_; clear hb hbox hg; have hnb15 := NB198_196.out; have hnc15 := NB196_198.out; have hcz16_0 : w14.cell? ⟨gb198, 0, none⟩ = some (.int .i64 0) := (blk_cell BK198.out 0).trans rfl; have hcz16_1 : w14.cell? ⟨gb198, 1, none⟩ = some (.int .u64 0) := (blk_cell BK198.out 1).trans rfl; have hfz16_0 := blk_frozen BK198.out 0; have hfz16_1 := blk_frozen BK198.out 1) | ((with_reducible refine gate_store (t := 37) (p := 7) rfl ?_); refine store_event (t := 37) (p := 7) (v := ?vo_w17) (w1 := ((w14.setCell ⟨gb198, 0, none⟩ (.int .i64 ((rd_T37 l0 x22_1).f0))).setCell ⟨gb198, 1, none⟩ (.int .u64 ((rd_T37 l0 x22_1).f1)))) ?hg ?ho ?hn ?hr ?_; (case ho => rfl); (case hg => rfl); (case hn => rfl); (case hr => first | (go_simp; done) | (go_simp; rfl)); intro w17 hw; have n0_ : Aside0 (Kd.V k43 43 w17 w.heap.size (fun k_ => k_ ≠ gb196 ∧ k_ ≠ gb198) u197000 x197000_1) := ⟨(by rw [hw]; exact (by (with_reducible repeat (first | apply Kd.V_alloc | apply Kd.V_drewN | apply Kd.V_drew)); exact Kd.V_mono (Kd.V_far (p := ⟨gb198, 1, none⟩) (Kd.V_far (p := ⟨gb198, 0, none⟩) (Kd.V_mono HO_197000.out (fun k_ hk => (⟨hk, hk.2⟩ : _ ∧ k_ ≠ gb198))) (fun _ hk => hk.2) (.int .i64 ((rd_T37 l0 x22_1).f0))) (fun _ hk => hk.2) (.int .u64 ((rd_T37 l0 x22_1).f1))) (fun _ hk => ⟨hk.1.1, hk.1.2⟩)))⟩; have n1_ : Aside0 (Kd.V (Kd.int .i64) 3 w17 w.heap.size (fun k_ => k_ ≠ gb196 ∧ k_ ≠ gb198) u197001 x197001_1) := ⟨(by rw [hw]; exact (by (with_reducible repeat (first | apply Kd.V_alloc | apply Kd.V_drewN | apply Kd.V_drew)); exact Kd.V_mono (Kd.V_far (p := ⟨gb198, 1, none⟩) (Kd.V_far (p := ⟨gb198, 0, none⟩) (Kd.V_mono HO_197001.out (fun k_ hk => (⟨hk, hk.2⟩ : _ ∧ k_ ≠ gb198))) (fun _ hk => hk.2) (.int .i64 ((rd_T37 l0 x22_1).f0))) (fun _ hk => hk.2) (.int .u64 ((rd_T37 l0 x22_1).f1))) (fun _ hk => ⟨hk.1.1, hk.1.2⟩)))⟩; have n2_ : Aside0 (w17.heap[gb196]? = some (.cells #[u197000, u197001] 27 (0, 0))) := ⟨(by rw [hw]; exact (by (with_reducible repeat (first | refine blk_drewN ?_ _ | refine blk_drew ?_ | refine blk_alloc ?_ _)); refine blk_far ?_ NB196_198.out _; (with_reducible repeat (first | refine blk_drewN ?_ _ | refine blk_drew ?_ | refine blk_alloc ?_ _)); refine blk_far ?_ NB196_198.out _; (with_reducible repeat (first | refine blk_drewN ?_ _ | refine blk_drew ?_ | refine blk_alloc ?_ _)); exact BK196.out))⟩; have n3_ : Aside0 (w17.heap[gb198]? = some (.cells #[.int .i64 ((rd_T37 l0 x22_1).f0), .int .u64 ((rd_T37 l0 x22_1).f1)] 37 (0, 0))) := ⟨(by rw [hw]; exact (by (with_reducible repeat (first | refine blk_drewN ?_ _ | refine blk_drew ?_ | refine blk_alloc ?_ _)); refine blk_put (cs := #[.int .i64 ((rd_T37 l0 x22_1).f0), .int .u64 0]) ?_ 1 _ rfl; (with_reducible repeat (first | refine blk_drewN ?_ _ | refine blk_drew ?_ | refine blk_alloc ?_ _)); refine blk_put (cs := #[.int .i64 0, .int .u64 0]) ?_ 0 _ rfl; (with_reducible repeat (first | refine blk_drewN ?_ _ | refine blk_drew ?_ | refine blk_alloc ?_ _)); exact BK198.out))⟩; have n4_ : Aside0 (Below w.heap.size w w17) := ⟨(by rw [hw]; exact (by repeat (first | (with_reducible first | exact HB.out | apply below_alloc | apply pw_below_drewN | apply below_drew1 | refine below_set ?_ GE196.out | refine below_set ?_ GE198.out) | exact HB.out)))⟩; clear hw; clear HO_197000; clear HO_197001; clear BK196; clear BK198; clear HB; have HO_197000 := n0_; have HO_197001 := n1_; have BK196 := n2_; have BK198 := n3_; have HB := n4_; clear n0_ n1_ n2_ n3_ n4_; have hcz18_0 : w17.cell? ⟨gb196, 0, none⟩ = some (u197000) := (blk_cell BK196.out 0).trans rfl; have hcz18_1 : w17.cell? ⟨gb196, 1, none⟩ = some (u197001) := (blk_cell BK196.out 1).trans rfl; have hfz18_0 := blk_frozen BK196.out 0; have hfz18_1 := blk_frozen BK196.out 1; have hcz19_0 : w17.cell? ⟨gb198, 0, none⟩ = some (.int .i64 ((rd_T37 l0 x22_1).f0)) := (blk_cell BK198.out 0).trans rfl; have hcz19_1 : w17.cell? ⟨gb198, 1, none⟩ = some (.int .u64 ((rd_T37 l0 x22_1).f1)) := (blk_cell BK198.out 1).trans rfl; have hfz19_0 := blk_frozen BK198.out 0; have hfz19_1 := blk_frozen BK198.out 1; obtain ⟨Ao20, co20, eo20⟩ := Kd.V_slice HO_197000.out; subst eo20; obtain ⟨Ao21, co21, eo21⟩ := Kd.V_slice HO_197001.out; subst eo21) | ((with_reducible refine gate_callee (f := 12) rfl ?_); refine goesL_ (some 32) rfl rfl Try.func12 (by kernel_rfl) rfl #[.agg #[.slice Ao20 x197000_1.length co20, .slice Ao21 x197001_1.length co21], .int .i64 ((rd_T37 l0 x22_1).f0), .int .u64 ((rd_T37 l0 x22_1).f1)] rfl (by (try simp only [List.map_toArray, List.map_cons, List.map_nil]); first | done | rfl | (simp only [List.length_drop, List.length_take]; rfl)) ?_; (with_reducible refine (choice_Park.calls (fun k_ => (k_ ≠ gb196 ∧ k_ ≠ gb198)) _ _ x197000_1 (fun k_ => (k_ ≠ gb196 ∧ k_ ≠ gb198)) _ _ x197001_1 ((rd_T37 l0 x22_1).f0) ((rd_T37 l0 x22_1).f1) t199 t202 t205 _ ?side1 ?side2 A13.out).mono ?_); (case side1 => exact HO_197000.out); (case side2 => exact HO_197001.out); rintro e w22 ⟨v200, v203, rfl, ho0, ho1, hb⟩; refine ⟨_, rfl, ?_⟩; have n0_ := Aside0.mk (Kd.V_below (by (with_reducible repeat (first | apply Kd.V_alloc | apply Kd.V_drewN | apply Kd.V_drew)); exact HO_197000.out) hb); have n1_ := Aside0.mk (Kd.V_below (by (with_reducible repeat (first | apply Kd.V_alloc | apply Kd.V_drewN | apply Kd.V_drew)); exact HO_197001.out) hb); have n2_ := Aside0.mk (Kd.V_lower (Kd.V_mono (ok' := fun k_ => k_ ≠ gb196 ∧ k_ ≠ gb198) ho0 (fun k_ hk_ => ⟨Or.elim hk_ (fun hs_ => Or.elim hs_ (fun hs_ => hs_.1) (fun hs_ => hs_.1)) (fun hn_ => (Kd.freshB (g := gb196) (o := .cells #[.slice Ao20 x197000_1.length co20, .slice Ao21 x197001_1.length co21] 27 (0, 0)) (by (with_reducible repeat (first | refine blk_drewN ?_ _ | refine blk_drew ?_ | refine blk_alloc ?_ _)); exact BK196.out) k_ hn_)), Or.elim hk_ (fun hs_ => Or.elim hs_ (fun hs_ => hs_.2) (fun hs_ => hs_.2)) (fun hn_ => (Kd.freshB (g := gb198) (o := .cells #[.int .i64 ((rd_T37 l0 x22_1).f0), .int .u64 ((rd_T37 l0 x22_1).f1)] 37 (0, 0)) (by (with_reducible repeat (first | refine blk_drewN ?_ _ | refine blk_drew ?_ | refine blk_alloc ?_ _)); exact BK198.out) k_ hn_))⟩)) (below_size (by repeat (first | (with_reducible first | exact HB.out | apply below_alloc | apply pw_below_drewN | apply below_drew1 | refine below_set ?_ GE196.out | refine below_set ?_ GE198.out) | exact HB.out)))); have n3_ := Aside0.mk (Kd.V_lower (Kd.V_mono (ok' := fun k_ => k_ ≠ gb196 ∧ k_ ≠ gb198) ho1 (fun k_ hk_ => ⟨Or.elim hk_ (fun hs_ => Or.elim hs_ (fun hs_ => hs_.1) (fun hs_ => hs_.1)) (fun hn_ => (Kd.freshB (g := gb196) (o := .cells #[.slice Ao20 x197000_1.length co20, .slice Ao21 x197001_1.length co21] 27 (0, 0)) (by (with_reducible repeat (first | refine blk_drewN ?_ _ | refine blk_drew ?_ | refine blk_alloc ?_ _)); exact BK196.out) k_ hn_)), Or.elim hk_ (fun hs_ => Or.elim hs_ (fun hs_ => hs_.2) (fun hs_ => hs_.2)) (fun hn_ => (Kd.freshB (g := gb198) (o := .cells #[.int .i64 ((rd_T37 l0 x22_1).f0), .int .u64 ((rd_T37 l0 x22_1).f1)] 37 (0, 0)) (by (with_reducible repeat (first | refine blk_drewN ?_ _ | refine blk_drew ?_ | refine blk_alloc ?_ _)); exact BK198.out) k_ hn_))⟩)) (below_size (by repeat (first | (with_reducible first | exact HB.out | apply below_alloc | apply pw_below_drewN | apply below_drew1 | refine below_set ?_ GE196.out | refine below_set ?_ GE198.out) | exact HB.out)))); have n4_ := Aside0.mk (blk_below (g := gb196) (o := .cells #[.slice Ao20 x197000_1.length co20, .slice Ao21 x197001_1.length co21] 27 (0, 0)) (by (with_reducible repeat (first | refine blk_drewN ?_ _ | refine blk_drew ?_ | refine blk_alloc ?_ _)); exact BK196.out) hb); have n5_ := Aside0.mk (blk_below (g := gb198) (o := .cells #[.int .i64 ((rd_T37 l0 x22_1).f0), .int .u64 ((rd_T37 l0 x22_1).f1)] 37 (0, 0)) (by (with_reducible repeat (first | refine blk_drewN ?_ _ | refine blk_drew ?_ | refine blk_alloc ?_ _)); exact BK198.out) hb); have n6_ := Aside0.mk (below_step (by repeat (first | (with_reducible first | exact HB.out | apply below_alloc | apply pw_below_drewN | apply below_drew1 | refine below_set ?_ GE196.out | refine below_set ?_ GE198.out) | exact HB.out)) hb); clear HO_197000; clear HO_197001; clear BK196; clear BK198; clear HB; have HO_197000 := n0_; have HO_197001 := n1_; have HO201 := n2_; have HO204 := n3_; have BK196 := n4_; have BK198 := n5_; have HB := n6_; clear n0_ n1_ n2_ n3_ n4_ n5_ n6_; (try clear hb); (try clear hb2); (try clear hk); (try clear hi); (try clear ho0); (try clear ho1); obtain ⟨Ao23, co23, eo23⟩ := Kd.V_slice HO201.out; subst eo23; have hcz24_0 : w22.cell? ⟨gb196, 0, none⟩ = some (.slice Ao20 x197000_1.length co20) := (blk_cell BK196.out 0).trans rfl; have hcz24_1 : w22.cell? ⟨gb196, 1, none⟩ = some (.slice Ao21 x197001_1.length co21) := (blk_cell BK196.out 1).trans rfl; have hfz24_0 := blk_frozen BK196.out 0; have hfz24_1 := blk_frozen BK196.out 1; obtain ⟨Ao25, co25, eo25⟩ := Kd.V_slice HO204.out; subst eo25))
        go_roundg k1
        case measure => have := HK1.out; omega
        case rel => exact ⟨(wrap64 (x22_1 + 1)), (t199), (t202), (.slice Ao23 t199.length co23), (.slice Ao25 t202.length co25), (by first | rfl | (simp; done) | (simp [*]; done)), H', ⟨by have := HK1.out; omega⟩, ⟨by (with_reducible repeat (first | apply Kd.V_alloc | apply Kd.V_drewN | apply Kd.V_drew)); exact Kd.V_mono (Kd.V_far (p := ⟨gb196, 1, none⟩) (Kd.V_far (p := ⟨gb196, 0, none⟩) (Kd.V_mono HO201.out (fun k_ hk => (⟨hk, hk.1⟩ : _ ∧ k_ ≠ gb196))) (fun _ hk => hk.2) (.slice Ao23 t199.length co23)) (fun _ hk => hk.2) (.slice Ao25 t202.length co25)) (fun _ hk => hk.1.1)⟩, ⟨by (with_reducible repeat (first | apply Kd.V_alloc | apply Kd.V_drewN | apply Kd.V_drew)); exact Kd.V_mono (Kd.V_far (p := ⟨gb196, 1, none⟩) (Kd.V_far (p := ⟨gb196, 0, none⟩) (Kd.V_mono HO204.out (fun k_ hk => (⟨hk, hk.1⟩ : _ ∧ k_ ≠ gb196))) (fun _ hk => hk.2) (.slice Ao23 t199.length co23)) (fun _ hk => hk.2) (.slice Ao25 t202.length co25)) (fun _ hk => hk.1.1)⟩, ⟨by (with_reducible repeat (first | refine blk_drewN ?_ _ | refine blk_drew ?_ | refine blk_alloc ?_ _)); refine blk_put (cs := #[.slice Ao23 t199.length co23, .slice Ao21 x197001_1.length co21]) ?_ 1 _ rfl; (with_reducible repeat (first | refine blk_drewN ?_ _ | refine blk_drew ?_ | refine blk_alloc ?_ _)); refine blk_put (cs := #[.slice Ao20 x197000_1.length co20, .slice Ao21 x197001_1.length co21]) ?_ 0 _ rfl; (with_reducible repeat (first | refine blk_drewN ?_ _ | refine blk_drew ?_ | refine blk_alloc ?_ _)); exact BK196.out⟩, ⟨by repeat (first | (with_reducible first | exact HB.out | apply below_alloc | apply pw_below_drewN | apply below_drew1 | refine below_set ?_ GE196.out | refine below_set ?_ GE198.out) | exact HB.out)⟩⟩
       ·
        rw [if_neg c12] at H
        exact absurd H (by simp)
      ·
       rw [if_neg c11] at H
       exact absurd H (by simp)
     ·
      rw [if_neg c10] at H
      have c10b0 : decide (x22_1 < (l0.length : Int)) = false := decide_eq_false c10
      clear c10
      replace H := Option.bind_eq_some_iff.mp H
      obtain ⟨⟨t206, t209, t212⟩, A260, H⟩ := H
      replace H : (if (wrap64 ((t212.length : Int) + (t206.length : Int))) = (x197000_1.length : Int) then (warpbeamlaw18_ChoiceWakes.l1 k1 a1 t212 0 0 x197000_1 (x197000_1.length : Int) 0 t206 t209) else (some false)) = some r := H
      have A26 := Aside0.mk A260
      clear A260
      by_cases c27 : (wrap64 ((t212.length : Int) + (t206.length : Int))) = (x197000_1.length : Int)
      ·
       rw [if_pos c27] at H
       have c27b0 : ((wrap64 ((t212.length : Int) + (t206.length : Int))) == (x197000_1.length : Int)) = true := beq_iff_eq.mpr c27
       have c27b1 : ((wrap64 ((t212.length : Int) + (t206.length : Int))) != (x197000_1.length : Int)) = false := bne_eq_false_iff_eq.mpr c27
       clear c27
       have H' := Aside0.mk H
       clear H
       have hcz28_0 : wr.cell? ⟨gb196, 0, none⟩ = some (u197000) := (blk_cell BK196.out 0).trans rfl
       have hcz28_1 : wr.cell? ⟨gb196, 1, none⟩ = some (u197001) := (blk_cell BK196.out 1).trans rfl
       have hfz28_0 := blk_frozen BK196.out 0
       have hfz28_1 := blk_frozen BK196.out 1
       obtain ⟨Ao29, co29, eo29⟩ := Kd.V_slice HO_197000.out
       subst eo29
       obtain ⟨Ao30, co30, eo30⟩ := Kd.V_slice HO_197001.out
       subst eo30
       go_wp2_with (first | ((with_reducible refine gate_callee (f := 13) rfl ?_); refine goesL_ (some 39) rfl rfl Try.func13 (by kernel_rfl) rfl #[.agg #[.slice Ao29 x197000_1.length co29, .slice Ao30 x197001_1.length co30], .int .u64 a1] rfl (by (try simp only [List.map_toArray, List.map_cons, List.map_nil]); first | done | rfl | (simp only [List.length_drop, List.length_take]; rfl)) ?_; (with_reducible refine (choice_Wake.calls (fun k_ => k_ ≠ gb196) _ _ x197000_1 (fun k_ => k_ ≠ gb196) _ _ x197001_1 a1 t206 t209 t212 _ ?side1 ?side2 A26.out).mono ?_); (case side1 => exact HO_197000.out); (case side2 => exact HO_197001.out); rintro e w31 ⟨v207, v210, v213, rfl, ho0, ho1, ho2, hb⟩; refine ⟨_, rfl, ?_⟩; have n0_ := Aside0.mk (Kd.V_below (by (with_reducible repeat (first | apply Kd.V_alloc | apply Kd.V_drewN | apply Kd.V_drew)); exact HO_197000.out) hb); have n1_ := Aside0.mk (Kd.V_below (by (with_reducible repeat (first | apply Kd.V_alloc | apply Kd.V_drewN | apply Kd.V_drew)); exact HO_197001.out) hb); have n2_ := Aside0.mk (Kd.V_lower (Kd.V_mono (ok' := fun k_ => k_ ≠ gb196) ho0 (fun k_ hk_ => Or.elim hk_ (fun hs_ => Or.elim hs_ (fun hs_ => hs_) (fun hs_ => hs_)) (fun hn_ => (Kd.freshB (g := gb196) (o := .cells #[.slice Ao29 x197000_1.length co29, .slice Ao30 x197001_1.length co30] 27 (0, 0)) (by (with_reducible repeat (first | refine blk_drewN ?_ _ | refine blk_drew ?_ | refine blk_alloc ?_ _)); exact BK196.out) k_ hn_)))) (below_size (by repeat (first | (with_reducible first | exact HB.out | apply below_alloc | apply pw_below_drewN | apply below_drew1 | refine below_set ?_ GE196.out) | exact HB.out)))); have n3_ := Aside0.mk (Kd.V_lower (Kd.V_mono (ok' := fun k_ => k_ ≠ gb196) ho1 (fun k_ hk_ => Or.elim hk_ (fun hs_ => Or.elim hs_ (fun hs_ => hs_) (fun hs_ => hs_)) (fun hn_ => (Kd.freshB (g := gb196) (o := .cells #[.slice Ao29 x197000_1.length co29, .slice Ao30 x197001_1.length co30] 27 (0, 0)) (by (with_reducible repeat (first | refine blk_drewN ?_ _ | refine blk_drew ?_ | refine blk_alloc ?_ _)); exact BK196.out) k_ hn_)))) (below_size (by repeat (first | (with_reducible first | exact HB.out | apply below_alloc | apply pw_below_drewN | apply below_drew1 | refine below_set ?_ GE196.out) | exact HB.out)))); have n4_ := Aside0.mk (Kd.V_lower (Kd.V_mono (ok' := fun k_ => k_ ≠ gb196) ho2 (fun k_ hk_ => Or.elim hk_ (fun hs_ => Or.elim hs_ (fun hs_ => hs_) (fun hs_ => hs_)) (fun hn_ => (Kd.freshB (g := gb196) (o := .cells #[.slice Ao29 x197000_1.length co29, .slice Ao30 x197001_1.length co30] 27 (0, 0)) (by (with_reducible repeat (first | refine blk_drewN ?_ _ | refine blk_drew ?_ | refine blk_alloc ?_ _)); exact BK196.out) k_ hn_)))) (below_size (by repeat (first | (with_reducible first | exact HB.out | apply below_alloc | apply pw_below_drewN | apply below_drew1 | refine below_set ?_ GE196.out) | exact HB.out)))); have n5_ := Aside0.mk (blk_below (g := gb196) (o := .cells #[.slice Ao29 x197000_1.length co29, .slice Ao30 x197001_1.length co30] 27 (0, 0)) (by (with_reducible repeat (first | refine blk_drewN ?_ _ | refine blk_drew ?_ | refine blk_alloc ?_ _)); exact BK196.out) hb); have n6_ := Aside0.mk (below_step (by repeat (first | (with_reducible first | exact HB.out | apply below_alloc | apply pw_below_drewN | apply below_drew1 | refine below_set ?_ GE196.out) | exact HB.out)) hb); clear HO_197000; clear HO_197001; clear BK196; clear HB; have HO_197000 := n0_; have HO_197001 := n1_; have HO208 := n2_; have HO211 := n3_; have HO214 := n4_; have BK196 := n5_; have HB := n6_; clear n0_ n1_ n2_ n3_ n4_ n5_ n6_; (try clear hb); (try clear hb2); (try clear hk); (try clear hi); (try clear ho0); (try clear ho1); (try clear ho2)) | ((with_reducible refine gate_dst (N := 8) rfl ?_); refine box_event ?hg (N := 8) ?hd (cs := #[.slice none 0 0, .slice none 0 0]) (t := 27) ?hr ?_; (case hd => rfl); (case hg => rfl); (case hr => first | (go_simp; done) | (go_simp; rfl)); intro gb215 hg w32 hbox hb; have n0_ := Aside0.mk (Kd.V_below (Kd.V_elderB (by (with_reducible repeat (first | apply Kd.V_alloc | apply Kd.V_drewN | apply Kd.V_drew)); exact HO_197000.out) gb215 (Nat.le_of_eq hg.symm)) hb); have n1_ := Aside0.mk (Kd.V_below (Kd.V_elderB (by (with_reducible repeat (first | apply Kd.V_alloc | apply Kd.V_drewN | apply Kd.V_drew)); exact HO_197001.out) gb215 (Nat.le_of_eq hg.symm)) hb); have n2_ := Aside0.mk (Kd.V_below (Kd.V_elderB (by (with_reducible repeat (first | apply Kd.V_alloc | apply Kd.V_drewN | apply Kd.V_drew)); exact HO208.out) gb215 (Nat.le_of_eq hg.symm)) hb); have n3_ := Aside0.mk (Kd.V_below (Kd.V_elderB (by (with_reducible repeat (first | apply Kd.V_alloc | apply Kd.V_drewN | apply Kd.V_drew)); exact HO211.out) gb215 (Nat.le_of_eq hg.symm)) hb); have n4_ := Aside0.mk (Kd.V_below (Kd.V_elderB (by (with_reducible repeat (first | apply Kd.V_alloc | apply Kd.V_drewN | apply Kd.V_drew)); exact HO214.out) gb215 (Nat.le_of_eq hg.symm)) hb); have n5_ := Aside0.mk (blk_below (g := gb196) (o := .cells #[.slice Ao29 x197000_1.length co29, .slice Ao30 x197001_1.length co30] 27 (0, 0)) (by (with_reducible repeat (first | refine blk_drewN ?_ _ | refine blk_drew ?_ | refine blk_alloc ?_ _)); exact BK196.out) hb); have n6_ := Aside0.mk (below_step (by repeat (first | (with_reducible first | exact HB.out | apply below_alloc | apply pw_below_drewN | apply below_drew1 | refine below_set ?_ GE196.out) | exact HB.out)) hb); have n7_ := Aside0.mk (hbox); have n8_ := Aside0.mk ((by rw [hg]; exact (below_size (by repeat (first | (with_reducible first | exact HB.out | apply below_alloc | apply pw_below_drewN | apply below_drew1 | refine below_set ?_ GE196.out) | exact HB.out))) : w.heap.size ≤ gb215)); have n9_ := Aside0.mk ((by rw [hg]; exact (below_size (by repeat (first | (with_reducible first | exact HB.out | apply below_alloc | apply pw_below_drewN | apply below_drew1 | refine below_set ?_ GE196.out) | exact HB.out))) : w.heap.size ≤ gb215)); have n10_ := Aside0.mk ((by rw [hg]; exact Nat.ne_of_lt (blk_lt (g := gb196) (o := .cells #[.slice Ao29 x197000_1.length co29, .slice Ao30 x197001_1.length co30] 27 (0, 0)) (by (with_reducible repeat (first | refine blk_drewN ?_ _ | refine blk_drew ?_ | refine blk_alloc ?_ _)); exact BK196.out)) : gb196 ≠ gb215)); have n11_ := Aside0.mk ((by rw [hg]; exact Nat.ne_of_gt (blk_lt (g := gb196) (o := .cells #[.slice Ao29 x197000_1.length co29, .slice Ao30 x197001_1.length co30] 27 (0, 0)) (by (with_reducible repeat (first | refine blk_drewN ?_ _ | refine blk_drew ?_ | refine blk_alloc ?_ _)); exact BK196.out)) : gb215 ≠ gb196)); clear HO_197000; clear HO_197001; clear HO208; clear HO211; clear HO214; clear BK196; clear HB; have HO_197000 := n0_; have HO_197001 := n1_; have HO208 := n2_; have HO211 := n3_; have HO214 := n4_; have BK196 := n5_; have HB := n6_; have BK215 := n7_; have GW215 := n8_; have GE215 := n9_; have NB196_215 := n10_; have NB215_196 := n11_; clear n0_ n1_ n2_ n3_ n4_ n5_ n6_ n7_ n8_ n9_ n10_ n11_; clear hb hbox hg; obtain ⟨Ao33, co33, eo33⟩ := Kd.V_slice HO208.out; subst eo33; have hnb34 := NB215_196.out; have hnc34 := NB196_215.out; have hcz35_0 : w32.cell? ⟨gb215, 0, none⟩ = some (.slice none 0 0) := (blk_cell BK215.out 0).trans rfl; have hcz35_1 : w32.cell? ⟨gb215, 1, none⟩ = some (.slice none 0 0) := (blk_cell BK215.out 1).trans rfl; have hfz35_0 := blk_frozen BK215.out 0; have hfz35_1 := blk_frozen BK215.out 1; obtain ⟨Ao36, co36, eo36⟩ := Kd.V_slice HO211.out; subst eo36; obtain ⟨Ao37, co37, eo37⟩ := Kd.V_slice HO214.out; subst eo37; have hcz38_0 : w32.cell? ⟨gb196, 0, none⟩ = some (.slice Ao29 x197000_1.length co29) := (blk_cell BK196.out 0).trans rfl; have hcz38_1 : w32.cell? ⟨gb196, 1, none⟩ = some (.slice Ao30 x197001_1.length co30) := (blk_cell BK196.out 1).trans rfl; have hfz38_0 := blk_frozen BK196.out 0; have hfz38_1 := blk_frozen BK196.out 1))
       go_loopg [10, 11, 55] k1 (fun kq v10 v11 v55 w' => ∃ (x10_2 : Int) (x11_2 : Int) (x55_2 : Int), v10 = .int .i64 x10_2 ∧ v11 = .int .i64 x11_2 ∧ v55 = .int .i64 x55_2 ∧ Aside0 (warpbeamlaw18_ChoiceWakes.l1 kq a1 t212 x10_2 x11_2 x197000_1 (x197000_1.length : Int) x55_2 t206 t209 = some r) ∧ Aside0 (kq ≤ k1) ∧ Aside0 (Kd.V (Kd.int .i64) 3 w' w.heap.size (fun k_ => k_ ≠ gb196 ∧ k_ ≠ gb215) (.slice Ao37 t212.length co37) t212) ∧ Aside0 (Kd.V k43 43 w' w.heap.size (fun k_ => k_ ≠ gb196 ∧ k_ ≠ gb215) (.slice Ao29 x197000_1.length co29) x197000_1) ∧ Aside0 (Kd.V k43 43 w' w.heap.size (fun k_ => k_ ≠ gb196 ∧ k_ ≠ gb215) (.slice Ao29 x197000_1.length co29) x197000_1) ∧ Aside0 (Kd.V (Kd.int .i64) 3 w' w.heap.size (fun k_ => k_ ≠ gb196 ∧ k_ ≠ gb215) (.slice Ao30 x197001_1.length co30) x197001_1) ∧ Aside0 (Kd.V k43 43 w' w.heap.size (fun k_ => k_ ≠ gb196 ∧ k_ ≠ gb215) (.slice Ao33 t206.length co33) t206) ∧ Aside0 (Kd.V (Kd.int .i64) 3 w' w.heap.size (fun k_ => k_ ≠ gb196 ∧ k_ ≠ gb215) (.slice Ao36 t209.length co36) t209) ∧ Aside0 (w'.heap[gb196]? = some (.cells #[(.slice Ao29 x197000_1.length co29), (.slice Ao30 x197001_1.length co30)] 27 (0, 0))) ∧ Aside0 (w'.heap[gb215]? = some (.cells #[(.slice Ao33 t206.length co33), (.slice Ao36 t209.length co36)] 27 (0, 0))) ∧ Aside0 (Below w.heap.size w w'))
       case atStart => exact ⟨(0), (0), (0), (by first | rfl | (simp; done) | (simp [*]; done)), (by first | rfl | (simp; done) | (simp [*]; done)), (by first | rfl | (simp; done) | (simp [*]; done)), H', ⟨Nat.le_refl _⟩, ⟨by (with_reducible repeat (first | apply Kd.V_alloc | apply Kd.V_drewN | apply Kd.V_drew)); exact Kd.V_mono (Kd.V_far (p := ⟨gb215, 1, none⟩) (Kd.V_far (p := ⟨gb215, 0, none⟩) (Kd.V_mono HO214.out (fun k_ hk => (⟨hk, hk.2⟩ : _ ∧ k_ ≠ gb215))) (fun _ hk => hk.2) (.slice Ao33 t206.length co33)) (fun _ hk => hk.2) (.slice Ao36 t209.length co36)) (fun _ hk => ⟨hk.1.1, hk.1.2⟩)⟩, ⟨by (with_reducible repeat (first | apply Kd.V_alloc | apply Kd.V_drewN | apply Kd.V_drew)); exact Kd.V_mono (Kd.V_far (p := ⟨gb215, 1, none⟩) (Kd.V_far (p := ⟨gb215, 0, none⟩) (Kd.V_mono HO_197000.out (fun k_ hk => (⟨hk, hk.2⟩ : _ ∧ k_ ≠ gb215))) (fun _ hk => hk.2) (.slice Ao33 t206.length co33)) (fun _ hk => hk.2) (.slice Ao36 t209.length co36)) (fun _ hk => ⟨hk.1.1, hk.1.2⟩)⟩, ⟨by (with_reducible repeat (first | apply Kd.V_alloc | apply Kd.V_drewN | apply Kd.V_drew)); exact Kd.V_mono (Kd.V_far (p := ⟨gb215, 1, none⟩) (Kd.V_far (p := ⟨gb215, 0, none⟩) (Kd.V_mono HO_197000.out (fun k_ hk => (⟨hk, hk.2⟩ : _ ∧ k_ ≠ gb215))) (fun _ hk => hk.2) (.slice Ao33 t206.length co33)) (fun _ hk => hk.2) (.slice Ao36 t209.length co36)) (fun _ hk => ⟨hk.1.1, hk.1.2⟩)⟩, ⟨by (with_reducible repeat (first | apply Kd.V_alloc | apply Kd.V_drewN | apply Kd.V_drew)); exact Kd.V_mono (Kd.V_far (p := ⟨gb215, 1, none⟩) (Kd.V_far (p := ⟨gb215, 0, none⟩) (Kd.V_mono HO_197001.out (fun k_ hk => (⟨hk, hk.2⟩ : _ ∧ k_ ≠ gb215))) (fun _ hk => hk.2) (.slice Ao33 t206.length co33)) (fun _ hk => hk.2) (.slice Ao36 t209.length co36)) (fun _ hk => ⟨hk.1.1, hk.1.2⟩)⟩, ⟨by (with_reducible repeat (first | apply Kd.V_alloc | apply Kd.V_drewN | apply Kd.V_drew)); exact Kd.V_mono (Kd.V_far (p := ⟨gb215, 1, none⟩) (Kd.V_far (p := ⟨gb215, 0, none⟩) (Kd.V_mono HO208.out (fun k_ hk => (⟨hk, hk.2⟩ : _ ∧ k_ ≠ gb215))) (fun _ hk => hk.2) (.slice Ao33 t206.length co33)) (fun _ hk => hk.2) (.slice Ao36 t209.length co36)) (fun _ hk => ⟨hk.1.1, hk.1.2⟩)⟩, ⟨by (with_reducible repeat (first | apply Kd.V_alloc | apply Kd.V_drewN | apply Kd.V_drew)); exact Kd.V_mono (Kd.V_far (p := ⟨gb215, 1, none⟩) (Kd.V_far (p := ⟨gb215, 0, none⟩) (Kd.V_mono HO211.out (fun k_ hk => (⟨hk, hk.2⟩ : _ ∧ k_ ≠ gb215))) (fun _ hk => hk.2) (.slice Ao33 t206.length co33)) (fun _ hk => hk.2) (.slice Ao36 t209.length co36)) (fun _ hk => ⟨hk.1.1, hk.1.2⟩)⟩, ⟨by (with_reducible repeat (first | refine blk_drewN ?_ _ | refine blk_drew ?_ | refine blk_alloc ?_ _)); refine blk_far ?_ NB196_215.out _; (with_reducible repeat (first | refine blk_drewN ?_ _ | refine blk_drew ?_ | refine blk_alloc ?_ _)); refine blk_far ?_ NB196_215.out _; (with_reducible repeat (first | refine blk_drewN ?_ _ | refine blk_drew ?_ | refine blk_alloc ?_ _)); exact BK196.out⟩, ⟨by (with_reducible repeat (first | refine blk_drewN ?_ _ | refine blk_drew ?_ | refine blk_alloc ?_ _)); refine blk_put (cs := #[.slice Ao33 t206.length co33, .slice none 0 0]) ?_ 1 _ rfl; (with_reducible repeat (first | refine blk_drewN ?_ _ | refine blk_drew ?_ | refine blk_alloc ?_ _)); refine blk_put (cs := #[.slice none 0 0, .slice none 0 0]) ?_ 0 _ rfl; (with_reducible repeat (first | refine blk_drewN ?_ _ | refine blk_drew ?_ | refine blk_alloc ?_ _)); exact BK215.out⟩, ⟨by repeat (first | (with_reducible first | exact HB.out | apply below_alloc | apply pw_below_drewN | apply below_drew1 | refine below_set ?_ GE196.out | refine below_set ?_ GE215.out) | exact HB.out)⟩⟩
       case round =>
        clear H'
        try clear c1
        try clear p1
        try clear q1
        try clear hx1
        try clear c2
        try clear p2
        try clear c3
        try clear c4
        try clear c5
        try clear c5b0
        try clear c5b1
        try clear p6
        try clear c7
        try clear c10
        try clear c10b0
        try clear c11
        try clear c11b0
        try clear c12
        try clear c12b0
        try clear c13
        try clear c15
        try clear p19
        try clear q19
        try clear hx19
        try clear c27
        try clear c27b0
        try clear c27b1
        try clear c34
        try clear hcz16_0
        try clear hcz16_1
        try clear hcz18_0
        try clear hcz18_1
        try clear hcz19_0
        try clear hcz19_1
        try clear hcz24_0
        try clear hcz24_1
        try clear hcz28_0
        try clear hcz28_1
        try clear hcz35_0
        try clear hcz35_1
        try clear hcz38_0
        try clear hcz38_1
        try clear hcz9_0
        try clear hcz9_1
        try clear hfz16_0
        try clear hfz16_1
        try clear hfz18_0
        try clear hfz18_1
        try clear hfz19_0
        try clear hfz19_1
        try clear hfz24_0
        try clear hfz24_1
        try clear hfz28_0
        try clear hfz28_1
        try clear hfz35_0
        try clear hfz35_1
        try clear hfz38_0
        try clear hfz38_1
        try clear hfz9_0
        try clear hfz9_1
        try clear hx197_0
        try clear hx197_1
        try clear p197
        try clear p2
        try clear q197
        obtain ⟨x10_2, x11_2, x55_2, rfl, rfl, rfl, HA, HK2, HO_9, HO_53, HO_197000, HO_197001, HO_216000, HO_216001, BK196, BK215, HB⟩ := hrel
        cases gk with
        | zero => exact absurd HA.out (by simp [warpbeamlaw18_ChoiceWakes.l1])
        | succ k2 =>
         have H := HA.out
         clear HA
         simp only [warpbeamlaw18_ChoiceWakes.l1] at H
         by_cases c39 : x55_2 < (x197000_1.length : Int)
         ·
          rw [if_pos c39] at H
          have c39b0 : decide (x55_2 < (x197000_1.length : Int)) = true := decide_eq_true c39
          clear c39
          by_cases c40 : 0 ≤ x55_2
          ·
           rw [if_pos c40] at H
           have c40b0 : decide (0 ≤ x55_2) = true := decide_eq_true c40
           clear c40
           by_cases c41 : x55_2 < (x197000_1.length : Int)
           ·
            rw [if_pos c41] at H
            have c41b0 : decide (x55_2 < (x197000_1.length : Int)) = true := decide_eq_true c41
            clear c41
            by_cases c42 : (Go.bits .and .u64 ((rd_T43 x197000_1 x55_2).f1) a1) = 0
            ·
             rw [if_pos c42] at H
             have c42b0 : ((Go.bits .and .u64 ((rd_T43 x197000_1 x55_2).f1) a1) == 0) = true := beq_iff_eq.mpr c42
             have c42b1 : ((Go.bits .and .u64 ((rd_T43 x197000_1 x55_2).f1) a1) != 0) = false := bne_eq_false_iff_eq.mpr c42
             clear c42
             by_cases c43 : x11_2 ≥ (t206.length : Int)
             ·
              rw [if_pos c43] at H
              have c43b0 : decide ((t206.length : Int) ≤ x11_2) = true := decide_eq_true c43
              clear c43
              obtain rfl := Option.some.inj H
              have p216 : 0 ≤ (x55_2 : Int) := of_decide_eq_true (by first | (with_reducible assumption) | assumption)
              have q216 : x55_2 < (x197000_1.length : Int) := of_decide_eq_true (by first | (with_reducible assumption) | assumption)
              obtain ⟨ad216, e216, hx216_0, hx216_1⟩ := at_T43 (Kd.V_reads' HO_53.out).2.2 x55_2 p216 q216
              cases e216
              replace p216 := eq_true p216
              replace q216 := eq_true q216
              try go_wp2_with (first | ((with_reducible refine gate_dst (N := 13) rfl ?_); refine box_event ?hg (N := 13) ?hd (cs := #[.int .i64 0, .int .u64 0]) (t := 43) ?hr ?_; (case hd => rfl); (case hg => rfl); (case hr => first | (go_simp; done) | (go_simp; rfl)); intro gb217 hg w44 hbox hb; have n0_ := Aside0.mk (Kd.V_below (Kd.V_elderB (by (with_reducible repeat (first | apply Kd.V_alloc | apply Kd.V_drewN | apply Kd.V_drew)); exact HO_9.out) gb217 (Nat.le_of_eq hg.symm)) hb); have n1_ := Aside0.mk (Kd.V_below (Kd.V_elderB (by (with_reducible repeat (first | apply Kd.V_alloc | apply Kd.V_drewN | apply Kd.V_drew)); exact HO_53.out) gb217 (Nat.le_of_eq hg.symm)) hb); have n2_ := Aside0.mk (Kd.V_below (Kd.V_elderB (by (with_reducible repeat (first | apply Kd.V_alloc | apply Kd.V_drewN | apply Kd.V_drew)); exact HO_197000.out) gb217 (Nat.le_of_eq hg.symm)) hb); have n3_ := Aside0.mk (Kd.V_below (Kd.V_elderB (by (with_reducible repeat (first | apply Kd.V_alloc | apply Kd.V_drewN | apply Kd.V_drew)); exact HO_197001.out) gb217 (Nat.le_of_eq hg.symm)) hb); have n4_ := Aside0.mk (Kd.V_below (Kd.V_elderB (by (with_reducible repeat (first | apply Kd.V_alloc | apply Kd.V_drewN | apply Kd.V_drew)); exact HO_216000.out) gb217 (Nat.le_of_eq hg.symm)) hb); have n5_ := Aside0.mk (Kd.V_below (Kd.V_elderB (by (with_reducible repeat (first | apply Kd.V_alloc | apply Kd.V_drewN | apply Kd.V_drew)); exact HO_216001.out) gb217 (Nat.le_of_eq hg.symm)) hb); have n6_ := Aside0.mk (blk_below (g := gb196) (o := .cells #[.slice (some ad216) x197000_1.length co29, .slice Ao30 x197001_1.length co30] 27 (0, 0)) (by (with_reducible repeat (first | refine blk_drewN ?_ _ | refine blk_drew ?_ | refine blk_alloc ?_ _)); exact BK196.out) hb); have n7_ := Aside0.mk (blk_below (g := gb215) (o := .cells #[.slice Ao33 t206.length co33, .slice Ao36 t209.length co36] 27 (0, 0)) (by (with_reducible repeat (first | refine blk_drewN ?_ _ | refine blk_drew ?_ | refine blk_alloc ?_ _)); exact BK215.out) hb); have n8_ := Aside0.mk (below_step (by repeat (first | (with_reducible first | exact HB.out | apply below_alloc | apply pw_below_drewN | apply below_drew1 | refine below_set ?_ GE196.out | refine below_set ?_ GE215.out) | exact HB.out)) hb); have n9_ := Aside0.mk (hbox); have n10_ := Aside0.mk ((by rw [hg]; exact (below_size (by repeat (first | (with_reducible first | exact HB.out | apply below_alloc | apply pw_below_drewN | apply below_drew1 | refine below_set ?_ GE196.out | refine below_set ?_ GE215.out) | exact HB.out))) : w.heap.size ≤ gb217)); have n11_ := Aside0.mk ((by rw [hg]; exact (below_size (by repeat (first | (with_reducible first | exact HB.out | apply below_alloc | apply pw_below_drewN | apply below_drew1 | refine below_set ?_ GE196.out | refine below_set ?_ GE215.out) | exact HB.out))) : w.heap.size ≤ gb217)); have n12_ := Aside0.mk ((by rw [hg]; exact Nat.ne_of_lt (blk_lt (g := gb196) (o := .cells #[.slice (some ad216) x197000_1.length co29, .slice Ao30 x197001_1.length co30] 27 (0, 0)) (by (with_reducible repeat (first | refine blk_drewN ?_ _ | refine blk_drew ?_ | refine blk_alloc ?_ _)); exact BK196.out)) : gb196 ≠ gb217)); have n13_ := Aside0.mk ((by rw [hg]; exact Nat.ne_of_gt (blk_lt (g := gb196) (o := .cells #[.slice (some ad216) x197000_1.length co29, .slice Ao30 x197001_1.length co30] 27 (0, 0)) (by (with_reducible repeat (first | refine blk_drewN ?_ _ | refine blk_drew ?_ | refine blk_alloc ?_ _)); exact BK196.out)) : gb217 ≠ gb196)); have n14_ := Aside0.mk ((by rw [hg]; exact Nat.ne_of_lt (blk_lt (g := gb215) (o := .cells #[.slice Ao33 t206.length co33, .slice Ao36 t209.length co36] 27 (0, 0)) (by (with_reducible repeat (first | refine blk_drewN ?_ _ | refine blk_drew ?_ | refine blk_alloc ?_ _)); exact BK215.out)) : gb215 ≠ gb217)); have n15_ := Aside0.mk ((by rw [hg]; exact Nat.ne_of_gt (blk_lt (g := gb215) (o := .cells #[.slice Ao33 t206.length co33, .slice Ao36 t209.length co36] 27 (0, 0)) (by (with_reducible repeat (first | refine blk_drewN ?_ _ | refine blk_drew ?_ | refine blk_alloc ?_ _)); exact BK215.out)) : gb217 ≠ gb215)); clear HO_9; clear HO_53; clear HO_197000; clear HO_197001; clear HO_216000; clear HO_216001; clear BK196; clear BK215; clear HB; have HO_9 := n0_; have HO_53 := n1_; have HO_197000 := n2_; have HO_197001 := n3_; have HO_216000 := n4_; have HO_216001 := n5_; have BK196 := n6_; have BK215 := n7_; have HB := n8_; have BK217 := n9_; have GW217 := n10_; have GE217 := n11_; have NB196_217 := n12_; have NB217_196 := n13_; have NB215_217 := n14_; have NB217_215 := n15_; clear n0_ n1_ n2_ n3_ n4_ n5_ n6_ n7_ n8_ n9_ n10_ n11_ n12_ n13_ n14_ n15_; clear hb hbox hg; have hnb45 := NB217_196.out; have hnc45 := NB196_217.out; have hnb46 := NB217_215.out; have hnc46 := NB215_217.out; have hcz47_0 : w44.cell? ⟨gb217, 0, none⟩ = some (.int .i64 0) := (blk_cell BK217.out 0).trans rfl; have hcz47_1 : w44.cell? ⟨gb217, 1, none⟩ = some (.int .u64 0) := (blk_cell BK217.out 1).trans rfl; have hfz47_0 := blk_frozen BK217.out 0; have hfz47_1 := blk_frozen BK217.out 1))
              have n0_ : Aside0 (Kd.V (Kd.int .i64) 3 ((w44.setCell ⟨gb217, 0, none⟩ (.int .i64 ((rd_T43 x197000_1 x55_2).f0))).setCell ⟨gb217, 1, none⟩ (.int .u64 ((rd_T43 x197000_1 x55_2).f1))) w.heap.size (fun k_ => k_ ≠ gb196 ∧ k_ ≠ gb215 ∧ k_ ≠ gb217) (.slice Ao37 t212.length co37) t212) := ⟨by (with_reducible repeat (first | apply Kd.V_alloc | apply Kd.V_drewN | apply Kd.V_drew)); exact Kd.V_mono (Kd.V_far (p := ⟨gb217, 1, none⟩) (Kd.V_far (p := ⟨gb217, 0, none⟩) (Kd.V_mono HO_9.out (fun k_ hk => (⟨hk, hk.2⟩ : _ ∧ k_ ≠ gb217))) (fun _ hk => hk.2) (.int .i64 ((rd_T43 x197000_1 x55_2).f0))) (fun _ hk => hk.2) (.int .u64 ((rd_T43 x197000_1 x55_2).f1))) (fun _ hk => ⟨hk.1.1.1, ⟨hk.1.1.2, hk.1.2⟩⟩)⟩
              have n1_ : Aside0 (Kd.V k43 43 ((w44.setCell ⟨gb217, 0, none⟩ (.int .i64 ((rd_T43 x197000_1 x55_2).f0))).setCell ⟨gb217, 1, none⟩ (.int .u64 ((rd_T43 x197000_1 x55_2).f1))) w.heap.size (fun k_ => k_ ≠ gb196 ∧ k_ ≠ gb215 ∧ k_ ≠ gb217) (.slice (some ad216) x197000_1.length co29) x197000_1) := ⟨by (with_reducible repeat (first | apply Kd.V_alloc | apply Kd.V_drewN | apply Kd.V_drew)); exact Kd.V_mono (Kd.V_far (p := ⟨gb217, 1, none⟩) (Kd.V_far (p := ⟨gb217, 0, none⟩) (Kd.V_mono HO_53.out (fun k_ hk => (⟨hk, hk.2⟩ : _ ∧ k_ ≠ gb217))) (fun _ hk => hk.2) (.int .i64 ((rd_T43 x197000_1 x55_2).f0))) (fun _ hk => hk.2) (.int .u64 ((rd_T43 x197000_1 x55_2).f1))) (fun _ hk => ⟨hk.1.1.1, ⟨hk.1.1.2, hk.1.2⟩⟩)⟩
              have n2_ : Aside0 (Kd.V k43 43 ((w44.setCell ⟨gb217, 0, none⟩ (.int .i64 ((rd_T43 x197000_1 x55_2).f0))).setCell ⟨gb217, 1, none⟩ (.int .u64 ((rd_T43 x197000_1 x55_2).f1))) w.heap.size (fun k_ => k_ ≠ gb196 ∧ k_ ≠ gb215 ∧ k_ ≠ gb217) (.slice (some ad216) x197000_1.length co29) x197000_1) := ⟨by (with_reducible repeat (first | apply Kd.V_alloc | apply Kd.V_drewN | apply Kd.V_drew)); exact Kd.V_mono (Kd.V_far (p := ⟨gb217, 1, none⟩) (Kd.V_far (p := ⟨gb217, 0, none⟩) (Kd.V_mono HO_197000.out (fun k_ hk => (⟨hk, hk.2⟩ : _ ∧ k_ ≠ gb217))) (fun _ hk => hk.2) (.int .i64 ((rd_T43 x197000_1 x55_2).f0))) (fun _ hk => hk.2) (.int .u64 ((rd_T43 x197000_1 x55_2).f1))) (fun _ hk => ⟨hk.1.1.1, ⟨hk.1.1.2, hk.1.2⟩⟩)⟩
              have n3_ : Aside0 (Kd.V (Kd.int .i64) 3 ((w44.setCell ⟨gb217, 0, none⟩ (.int .i64 ((rd_T43 x197000_1 x55_2).f0))).setCell ⟨gb217, 1, none⟩ (.int .u64 ((rd_T43 x197000_1 x55_2).f1))) w.heap.size (fun k_ => k_ ≠ gb196 ∧ k_ ≠ gb215 ∧ k_ ≠ gb217) (.slice Ao30 x197001_1.length co30) x197001_1) := ⟨by (with_reducible repeat (first | apply Kd.V_alloc | apply Kd.V_drewN | apply Kd.V_drew)); exact Kd.V_mono (Kd.V_far (p := ⟨gb217, 1, none⟩) (Kd.V_far (p := ⟨gb217, 0, none⟩) (Kd.V_mono HO_197001.out (fun k_ hk => (⟨hk, hk.2⟩ : _ ∧ k_ ≠ gb217))) (fun _ hk => hk.2) (.int .i64 ((rd_T43 x197000_1 x55_2).f0))) (fun _ hk => hk.2) (.int .u64 ((rd_T43 x197000_1 x55_2).f1))) (fun _ hk => ⟨hk.1.1.1, ⟨hk.1.1.2, hk.1.2⟩⟩)⟩
              have n4_ : Aside0 (Kd.V k43 43 ((w44.setCell ⟨gb217, 0, none⟩ (.int .i64 ((rd_T43 x197000_1 x55_2).f0))).setCell ⟨gb217, 1, none⟩ (.int .u64 ((rd_T43 x197000_1 x55_2).f1))) w.heap.size (fun k_ => k_ ≠ gb196 ∧ k_ ≠ gb215 ∧ k_ ≠ gb217) (.slice Ao33 t206.length co33) t206) := ⟨by (with_reducible repeat (first | apply Kd.V_alloc | apply Kd.V_drewN | apply Kd.V_drew)); exact Kd.V_mono (Kd.V_far (p := ⟨gb217, 1, none⟩) (Kd.V_far (p := ⟨gb217, 0, none⟩) (Kd.V_mono HO_216000.out (fun k_ hk => (⟨hk, hk.2⟩ : _ ∧ k_ ≠ gb217))) (fun _ hk => hk.2) (.int .i64 ((rd_T43 x197000_1 x55_2).f0))) (fun _ hk => hk.2) (.int .u64 ((rd_T43 x197000_1 x55_2).f1))) (fun _ hk => ⟨hk.1.1.1, ⟨hk.1.1.2, hk.1.2⟩⟩)⟩
              have n5_ : Aside0 (Kd.V (Kd.int .i64) 3 ((w44.setCell ⟨gb217, 0, none⟩ (.int .i64 ((rd_T43 x197000_1 x55_2).f0))).setCell ⟨gb217, 1, none⟩ (.int .u64 ((rd_T43 x197000_1 x55_2).f1))) w.heap.size (fun k_ => k_ ≠ gb196 ∧ k_ ≠ gb215 ∧ k_ ≠ gb217) (.slice Ao36 t209.length co36) t209) := ⟨by (with_reducible repeat (first | apply Kd.V_alloc | apply Kd.V_drewN | apply Kd.V_drew)); exact Kd.V_mono (Kd.V_far (p := ⟨gb217, 1, none⟩) (Kd.V_far (p := ⟨gb217, 0, none⟩) (Kd.V_mono HO_216001.out (fun k_ hk => (⟨hk, hk.2⟩ : _ ∧ k_ ≠ gb217))) (fun _ hk => hk.2) (.int .i64 ((rd_T43 x197000_1 x55_2).f0))) (fun _ hk => hk.2) (.int .u64 ((rd_T43 x197000_1 x55_2).f1))) (fun _ hk => ⟨hk.1.1.1, ⟨hk.1.1.2, hk.1.2⟩⟩)⟩
              have n6_ : Aside0 (((w44.setCell ⟨gb217, 0, none⟩ (.int .i64 ((rd_T43 x197000_1 x55_2).f0))).setCell ⟨gb217, 1, none⟩ (.int .u64 ((rd_T43 x197000_1 x55_2).f1))).heap[gb196]? = some (.cells #[.slice (some ad216) x197000_1.length co29, .slice Ao30 x197001_1.length co30] 27 (0, 0))) := ⟨by (with_reducible repeat (first | refine blk_drewN ?_ _ | refine blk_drew ?_ | refine blk_alloc ?_ _)); refine blk_far ?_ NB196_217.out _; (with_reducible repeat (first | refine blk_drewN ?_ _ | refine blk_drew ?_ | refine blk_alloc ?_ _)); refine blk_far ?_ NB196_217.out _; (with_reducible repeat (first | refine blk_drewN ?_ _ | refine blk_drew ?_ | refine blk_alloc ?_ _)); exact BK196.out⟩
              have n7_ : Aside0 (((w44.setCell ⟨gb217, 0, none⟩ (.int .i64 ((rd_T43 x197000_1 x55_2).f0))).setCell ⟨gb217, 1, none⟩ (.int .u64 ((rd_T43 x197000_1 x55_2).f1))).heap[gb215]? = some (.cells #[.slice Ao33 t206.length co33, .slice Ao36 t209.length co36] 27 (0, 0))) := ⟨by (with_reducible repeat (first | refine blk_drewN ?_ _ | refine blk_drew ?_ | refine blk_alloc ?_ _)); refine blk_far ?_ NB215_217.out _; (with_reducible repeat (first | refine blk_drewN ?_ _ | refine blk_drew ?_ | refine blk_alloc ?_ _)); refine blk_far ?_ NB215_217.out _; (with_reducible repeat (first | refine blk_drewN ?_ _ | refine blk_drew ?_ | refine blk_alloc ?_ _)); exact BK215.out⟩
              have n8_ : Aside0 (((w44.setCell ⟨gb217, 0, none⟩ (.int .i64 ((rd_T43 x197000_1 x55_2).f0))).setCell ⟨gb217, 1, none⟩ (.int .u64 ((rd_T43 x197000_1 x55_2).f1))).heap[gb217]? = some (.cells #[.int .i64 ((rd_T43 x197000_1 x55_2).f0), .int .u64 ((rd_T43 x197000_1 x55_2).f1)] 43 (0, 0))) := ⟨by (with_reducible repeat (first | refine blk_drewN ?_ _ | refine blk_drew ?_ | refine blk_alloc ?_ _)); refine blk_put (cs := #[.int .i64 ((rd_T43 x197000_1 x55_2).f0), .int .u64 0]) ?_ 1 _ rfl; (with_reducible repeat (first | refine blk_drewN ?_ _ | refine blk_drew ?_ | refine blk_alloc ?_ _)); refine blk_put (cs := #[.int .i64 0, .int .u64 0]) ?_ 0 _ rfl; (with_reducible repeat (first | refine blk_drewN ?_ _ | refine blk_drew ?_ | refine blk_alloc ?_ _)); exact BK217.out⟩
              have n9_ : Aside0 (Below w.heap.size w ((w44.setCell ⟨gb217, 0, none⟩ (.int .i64 ((rd_T43 x197000_1 x55_2).f0))).setCell ⟨gb217, 1, none⟩ (.int .u64 ((rd_T43 x197000_1 x55_2).f1)))) := ⟨by repeat (first | (with_reducible first | exact HB.out | apply below_alloc | apply pw_below_drewN | apply below_drew1 | refine below_set ?_ GE196.out | refine below_set ?_ GE215.out | refine below_set ?_ GE217.out) | exact HB.out)⟩
              (try clear HO_9)
              (try clear HO_53)
              (try clear HO_197000)
              (try clear HO_197001)
              (try clear HO_216000)
              (try clear HO_216001)
              (try clear BK196)
              (try clear BK215)
              (try clear BK217)
              (try clear HB)
              generalize ((w44.setCell ⟨gb217, 0, none⟩ (.int .i64 ((rd_T43 x197000_1 x55_2).f0))).setCell ⟨gb217, 1, none⟩ (.int .u64 ((rd_T43 x197000_1 x55_2).f1))) = w48 at n0_ n1_ n2_ n3_ n4_ n5_ n6_ n7_ n8_ n9_ ⊢
              have HO_9 := n0_
              have HO_53 := n1_
              have HO_197000 := n2_
              have HO_197001 := n3_
              have HO_216000 := n4_
              have HO_216001 := n5_
              have BK196 := n6_
              have BK215 := n7_
              have BK217 := n8_
              have HB := n9_
              clear n0_ n1_ n2_ n3_ n4_ n5_ n6_ n7_ n8_ n9_
              have n0_ := Aside0.mk (Kd.V_drew HO_9.out)
              have n1_ := Aside0.mk (Kd.V_drew HO_53.out)
              have n2_ := Aside0.mk (Kd.V_drew HO_197000.out)
              have n3_ := Aside0.mk (Kd.V_drew HO_197001.out)
              have n4_ := Aside0.mk (Kd.V_drew HO_216000.out)
              have n5_ := Aside0.mk (Kd.V_drew HO_216001.out)
              have n6_ := Aside0.mk (blk_drew BK196.out)
              have n7_ := Aside0.mk (blk_drew BK215.out)
              have n8_ := Aside0.mk (blk_drew BK217.out)
              have n9_ := Aside0.mk (below_drew1 HB.out)
              clear HO_9
              clear HO_53
              clear HO_197000
              clear HO_197001
              clear HO_216000
              clear HO_216001
              clear BK196
              clear BK215
              clear BK217
              clear HB
              have HO_9 := n0_
              have HO_53 := n1_
              have HO_197000 := n2_
              have HO_197001 := n3_
              have HO_216000 := n4_
              have HO_216001 := n5_
              have BK196 := n6_
              have BK215 := n7_
              have BK217 := n8_
              have HB := n9_
              clear n0_ n1_ n2_ n3_ n4_ n5_ n6_ n7_ n8_ n9_
              refine start_ (n := 20) (S := fun w' => w'.cell? ⟨gb215, 0, none⟩ = some (.slice Ao33 t206.length co33) ∧ w'.cell? ⟨gb215, 1, none⟩ = some (.slice Ao36 t209.length co36)) (ds := []) #[false, false, false, false, false, false, false, false, false, false, false, false, false, false, false, false, false, false, false, false] (by kernel_rfl) rfl rfl ⟨(blk_cell BK215.out 0).trans rfl, (blk_cell BK215.out 1).trans rfl⟩ (fun hHeld => ?_); refine with_tabW warpbeamlaw18_ChoiceWakes.tab22 warpbeamlaw18_ChoiceWakes.bits22 (fun HT_ HW_ => ?_)
              generalize w48.drew = w49 at HO_9 HO_53 HO_197000 HO_197001 HO_216000 HO_216001 BK196 BK215 BK217 HB hHeld ⊢
              refine pure_ (i := 0) (N := some 86) (v := ?_) (a' := ?_) #[true, false, false, false, false, false, false, false, false, false, false, false, false, false, false, false, false, false, false, false] rfl rfl (any_of HT_.out (by kernel_rfl)) (fun _ _ _ h => h) (Or.inl ⟨by rfl, ?_⟩) ?_ ?_
              rotate_left
              ·
               intro w'
               go_simp
               with_reducible rfl
              rotate_left
              ·
               simp only [Act.put, List.setIfInBounds_toArray, List.set_cons_zero, List.set_cons_succ, i64_w, i32_w]
               rfl
              refine pure_ (i := 1) (N := some 87) (v := ?_) (a' := ?_) #[true, true, false, false, false, false, false, false, false, false, false, false, false, false, false, false, false, false, false, false] rfl rfl (any_of HT_.out (by kernel_rfl)) (fun _ _ _ h => h) (Or.inl ⟨by rfl, ?_⟩) ?_ ?_
              rotate_left
              ·
               intro w'
               go_simp
               with_reducible rfl
              rotate_left
              ·
               simp only [Act.put, List.setIfInBounds_toArray, List.set_cons_zero, List.set_cons_succ, i64_w, i32_w]
               rfl
              refine take_ (i := 2) (N := some 88) (v := ?_) (a' := ?_) #[true, true, true, false, false, false, false, false, false, false, false, false, false, false, false, false, false, false, false, false] rfl rfl (take_ofW HT_.out HW_.out (by kernel_rfl)) (fun _ _ _ h => h) (Or.inl ⟨by rfl, ?_⟩) hHeld ?_ ?_
              rotate_left
              ·
               rintro w' ⟨s0, s1⟩
               go_simp
               with_reducible rfl
              rotate_left
              ·
               simp only [Act.put, List.setIfInBounds_toArray, List.set_cons_zero, List.set_cons_succ, i64_w, i32_w]
               rfl
              refine pure_ (i := 3) (N := some 89) (v := ?_) (a' := ?_) #[true, true, true, true, false, false, false, false, false, false, false, false, false, false, false, false, false, false, false, false] rfl rfl (any_of HT_.out (by kernel_rfl)) (fun _ _ _ h => h) (Or.inl ⟨by rfl, ?_⟩) ?_ ?_
              rotate_left
              ·
               intro w'
               go_simp
               with_reducible rfl
              rotate_left
              ·
               simp only [Act.put, List.setIfInBounds_toArray, List.set_cons_zero, List.set_cons_succ, i64_w, i32_w]
               rfl
              refine pure_ (i := 4) (N := some 90) (v := ?_) (a' := ?_) #[true, true, true, true, true, false, false, false, false, false, false, false, false, false, false, false, false, false, false, false] rfl rfl (any_of HT_.out (by kernel_rfl)) (fun _ _ _ h => h) (Or.inl ⟨by rfl, ?_⟩) ?_ ?_
              rotate_left
              ·
               intro w'
               go_simp
               with_reducible rfl
              rotate_left
              ·
               simp only [Act.put, List.setIfInBounds_toArray, List.set_cons_zero, List.set_cons_succ, i64_w, i32_w]
               rfl
              refine pure_ (i := 5) (N := some 91) (v := ?_) (a' := ?_) #[true, true, true, true, true, true, false, false, false, false, false, false, false, false, false, false, false, false, false, false] rfl rfl (any_of HT_.out (by kernel_rfl)) (fun _ _ _ h => h) (Or.inl ⟨by rfl, ?_⟩) ?_ ?_
              rotate_left
              ·
               intro w'
               go_simp
               with_reducible rfl
              rotate_left
              ·
               simp only [Act.put, List.setIfInBounds_toArray, List.set_cons_zero, List.set_cons_succ, i64_w, i32_w]
               rfl
              refine pure_ (i := 6) (N := some 92) (v := undef) (a' := ?_) #[true, true, true, true, true, true, true, false, false, false, false, false, false, false, false, false, false, false, false, false] rfl rfl (any_of HT_.out (by kernel_rfl)) (fun _ _ _ h => h) (Or.inr ⟨by rfl, rfl⟩) ?_ ?_
              rotate_left
              ·
               simp only [Act.put, List.setIfInBounds_toArray, List.set_cons_zero, List.set_cons_succ, i64_w, i32_w]
               rfl
              refine pure_ (i := 7) (N := some 93) (v := undef) (a' := ?_) #[true, true, true, true, true, true, true, true, false, false, false, false, false, false, false, false, false, false, false, false] rfl rfl (any_of HT_.out (by kernel_rfl)) (fun _ _ _ h => h) (Or.inr ⟨by rfl, rfl⟩) ?_ ?_
              rotate_left
              ·
               simp only [Act.put, List.setIfInBounds_toArray, List.set_cons_zero, List.set_cons_succ, i64_w, i32_w]
               rfl
              refine pure_ (i := 8) (N := some 94) (v := undef) (a' := ?_) #[true, true, true, true, true, true, true, true, true, false, false, false, false, false, false, false, false, false, false, false] rfl rfl (any_of HT_.out (by kernel_rfl)) (fun _ _ _ h => h) (Or.inr ⟨by rfl, rfl⟩) ?_ ?_
              rotate_left
              ·
               simp only [Act.put, List.setIfInBounds_toArray, List.set_cons_zero, List.set_cons_succ, i64_w, i32_w]
               rfl
              refine pure_ (i := 9) (N := some 95) (v := undef) (a' := ?_) #[true, true, true, true, true, true, true, true, true, true, false, false, false, false, false, false, false, false, false, false] rfl rfl (any_of HT_.out (by kernel_rfl)) (fun _ _ _ h => h) (Or.inr ⟨by rfl, rfl⟩) ?_ ?_
              rotate_left
              ·
               simp only [Act.put, List.setIfInBounds_toArray, List.set_cons_zero, List.set_cons_succ, i64_w, i32_w]
               rfl
              refine pure_ (i := 10) (N := some 96) (v := undef) (a' := ?_) #[true, true, true, true, true, true, true, true, true, true, true, false, false, false, false, false, false, false, false, false] rfl rfl (any_of HT_.out (by kernel_rfl)) (fun _ _ _ h => h) (Or.inr ⟨by rfl, rfl⟩) ?_ ?_
              rotate_left
              ·
               simp only [Act.put, List.setIfInBounds_toArray, List.set_cons_zero, List.set_cons_succ, i64_w, i32_w]
               rfl
              refine pure_ (i := 11) (N := some 97) (v := undef) (a' := ?_) #[true, true, true, true, true, true, true, true, true, true, true, true, false, false, false, false, false, false, false, false] rfl rfl (any_of HT_.out (by kernel_rfl)) (fun _ _ _ h => h) (Or.inr ⟨by rfl, rfl⟩) ?_ ?_
              rotate_left
              ·
               simp only [Act.put, List.setIfInBounds_toArray, List.set_cons_zero, List.set_cons_succ, i64_w, i32_w]
               rfl
              refine pure_ (i := 12) (N := some 98) (v := undef) (a' := ?_) #[true, true, true, true, true, true, true, true, true, true, true, true, true, false, false, false, false, false, false, false] rfl rfl (any_of HT_.out (by kernel_rfl)) (fun _ _ _ h => h) (Or.inr ⟨by rfl, rfl⟩) ?_ ?_
              rotate_left
              ·
               simp only [Act.put, List.setIfInBounds_toArray, List.set_cons_zero, List.set_cons_succ, i64_w, i32_w]
               rfl
              refine pure_ (i := 13) (N := some 99) (v := ?_) (a' := ?_) #[true, true, true, true, true, true, true, true, true, true, true, true, true, true, false, false, false, false, false, false] rfl rfl (any_of HT_.out (by kernel_rfl)) (fun _ _ _ h => h) (Or.inl ⟨by rfl, ?_⟩) ?_ ?_
              rotate_left
              ·
               intro w'
               go_simp
               with_reducible rfl
              rotate_left
              ·
               simp only [Act.put, List.setIfInBounds_toArray, List.set_cons_zero, List.set_cons_succ, i64_w, i32_w]
               rfl
              refine pure_ (i := 14) (N := some 100) (v := ?_) (a' := ?_) #[true, true, true, true, true, true, true, true, true, true, true, true, true, true, true, false, false, false, false, false] rfl rfl (any_of HT_.out (by kernel_rfl)) (fun _ _ _ h => h) (Or.inl ⟨by rfl, ?_⟩) ?_ ?_
              rotate_left
              ·
               intro w'
               go_simp
               with_reducible rfl
              rotate_left
              ·
               simp only [Act.put, List.setIfInBounds_toArray, List.set_cons_zero, List.set_cons_succ, i64_w, i32_w]
               rfl
              refine pure_ (i := 15) (N := some 101) (v := undef) (a' := ?_) #[true, true, true, true, true, true, true, true, true, true, true, true, true, true, true, true, false, false, false, false] rfl rfl (any_of HT_.out (by kernel_rfl)) (fun _ _ _ h => h) (Or.inr ⟨by rfl, rfl⟩) ?_ ?_
              rotate_left
              ·
               simp only [Act.put, List.setIfInBounds_toArray, List.set_cons_zero, List.set_cons_succ, i64_w, i32_w]
               rfl
              refine pure_ (i := 16) (N := some 102) (v := undef) (a' := ?_) #[true, true, true, true, true, true, true, true, true, true, true, true, true, true, true, true, true, false, false, false] rfl rfl (any_of HT_.out (by kernel_rfl)) (fun _ _ _ h => h) (Or.inr ⟨by rfl, rfl⟩) ?_ ?_
              rotate_left
              ·
               simp only [Act.put, List.setIfInBounds_toArray, List.set_cons_zero, List.set_cons_succ, i64_w, i32_w]
               rfl
              refine pure_ (i := 17) (N := some 103) (v := undef) (a' := ?_) #[true, true, true, true, true, true, true, true, true, true, true, true, true, true, true, true, true, true, false, false] rfl rfl (any_of HT_.out (by kernel_rfl)) (fun _ _ _ h => h) (Or.inr ⟨by rfl, rfl⟩) ?_ ?_
              rotate_left
              ·
               simp only [Act.put, List.setIfInBounds_toArray, List.set_cons_zero, List.set_cons_succ, i64_w, i32_w]
               rfl
              refine pure_ (i := 18) (N := some 104) (v := undef) (a' := ?_) #[true, true, true, true, true, true, true, true, true, true, true, true, true, true, true, true, true, true, true, false] rfl rfl (any_of HT_.out (by kernel_rfl)) (fun _ _ _ h => h) (Or.inr ⟨by rfl, rfl⟩) ?_ ?_
              rotate_left
              ·
               simp only [Act.put, List.setIfInBounds_toArray, List.set_cons_zero, List.set_cons_succ, i64_w, i32_w]
               rfl
              refine pure_ (i := 19) (N := some 105) (v := ?_) (a' := ?_) #[true, true, true, true, true, true, true, true, true, true, true, true, true, true, true, true, true, true, true, true] rfl rfl (any_of HT_.out (by kernel_rfl)) (fun _ _ _ h => h) (Or.inl ⟨by rfl, ?_⟩) ?_ ?_
              rotate_left
              ·
               intro w'
               go_simp
               with_reducible rfl
              rotate_left
              ·
               simp only [Act.put, List.setIfInBounds_toArray, List.set_cons_zero, List.set_cons_succ, i64_w, i32_w]
               rfl
              refine done_ (done_of HT_.out (by kernel_rfl)) ?_
              try go_wp2
              go_ret
              exact ⟨by first | rfl | (simp [errW_none, errW_some] <;> rfl) | (simp [*, errW_none, errW_some] <;> rfl), by repeat (first | (with_reducible first | exact HB.out | apply below_alloc | apply pw_below_drewN | apply below_drew1 | refine below_set ?_ GE196.out | refine below_set ?_ GE215.out | refine below_set ?_ GE217.out) | exact HB.out)⟩
             ·
              rw [if_neg c43] at H
              have c43b0 : decide ((t206.length : Int) ≤ x11_2) = false := decide_eq_false c43
              clear c43
              by_cases c50 : 0 ≤ x11_2
              ·
               rw [if_pos c50] at H
               have c50b0 : decide (0 ≤ x11_2) = true := decide_eq_true c50
               clear c50
               by_cases c51 : x11_2 < (t206.length : Int)
               ·
                rw [if_pos c51] at H
                have c51b0 : decide (x11_2 < (t206.length : Int)) = true := decide_eq_true c51
                clear c51
                by_cases c52 : (!(((rd_T43 t206 x11_2).f0) == ((rd_T43 x197000_1 x55_2).f0)) || (!(((rd_T43 t206 x11_2).f1) == ((rd_T43 x197000_1 x55_2).f1)))) = true
                ·
                 rw [if_pos c52] at H
                 have c52b0 : (!(((rd_T43 t206 x11_2).f0) == ((rd_T43 x197000_1 x55_2).f0)) || (!(((rd_T43 t206 x11_2).f1) == ((rd_T43 x197000_1 x55_2).f1)))) = true := c52
                 clear c52
                 obtain rfl := Option.some.inj H
                 have p216 : 0 ≤ (x55_2 : Int) := of_decide_eq_true (by first | (with_reducible assumption) | assumption)
                 have q216 : x55_2 < (x197000_1.length : Int) := of_decide_eq_true (by first | (with_reducible assumption) | assumption)
                 obtain ⟨ad216, e216, hx216_0, hx216_1⟩ := at_T43 (Kd.V_reads' HO_53.out).2.2 x55_2 p216 q216
                 cases e216
                 replace p216 := eq_true p216
                 replace q216 := eq_true q216
                 try go_wp2_with (first | ((with_reducible refine gate_dst (N := 13) rfl ?_); refine box_event ?hg (N := 13) ?hd (cs := #[.int .i64 0, .int .u64 0]) (t := 43) ?hr ?_; (case hd => rfl); (case hg => rfl); (case hr => first | (go_simp; done) | (go_simp; rfl)); intro gb217 hg w53 hbox hb; have n0_ := Aside0.mk (Kd.V_below (Kd.V_elderB (by (with_reducible repeat (first | apply Kd.V_alloc | apply Kd.V_drewN | apply Kd.V_drew)); exact HO_9.out) gb217 (Nat.le_of_eq hg.symm)) hb); have n1_ := Aside0.mk (Kd.V_below (Kd.V_elderB (by (with_reducible repeat (first | apply Kd.V_alloc | apply Kd.V_drewN | apply Kd.V_drew)); exact HO_53.out) gb217 (Nat.le_of_eq hg.symm)) hb); have n2_ := Aside0.mk (Kd.V_below (Kd.V_elderB (by (with_reducible repeat (first | apply Kd.V_alloc | apply Kd.V_drewN | apply Kd.V_drew)); exact HO_197000.out) gb217 (Nat.le_of_eq hg.symm)) hb); have n3_ := Aside0.mk (Kd.V_below (Kd.V_elderB (by (with_reducible repeat (first | apply Kd.V_alloc | apply Kd.V_drewN | apply Kd.V_drew)); exact HO_197001.out) gb217 (Nat.le_of_eq hg.symm)) hb); have n4_ := Aside0.mk (Kd.V_below (Kd.V_elderB (by (with_reducible repeat (first | apply Kd.V_alloc | apply Kd.V_drewN | apply Kd.V_drew)); exact HO_216000.out) gb217 (Nat.le_of_eq hg.symm)) hb); have n5_ := Aside0.mk (Kd.V_below (Kd.V_elderB (by (with_reducible repeat (first | apply Kd.V_alloc | apply Kd.V_drewN | apply Kd.V_drew)); exact HO_216001.out) gb217 (Nat.le_of_eq hg.symm)) hb); have n6_ := Aside0.mk (blk_below (g := gb196) (o := .cells #[.slice (some ad216) x197000_1.length co29, .slice Ao30 x197001_1.length co30] 27 (0, 0)) (by (with_reducible repeat (first | refine blk_drewN ?_ _ | refine blk_drew ?_ | refine blk_alloc ?_ _)); exact BK196.out) hb); have n7_ := Aside0.mk (blk_below (g := gb215) (o := .cells #[.slice Ao33 t206.length co33, .slice Ao36 t209.length co36] 27 (0, 0)) (by (with_reducible repeat (first | refine blk_drewN ?_ _ | refine blk_drew ?_ | refine blk_alloc ?_ _)); exact BK215.out) hb); have n8_ := Aside0.mk (below_step (by repeat (first | (with_reducible first | exact HB.out | apply below_alloc | apply pw_below_drewN | apply below_drew1 | refine below_set ?_ GE196.out | refine below_set ?_ GE215.out) | exact HB.out)) hb); have n9_ := Aside0.mk (hbox); have n10_ := Aside0.mk ((by rw [hg]; exact (below_size (by repeat (first | (with_reducible first | exact HB.out | apply below_alloc | apply pw_below_drewN | apply below_drew1 | refine below_set ?_ GE196.out | refine below_set ?_ GE215.out) | exact HB.out))) : w.heap.size ≤ gb217)); have n11_ := Aside0.mk ((by rw [hg]; exact (below_size (by repeat (first | (with_reducible first | exact HB.out | apply below_alloc | apply pw_below_drewN | apply below_drew1 | refine below_set ?_ GE196.out | refine below_set ?_ GE215.out) | exact HB.out))) : w.heap.size ≤ gb217)); have n12_ := Aside0.mk ((by rw [hg]; exact Nat.ne_of_lt (blk_lt (g := gb196) (o := .cells #[.slice (some ad216) x197000_1.length co29, .slice Ao30 x197001_1.length co30] 27 (0, 0)) (by (with_reducible repeat (first | refine blk_drewN ?_ _ | refine blk_drew ?_ | refine blk_alloc ?_ _)); exact BK196.out)) : gb196 ≠ gb217)); have n13_ := Aside0.mk ((by rw [hg]; exact Nat.ne_of_gt (blk_lt (g := gb196) (o := .cells #[.slice (some ad216) x197000_1.length co29, .slice Ao30 x197001_1.length co30] 27 (0, 0)) (by (with_reducible repeat (first | refine blk_drewN ?_ _ | refine blk_drew ?_ | refine blk_alloc ?_ _)); exact BK196.out)) : gb217 ≠ gb196)); have n14_ := Aside0.mk ((by rw [hg]; exact Nat.ne_of_lt (blk_lt (g := gb215) (o := .cells #[.slice Ao33 t206.length co33, .slice Ao36 t209.length co36] 27 (0, 0)) (by (with_reducible repeat (first | refine blk_drewN ?_ _ | refine blk_drew ?_ | refine blk_alloc ?_ _)); exact BK215.out)) : gb215 ≠ gb217)); have n15_ := Aside0.mk ((by rw [hg]; exact Nat.ne_of_gt (blk_lt (g := gb215) (o := .cells #[.slice Ao33 t206.length co33, .slice Ao36 t209.length co36] 27 (0, 0)) (by (with_reducible repeat (first | refine blk_drewN ?_ _ | refine blk_drew ?_ | refine blk_alloc ?_ _)); exact BK215.out)) : gb217 ≠ gb215)); clear HO_9; clear HO_53; clear HO_197000; clear HO_197001; clear HO_216000; clear HO_216001; clear BK196; clear BK215; clear HB; have HO_9 := n0_; have HO_53 := n1_; have HO_197000 := n2_; have HO_197001 := n3_; have HO_216000 := n4_; have HO_216001 := n5_; have BK196 := n6_; have BK215 := n7_; have HB := n8_; have BK217 := n9_; have GW217 := n10_; have GE217 := n11_; have NB196_217 := n12_; have NB217_196 := n13_; have NB215_217 := n14_; have NB217_215 := n15_; clear n0_ n1_ n2_ n3_ n4_ n5_ n6_ n7_ n8_ n9_ n10_ n11_ n12_ n13_ n14_ n15_; clear hb hbox hg; have hnb54 := NB217_196.out; have hnc54 := NB196_217.out; have hnb55 := NB217_215.out; have hnc55 := NB215_217.out; have hcz56_0 : w53.cell? ⟨gb217, 0, none⟩ = some (.int .i64 0) := (blk_cell BK217.out 0).trans rfl; have hcz56_1 : w53.cell? ⟨gb217, 1, none⟩ = some (.int .u64 0) := (blk_cell BK217.out 1).trans rfl; have hfz56_0 := blk_frozen BK217.out 0; have hfz56_1 := blk_frozen BK217.out 1))
                 have n0_ : Aside0 (Kd.V (Kd.int .i64) 3 ((w53.setCell ⟨gb217, 0, none⟩ (.int .i64 ((rd_T43 x197000_1 x55_2).f0))).setCell ⟨gb217, 1, none⟩ (.int .u64 ((rd_T43 x197000_1 x55_2).f1))) w.heap.size (fun k_ => k_ ≠ gb196 ∧ k_ ≠ gb215 ∧ k_ ≠ gb217) (.slice Ao37 t212.length co37) t212) := ⟨by (with_reducible repeat (first | apply Kd.V_alloc | apply Kd.V_drewN | apply Kd.V_drew)); exact Kd.V_mono (Kd.V_far (p := ⟨gb217, 1, none⟩) (Kd.V_far (p := ⟨gb217, 0, none⟩) (Kd.V_mono HO_9.out (fun k_ hk => (⟨hk, hk.2⟩ : _ ∧ k_ ≠ gb217))) (fun _ hk => hk.2) (.int .i64 ((rd_T43 x197000_1 x55_2).f0))) (fun _ hk => hk.2) (.int .u64 ((rd_T43 x197000_1 x55_2).f1))) (fun _ hk => ⟨hk.1.1.1, ⟨hk.1.1.2, hk.1.2⟩⟩)⟩
                 have n1_ : Aside0 (Kd.V k43 43 ((w53.setCell ⟨gb217, 0, none⟩ (.int .i64 ((rd_T43 x197000_1 x55_2).f0))).setCell ⟨gb217, 1, none⟩ (.int .u64 ((rd_T43 x197000_1 x55_2).f1))) w.heap.size (fun k_ => k_ ≠ gb196 ∧ k_ ≠ gb215 ∧ k_ ≠ gb217) (.slice (some ad216) x197000_1.length co29) x197000_1) := ⟨by (with_reducible repeat (first | apply Kd.V_alloc | apply Kd.V_drewN | apply Kd.V_drew)); exact Kd.V_mono (Kd.V_far (p := ⟨gb217, 1, none⟩) (Kd.V_far (p := ⟨gb217, 0, none⟩) (Kd.V_mono HO_53.out (fun k_ hk => (⟨hk, hk.2⟩ : _ ∧ k_ ≠ gb217))) (fun _ hk => hk.2) (.int .i64 ((rd_T43 x197000_1 x55_2).f0))) (fun _ hk => hk.2) (.int .u64 ((rd_T43 x197000_1 x55_2).f1))) (fun _ hk => ⟨hk.1.1.1, ⟨hk.1.1.2, hk.1.2⟩⟩)⟩
                 have n2_ : Aside0 (Kd.V k43 43 ((w53.setCell ⟨gb217, 0, none⟩ (.int .i64 ((rd_T43 x197000_1 x55_2).f0))).setCell ⟨gb217, 1, none⟩ (.int .u64 ((rd_T43 x197000_1 x55_2).f1))) w.heap.size (fun k_ => k_ ≠ gb196 ∧ k_ ≠ gb215 ∧ k_ ≠ gb217) (.slice (some ad216) x197000_1.length co29) x197000_1) := ⟨by (with_reducible repeat (first | apply Kd.V_alloc | apply Kd.V_drewN | apply Kd.V_drew)); exact Kd.V_mono (Kd.V_far (p := ⟨gb217, 1, none⟩) (Kd.V_far (p := ⟨gb217, 0, none⟩) (Kd.V_mono HO_197000.out (fun k_ hk => (⟨hk, hk.2⟩ : _ ∧ k_ ≠ gb217))) (fun _ hk => hk.2) (.int .i64 ((rd_T43 x197000_1 x55_2).f0))) (fun _ hk => hk.2) (.int .u64 ((rd_T43 x197000_1 x55_2).f1))) (fun _ hk => ⟨hk.1.1.1, ⟨hk.1.1.2, hk.1.2⟩⟩)⟩
                 have n3_ : Aside0 (Kd.V (Kd.int .i64) 3 ((w53.setCell ⟨gb217, 0, none⟩ (.int .i64 ((rd_T43 x197000_1 x55_2).f0))).setCell ⟨gb217, 1, none⟩ (.int .u64 ((rd_T43 x197000_1 x55_2).f1))) w.heap.size (fun k_ => k_ ≠ gb196 ∧ k_ ≠ gb215 ∧ k_ ≠ gb217) (.slice Ao30 x197001_1.length co30) x197001_1) := ⟨by (with_reducible repeat (first | apply Kd.V_alloc | apply Kd.V_drewN | apply Kd.V_drew)); exact Kd.V_mono (Kd.V_far (p := ⟨gb217, 1, none⟩) (Kd.V_far (p := ⟨gb217, 0, none⟩) (Kd.V_mono HO_197001.out (fun k_ hk => (⟨hk, hk.2⟩ : _ ∧ k_ ≠ gb217))) (fun _ hk => hk.2) (.int .i64 ((rd_T43 x197000_1 x55_2).f0))) (fun _ hk => hk.2) (.int .u64 ((rd_T43 x197000_1 x55_2).f1))) (fun _ hk => ⟨hk.1.1.1, ⟨hk.1.1.2, hk.1.2⟩⟩)⟩
                 have n4_ : Aside0 (Kd.V k43 43 ((w53.setCell ⟨gb217, 0, none⟩ (.int .i64 ((rd_T43 x197000_1 x55_2).f0))).setCell ⟨gb217, 1, none⟩ (.int .u64 ((rd_T43 x197000_1 x55_2).f1))) w.heap.size (fun k_ => k_ ≠ gb196 ∧ k_ ≠ gb215 ∧ k_ ≠ gb217) (.slice Ao33 t206.length co33) t206) := ⟨by (with_reducible repeat (first | apply Kd.V_alloc | apply Kd.V_drewN | apply Kd.V_drew)); exact Kd.V_mono (Kd.V_far (p := ⟨gb217, 1, none⟩) (Kd.V_far (p := ⟨gb217, 0, none⟩) (Kd.V_mono HO_216000.out (fun k_ hk => (⟨hk, hk.2⟩ : _ ∧ k_ ≠ gb217))) (fun _ hk => hk.2) (.int .i64 ((rd_T43 x197000_1 x55_2).f0))) (fun _ hk => hk.2) (.int .u64 ((rd_T43 x197000_1 x55_2).f1))) (fun _ hk => ⟨hk.1.1.1, ⟨hk.1.1.2, hk.1.2⟩⟩)⟩
                 have n5_ : Aside0 (Kd.V (Kd.int .i64) 3 ((w53.setCell ⟨gb217, 0, none⟩ (.int .i64 ((rd_T43 x197000_1 x55_2).f0))).setCell ⟨gb217, 1, none⟩ (.int .u64 ((rd_T43 x197000_1 x55_2).f1))) w.heap.size (fun k_ => k_ ≠ gb196 ∧ k_ ≠ gb215 ∧ k_ ≠ gb217) (.slice Ao36 t209.length co36) t209) := ⟨by (with_reducible repeat (first | apply Kd.V_alloc | apply Kd.V_drewN | apply Kd.V_drew)); exact Kd.V_mono (Kd.V_far (p := ⟨gb217, 1, none⟩) (Kd.V_far (p := ⟨gb217, 0, none⟩) (Kd.V_mono HO_216001.out (fun k_ hk => (⟨hk, hk.2⟩ : _ ∧ k_ ≠ gb217))) (fun _ hk => hk.2) (.int .i64 ((rd_T43 x197000_1 x55_2).f0))) (fun _ hk => hk.2) (.int .u64 ((rd_T43 x197000_1 x55_2).f1))) (fun _ hk => ⟨hk.1.1.1, ⟨hk.1.1.2, hk.1.2⟩⟩)⟩
                 have n6_ : Aside0 (((w53.setCell ⟨gb217, 0, none⟩ (.int .i64 ((rd_T43 x197000_1 x55_2).f0))).setCell ⟨gb217, 1, none⟩ (.int .u64 ((rd_T43 x197000_1 x55_2).f1))).heap[gb196]? = some (.cells #[.slice (some ad216) x197000_1.length co29, .slice Ao30 x197001_1.length co30] 27 (0, 0))) := ⟨by (with_reducible repeat (first | refine blk_drewN ?_ _ | refine blk_drew ?_ | refine blk_alloc ?_ _)); refine blk_far ?_ NB196_217.out _; (with_reducible repeat (first | refine blk_drewN ?_ _ | refine blk_drew ?_ | refine blk_alloc ?_ _)); refine blk_far ?_ NB196_217.out _; (with_reducible repeat (first | refine blk_drewN ?_ _ | refine blk_drew ?_ | refine blk_alloc ?_ _)); exact BK196.out⟩
                 have n7_ : Aside0 (((w53.setCell ⟨gb217, 0, none⟩ (.int .i64 ((rd_T43 x197000_1 x55_2).f0))).setCell ⟨gb217, 1, none⟩ (.int .u64 ((rd_T43 x197000_1 x55_2).f1))).heap[gb215]? = some (.cells #[.slice Ao33 t206.length co33, .slice Ao36 t209.length co36] 27 (0, 0))) := ⟨by (with_reducible repeat (first | refine blk_drewN ?_ _ | refine blk_drew ?_ | refine blk_alloc ?_ _)); refine blk_far ?_ NB215_217.out _; (with_reducible repeat (first | refine blk_drewN ?_ _ | refine blk_drew ?_ | refine blk_alloc ?_ _)); refine blk_far ?_ NB215_217.out _; (with_reducible repeat (first | refine blk_drewN ?_ _ | refine blk_drew ?_ | refine blk_alloc ?_ _)); exact BK215.out⟩
                 have n8_ : Aside0 (((w53.setCell ⟨gb217, 0, none⟩ (.int .i64 ((rd_T43 x197000_1 x55_2).f0))).setCell ⟨gb217, 1, none⟩ (.int .u64 ((rd_T43 x197000_1 x55_2).f1))).heap[gb217]? = some (.cells #[.int .i64 ((rd_T43 x197000_1 x55_2).f0), .int .u64 ((rd_T43 x197000_1 x55_2).f1)] 43 (0, 0))) := ⟨by (with_reducible repeat (first | refine blk_drewN ?_ _ | refine blk_drew ?_ | refine blk_alloc ?_ _)); refine blk_put (cs := #[.int .i64 ((rd_T43 x197000_1 x55_2).f0), .int .u64 0]) ?_ 1 _ rfl; (with_reducible repeat (first | refine blk_drewN ?_ _ | refine blk_drew ?_ | refine blk_alloc ?_ _)); refine blk_put (cs := #[.int .i64 0, .int .u64 0]) ?_ 0 _ rfl; (with_reducible repeat (first | refine blk_drewN ?_ _ | refine blk_drew ?_ | refine blk_alloc ?_ _)); exact BK217.out⟩
                 have n9_ : Aside0 (Below w.heap.size w ((w53.setCell ⟨gb217, 0, none⟩ (.int .i64 ((rd_T43 x197000_1 x55_2).f0))).setCell ⟨gb217, 1, none⟩ (.int .u64 ((rd_T43 x197000_1 x55_2).f1)))) := ⟨by repeat (first | (with_reducible first | exact HB.out | apply below_alloc | apply pw_below_drewN | apply below_drew1 | refine below_set ?_ GE196.out | refine below_set ?_ GE215.out | refine below_set ?_ GE217.out) | exact HB.out)⟩
                 (try clear HO_9)
                 (try clear HO_53)
                 (try clear HO_197000)
                 (try clear HO_197001)
                 (try clear HO_216000)
                 (try clear HO_216001)
                 (try clear BK196)
                 (try clear BK215)
                 (try clear BK217)
                 (try clear HB)
                 generalize ((w53.setCell ⟨gb217, 0, none⟩ (.int .i64 ((rd_T43 x197000_1 x55_2).f0))).setCell ⟨gb217, 1, none⟩ (.int .u64 ((rd_T43 x197000_1 x55_2).f1))) = w57 at n0_ n1_ n2_ n3_ n4_ n5_ n6_ n7_ n8_ n9_ ⊢
                 have HO_9 := n0_
                 have HO_53 := n1_
                 have HO_197000 := n2_
                 have HO_197001 := n3_
                 have HO_216000 := n4_
                 have HO_216001 := n5_
                 have BK196 := n6_
                 have BK215 := n7_
                 have BK217 := n8_
                 have HB := n9_
                 clear n0_ n1_ n2_ n3_ n4_ n5_ n6_ n7_ n8_ n9_
                 have n0_ := Aside0.mk (Kd.V_drew HO_9.out)
                 have n1_ := Aside0.mk (Kd.V_drew HO_53.out)
                 have n2_ := Aside0.mk (Kd.V_drew HO_197000.out)
                 have n3_ := Aside0.mk (Kd.V_drew HO_197001.out)
                 have n4_ := Aside0.mk (Kd.V_drew HO_216000.out)
                 have n5_ := Aside0.mk (Kd.V_drew HO_216001.out)
                 have n6_ := Aside0.mk (blk_drew BK196.out)
                 have n7_ := Aside0.mk (blk_drew BK215.out)
                 have n8_ := Aside0.mk (blk_drew BK217.out)
                 have n9_ := Aside0.mk (below_drew1 HB.out)
                 clear HO_9
                 clear HO_53
                 clear HO_197000
                 clear HO_197001
                 clear HO_216000
                 clear HO_216001
                 clear BK196
                 clear BK215
                 clear BK217
                 clear HB
                 have HO_9 := n0_
                 have HO_53 := n1_
                 have HO_197000 := n2_
                 have HO_197001 := n3_
                 have HO_216000 := n4_
                 have HO_216001 := n5_
                 have BK196 := n6_
                 have BK215 := n7_
                 have BK217 := n8_
                 have HB := n9_
                 clear n0_ n1_ n2_ n3_ n4_ n5_ n6_ n7_ n8_ n9_
                 have p218 : 0 ≤ (x11_2 : Int) := of_decide_eq_true (by first | (with_reducible assumption) | assumption)
                 have q218 : x11_2 < (t206.length : Int) := of_decide_eq_true (by first | (with_reducible assumption) | assumption)
                 obtain ⟨ad218, e218, hx218_0, hx218_1⟩ := at_T43 (Kd.V_reads' HO_216000.out).2.2 x11_2 p218 q218
                 cases e218
                 replace p218 := eq_true p218
                 replace q218 := eq_true q218
                 refine start_ (n := 20) (S := fun w' => w'.cell? ⟨gb215, 0, none⟩ = some (.slice (some ad218) t206.length co33) ∧ w'.cell? ⟨gb215, 1, none⟩ = some (.slice Ao36 t209.length co36) ∧ w'.cell? ⟨gb217, 0, none⟩ = some (.int .i64 ((rd_T43 x197000_1 x55_2).f0)) ∧ w'.cell? ⟨gb217, 1, none⟩ = some (.int .u64 ((rd_T43 x197000_1 x55_2).f1)) ∧ w'.cell? (ad218.add ((x11_2).toNat * 2)) = some (.int .i64 ((rd_T43 t206 x11_2).f0)) ∧ w'.cell? ⟨(ad218.add ((x11_2).toNat * 2)).block, (ad218.add ((x11_2).toNat * 2)).off + 1, none⟩ = some (.int .u64 ((rd_T43 t206 x11_2).f1))) (ds := []) #[false, false, false, false, false, false, false, false, false, false, false, false, false, false, false, false, false, false, false, false] (by kernel_rfl) rfl rfl ⟨(blk_cell BK215.out 0).trans rfl, (blk_cell BK215.out 1).trans rfl, (blk_cell BK217.out 0).trans rfl, (blk_cell BK217.out 1).trans rfl, hx218_0, hx218_1⟩ (fun hHeld => ?_); refine with_tabW warpbeamlaw18_ChoiceWakes.tab22 warpbeamlaw18_ChoiceWakes.bits22 (fun HT_ HW_ => ?_)
                 generalize w57.drew = w58 at HO_9 HO_53 HO_197000 HO_197001 HO_216000 HO_216001 BK196 BK215 BK217 HB hx218_0 hx218_1 hHeld ⊢
                 refine pure_ (i := 0) (N := some 86) (v := ?_) (a' := ?_) #[true, false, false, false, false, false, false, false, false, false, false, false, false, false, false, false, false, false, false, false] rfl rfl (any_of HT_.out (by kernel_rfl)) (fun _ _ _ h => h) (Or.inl ⟨by rfl, ?_⟩) ?_ ?_
                 rotate_left
                 ·
                  intro w'
                  go_simp
                  with_reducible rfl
                 rotate_left
                 ·
                  simp only [Act.put, List.setIfInBounds_toArray, List.set_cons_zero, List.set_cons_succ, i64_w, i32_w]
                  rfl
                 refine pure_ (i := 1) (N := some 87) (v := ?_) (a' := ?_) #[true, true, false, false, false, false, false, false, false, false, false, false, false, false, false, false, false, false, false, false] rfl rfl (any_of HT_.out (by kernel_rfl)) (fun _ _ _ h => h) (Or.inl ⟨by rfl, ?_⟩) ?_ ?_
                 rotate_left
                 ·
                  intro w'
                  go_simp
                  with_reducible rfl
                 rotate_left
                 ·
                  simp only [Act.put, List.setIfInBounds_toArray, List.set_cons_zero, List.set_cons_succ, i64_w, i32_w]
                  rfl
                 refine take_ (i := 2) (N := some 88) (v := ?_) (a' := ?_) #[true, true, true, false, false, false, false, false, false, false, false, false, false, false, false, false, false, false, false, false] rfl rfl (take_ofW HT_.out HW_.out (by kernel_rfl)) (fun _ _ _ h => h) (Or.inl ⟨by rfl, ?_⟩) hHeld ?_ ?_
                 rotate_left
                 ·
                  rintro w' ⟨s0, s1, s2, s3, s4, s5⟩
                  go_simp
                  with_reducible rfl
                 rotate_left
                 ·
                  simp only [Act.put, List.setIfInBounds_toArray, List.set_cons_zero, List.set_cons_succ, i64_w, i32_w]
                  rfl
                 refine pure_ (i := 3) (N := some 89) (v := ?_) (a' := ?_) #[true, true, true, true, false, false, false, false, false, false, false, false, false, false, false, false, false, false, false, false] rfl rfl (any_of HT_.out (by kernel_rfl)) (fun _ _ _ h => h) (Or.inl ⟨by rfl, ?_⟩) ?_ ?_
                 rotate_left
                 ·
                  intro w'
                  go_simp
                  with_reducible rfl
                 rotate_left
                 ·
                  simp only [Act.put, List.setIfInBounds_toArray, List.set_cons_zero, List.set_cons_succ, i64_w, i32_w]
                  rfl
                 refine pure_ (i := 4) (N := some 90) (v := ?_) (a' := ?_) #[true, true, true, true, true, false, false, false, false, false, false, false, false, false, false, false, false, false, false, false] rfl rfl (any_of HT_.out (by kernel_rfl)) (fun _ _ _ h => h) (Or.inl ⟨by rfl, ?_⟩) ?_ ?_
                 rotate_left
                 ·
                  intro w'
                  go_simp
                  with_reducible rfl
                 rotate_left
                 ·
                  simp only [Act.put, List.setIfInBounds_toArray, List.set_cons_zero, List.set_cons_succ, i64_w, i32_w]
                  rfl
                 refine pure_ (i := 5) (N := some 91) (v := ?_) (a' := ?_) #[true, true, true, true, true, true, false, false, false, false, false, false, false, false, false, false, false, false, false, false] rfl rfl (any_of HT_.out (by kernel_rfl)) (fun _ _ _ h => h) (Or.inl ⟨by rfl, ?_⟩) ?_ ?_
                 rotate_left
                 ·
                  intro w'
                  go_simp
                  with_reducible rfl
                 rotate_left
                 ·
                  simp only [Act.put, List.setIfInBounds_toArray, List.set_cons_zero, List.set_cons_succ, i64_w, i32_w]
                  rfl
                 refine pure_ (i := 6) (N := some 92) (v := ?_) (a' := ?_) #[true, true, true, true, true, true, true, false, false, false, false, false, false, false, false, false, false, false, false, false] rfl rfl (any_of HT_.out (by kernel_rfl)) (fun _ _ _ h => h) (Or.inl ⟨by rfl, ?_⟩) ?_ ?_
                 rotate_left
                 ·
                  intro w'
                  go_simp
                  with_reducible rfl
                 rotate_left
                 ·
                  simp only [Act.put, List.setIfInBounds_toArray, List.set_cons_zero, List.set_cons_succ, i64_w, i32_w]
                  rfl
                 refine pure_ (i := 8) (N := some 94) (v := ?_) (a' := ?_) #[true, true, true, true, true, true, true, false, true, false, false, false, false, false, false, false, false, false, false, false] rfl rfl (any_of HT_.out (by kernel_rfl)) (fun _ _ _ h => h) (Or.inl ⟨by rfl, ?_⟩) ?_ ?_
                 rotate_left
                 ·
                  intro w'
                  go_simp
                  with_reducible rfl
                 rotate_left
                 ·
                  simp only [Act.put, List.setIfInBounds_toArray, List.set_cons_zero, List.set_cons_succ, i64_w, i32_w]
                  rfl
                 refine take_ (i := 7) (N := some 93) (v := ?_) (a' := ?_) #[true, true, true, true, true, true, true, true, true, false, false, false, false, false, false, false, false, false, false, false] rfl rfl (take_ofW HT_.out HW_.out (by kernel_rfl)) (fun _ _ _ h => h) (Or.inl ⟨by rfl, ?_⟩) hHeld ?_ ?_
                 rotate_left
                 ·
                  rintro w' ⟨s0, s1, s2, s3, s4, s5⟩
                  go_simp
                  with_reducible rfl
                 rotate_left
                 ·
                  simp only [Act.put, List.setIfInBounds_toArray, List.set_cons_zero, List.set_cons_succ, i64_w, i32_w]
                  rfl
                 refine pure_ (i := 9) (N := some 95) (v := ?_) (a' := ?_) #[true, true, true, true, true, true, true, true, true, true, false, false, false, false, false, false, false, false, false, false] rfl rfl (any_of HT_.out (by kernel_rfl)) (fun _ _ _ h => h) (Or.inl ⟨by rfl, ?_⟩) ?_ ?_
                 rotate_left
                 ·
                  intro w'
                  go_simp
                  with_reducible rfl
                 rotate_left
                 ·
                  simp only [Act.put, List.setIfInBounds_toArray, List.set_cons_zero, List.set_cons_succ, i64_w, i32_w]
                  rfl
                 refine take_ (i := 10) (N := some 96) (v := ?_) (a' := ?_) #[true, true, true, true, true, true, true, true, true, true, true, false, false, false, false, false, false, false, false, false] rfl rfl (take_ofW HT_.out HW_.out (by kernel_rfl)) (fun _ _ _ h => h) (Or.inl ⟨by rfl, ?_⟩) hHeld ?_ ?_
                 rotate_left
                 ·
                  rintro w' ⟨s0, s1, s2, s3, s4, s5⟩
                  go_simp
                  with_reducible rfl
                 rotate_left
                 ·
                  simp only [Act.put, List.setIfInBounds_toArray, List.set_cons_zero, List.set_cons_succ, i64_w, i32_w]
                  rfl
                 refine take_ (i := 11) (N := some 97) (v := ?_) (a' := ?_) #[true, true, true, true, true, true, true, true, true, true, true, true, false, false, false, false, false, false, false, false] rfl rfl (take_ofW HT_.out HW_.out (by kernel_rfl)) (fun _ _ _ h => h) (Or.inl ⟨by rfl, ?_⟩) hHeld ?_ ?_
                 rotate_left
                 ·
                  rintro w' ⟨s0, s1, s2, s3, s4, s5⟩
                  go_simp
                  with_reducible rfl
                 rotate_left
                 ·
                  simp only [Act.put, List.setIfInBounds_toArray, List.set_cons_zero, List.set_cons_succ, i64_w, i32_w]
                  rfl
                 refine pure_ (i := 12) (N := some 98) (v := ?_) (a' := ?_) #[true, true, true, true, true, true, true, true, true, true, true, true, true, false, false, false, false, false, false, false] rfl rfl (any_of HT_.out (by kernel_rfl)) (fun _ _ _ h => h) (Or.inl ⟨by rfl, ?_⟩) ?_ ?_
                 rotate_left
                 ·
                  intro w'
                  go_simp
                  with_reducible rfl
                 rotate_left
                 ·
                  simp only [Act.put, List.setIfInBounds_toArray, List.set_cons_zero, List.set_cons_succ, i64_w, i32_w]
                  rfl
                 refine pure_ (i := 13) (N := some 99) (v := ?_) (a' := ?_) #[true, true, true, true, true, true, true, true, true, true, true, true, true, true, false, false, false, false, false, false] rfl rfl (any_of HT_.out (by kernel_rfl)) (fun _ _ _ h => h) (Or.inl ⟨by rfl, ?_⟩) ?_ ?_
                 rotate_left
                 ·
                  intro w'
                  go_simp
                  with_reducible rfl
                 rotate_left
                 ·
                  simp only [Act.put, List.setIfInBounds_toArray, List.set_cons_zero, List.set_cons_succ, i64_w, i32_w]
                  rfl
                 refine pure_ (i := 14) (N := some 100) (v := ?_) (a' := ?_) #[true, true, true, true, true, true, true, true, true, true, true, true, true, true, true, false, false, false, false, false] rfl rfl (any_of HT_.out (by kernel_rfl)) (fun _ _ _ h => h) (Or.inl ⟨by rfl, ?_⟩) ?_ ?_
                 rotate_left
                 ·
                  intro w'
                  go_simp
                  with_reducible rfl
                 rotate_left
                 ·
                  simp only [Act.put, List.setIfInBounds_toArray, List.set_cons_zero, List.set_cons_succ, i64_w, i32_w]
                  rfl
                 refine pure_ (i := 15) (N := some 101) (v := undef) (a' := ?_) #[true, true, true, true, true, true, true, true, true, true, true, true, true, true, true, true, false, false, false, false] rfl rfl (any_of HT_.out (by kernel_rfl)) (fun _ _ _ h => h) (Or.inr ⟨by rfl, rfl⟩) ?_ ?_
                 rotate_left
                 ·
                  simp only [Act.put, List.setIfInBounds_toArray, List.set_cons_zero, List.set_cons_succ, i64_w, i32_w]
                  rfl
                 refine pure_ (i := 16) (N := some 102) (v := undef) (a' := ?_) #[true, true, true, true, true, true, true, true, true, true, true, true, true, true, true, true, true, false, false, false] rfl rfl (any_of HT_.out (by kernel_rfl)) (fun _ _ _ h => h) (Or.inr ⟨by rfl, rfl⟩) ?_ ?_
                 rotate_left
                 ·
                  simp only [Act.put, List.setIfInBounds_toArray, List.set_cons_zero, List.set_cons_succ, i64_w, i32_w]
                  rfl
                 refine pure_ (i := 17) (N := some 103) (v := undef) (a' := ?_) #[true, true, true, true, true, true, true, true, true, true, true, true, true, true, true, true, true, true, false, false] rfl rfl (any_of HT_.out (by kernel_rfl)) (fun _ _ _ h => h) (Or.inr ⟨by rfl, rfl⟩) ?_ ?_
                 rotate_left
                 ·
                  simp only [Act.put, List.setIfInBounds_toArray, List.set_cons_zero, List.set_cons_succ, i64_w, i32_w]
                  rfl
                 refine pure_ (i := 18) (N := some 104) (v := undef) (a' := ?_) #[true, true, true, true, true, true, true, true, true, true, true, true, true, true, true, true, true, true, true, false] rfl rfl (any_of HT_.out (by kernel_rfl)) (fun _ _ _ h => h) (Or.inr ⟨by rfl, rfl⟩) ?_ ?_
                 rotate_left
                 ·
                  simp only [Act.put, List.setIfInBounds_toArray, List.set_cons_zero, List.set_cons_succ, i64_w, i32_w]
                  rfl
                 refine pure_ (i := 19) (N := some 105) (v := ?_) (a' := ?_) #[true, true, true, true, true, true, true, true, true, true, true, true, true, true, true, true, true, true, true, true] rfl rfl (any_of HT_.out (by kernel_rfl)) (fun _ _ _ h => h) (Or.inl ⟨by rfl, ?_⟩) ?_ ?_
                 rotate_left
                 ·
                  intro w'
                  go_simp
                  with_reducible rfl
                 rotate_left
                 ·
                  simp only [Act.put, List.setIfInBounds_toArray, List.set_cons_zero, List.set_cons_succ, i64_w, i32_w]
                  rfl
                 refine done_ (done_of HT_.out (by kernel_rfl)) ?_
                 try go_wp2
                 go_ret
                 exact ⟨by first | rfl | (simp [errW_none, errW_some] <;> rfl) | (simp [*, errW_none, errW_some] <;> rfl), by repeat (first | (with_reducible first | exact HB.out | apply below_alloc | apply pw_below_drewN | apply below_drew1 | refine below_set ?_ GE196.out | refine below_set ?_ GE215.out | refine below_set ?_ GE217.out) | exact HB.out)⟩
                ·
                 rw [if_neg c52] at H
                 have c52b0 : (!(((rd_T43 t206 x11_2).f0) == ((rd_T43 x197000_1 x55_2).f0)) || (!(((rd_T43 t206 x11_2).f1) == ((rd_T43 x197000_1 x55_2).f1)))) = false := by simpa using c52
                 clear c52
                 replace H := Option.bind_eq_some_iff.mp H
                 obtain ⟨t219, A590, H⟩ := H
                 replace H : (if t219 = true then (some false) else (warpbeamlaw18_ChoiceWakes.l1 k2 a1 t212 x10_2 (wrap64 (x11_2 + 1)) x197000_1 (x197000_1.length : Int) (wrap64 (x55_2 + 1)) t206 t209)) = some r := H
                 have A59 := Aside0.mk A590
                 clear A590
                 by_cases c60 : t219 = true
                 ·
                  subst c60
                  have H1 : (some false) = some r := by rw [if_pos rfl] at H; exact H
                  clear H
                  have H := H1
                  clear H1
                  obtain rfl := Option.some.inj H
                  have p216 : 0 ≤ (x55_2 : Int) := of_decide_eq_true (by first | (with_reducible assumption) | assumption)
                  have q216 : x55_2 < (x197000_1.length : Int) := of_decide_eq_true (by first | (with_reducible assumption) | assumption)
                  obtain ⟨ad216, e216, hx216_0, hx216_1⟩ := at_T43 (Kd.V_reads' HO_53.out).2.2 x55_2 p216 q216
                  cases e216
                  replace p216 := eq_true p216
                  replace q216 := eq_true q216
                  try go_wp2_with (first | ((with_reducible refine gate_dst (N := 13) rfl ?_); refine box_event ?hg (N := 13) ?hd (cs := #[.int .i64 0, .int .u64 0]) (t := 43) ?hr ?_; (case hd => rfl); (case hg => rfl); (case hr => first | (go_simp; done) | (go_simp; rfl)); intro gb217 hg w61 hbox hb; have n0_ := Aside0.mk (Kd.V_below (Kd.V_elderB (by (with_reducible repeat (first | apply Kd.V_alloc | apply Kd.V_drewN | apply Kd.V_drew)); exact HO_9.out) gb217 (Nat.le_of_eq hg.symm)) hb); have n1_ := Aside0.mk (Kd.V_below (Kd.V_elderB (by (with_reducible repeat (first | apply Kd.V_alloc | apply Kd.V_drewN | apply Kd.V_drew)); exact HO_53.out) gb217 (Nat.le_of_eq hg.symm)) hb); have n2_ := Aside0.mk (Kd.V_below (Kd.V_elderB (by (with_reducible repeat (first | apply Kd.V_alloc | apply Kd.V_drewN | apply Kd.V_drew)); exact HO_197000.out) gb217 (Nat.le_of_eq hg.symm)) hb); have n3_ := Aside0.mk (Kd.V_below (Kd.V_elderB (by (with_reducible repeat (first | apply Kd.V_alloc | apply Kd.V_drewN | apply Kd.V_drew)); exact HO_197001.out) gb217 (Nat.le_of_eq hg.symm)) hb); have n4_ := Aside0.mk (Kd.V_below (Kd.V_elderB (by (with_reducible repeat (first | apply Kd.V_alloc | apply Kd.V_drewN | apply Kd.V_drew)); exact HO_216000.out) gb217 (Nat.le_of_eq hg.symm)) hb); have n5_ := Aside0.mk (Kd.V_below (Kd.V_elderB (by (with_reducible repeat (first | apply Kd.V_alloc | apply Kd.V_drewN | apply Kd.V_drew)); exact HO_216001.out) gb217 (Nat.le_of_eq hg.symm)) hb); have n6_ := Aside0.mk (blk_below (g := gb196) (o := .cells #[.slice (some ad216) x197000_1.length co29, .slice Ao30 x197001_1.length co30] 27 (0, 0)) (by (with_reducible repeat (first | refine blk_drewN ?_ _ | refine blk_drew ?_ | refine blk_alloc ?_ _)); exact BK196.out) hb); have n7_ := Aside0.mk (blk_below (g := gb215) (o := .cells #[.slice Ao33 t206.length co33, .slice Ao36 t209.length co36] 27 (0, 0)) (by (with_reducible repeat (first | refine blk_drewN ?_ _ | refine blk_drew ?_ | refine blk_alloc ?_ _)); exact BK215.out) hb); have n8_ := Aside0.mk (below_step (by repeat (first | (with_reducible first | exact HB.out | apply below_alloc | apply pw_below_drewN | apply below_drew1 | refine below_set ?_ GE196.out | refine below_set ?_ GE215.out) | exact HB.out)) hb); have n9_ := Aside0.mk (hbox); have n10_ := Aside0.mk ((by rw [hg]; exact (below_size (by repeat (first | (with_reducible first | exact HB.out | apply below_alloc | apply pw_below_drewN | apply below_drew1 | refine below_set ?_ GE196.out | refine below_set ?_ GE215.out) | exact HB.out))) : w.heap.size ≤ gb217)); have n11_ := Aside0.mk ((by rw [hg]; exact (below_size (by repeat (first | (with_reducible first | exact HB.out | apply below_alloc | apply pw_below_drewN | apply below_drew1 | refine below_set ?_ GE196.out | refine below_set ?_ GE215.out) | exact HB.out))) : w.heap.size ≤ gb217)); have n12_ := Aside0.mk ((by rw [hg]; exact Nat.ne_of_lt (blk_lt (g := gb196) (o := .cells #[.slice (some ad216) x197000_1.length co29, .slice Ao30 x197001_1.length co30] 27 (0, 0)) (by (with_reducible repeat (first | refine blk_drewN ?_ _ | refine blk_drew ?_ | refine blk_alloc ?_ _)); exact BK196.out)) : gb196 ≠ gb217)); have n13_ := Aside0.mk ((by rw [hg]; exact Nat.ne_of_gt (blk_lt (g := gb196) (o := .cells #[.slice (some ad216) x197000_1.length co29, .slice Ao30 x197001_1.length co30] 27 (0, 0)) (by (with_reducible repeat (first | refine blk_drewN ?_ _ | refine blk_drew ?_ | refine blk_alloc ?_ _)); exact BK196.out)) : gb217 ≠ gb196)); have n14_ := Aside0.mk ((by rw [hg]; exact Nat.ne_of_lt (blk_lt (g := gb215) (o := .cells #[.slice Ao33 t206.length co33, .slice Ao36 t209.length co36] 27 (0, 0)) (by (with_reducible repeat (first | refine blk_drewN ?_ _ | refine blk_drew ?_ | refine blk_alloc ?_ _)); exact BK215.out)) : gb215 ≠ gb217)); have n15_ := Aside0.mk ((by rw [hg]; exact Nat.ne_of_gt (blk_lt (g := gb215) (o := .cells #[.slice Ao33 t206.length co33, .slice Ao36 t209.length co36] 27 (0, 0)) (by (with_reducible repeat (first | refine blk_drewN ?_ _ | refine blk_drew ?_ | refine blk_alloc ?_ _)); exact BK215.out)) : gb217 ≠ gb215)); clear HO_9; clear HO_53; clear HO_197000; clear HO_197001; clear HO_216000; clear HO_216001; clear BK196; clear BK215; clear HB; have HO_9 := n0_; have HO_53 := n1_; have HO_197000 := n2_; have HO_197001 := n3_; have HO_216000 := n4_; have HO_216001 := n5_; have BK196 := n6_; have BK215 := n7_; have HB := n8_; have BK217 := n9_; have GW217 := n10_; have GE217 := n11_; have NB196_217 := n12_; have NB217_196 := n13_; have NB215_217 := n14_; have NB217_215 := n15_; clear n0_ n1_ n2_ n3_ n4_ n5_ n6_ n7_ n8_ n9_ n10_ n11_ n12_ n13_ n14_ n15_; clear hb hbox hg; have hnb62 := NB217_196.out; have hnc62 := NB196_217.out; have hnb63 := NB217_215.out; have hnc63 := NB215_217.out; have hcz64_0 : w61.cell? ⟨gb217, 0, none⟩ = some (.int .i64 0) := (blk_cell BK217.out 0).trans rfl; have hcz64_1 : w61.cell? ⟨gb217, 1, none⟩ = some (.int .u64 0) := (blk_cell BK217.out 1).trans rfl; have hfz64_0 := blk_frozen BK217.out 0; have hfz64_1 := blk_frozen BK217.out 1))
                  have n0_ : Aside0 (Kd.V (Kd.int .i64) 3 ((w61.setCell ⟨gb217, 0, none⟩ (.int .i64 ((rd_T43 x197000_1 x55_2).f0))).setCell ⟨gb217, 1, none⟩ (.int .u64 ((rd_T43 x197000_1 x55_2).f1))) w.heap.size (fun k_ => k_ ≠ gb196 ∧ k_ ≠ gb215 ∧ k_ ≠ gb217) (.slice Ao37 t212.length co37) t212) := ⟨by (with_reducible repeat (first | apply Kd.V_alloc | apply Kd.V_drewN | apply Kd.V_drew)); exact Kd.V_mono (Kd.V_far (p := ⟨gb217, 1, none⟩) (Kd.V_far (p := ⟨gb217, 0, none⟩) (Kd.V_mono HO_9.out (fun k_ hk => (⟨hk, hk.2⟩ : _ ∧ k_ ≠ gb217))) (fun _ hk => hk.2) (.int .i64 ((rd_T43 x197000_1 x55_2).f0))) (fun _ hk => hk.2) (.int .u64 ((rd_T43 x197000_1 x55_2).f1))) (fun _ hk => ⟨hk.1.1.1, ⟨hk.1.1.2, hk.1.2⟩⟩)⟩
                  have n1_ : Aside0 (Kd.V k43 43 ((w61.setCell ⟨gb217, 0, none⟩ (.int .i64 ((rd_T43 x197000_1 x55_2).f0))).setCell ⟨gb217, 1, none⟩ (.int .u64 ((rd_T43 x197000_1 x55_2).f1))) w.heap.size (fun k_ => k_ ≠ gb196 ∧ k_ ≠ gb215 ∧ k_ ≠ gb217) (.slice (some ad216) x197000_1.length co29) x197000_1) := ⟨by (with_reducible repeat (first | apply Kd.V_alloc | apply Kd.V_drewN | apply Kd.V_drew)); exact Kd.V_mono (Kd.V_far (p := ⟨gb217, 1, none⟩) (Kd.V_far (p := ⟨gb217, 0, none⟩) (Kd.V_mono HO_53.out (fun k_ hk => (⟨hk, hk.2⟩ : _ ∧ k_ ≠ gb217))) (fun _ hk => hk.2) (.int .i64 ((rd_T43 x197000_1 x55_2).f0))) (fun _ hk => hk.2) (.int .u64 ((rd_T43 x197000_1 x55_2).f1))) (fun _ hk => ⟨hk.1.1.1, ⟨hk.1.1.2, hk.1.2⟩⟩)⟩
                  have n2_ : Aside0 (Kd.V k43 43 ((w61.setCell ⟨gb217, 0, none⟩ (.int .i64 ((rd_T43 x197000_1 x55_2).f0))).setCell ⟨gb217, 1, none⟩ (.int .u64 ((rd_T43 x197000_1 x55_2).f1))) w.heap.size (fun k_ => k_ ≠ gb196 ∧ k_ ≠ gb215 ∧ k_ ≠ gb217) (.slice (some ad216) x197000_1.length co29) x197000_1) := ⟨by (with_reducible repeat (first | apply Kd.V_alloc | apply Kd.V_drewN | apply Kd.V_drew)); exact Kd.V_mono (Kd.V_far (p := ⟨gb217, 1, none⟩) (Kd.V_far (p := ⟨gb217, 0, none⟩) (Kd.V_mono HO_197000.out (fun k_ hk => (⟨hk, hk.2⟩ : _ ∧ k_ ≠ gb217))) (fun _ hk => hk.2) (.int .i64 ((rd_T43 x197000_1 x55_2).f0))) (fun _ hk => hk.2) (.int .u64 ((rd_T43 x197000_1 x55_2).f1))) (fun _ hk => ⟨hk.1.1.1, ⟨hk.1.1.2, hk.1.2⟩⟩)⟩
                  have n3_ : Aside0 (Kd.V (Kd.int .i64) 3 ((w61.setCell ⟨gb217, 0, none⟩ (.int .i64 ((rd_T43 x197000_1 x55_2).f0))).setCell ⟨gb217, 1, none⟩ (.int .u64 ((rd_T43 x197000_1 x55_2).f1))) w.heap.size (fun k_ => k_ ≠ gb196 ∧ k_ ≠ gb215 ∧ k_ ≠ gb217) (.slice Ao30 x197001_1.length co30) x197001_1) := ⟨by (with_reducible repeat (first | apply Kd.V_alloc | apply Kd.V_drewN | apply Kd.V_drew)); exact Kd.V_mono (Kd.V_far (p := ⟨gb217, 1, none⟩) (Kd.V_far (p := ⟨gb217, 0, none⟩) (Kd.V_mono HO_197001.out (fun k_ hk => (⟨hk, hk.2⟩ : _ ∧ k_ ≠ gb217))) (fun _ hk => hk.2) (.int .i64 ((rd_T43 x197000_1 x55_2).f0))) (fun _ hk => hk.2) (.int .u64 ((rd_T43 x197000_1 x55_2).f1))) (fun _ hk => ⟨hk.1.1.1, ⟨hk.1.1.2, hk.1.2⟩⟩)⟩
                  have n4_ : Aside0 (Kd.V k43 43 ((w61.setCell ⟨gb217, 0, none⟩ (.int .i64 ((rd_T43 x197000_1 x55_2).f0))).setCell ⟨gb217, 1, none⟩ (.int .u64 ((rd_T43 x197000_1 x55_2).f1))) w.heap.size (fun k_ => k_ ≠ gb196 ∧ k_ ≠ gb215 ∧ k_ ≠ gb217) (.slice Ao33 t206.length co33) t206) := ⟨by (with_reducible repeat (first | apply Kd.V_alloc | apply Kd.V_drewN | apply Kd.V_drew)); exact Kd.V_mono (Kd.V_far (p := ⟨gb217, 1, none⟩) (Kd.V_far (p := ⟨gb217, 0, none⟩) (Kd.V_mono HO_216000.out (fun k_ hk => (⟨hk, hk.2⟩ : _ ∧ k_ ≠ gb217))) (fun _ hk => hk.2) (.int .i64 ((rd_T43 x197000_1 x55_2).f0))) (fun _ hk => hk.2) (.int .u64 ((rd_T43 x197000_1 x55_2).f1))) (fun _ hk => ⟨hk.1.1.1, ⟨hk.1.1.2, hk.1.2⟩⟩)⟩
                  have n5_ : Aside0 (Kd.V (Kd.int .i64) 3 ((w61.setCell ⟨gb217, 0, none⟩ (.int .i64 ((rd_T43 x197000_1 x55_2).f0))).setCell ⟨gb217, 1, none⟩ (.int .u64 ((rd_T43 x197000_1 x55_2).f1))) w.heap.size (fun k_ => k_ ≠ gb196 ∧ k_ ≠ gb215 ∧ k_ ≠ gb217) (.slice Ao36 t209.length co36) t209) := ⟨by (with_reducible repeat (first | apply Kd.V_alloc | apply Kd.V_drewN | apply Kd.V_drew)); exact Kd.V_mono (Kd.V_far (p := ⟨gb217, 1, none⟩) (Kd.V_far (p := ⟨gb217, 0, none⟩) (Kd.V_mono HO_216001.out (fun k_ hk => (⟨hk, hk.2⟩ : _ ∧ k_ ≠ gb217))) (fun _ hk => hk.2) (.int .i64 ((rd_T43 x197000_1 x55_2).f0))) (fun _ hk => hk.2) (.int .u64 ((rd_T43 x197000_1 x55_2).f1))) (fun _ hk => ⟨hk.1.1.1, ⟨hk.1.1.2, hk.1.2⟩⟩)⟩
                  have n6_ : Aside0 (((w61.setCell ⟨gb217, 0, none⟩ (.int .i64 ((rd_T43 x197000_1 x55_2).f0))).setCell ⟨gb217, 1, none⟩ (.int .u64 ((rd_T43 x197000_1 x55_2).f1))).heap[gb196]? = some (.cells #[.slice (some ad216) x197000_1.length co29, .slice Ao30 x197001_1.length co30] 27 (0, 0))) := ⟨by (with_reducible repeat (first | refine blk_drewN ?_ _ | refine blk_drew ?_ | refine blk_alloc ?_ _)); refine blk_far ?_ NB196_217.out _; (with_reducible repeat (first | refine blk_drewN ?_ _ | refine blk_drew ?_ | refine blk_alloc ?_ _)); refine blk_far ?_ NB196_217.out _; (with_reducible repeat (first | refine blk_drewN ?_ _ | refine blk_drew ?_ | refine blk_alloc ?_ _)); exact BK196.out⟩
                  have n7_ : Aside0 (((w61.setCell ⟨gb217, 0, none⟩ (.int .i64 ((rd_T43 x197000_1 x55_2).f0))).setCell ⟨gb217, 1, none⟩ (.int .u64 ((rd_T43 x197000_1 x55_2).f1))).heap[gb215]? = some (.cells #[.slice Ao33 t206.length co33, .slice Ao36 t209.length co36] 27 (0, 0))) := ⟨by (with_reducible repeat (first | refine blk_drewN ?_ _ | refine blk_drew ?_ | refine blk_alloc ?_ _)); refine blk_far ?_ NB215_217.out _; (with_reducible repeat (first | refine blk_drewN ?_ _ | refine blk_drew ?_ | refine blk_alloc ?_ _)); refine blk_far ?_ NB215_217.out _; (with_reducible repeat (first | refine blk_drewN ?_ _ | refine blk_drew ?_ | refine blk_alloc ?_ _)); exact BK215.out⟩
                  have n8_ : Aside0 (((w61.setCell ⟨gb217, 0, none⟩ (.int .i64 ((rd_T43 x197000_1 x55_2).f0))).setCell ⟨gb217, 1, none⟩ (.int .u64 ((rd_T43 x197000_1 x55_2).f1))).heap[gb217]? = some (.cells #[.int .i64 ((rd_T43 x197000_1 x55_2).f0), .int .u64 ((rd_T43 x197000_1 x55_2).f1)] 43 (0, 0))) := ⟨by (with_reducible repeat (first | refine blk_drewN ?_ _ | refine blk_drew ?_ | refine blk_alloc ?_ _)); refine blk_put (cs := #[.int .i64 ((rd_T43 x197000_1 x55_2).f0), .int .u64 0]) ?_ 1 _ rfl; (with_reducible repeat (first | refine blk_drewN ?_ _ | refine blk_drew ?_ | refine blk_alloc ?_ _)); refine blk_put (cs := #[.int .i64 0, .int .u64 0]) ?_ 0 _ rfl; (with_reducible repeat (first | refine blk_drewN ?_ _ | refine blk_drew ?_ | refine blk_alloc ?_ _)); exact BK217.out⟩
                  have n9_ : Aside0 (Below w.heap.size w ((w61.setCell ⟨gb217, 0, none⟩ (.int .i64 ((rd_T43 x197000_1 x55_2).f0))).setCell ⟨gb217, 1, none⟩ (.int .u64 ((rd_T43 x197000_1 x55_2).f1)))) := ⟨by repeat (first | (with_reducible first | exact HB.out | apply below_alloc | apply pw_below_drewN | apply below_drew1 | refine below_set ?_ GE196.out | refine below_set ?_ GE215.out | refine below_set ?_ GE217.out) | exact HB.out)⟩
                  (try clear HO_9)
                  (try clear HO_53)
                  (try clear HO_197000)
                  (try clear HO_197001)
                  (try clear HO_216000)
                  (try clear HO_216001)
                  (try clear BK196)
                  (try clear BK215)
                  (try clear BK217)
                  (try clear HB)
                  generalize ((w61.setCell ⟨gb217, 0, none⟩ (.int .i64 ((rd_T43 x197000_1 x55_2).f0))).setCell ⟨gb217, 1, none⟩ (.int .u64 ((rd_T43 x197000_1 x55_2).f1))) = w65 at n0_ n1_ n2_ n3_ n4_ n5_ n6_ n7_ n8_ n9_ ⊢
                  have HO_9 := n0_
                  have HO_53 := n1_
                  have HO_197000 := n2_
                  have HO_197001 := n3_
                  have HO_216000 := n4_
                  have HO_216001 := n5_
                  have BK196 := n6_
                  have BK215 := n7_
                  have BK217 := n8_
                  have HB := n9_
                  clear n0_ n1_ n2_ n3_ n4_ n5_ n6_ n7_ n8_ n9_
                  have n0_ := Aside0.mk (Kd.V_drew HO_9.out)
                  have n1_ := Aside0.mk (Kd.V_drew HO_53.out)
                  have n2_ := Aside0.mk (Kd.V_drew HO_197000.out)
                  have n3_ := Aside0.mk (Kd.V_drew HO_197001.out)
                  have n4_ := Aside0.mk (Kd.V_drew HO_216000.out)
                  have n5_ := Aside0.mk (Kd.V_drew HO_216001.out)
                  have n6_ := Aside0.mk (blk_drew BK196.out)
                  have n7_ := Aside0.mk (blk_drew BK215.out)
                  have n8_ := Aside0.mk (blk_drew BK217.out)
                  have n9_ := Aside0.mk (below_drew1 HB.out)
                  clear HO_9
                  clear HO_53
                  clear HO_197000
                  clear HO_197001
                  clear HO_216000
                  clear HO_216001
                  clear BK196
                  clear BK215
                  clear BK217
                  clear HB
                  have HO_9 := n0_
                  have HO_53 := n1_
                  have HO_197000 := n2_
                  have HO_197001 := n3_
                  have HO_216000 := n4_
                  have HO_216001 := n5_
                  have BK196 := n6_
                  have BK215 := n7_
                  have BK217 := n8_
                  have HB := n9_
                  clear n0_ n1_ n2_ n3_ n4_ n5_ n6_ n7_ n8_ n9_
                  have p218 : 0 ≤ (x11_2 : Int) := of_decide_eq_true (by first | (with_reducible assumption) | assumption)
                  have q218 : x11_2 < (t206.length : Int) := of_decide_eq_true (by first | (with_reducible assumption) | assumption)
                  obtain ⟨ad218, e218, hx218_0, hx218_1⟩ := at_T43 (Kd.V_reads' HO_216000.out).2.2 x11_2 p218 q218
                  cases e218
                  replace p218 := eq_true p218
                  replace q218 := eq_true q218
                  refine start_ (n := 20) (S := fun w' => w'.cell? ⟨gb215, 0, none⟩ = some (.slice (some ad218) t206.length co33) ∧ w'.cell? ⟨gb215, 1, none⟩ = some (.slice Ao36 t209.length co36) ∧ w'.cell? ⟨gb217, 0, none⟩ = some (.int .i64 ((rd_T43 x197000_1 x55_2).f0)) ∧ w'.cell? ⟨gb217, 1, none⟩ = some (.int .u64 ((rd_T43 x197000_1 x55_2).f1)) ∧ w'.cell? (ad218.add ((x11_2).toNat * 2)) = some (.int .i64 ((rd_T43 t206 x11_2).f0)) ∧ w'.cell? ⟨(ad218.add ((x11_2).toNat * 2)).block, (ad218.add ((x11_2).toNat * 2)).off + 1, none⟩ = some (.int .u64 ((rd_T43 t206 x11_2).f1))) (ds := []) #[false, false, false, false, false, false, false, false, false, false, false, false, false, false, false, false, false, false, false, false] (by kernel_rfl) rfl rfl ⟨(blk_cell BK215.out 0).trans rfl, (blk_cell BK215.out 1).trans rfl, (blk_cell BK217.out 0).trans rfl, (blk_cell BK217.out 1).trans rfl, hx218_0, hx218_1⟩ (fun hHeld => ?_); refine with_tabW warpbeamlaw18_ChoiceWakes.tab22 warpbeamlaw18_ChoiceWakes.bits22 (fun HT_ HW_ => ?_)
                  generalize w65.drew = w66 at HO_9 HO_53 HO_197000 HO_197001 HO_216000 HO_216001 BK196 BK215 BK217 HB hx218_0 hx218_1 hHeld ⊢
                  refine pure_ (i := 0) (N := some 86) (v := ?_) (a' := ?_) #[true, false, false, false, false, false, false, false, false, false, false, false, false, false, false, false, false, false, false, false] rfl rfl (any_of HT_.out (by kernel_rfl)) (fun _ _ _ h => h) (Or.inl ⟨by rfl, ?_⟩) ?_ ?_
                  rotate_left
                  ·
                   intro w'
                   go_simp
                   with_reducible rfl
                  rotate_left
                  ·
                   simp only [Act.put, List.setIfInBounds_toArray, List.set_cons_zero, List.set_cons_succ, i64_w, i32_w]
                   rfl
                  refine pure_ (i := 1) (N := some 87) (v := ?_) (a' := ?_) #[true, true, false, false, false, false, false, false, false, false, false, false, false, false, false, false, false, false, false, false] rfl rfl (any_of HT_.out (by kernel_rfl)) (fun _ _ _ h => h) (Or.inl ⟨by rfl, ?_⟩) ?_ ?_
                  rotate_left
                  ·
                   intro w'
                   go_simp
                   with_reducible rfl
                  rotate_left
                  ·
                   simp only [Act.put, List.setIfInBounds_toArray, List.set_cons_zero, List.set_cons_succ, i64_w, i32_w]
                   rfl
                  refine take_ (i := 2) (N := some 88) (v := ?_) (a' := ?_) #[true, true, true, false, false, false, false, false, false, false, false, false, false, false, false, false, false, false, false, false] rfl rfl (take_ofW HT_.out HW_.out (by kernel_rfl)) (fun _ _ _ h => h) (Or.inl ⟨by rfl, ?_⟩) hHeld ?_ ?_
                  rotate_left
                  ·
                   rintro w' ⟨s0, s1, s2, s3, s4, s5⟩
                   go_simp
                   with_reducible rfl
                  rotate_left
                  ·
                   simp only [Act.put, List.setIfInBounds_toArray, List.set_cons_zero, List.set_cons_succ, i64_w, i32_w]
                   rfl
                  refine pure_ (i := 3) (N := some 89) (v := ?_) (a' := ?_) #[true, true, true, true, false, false, false, false, false, false, false, false, false, false, false, false, false, false, false, false] rfl rfl (any_of HT_.out (by kernel_rfl)) (fun _ _ _ h => h) (Or.inl ⟨by rfl, ?_⟩) ?_ ?_
                  rotate_left
                  ·
                   intro w'
                   go_simp
                   with_reducible rfl
                  rotate_left
                  ·
                   simp only [Act.put, List.setIfInBounds_toArray, List.set_cons_zero, List.set_cons_succ, i64_w, i32_w]
                   rfl
                  refine pure_ (i := 4) (N := some 90) (v := ?_) (a' := ?_) #[true, true, true, true, true, false, false, false, false, false, false, false, false, false, false, false, false, false, false, false] rfl rfl (any_of HT_.out (by kernel_rfl)) (fun _ _ _ h => h) (Or.inl ⟨by rfl, ?_⟩) ?_ ?_
                  rotate_left
                  ·
                   intro w'
                   go_simp
                   with_reducible rfl
                  rotate_left
                  ·
                   simp only [Act.put, List.setIfInBounds_toArray, List.set_cons_zero, List.set_cons_succ, i64_w, i32_w]
                   rfl
                  refine pure_ (i := 5) (N := some 91) (v := ?_) (a' := ?_) #[true, true, true, true, true, true, false, false, false, false, false, false, false, false, false, false, false, false, false, false] rfl rfl (any_of HT_.out (by kernel_rfl)) (fun _ _ _ h => h) (Or.inl ⟨by rfl, ?_⟩) ?_ ?_
                  rotate_left
                  ·
                   intro w'
                   go_simp
                   with_reducible rfl
                  rotate_left
                  ·
                   simp only [Act.put, List.setIfInBounds_toArray, List.set_cons_zero, List.set_cons_succ, i64_w, i32_w]
                   rfl
                  refine pure_ (i := 6) (N := some 92) (v := ?_) (a' := ?_) #[true, true, true, true, true, true, true, false, false, false, false, false, false, false, false, false, false, false, false, false] rfl rfl (any_of HT_.out (by kernel_rfl)) (fun _ _ _ h => h) (Or.inl ⟨by rfl, ?_⟩) ?_ ?_
                  rotate_left
                  ·
                   intro w'
                   go_simp
                   with_reducible rfl
                  rotate_left
                  ·
                   simp only [Act.put, List.setIfInBounds_toArray, List.set_cons_zero, List.set_cons_succ, i64_w, i32_w]
                   rfl
                  refine pure_ (i := 8) (N := some 94) (v := ?_) (a' := ?_) #[true, true, true, true, true, true, true, false, true, false, false, false, false, false, false, false, false, false, false, false] rfl rfl (any_of HT_.out (by kernel_rfl)) (fun _ _ _ h => h) (Or.inl ⟨by rfl, ?_⟩) ?_ ?_
                  rotate_left
                  ·
                   intro w'
                   go_simp
                   with_reducible rfl
                  rotate_left
                  ·
                   simp only [Act.put, List.setIfInBounds_toArray, List.set_cons_zero, List.set_cons_succ, i64_w, i32_w]
                   rfl
                  refine take_ (i := 7) (N := some 93) (v := ?_) (a' := ?_) #[true, true, true, true, true, true, true, true, true, false, false, false, false, false, false, false, false, false, false, false] rfl rfl (take_ofW HT_.out HW_.out (by kernel_rfl)) (fun _ _ _ h => h) (Or.inl ⟨by rfl, ?_⟩) hHeld ?_ ?_
                  rotate_left
                  ·
                   rintro w' ⟨s0, s1, s2, s3, s4, s5⟩
                   go_simp
                   with_reducible rfl
                  rotate_left
                  ·
                   simp only [Act.put, List.setIfInBounds_toArray, List.set_cons_zero, List.set_cons_succ, i64_w, i32_w]
                   rfl
                  refine pure_ (i := 9) (N := some 95) (v := ?_) (a' := ?_) #[true, true, true, true, true, true, true, true, true, true, false, false, false, false, false, false, false, false, false, false] rfl rfl (any_of HT_.out (by kernel_rfl)) (fun _ _ _ h => h) (Or.inl ⟨by rfl, ?_⟩) ?_ ?_
                  rotate_left
                  ·
                   intro w'
                   go_simp
                   with_reducible rfl
                  rotate_left
                  ·
                   simp only [Act.put, List.setIfInBounds_toArray, List.set_cons_zero, List.set_cons_succ, i64_w, i32_w]
                   rfl
                  refine take_ (i := 10) (N := some 96) (v := ?_) (a' := ?_) #[true, true, true, true, true, true, true, true, true, true, true, false, false, false, false, false, false, false, false, false] rfl rfl (take_ofW HT_.out HW_.out (by kernel_rfl)) (fun _ _ _ h => h) (Or.inl ⟨by rfl, ?_⟩) hHeld ?_ ?_
                  rotate_left
                  ·
                   rintro w' ⟨s0, s1, s2, s3, s4, s5⟩
                   go_simp
                   with_reducible rfl
                  rotate_left
                  ·
                   simp only [Act.put, List.setIfInBounds_toArray, List.set_cons_zero, List.set_cons_succ, i64_w, i32_w]
                   rfl
                  refine take_ (i := 11) (N := some 97) (v := ?_) (a' := ?_) #[true, true, true, true, true, true, true, true, true, true, true, true, false, false, false, false, false, false, false, false] rfl rfl (take_ofW HT_.out HW_.out (by kernel_rfl)) (fun _ _ _ h => h) (Or.inl ⟨by rfl, ?_⟩) hHeld ?_ ?_
                  rotate_left
                  ·
                   rintro w' ⟨s0, s1, s2, s3, s4, s5⟩
                   go_simp
                   with_reducible rfl
                  rotate_left
                  ·
                   simp only [Act.put, List.setIfInBounds_toArray, List.set_cons_zero, List.set_cons_succ, i64_w, i32_w]
                   rfl
                  refine pure_ (i := 12) (N := some 98) (v := ?_) (a' := ?_) #[true, true, true, true, true, true, true, true, true, true, true, true, true, false, false, false, false, false, false, false] rfl rfl (any_of HT_.out (by kernel_rfl)) (fun _ _ _ h => h) (Or.inl ⟨by rfl, ?_⟩) ?_ ?_
                  rotate_left
                  ·
                   intro w'
                   go_simp
                   with_reducible rfl
                  rotate_left
                  ·
                   simp only [Act.put, List.setIfInBounds_toArray, List.set_cons_zero, List.set_cons_succ, i64_w, i32_w]
                   rfl
                  refine pure_ (i := 13) (N := some 99) (v := ?_) (a' := ?_) #[true, true, true, true, true, true, true, true, true, true, true, true, true, true, false, false, false, false, false, false] rfl rfl (any_of HT_.out (by kernel_rfl)) (fun _ _ _ h => h) (Or.inl ⟨by rfl, ?_⟩) ?_ ?_
                  rotate_left
                  ·
                   intro w'
                   go_simp
                   with_reducible rfl
                  rotate_left
                  ·
                   simp only [Act.put, List.setIfInBounds_toArray, List.set_cons_zero, List.set_cons_succ, i64_w, i32_w]
                   rfl
                  refine pure_ (i := 14) (N := some 100) (v := ?_) (a' := ?_) #[true, true, true, true, true, true, true, true, true, true, true, true, true, true, true, false, false, false, false, false] rfl rfl (any_of HT_.out (by kernel_rfl)) (fun _ _ _ h => h) (Or.inl ⟨by rfl, ?_⟩) ?_ ?_
                  rotate_left
                  ·
                   intro w'
                   go_simp
                   with_reducible rfl
                  rotate_left
                  ·
                   simp only [Act.put, List.setIfInBounds_toArray, List.set_cons_zero, List.set_cons_succ, i64_w, i32_w]
                   rfl
                  refine pure_ (i := 16) (N := some 102) (v := ?_) (a' := ?_) #[true, true, true, true, true, true, true, true, true, true, true, true, true, true, true, false, true, false, false, false] rfl rfl (any_of HT_.out (by kernel_rfl)) (fun _ _ _ h => h) (Or.inl ⟨by rfl, ?_⟩) ?_ ?_
                  rotate_left
                  ·
                   intro w'
                   go_simp
                   with_reducible rfl
                  rotate_left
                  ·
                   simp only [Act.put, List.setIfInBounds_toArray, List.set_cons_zero, List.set_cons_succ, i64_w, i32_w]
                   rfl
                  refine take_ (i := 15) (N := some 101) (v := ?_) (a' := ?_) #[true, true, true, true, true, true, true, true, true, true, true, true, true, true, true, true, true, false, false, false] rfl rfl (take_ofW HT_.out HW_.out (by kernel_rfl)) (fun _ _ _ h => h) (Or.inl ⟨by rfl, ?_⟩) hHeld ?_ ?_
                  rotate_left
                  ·
                   rintro w' ⟨s0, s1, s2, s3, s4, s5⟩
                   go_simp
                   with_reducible rfl
                  rotate_left
                  ·
                   simp only [Act.put, List.setIfInBounds_toArray, List.set_cons_zero, List.set_cons_succ, i64_w, i32_w]
                   rfl
                  refine take_ (i := 17) (N := some 103) (v := ?_) (a' := ?_) #[true, true, true, true, true, true, true, true, true, true, true, true, true, true, true, true, true, true, false, false] rfl rfl (take_ofW HT_.out HW_.out (by kernel_rfl)) (fun _ _ _ h => h) (Or.inl ⟨by rfl, ?_⟩) hHeld ?_ ?_
                  rotate_left
                  ·
                   rintro w' ⟨s0, s1, s2, s3, s4, s5⟩
                   go_simp
                   with_reducible rfl
                  rotate_left
                  ·
                   simp only [Act.put, List.setIfInBounds_toArray, List.set_cons_zero, List.set_cons_succ, i64_w, i32_w]
                   rfl
                  refine one_ (i := 18) (N := some 104) #[true, true, true, true, true, true, true, true, true, true, true, true, true, true, true, true, true, true, true, false] rfl rfl (one_of HT_.out (by kernel_rfl)) (by decide) (fun K hK => ?_)
                  refine goes_ Try.func10 (by kernel_rfl) rfl #[.agg #[.slice (some ad218) t206.length co33, .slice Ao36 t209.length co36], .int .i64 ((rd_T43 x197000_1 x55_2).f0)] (by rfl) rfl rfl (by (try simp only [List.map_toArray, List.map_cons, List.map_nil]); first | done | rfl | (simp only [List.length_drop, List.length_take]; rfl)) ?_
                  with_reducible refine (choice_May.calls k2 _ _ t206 _ _ t209 ((rd_T43 x197000_1 x55_2).f0) true _ ?side1 ?side2 ?side3 ?side4 A59.out).mono ?_
                  (case side1 => repeat (first | exact (Kd.V_reads' HO_216000.out).2.2 | (with_reducible refine Kd.C_alloc ?_ _) | (with_reducible refine Kd.C_drewN ?_ _) | (with_reducible refine Kd.C_drew ?_)))
                  (case side2 => exact (Kd.V_reads' HO_216000.out).2.1)
                  (case side3 => repeat (first | exact (Kd.V_reads' HO_216001.out).2.2 | (with_reducible refine Kd.C_alloc ?_ _) | (with_reducible refine Kd.C_drewN ?_ _) | (with_reducible refine Kd.C_drew ?_)))
                  (case side4 => exact (Kd.V_reads' HO_216001.out).2.1)
                  rintro e w67 ⟨rfl, hb⟩
                  have HS4_ := (hb.cell (World.block_lt_of_cell? _ _ (hHeld.2.2.2.2.1))).trans (hHeld.2.2.2.2.1)
                  have HS5_ := (hb.cell (World.block_lt_of_cell? _ _ (hHeld.2.2.2.2.2))).trans (hHeld.2.2.2.2.2)
                  refine ⟨_, rfl, ?_⟩
                  have n0_ := Aside0.mk (Kd.V_below (by (with_reducible repeat (first | apply Kd.V_alloc | apply Kd.V_drewN | apply Kd.V_drew)); exact HO_9.out) hb)
                  have n1_ := Aside0.mk (Kd.V_below (by (with_reducible repeat (first | apply Kd.V_alloc | apply Kd.V_drewN | apply Kd.V_drew)); exact HO_53.out) hb)
                  have n2_ := Aside0.mk (Kd.V_below (by (with_reducible repeat (first | apply Kd.V_alloc | apply Kd.V_drewN | apply Kd.V_drew)); exact HO_197000.out) hb)
                  have n3_ := Aside0.mk (Kd.V_below (by (with_reducible repeat (first | apply Kd.V_alloc | apply Kd.V_drewN | apply Kd.V_drew)); exact HO_197001.out) hb)
                  have n4_ := Aside0.mk (Kd.V_below (by (with_reducible repeat (first | apply Kd.V_alloc | apply Kd.V_drewN | apply Kd.V_drew)); exact HO_216000.out) hb)
                  have n5_ := Aside0.mk (Kd.V_below (by (with_reducible repeat (first | apply Kd.V_alloc | apply Kd.V_drewN | apply Kd.V_drew)); exact HO_216001.out) hb)
                  have n6_ := Aside0.mk (blk_below (g := gb196) (o := .cells #[.slice (some ad216) x197000_1.length co29, .slice Ao30 x197001_1.length co30] 27 (0, 0)) (by (with_reducible repeat (first | refine blk_drewN ?_ _ | refine blk_drew ?_ | refine blk_alloc ?_ _)); exact BK196.out) hb)
                  have n7_ := Aside0.mk (blk_below (g := gb215) (o := .cells #[.slice (some ad218) t206.length co33, .slice Ao36 t209.length co36] 27 (0, 0)) (by (with_reducible repeat (first | refine blk_drewN ?_ _ | refine blk_drew ?_ | refine blk_alloc ?_ _)); exact BK215.out) hb)
                  have n8_ := Aside0.mk (blk_below (g := gb217) (o := .cells #[.int .i64 ((rd_T43 x197000_1 x55_2).f0), .int .u64 ((rd_T43 x197000_1 x55_2).f1)] 43 (0, 0)) (by (with_reducible repeat (first | refine blk_drewN ?_ _ | refine blk_drew ?_ | refine blk_alloc ?_ _)); exact BK217.out) hb)
                  have n9_ := Aside0.mk (below_step (by repeat (first | (with_reducible first | exact HB.out | apply below_alloc | apply pw_below_drewN | apply below_drew1 | refine below_set ?_ GE196.out | refine below_set ?_ GE215.out | refine below_set ?_ GE217.out) | exact HB.out)) hb)
                  clear HO_9
                  clear HO_53
                  clear HO_197000
                  clear HO_197001
                  clear HO_216000
                  clear HO_216001
                  clear BK196
                  clear BK215
                  clear BK217
                  clear HB
                  have HO_9 := n0_
                  have HO_53 := n1_
                  have HO_197000 := n2_
                  have HO_197001 := n3_
                  have HO_216000 := n4_
                  have HO_216001 := n5_
                  have BK196 := n6_
                  have BK215 := n7_
                  have BK217 := n8_
                  have HB := n9_
                  clear n0_ n1_ n2_ n3_ n4_ n5_ n6_ n7_ n8_ n9_
                  (try clear hb)
                  (try clear hb2)
                  (try clear hk)
                  (try clear hi)
                  refine hK.out _ _ ⟨(blk_cell BK215.out 0).trans rfl, (blk_cell BK215.out 1).trans rfl, (blk_cell BK217.out 0).trans rfl, (blk_cell BK217.out 1).trans rfl, HS4_, HS5_⟩ (fun hHeld => ?_)
                  clear hK K
                  refine norm_ (a' := ?_) ?_ ?_
                  rotate_left
                  ·
                   show Act.put _ (some 104) _ = _
                   simp only [Act.put, List.setIfInBounds_toArray, List.set_cons_zero, List.set_cons_succ, i64_w, i32_w]
                   rfl
                  refine pure_ (i := 19) (N := some 105) (v := ?_) (a' := ?_) #[true, true, true, true, true, true, true, true, true, true, true, true, true, true, true, true, true, true, true, true] rfl rfl (any_of HT_.out (by kernel_rfl)) (fun _ _ _ h => h) (Or.inl ⟨by rfl, ?_⟩) ?_ ?_
                  rotate_left
                  ·
                   intro w'
                   go_simp
                   with_reducible rfl
                  rotate_left
                  ·
                   simp only [Act.put, List.setIfInBounds_toArray, List.set_cons_zero, List.set_cons_succ, i64_w, i32_w]
                   rfl
                  refine done_ (done_of HT_.out (by kernel_rfl)) ?_
                  try go_wp2
                  go_ret
                  exact ⟨by first | rfl | (simp [errW_none, errW_some] <;> rfl) | (simp [*, errW_none, errW_some] <;> rfl), by repeat (first | (with_reducible first | exact HB.out | apply below_alloc | apply pw_below_drewN | apply below_drew1 | refine below_set ?_ GE196.out | refine below_set ?_ GE215.out | refine below_set ?_ GE217.out) | exact HB.out)⟩
                 ·
                  replace c60 := Bool.eq_false_iff.mpr c60
                  subst c60
                  have H1 : (warpbeamlaw18_ChoiceWakes.l1 k2 a1 t212 x10_2 (wrap64 (x11_2 + 1)) x197000_1 (x197000_1.length : Int) (wrap64 (x55_2 + 1)) t206 t209) = some r := by rw [if_neg (show ¬ (false = true) by decide)] at H; exact H
                  clear H
                  have H := H1
                  clear H1
                  have H' := Aside0.mk H
                  clear H
                  have p216 : 0 ≤ (x55_2 : Int) := of_decide_eq_true (by first | (with_reducible assumption) | assumption)
                  have q216 : x55_2 < (x197000_1.length : Int) := of_decide_eq_true (by first | (with_reducible assumption) | assumption)
                  obtain ⟨ad216, e216, hx216_0, hx216_1⟩ := at_T43 (Kd.V_reads' HO_53.out).2.2 x55_2 p216 q216
                  cases e216
                  replace p216 := eq_true p216
                  replace q216 := eq_true q216
                  try go_wp2_with (first | ((with_reducible refine gate_dst (N := 13) rfl ?_); refine box_event ?hg (N := 13) ?hd (cs := #[.int .i64 0, .int .u64 0]) (t := 43) ?hr ?_; (case hd => rfl); (case hg => rfl); (case hr => first | (go_simp; done) | (go_simp; rfl)); intro gb217 hg w68 hbox hb; have n0_ := Aside0.mk (Kd.V_below (Kd.V_elderB (by (with_reducible repeat (first | apply Kd.V_alloc | apply Kd.V_drewN | apply Kd.V_drew)); exact HO_9.out) gb217 (Nat.le_of_eq hg.symm)) hb); have n1_ := Aside0.mk (Kd.V_below (Kd.V_elderB (by (with_reducible repeat (first | apply Kd.V_alloc | apply Kd.V_drewN | apply Kd.V_drew)); exact HO_53.out) gb217 (Nat.le_of_eq hg.symm)) hb); have n2_ := Aside0.mk (Kd.V_below (Kd.V_elderB (by (with_reducible repeat (first | apply Kd.V_alloc | apply Kd.V_drewN | apply Kd.V_drew)); exact HO_197000.out) gb217 (Nat.le_of_eq hg.symm)) hb); have n3_ := Aside0.mk (Kd.V_below (Kd.V_elderB (by (with_reducible repeat (first | apply Kd.V_alloc | apply Kd.V_drewN | apply Kd.V_drew)); exact HO_197001.out) gb217 (Nat.le_of_eq hg.symm)) hb); have n4_ := Aside0.mk (Kd.V_below (Kd.V_elderB (by (with_reducible repeat (first | apply Kd.V_alloc | apply Kd.V_drewN | apply Kd.V_drew)); exact HO_216000.out) gb217 (Nat.le_of_eq hg.symm)) hb); have n5_ := Aside0.mk (Kd.V_below (Kd.V_elderB (by (with_reducible repeat (first | apply Kd.V_alloc | apply Kd.V_drewN | apply Kd.V_drew)); exact HO_216001.out) gb217 (Nat.le_of_eq hg.symm)) hb); have n6_ := Aside0.mk (blk_below (g := gb196) (o := .cells #[.slice (some ad216) x197000_1.length co29, .slice Ao30 x197001_1.length co30] 27 (0, 0)) (by (with_reducible repeat (first | refine blk_drewN ?_ _ | refine blk_drew ?_ | refine blk_alloc ?_ _)); exact BK196.out) hb); have n7_ := Aside0.mk (blk_below (g := gb215) (o := .cells #[.slice Ao33 t206.length co33, .slice Ao36 t209.length co36] 27 (0, 0)) (by (with_reducible repeat (first | refine blk_drewN ?_ _ | refine blk_drew ?_ | refine blk_alloc ?_ _)); exact BK215.out) hb); have n8_ := Aside0.mk (below_step (by repeat (first | (with_reducible first | exact HB.out | apply below_alloc | apply pw_below_drewN | apply below_drew1 | refine below_set ?_ GE196.out | refine below_set ?_ GE215.out) | exact HB.out)) hb); have n9_ := Aside0.mk (hbox); have n10_ := Aside0.mk ((by rw [hg]; exact (below_size (by repeat (first | (with_reducible first | exact HB.out | apply below_alloc | apply pw_below_drewN | apply below_drew1 | refine below_set ?_ GE196.out | refine below_set ?_ GE215.out) | exact HB.out))) : w.heap.size ≤ gb217)); have n11_ := Aside0.mk ((by rw [hg]; exact (below_size (by repeat (first | (with_reducible first | exact HB.out | apply below_alloc | apply pw_below_drewN | apply below_drew1 | refine below_set ?_ GE196.out | refine below_set ?_ GE215.out) | exact HB.out))) : w.heap.size ≤ gb217)); have n12_ := Aside0.mk ((by rw [hg]; exact Nat.ne_of_lt (blk_lt (g := gb196) (o := .cells #[.slice (some ad216) x197000_1.length co29, .slice Ao30 x197001_1.length co30] 27 (0, 0)) (by (with_reducible repeat (first | refine blk_drewN ?_ _ | refine blk_drew ?_ | refine blk_alloc ?_ _)); exact BK196.out)) : gb196 ≠ gb217)); have n13_ := Aside0.mk ((by rw [hg]; exact Nat.ne_of_gt (blk_lt (g := gb196) (o := .cells #[.slice (some ad216) x197000_1.length co29, .slice Ao30 x197001_1.length co30] 27 (0, 0)) (by (with_reducible repeat (first | refine blk_drewN ?_ _ | refine blk_drew ?_ | refine blk_alloc ?_ _)); exact BK196.out)) : gb217 ≠ gb196)); have n14_ := Aside0.mk ((by rw [hg]; exact Nat.ne_of_lt (blk_lt (g := gb215) (o := .cells #[.slice Ao33 t206.length co33, .slice Ao36 t209.length co36] 27 (0, 0)) (by (with_reducible repeat (first | refine blk_drewN ?_ _ | refine blk_drew ?_ | refine blk_alloc ?_ _)); exact BK215.out)) : gb215 ≠ gb217)); have n15_ := Aside0.mk ((by rw [hg]; exact Nat.ne_of_gt (blk_lt (g := gb215) (o := .cells #[.slice Ao33 t206.length co33, .slice Ao36 t209.length co36] 27 (0, 0)) (by (with_reducible repeat (first | refine blk_drewN ?_ _ | refine blk_drew ?_ | refine blk_alloc ?_ _)); exact BK215.out)) : gb217 ≠ gb215)); clear HO_9; clear HO_53; clear HO_197000; clear HO_197001; clear HO_216000; clear HO_216001; clear BK196; clear BK215; clear HB; have HO_9 := n0_; have HO_53 := n1_; have HO_197000 := n2_; have HO_197001 := n3_; have HO_216000 := n4_; have HO_216001 := n5_; have BK196 := n6_; have BK215 := n7_; have HB := n8_; have BK217 := n9_; have GW217 := n10_; have GE217 := n11_; have NB196_217 := n12_; have NB217_196 := n13_; have NB215_217 := n14_; have NB217_215 := n15_; clear n0_ n1_ n2_ n3_ n4_ n5_ n6_ n7_ n8_ n9_ n10_ n11_ n12_ n13_ n14_ n15_; clear hb hbox hg; have hnb69 := NB217_196.out; have hnc69 := NB196_217.out; have hnb70 := NB217_215.out; have hnc70 := NB215_217.out; have hcz71_0 : w68.cell? ⟨gb217, 0, none⟩ = some (.int .i64 0) := (blk_cell BK217.out 0).trans rfl; have hcz71_1 : w68.cell? ⟨gb217, 1, none⟩ = some (.int .u64 0) := (blk_cell BK217.out 1).trans rfl; have hfz71_0 := blk_frozen BK217.out 0; have hfz71_1 := blk_frozen BK217.out 1))
                  have n0_ : Aside0 (Kd.V (Kd.int .i64) 3 ((w68.setCell ⟨gb217, 0, none⟩ (.int .i64 ((rd_T43 x197000_1 x55_2).f0))).setCell ⟨gb217, 1, none⟩ (.int .u64 ((rd_T43 x197000_1 x55_2).f1))) w.heap.size (fun k_ => k_ ≠ gb196 ∧ k_ ≠ gb215 ∧ k_ ≠ gb217) (.slice Ao37 t212.length co37) t212) := ⟨by (with_reducible repeat (first | apply Kd.V_alloc | apply Kd.V_drewN | apply Kd.V_drew)); exact Kd.V_mono (Kd.V_far (p := ⟨gb217, 1, none⟩) (Kd.V_far (p := ⟨gb217, 0, none⟩) (Kd.V_mono HO_9.out (fun k_ hk => (⟨hk, hk.2⟩ : _ ∧ k_ ≠ gb217))) (fun _ hk => hk.2) (.int .i64 ((rd_T43 x197000_1 x55_2).f0))) (fun _ hk => hk.2) (.int .u64 ((rd_T43 x197000_1 x55_2).f1))) (fun _ hk => ⟨hk.1.1.1, ⟨hk.1.1.2, hk.1.2⟩⟩)⟩
                  have n1_ : Aside0 (Kd.V k43 43 ((w68.setCell ⟨gb217, 0, none⟩ (.int .i64 ((rd_T43 x197000_1 x55_2).f0))).setCell ⟨gb217, 1, none⟩ (.int .u64 ((rd_T43 x197000_1 x55_2).f1))) w.heap.size (fun k_ => k_ ≠ gb196 ∧ k_ ≠ gb215 ∧ k_ ≠ gb217) (.slice (some ad216) x197000_1.length co29) x197000_1) := ⟨by (with_reducible repeat (first | apply Kd.V_alloc | apply Kd.V_drewN | apply Kd.V_drew)); exact Kd.V_mono (Kd.V_far (p := ⟨gb217, 1, none⟩) (Kd.V_far (p := ⟨gb217, 0, none⟩) (Kd.V_mono HO_53.out (fun k_ hk => (⟨hk, hk.2⟩ : _ ∧ k_ ≠ gb217))) (fun _ hk => hk.2) (.int .i64 ((rd_T43 x197000_1 x55_2).f0))) (fun _ hk => hk.2) (.int .u64 ((rd_T43 x197000_1 x55_2).f1))) (fun _ hk => ⟨hk.1.1.1, ⟨hk.1.1.2, hk.1.2⟩⟩)⟩
                  have n2_ : Aside0 (Kd.V k43 43 ((w68.setCell ⟨gb217, 0, none⟩ (.int .i64 ((rd_T43 x197000_1 x55_2).f0))).setCell ⟨gb217, 1, none⟩ (.int .u64 ((rd_T43 x197000_1 x55_2).f1))) w.heap.size (fun k_ => k_ ≠ gb196 ∧ k_ ≠ gb215 ∧ k_ ≠ gb217) (.slice (some ad216) x197000_1.length co29) x197000_1) := ⟨by (with_reducible repeat (first | apply Kd.V_alloc | apply Kd.V_drewN | apply Kd.V_drew)); exact Kd.V_mono (Kd.V_far (p := ⟨gb217, 1, none⟩) (Kd.V_far (p := ⟨gb217, 0, none⟩) (Kd.V_mono HO_197000.out (fun k_ hk => (⟨hk, hk.2⟩ : _ ∧ k_ ≠ gb217))) (fun _ hk => hk.2) (.int .i64 ((rd_T43 x197000_1 x55_2).f0))) (fun _ hk => hk.2) (.int .u64 ((rd_T43 x197000_1 x55_2).f1))) (fun _ hk => ⟨hk.1.1.1, ⟨hk.1.1.2, hk.1.2⟩⟩)⟩
                  have n3_ : Aside0 (Kd.V (Kd.int .i64) 3 ((w68.setCell ⟨gb217, 0, none⟩ (.int .i64 ((rd_T43 x197000_1 x55_2).f0))).setCell ⟨gb217, 1, none⟩ (.int .u64 ((rd_T43 x197000_1 x55_2).f1))) w.heap.size (fun k_ => k_ ≠ gb196 ∧ k_ ≠ gb215 ∧ k_ ≠ gb217) (.slice Ao30 x197001_1.length co30) x197001_1) := ⟨by (with_reducible repeat (first | apply Kd.V_alloc | apply Kd.V_drewN | apply Kd.V_drew)); exact Kd.V_mono (Kd.V_far (p := ⟨gb217, 1, none⟩) (Kd.V_far (p := ⟨gb217, 0, none⟩) (Kd.V_mono HO_197001.out (fun k_ hk => (⟨hk, hk.2⟩ : _ ∧ k_ ≠ gb217))) (fun _ hk => hk.2) (.int .i64 ((rd_T43 x197000_1 x55_2).f0))) (fun _ hk => hk.2) (.int .u64 ((rd_T43 x197000_1 x55_2).f1))) (fun _ hk => ⟨hk.1.1.1, ⟨hk.1.1.2, hk.1.2⟩⟩)⟩
                  have n4_ : Aside0 (Kd.V k43 43 ((w68.setCell ⟨gb217, 0, none⟩ (.int .i64 ((rd_T43 x197000_1 x55_2).f0))).setCell ⟨gb217, 1, none⟩ (.int .u64 ((rd_T43 x197000_1 x55_2).f1))) w.heap.size (fun k_ => k_ ≠ gb196 ∧ k_ ≠ gb215 ∧ k_ ≠ gb217) (.slice Ao33 t206.length co33) t206) := ⟨by (with_reducible repeat (first | apply Kd.V_alloc | apply Kd.V_drewN | apply Kd.V_drew)); exact Kd.V_mono (Kd.V_far (p := ⟨gb217, 1, none⟩) (Kd.V_far (p := ⟨gb217, 0, none⟩) (Kd.V_mono HO_216000.out (fun k_ hk => (⟨hk, hk.2⟩ : _ ∧ k_ ≠ gb217))) (fun _ hk => hk.2) (.int .i64 ((rd_T43 x197000_1 x55_2).f0))) (fun _ hk => hk.2) (.int .u64 ((rd_T43 x197000_1 x55_2).f1))) (fun _ hk => ⟨hk.1.1.1, ⟨hk.1.1.2, hk.1.2⟩⟩)⟩
                  have n5_ : Aside0 (Kd.V (Kd.int .i64) 3 ((w68.setCell ⟨gb217, 0, none⟩ (.int .i64 ((rd_T43 x197000_1 x55_2).f0))).setCell ⟨gb217, 1, none⟩ (.int .u64 ((rd_T43 x197000_1 x55_2).f1))) w.heap.size (fun k_ => k_ ≠ gb196 ∧ k_ ≠ gb215 ∧ k_ ≠ gb217) (.slice Ao36 t209.length co36) t209) := ⟨by (with_reducible repeat (first | apply Kd.V_alloc | apply Kd.V_drewN | apply Kd.V_drew)); exact Kd.V_mono (Kd.V_far (p := ⟨gb217, 1, none⟩) (Kd.V_far (p := ⟨gb217, 0, none⟩) (Kd.V_mono HO_216001.out (fun k_ hk => (⟨hk, hk.2⟩ : _ ∧ k_ ≠ gb217))) (fun _ hk => hk.2) (.int .i64 ((rd_T43 x197000_1 x55_2).f0))) (fun _ hk => hk.2) (.int .u64 ((rd_T43 x197000_1 x55_2).f1))) (fun _ hk => ⟨hk.1.1.1, ⟨hk.1.1.2, hk.1.2⟩⟩)⟩
                  have n6_ : Aside0 (((w68.setCell ⟨gb217, 0, none⟩ (.int .i64 ((rd_T43 x197000_1 x55_2).f0))).setCell ⟨gb217, 1, none⟩ (.int .u64 ((rd_T43 x197000_1 x55_2).f1))).heap[gb196]? = some (.cells #[.slice (some ad216) x197000_1.length co29, .slice Ao30 x197001_1.length co30] 27 (0, 0))) := ⟨by (with_reducible repeat (first | refine blk_drewN ?_ _ | refine blk_drew ?_ | refine blk_alloc ?_ _)); refine blk_far ?_ NB196_217.out _; (with_reducible repeat (first | refine blk_drewN ?_ _ | refine blk_drew ?_ | refine blk_alloc ?_ _)); refine blk_far ?_ NB196_217.out _; (with_reducible repeat (first | refine blk_drewN ?_ _ | refine blk_drew ?_ | refine blk_alloc ?_ _)); exact BK196.out⟩
                  have n7_ : Aside0 (((w68.setCell ⟨gb217, 0, none⟩ (.int .i64 ((rd_T43 x197000_1 x55_2).f0))).setCell ⟨gb217, 1, none⟩ (.int .u64 ((rd_T43 x197000_1 x55_2).f1))).heap[gb215]? = some (.cells #[.slice Ao33 t206.length co33, .slice Ao36 t209.length co36] 27 (0, 0))) := ⟨by (with_reducible repeat (first | refine blk_drewN ?_ _ | refine blk_drew ?_ | refine blk_alloc ?_ _)); refine blk_far ?_ NB215_217.out _; (with_reducible repeat (first | refine blk_drewN ?_ _ | refine blk_drew ?_ | refine blk_alloc ?_ _)); refine blk_far ?_ NB215_217.out _; (with_reducible repeat (first | refine blk_drewN ?_ _ | refine blk_drew ?_ | refine blk_alloc ?_ _)); exact BK215.out⟩
                  have n8_ : Aside0 (((w68.setCell ⟨gb217, 0, none⟩ (.int .i64 ((rd_T43 x197000_1 x55_2).f0))).setCell ⟨gb217, 1, none⟩ (.int .u64 ((rd_T43 x197000_1 x55_2).f1))).heap[gb217]? = some (.cells #[.int .i64 ((rd_T43 x197000_1 x55_2).f0), .int .u64 ((rd_T43 x197000_1 x55_2).f1)] 43 (0, 0))) := ⟨by (with_reducible repeat (first | refine blk_drewN ?_ _ | refine blk_drew ?_ | refine blk_alloc ?_ _)); refine blk_put (cs := #[.int .i64 ((rd_T43 x197000_1 x55_2).f0), .int .u64 0]) ?_ 1 _ rfl; (with_reducible repeat (first | refine blk_drewN ?_ _ | refine blk_drew ?_ | refine blk_alloc ?_ _)); refine blk_put (cs := #[.int .i64 0, .int .u64 0]) ?_ 0 _ rfl; (with_reducible repeat (first | refine blk_drewN ?_ _ | refine blk_drew ?_ | refine blk_alloc ?_ _)); exact BK217.out⟩
                  have n9_ : Aside0 (Below w.heap.size w ((w68.setCell ⟨gb217, 0, none⟩ (.int .i64 ((rd_T43 x197000_1 x55_2).f0))).setCell ⟨gb217, 1, none⟩ (.int .u64 ((rd_T43 x197000_1 x55_2).f1)))) := ⟨by repeat (first | (with_reducible first | exact HB.out | apply below_alloc | apply pw_below_drewN | apply below_drew1 | refine below_set ?_ GE196.out | refine below_set ?_ GE215.out | refine below_set ?_ GE217.out) | exact HB.out)⟩
                  (try clear HO_9)
                  (try clear HO_53)
                  (try clear HO_197000)
                  (try clear HO_197001)
                  (try clear HO_216000)
                  (try clear HO_216001)
                  (try clear BK196)
                  (try clear BK215)
                  (try clear BK217)
                  (try clear HB)
                  generalize ((w68.setCell ⟨gb217, 0, none⟩ (.int .i64 ((rd_T43 x197000_1 x55_2).f0))).setCell ⟨gb217, 1, none⟩ (.int .u64 ((rd_T43 x197000_1 x55_2).f1))) = w72 at n0_ n1_ n2_ n3_ n4_ n5_ n6_ n7_ n8_ n9_ ⊢
                  have HO_9 := n0_
                  have HO_53 := n1_
                  have HO_197000 := n2_
                  have HO_197001 := n3_
                  have HO_216000 := n4_
                  have HO_216001 := n5_
                  have BK196 := n6_
                  have BK215 := n7_
                  have BK217 := n8_
                  have HB := n9_
                  clear n0_ n1_ n2_ n3_ n4_ n5_ n6_ n7_ n8_ n9_
                  have n0_ := Aside0.mk (Kd.V_drew HO_9.out)
                  have n1_ := Aside0.mk (Kd.V_drew HO_53.out)
                  have n2_ := Aside0.mk (Kd.V_drew HO_197000.out)
                  have n3_ := Aside0.mk (Kd.V_drew HO_197001.out)
                  have n4_ := Aside0.mk (Kd.V_drew HO_216000.out)
                  have n5_ := Aside0.mk (Kd.V_drew HO_216001.out)
                  have n6_ := Aside0.mk (blk_drew BK196.out)
                  have n7_ := Aside0.mk (blk_drew BK215.out)
                  have n8_ := Aside0.mk (blk_drew BK217.out)
                  have n9_ := Aside0.mk (below_drew1 HB.out)
                  clear HO_9
                  clear HO_53
                  clear HO_197000
                  clear HO_197001
                  clear HO_216000
                  clear HO_216001
                  clear BK196
                  clear BK215
                  clear BK217
                  clear HB
                  have HO_9 := n0_
                  have HO_53 := n1_
                  have HO_197000 := n2_
                  have HO_197001 := n3_
                  have HO_216000 := n4_
                  have HO_216001 := n5_
                  have BK196 := n6_
                  have BK215 := n7_
                  have BK217 := n8_
                  have HB := n9_
                  clear n0_ n1_ n2_ n3_ n4_ n5_ n6_ n7_ n8_ n9_
                  have p218 : 0 ≤ (x11_2 : Int) := of_decide_eq_true (by first | (with_reducible assumption) | assumption)
                  have q218 : x11_2 < (t206.length : Int) := of_decide_eq_true (by first | (with_reducible assumption) | assumption)
                  obtain ⟨ad218, e218, hx218_0, hx218_1⟩ := at_T43 (Kd.V_reads' HO_216000.out).2.2 x11_2 p218 q218
                  cases e218
                  replace p218 := eq_true p218
                  replace q218 := eq_true q218
                  refine start_ (n := 20) (S := fun w' => w'.cell? ⟨gb215, 0, none⟩ = some (.slice (some ad218) t206.length co33) ∧ w'.cell? ⟨gb215, 1, none⟩ = some (.slice Ao36 t209.length co36) ∧ w'.cell? ⟨gb217, 0, none⟩ = some (.int .i64 ((rd_T43 x197000_1 x55_2).f0)) ∧ w'.cell? ⟨gb217, 1, none⟩ = some (.int .u64 ((rd_T43 x197000_1 x55_2).f1)) ∧ w'.cell? (ad218.add ((x11_2).toNat * 2)) = some (.int .i64 ((rd_T43 t206 x11_2).f0)) ∧ w'.cell? ⟨(ad218.add ((x11_2).toNat * 2)).block, (ad218.add ((x11_2).toNat * 2)).off + 1, none⟩ = some (.int .u64 ((rd_T43 t206 x11_2).f1))) (ds := []) #[false, false, false, false, false, false, false, false, false, false, false, false, false, false, false, false, false, false, false, false] (by kernel_rfl) rfl rfl ⟨(blk_cell BK215.out 0).trans rfl, (blk_cell BK215.out 1).trans rfl, (blk_cell BK217.out 0).trans rfl, (blk_cell BK217.out 1).trans rfl, hx218_0, hx218_1⟩ (fun hHeld => ?_); refine with_tabW warpbeamlaw18_ChoiceWakes.tab22 warpbeamlaw18_ChoiceWakes.bits22 (fun HT_ HW_ => ?_)
                  generalize w72.drew = w73 at HO_9 HO_53 HO_197000 HO_197001 HO_216000 HO_216001 BK196 BK215 BK217 HB hx218_0 hx218_1 hHeld ⊢
                  refine pure_ (i := 0) (N := some 86) (v := ?_) (a' := ?_) #[true, false, false, false, false, false, false, false, false, false, false, false, false, false, false, false, false, false, false, false] rfl rfl (any_of HT_.out (by kernel_rfl)) (fun _ _ _ h => h) (Or.inl ⟨by rfl, ?_⟩) ?_ ?_
                  rotate_left
                  ·
                   intro w'
                   go_simp
                   with_reducible rfl
                  rotate_left
                  ·
                   simp only [Act.put, List.setIfInBounds_toArray, List.set_cons_zero, List.set_cons_succ, i64_w, i32_w]
                   rfl
                  refine pure_ (i := 1) (N := some 87) (v := ?_) (a' := ?_) #[true, true, false, false, false, false, false, false, false, false, false, false, false, false, false, false, false, false, false, false] rfl rfl (any_of HT_.out (by kernel_rfl)) (fun _ _ _ h => h) (Or.inl ⟨by rfl, ?_⟩) ?_ ?_
                  rotate_left
                  ·
                   intro w'
                   go_simp
                   with_reducible rfl
                  rotate_left
                  ·
                   simp only [Act.put, List.setIfInBounds_toArray, List.set_cons_zero, List.set_cons_succ, i64_w, i32_w]
                   rfl
                  refine take_ (i := 2) (N := some 88) (v := ?_) (a' := ?_) #[true, true, true, false, false, false, false, false, false, false, false, false, false, false, false, false, false, false, false, false] rfl rfl (take_ofW HT_.out HW_.out (by kernel_rfl)) (fun _ _ _ h => h) (Or.inl ⟨by rfl, ?_⟩) hHeld ?_ ?_
                  rotate_left
                  ·
                   rintro w' ⟨s0, s1, s2, s3, s4, s5⟩
                   go_simp
                   with_reducible rfl
                  rotate_left
                  ·
                   simp only [Act.put, List.setIfInBounds_toArray, List.set_cons_zero, List.set_cons_succ, i64_w, i32_w]
                   rfl
                  refine pure_ (i := 3) (N := some 89) (v := ?_) (a' := ?_) #[true, true, true, true, false, false, false, false, false, false, false, false, false, false, false, false, false, false, false, false] rfl rfl (any_of HT_.out (by kernel_rfl)) (fun _ _ _ h => h) (Or.inl ⟨by rfl, ?_⟩) ?_ ?_
                  rotate_left
                  ·
                   intro w'
                   go_simp
                   with_reducible rfl
                  rotate_left
                  ·
                   simp only [Act.put, List.setIfInBounds_toArray, List.set_cons_zero, List.set_cons_succ, i64_w, i32_w]
                   rfl
                  refine pure_ (i := 4) (N := some 90) (v := ?_) (a' := ?_) #[true, true, true, true, true, false, false, false, false, false, false, false, false, false, false, false, false, false, false, false] rfl rfl (any_of HT_.out (by kernel_rfl)) (fun _ _ _ h => h) (Or.inl ⟨by rfl, ?_⟩) ?_ ?_
                  rotate_left
                  ·
                   intro w'
                   go_simp
                   with_reducible rfl
                  rotate_left
                  ·
                   simp only [Act.put, List.setIfInBounds_toArray, List.set_cons_zero, List.set_cons_succ, i64_w, i32_w]
                   rfl
                  refine pure_ (i := 5) (N := some 91) (v := ?_) (a' := ?_) #[true, true, true, true, true, true, false, false, false, false, false, false, false, false, false, false, false, false, false, false] rfl rfl (any_of HT_.out (by kernel_rfl)) (fun _ _ _ h => h) (Or.inl ⟨by rfl, ?_⟩) ?_ ?_
                  rotate_left
                  ·
                   intro w'
                   go_simp
                   with_reducible rfl
                  rotate_left
                  ·
                   simp only [Act.put, List.setIfInBounds_toArray, List.set_cons_zero, List.set_cons_succ, i64_w, i32_w]
                   rfl
                  refine pure_ (i := 6) (N := some 92) (v := ?_) (a' := ?_) #[true, true, true, true, true, true, true, false, false, false, false, false, false, false, false, false, false, false, false, false] rfl rfl (any_of HT_.out (by kernel_rfl)) (fun _ _ _ h => h) (Or.inl ⟨by rfl, ?_⟩) ?_ ?_
                  rotate_left
                  ·
                   intro w'
                   go_simp
                   with_reducible rfl
                  rotate_left
                  ·
                   simp only [Act.put, List.setIfInBounds_toArray, List.set_cons_zero, List.set_cons_succ, i64_w, i32_w]
                   rfl
                  refine pure_ (i := 8) (N := some 94) (v := ?_) (a' := ?_) #[true, true, true, true, true, true, true, false, true, false, false, false, false, false, false, false, false, false, false, false] rfl rfl (any_of HT_.out (by kernel_rfl)) (fun _ _ _ h => h) (Or.inl ⟨by rfl, ?_⟩) ?_ ?_
                  rotate_left
                  ·
                   intro w'
                   go_simp
                   with_reducible rfl
                  rotate_left
                  ·
                   simp only [Act.put, List.setIfInBounds_toArray, List.set_cons_zero, List.set_cons_succ, i64_w, i32_w]
                   rfl
                  refine take_ (i := 7) (N := some 93) (v := ?_) (a' := ?_) #[true, true, true, true, true, true, true, true, true, false, false, false, false, false, false, false, false, false, false, false] rfl rfl (take_ofW HT_.out HW_.out (by kernel_rfl)) (fun _ _ _ h => h) (Or.inl ⟨by rfl, ?_⟩) hHeld ?_ ?_
                  rotate_left
                  ·
                   rintro w' ⟨s0, s1, s2, s3, s4, s5⟩
                   go_simp
                   with_reducible rfl
                  rotate_left
                  ·
                   simp only [Act.put, List.setIfInBounds_toArray, List.set_cons_zero, List.set_cons_succ, i64_w, i32_w]
                   rfl
                  refine pure_ (i := 9) (N := some 95) (v := ?_) (a' := ?_) #[true, true, true, true, true, true, true, true, true, true, false, false, false, false, false, false, false, false, false, false] rfl rfl (any_of HT_.out (by kernel_rfl)) (fun _ _ _ h => h) (Or.inl ⟨by rfl, ?_⟩) ?_ ?_
                  rotate_left
                  ·
                   intro w'
                   go_simp
                   with_reducible rfl
                  rotate_left
                  ·
                   simp only [Act.put, List.setIfInBounds_toArray, List.set_cons_zero, List.set_cons_succ, i64_w, i32_w]
                   rfl
                  refine take_ (i := 10) (N := some 96) (v := ?_) (a' := ?_) #[true, true, true, true, true, true, true, true, true, true, true, false, false, false, false, false, false, false, false, false] rfl rfl (take_ofW HT_.out HW_.out (by kernel_rfl)) (fun _ _ _ h => h) (Or.inl ⟨by rfl, ?_⟩) hHeld ?_ ?_
                  rotate_left
                  ·
                   rintro w' ⟨s0, s1, s2, s3, s4, s5⟩
                   go_simp
                   with_reducible rfl
                  rotate_left
                  ·
                   simp only [Act.put, List.setIfInBounds_toArray, List.set_cons_zero, List.set_cons_succ, i64_w, i32_w]
                   rfl
                  refine take_ (i := 11) (N := some 97) (v := ?_) (a' := ?_) #[true, true, true, true, true, true, true, true, true, true, true, true, false, false, false, false, false, false, false, false] rfl rfl (take_ofW HT_.out HW_.out (by kernel_rfl)) (fun _ _ _ h => h) (Or.inl ⟨by rfl, ?_⟩) hHeld ?_ ?_
                  rotate_left
                  ·
                   rintro w' ⟨s0, s1, s2, s3, s4, s5⟩
                   go_simp
                   with_reducible rfl
                  rotate_left
                  ·
                   simp only [Act.put, List.setIfInBounds_toArray, List.set_cons_zero, List.set_cons_succ, i64_w, i32_w]
                   rfl
                  refine pure_ (i := 12) (N := some 98) (v := ?_) (a' := ?_) #[true, true, true, true, true, true, true, true, true, true, true, true, true, false, false, false, false, false, false, false] rfl rfl (any_of HT_.out (by kernel_rfl)) (fun _ _ _ h => h) (Or.inl ⟨by rfl, ?_⟩) ?_ ?_
                  rotate_left
                  ·
                   intro w'
                   go_simp
                   with_reducible rfl
                  rotate_left
                  ·
                   simp only [Act.put, List.setIfInBounds_toArray, List.set_cons_zero, List.set_cons_succ, i64_w, i32_w]
                   rfl
                  refine pure_ (i := 13) (N := some 99) (v := ?_) (a' := ?_) #[true, true, true, true, true, true, true, true, true, true, true, true, true, true, false, false, false, false, false, false] rfl rfl (any_of HT_.out (by kernel_rfl)) (fun _ _ _ h => h) (Or.inl ⟨by rfl, ?_⟩) ?_ ?_
                  rotate_left
                  ·
                   intro w'
                   go_simp
                   with_reducible rfl
                  rotate_left
                  ·
                   simp only [Act.put, List.setIfInBounds_toArray, List.set_cons_zero, List.set_cons_succ, i64_w, i32_w]
                   rfl
                  refine pure_ (i := 14) (N := some 100) (v := ?_) (a' := ?_) #[true, true, true, true, true, true, true, true, true, true, true, true, true, true, true, false, false, false, false, false] rfl rfl (any_of HT_.out (by kernel_rfl)) (fun _ _ _ h => h) (Or.inl ⟨by rfl, ?_⟩) ?_ ?_
                  rotate_left
                  ·
                   intro w'
                   go_simp
                   with_reducible rfl
                  rotate_left
                  ·
                   simp only [Act.put, List.setIfInBounds_toArray, List.set_cons_zero, List.set_cons_succ, i64_w, i32_w]
                   rfl
                  refine pure_ (i := 16) (N := some 102) (v := ?_) (a' := ?_) #[true, true, true, true, true, true, true, true, true, true, true, true, true, true, true, false, true, false, false, false] rfl rfl (any_of HT_.out (by kernel_rfl)) (fun _ _ _ h => h) (Or.inl ⟨by rfl, ?_⟩) ?_ ?_
                  rotate_left
                  ·
                   intro w'
                   go_simp
                   with_reducible rfl
                  rotate_left
                  ·
                   simp only [Act.put, List.setIfInBounds_toArray, List.set_cons_zero, List.set_cons_succ, i64_w, i32_w]
                   rfl
                  refine take_ (i := 15) (N := some 101) (v := ?_) (a' := ?_) #[true, true, true, true, true, true, true, true, true, true, true, true, true, true, true, true, true, false, false, false] rfl rfl (take_ofW HT_.out HW_.out (by kernel_rfl)) (fun _ _ _ h => h) (Or.inl ⟨by rfl, ?_⟩) hHeld ?_ ?_
                  rotate_left
                  ·
                   rintro w' ⟨s0, s1, s2, s3, s4, s5⟩
                   go_simp
                   with_reducible rfl
                  rotate_left
                  ·
                   simp only [Act.put, List.setIfInBounds_toArray, List.set_cons_zero, List.set_cons_succ, i64_w, i32_w]
                   rfl
                  refine take_ (i := 17) (N := some 103) (v := ?_) (a' := ?_) #[true, true, true, true, true, true, true, true, true, true, true, true, true, true, true, true, true, true, false, false] rfl rfl (take_ofW HT_.out HW_.out (by kernel_rfl)) (fun _ _ _ h => h) (Or.inl ⟨by rfl, ?_⟩) hHeld ?_ ?_
                  rotate_left
                  ·
                   rintro w' ⟨s0, s1, s2, s3, s4, s5⟩
                   go_simp
                   with_reducible rfl
                  rotate_left
                  ·
                   simp only [Act.put, List.setIfInBounds_toArray, List.set_cons_zero, List.set_cons_succ, i64_w, i32_w]
                   rfl
                  refine one_ (i := 18) (N := some 104) #[true, true, true, true, true, true, true, true, true, true, true, true, true, true, true, true, true, true, true, false] rfl rfl (one_of HT_.out (by kernel_rfl)) (by decide) (fun K hK => ?_)
                  refine goes_ Try.func10 (by kernel_rfl) rfl #[.agg #[.slice (some ad218) t206.length co33, .slice Ao36 t209.length co36], .int .i64 ((rd_T43 x197000_1 x55_2).f0)] (by rfl) rfl rfl (by (try simp only [List.map_toArray, List.map_cons, List.map_nil]); first | done | rfl | (simp only [List.length_drop, List.length_take]; rfl)) ?_
                  with_reducible refine (choice_May.calls k2 _ _ t206 _ _ t209 ((rd_T43 x197000_1 x55_2).f0) false _ ?side1 ?side2 ?side3 ?side4 A59.out).mono ?_
                  (case side1 => repeat (first | exact (Kd.V_reads' HO_216000.out).2.2 | (with_reducible refine Kd.C_alloc ?_ _) | (with_reducible refine Kd.C_drewN ?_ _) | (with_reducible refine Kd.C_drew ?_)))
                  (case side2 => exact (Kd.V_reads' HO_216000.out).2.1)
                  (case side3 => repeat (first | exact (Kd.V_reads' HO_216001.out).2.2 | (with_reducible refine Kd.C_alloc ?_ _) | (with_reducible refine Kd.C_drewN ?_ _) | (with_reducible refine Kd.C_drew ?_)))
                  (case side4 => exact (Kd.V_reads' HO_216001.out).2.1)
                  rintro e w74 ⟨rfl, hb⟩
                  have HS4_ := (hb.cell (World.block_lt_of_cell? _ _ (hHeld.2.2.2.2.1))).trans (hHeld.2.2.2.2.1)
                  have HS5_ := (hb.cell (World.block_lt_of_cell? _ _ (hHeld.2.2.2.2.2))).trans (hHeld.2.2.2.2.2)
                  refine ⟨_, rfl, ?_⟩
                  have n0_ := Aside0.mk (Kd.V_below (by (with_reducible repeat (first | apply Kd.V_alloc | apply Kd.V_drewN | apply Kd.V_drew)); exact HO_9.out) hb)
                  have n1_ := Aside0.mk (Kd.V_below (by (with_reducible repeat (first | apply Kd.V_alloc | apply Kd.V_drewN | apply Kd.V_drew)); exact HO_53.out) hb)
                  have n2_ := Aside0.mk (Kd.V_below (by (with_reducible repeat (first | apply Kd.V_alloc | apply Kd.V_drewN | apply Kd.V_drew)); exact HO_197000.out) hb)
                  have n3_ := Aside0.mk (Kd.V_below (by (with_reducible repeat (first | apply Kd.V_alloc | apply Kd.V_drewN | apply Kd.V_drew)); exact HO_197001.out) hb)
                  have n4_ := Aside0.mk (Kd.V_below (by (with_reducible repeat (first | apply Kd.V_alloc | apply Kd.V_drewN | apply Kd.V_drew)); exact HO_216000.out) hb)
                  have n5_ := Aside0.mk (Kd.V_below (by (with_reducible repeat (first | apply Kd.V_alloc | apply Kd.V_drewN | apply Kd.V_drew)); exact HO_216001.out) hb)
                  have n6_ := Aside0.mk (blk_below (g := gb196) (o := .cells #[.slice (some ad216) x197000_1.length co29, .slice Ao30 x197001_1.length co30] 27 (0, 0)) (by (with_reducible repeat (first | refine blk_drewN ?_ _ | refine blk_drew ?_ | refine blk_alloc ?_ _)); exact BK196.out) hb)
                  have n7_ := Aside0.mk (blk_below (g := gb215) (o := .cells #[.slice (some ad218) t206.length co33, .slice Ao36 t209.length co36] 27 (0, 0)) (by (with_reducible repeat (first | refine blk_drewN ?_ _ | refine blk_drew ?_ | refine blk_alloc ?_ _)); exact BK215.out) hb)
                  have n8_ := Aside0.mk (blk_below (g := gb217) (o := .cells #[.int .i64 ((rd_T43 x197000_1 x55_2).f0), .int .u64 ((rd_T43 x197000_1 x55_2).f1)] 43 (0, 0)) (by (with_reducible repeat (first | refine blk_drewN ?_ _ | refine blk_drew ?_ | refine blk_alloc ?_ _)); exact BK217.out) hb)
                  have n9_ := Aside0.mk (below_step (by repeat (first | (with_reducible first | exact HB.out | apply below_alloc | apply pw_below_drewN | apply below_drew1 | refine below_set ?_ GE196.out | refine below_set ?_ GE215.out | refine below_set ?_ GE217.out) | exact HB.out)) hb)
                  clear HO_9
                  clear HO_53
                  clear HO_197000
                  clear HO_197001
                  clear HO_216000
                  clear HO_216001
                  clear BK196
                  clear BK215
                  clear BK217
                  clear HB
                  have HO_9 := n0_
                  have HO_53 := n1_
                  have HO_197000 := n2_
                  have HO_197001 := n3_
                  have HO_216000 := n4_
                  have HO_216001 := n5_
                  have BK196 := n6_
                  have BK215 := n7_
                  have BK217 := n8_
                  have HB := n9_
                  clear n0_ n1_ n2_ n3_ n4_ n5_ n6_ n7_ n8_ n9_
                  (try clear hb)
                  (try clear hb2)
                  (try clear hk)
                  (try clear hi)
                  refine hK.out _ _ ⟨(blk_cell BK215.out 0).trans rfl, (blk_cell BK215.out 1).trans rfl, (blk_cell BK217.out 0).trans rfl, (blk_cell BK217.out 1).trans rfl, HS4_, HS5_⟩ (fun hHeld => ?_)
                  clear hK K
                  refine norm_ (a' := ?_) ?_ ?_
                  rotate_left
                  ·
                   show Act.put _ (some 104) _ = _
                   simp only [Act.put, List.setIfInBounds_toArray, List.set_cons_zero, List.set_cons_succ, i64_w, i32_w]
                   rfl
                  refine pure_ (i := 19) (N := some 105) (v := ?_) (a' := ?_) #[true, true, true, true, true, true, true, true, true, true, true, true, true, true, true, true, true, true, true, true] rfl rfl (any_of HT_.out (by kernel_rfl)) (fun _ _ _ h => h) (Or.inl ⟨by rfl, ?_⟩) ?_ ?_
                  rotate_left
                  ·
                   intro w'
                   go_simp
                   with_reducible rfl
                  rotate_left
                  ·
                   simp only [Act.put, List.setIfInBounds_toArray, List.set_cons_zero, List.set_cons_succ, i64_w, i32_w]
                   rfl
                  refine done_ (done_of HT_.out (by kernel_rfl)) ?_
                  try go_wp2
                  go_roundg k2
                  case measure => have := HK1.out; have := HK2.out; omega
                  case rel => exact ⟨(x10_2), (wrap64 (x11_2 + 1)), (wrap64 (x55_2 + 1)), (by first | rfl | (simp; done) | (simp [*]; done)), (by first | rfl | (simp; done) | (simp [*]; done)), (by first | rfl | (simp; done) | (simp [*]; done)), H', ⟨by have := HK1.out; have := HK2.out; omega⟩, ⟨by (with_reducible repeat (first | apply Kd.V_alloc | apply Kd.V_drewN | apply Kd.V_drew)); exact Kd.V_mono HO_9.out (fun _ hk => ⟨hk.1, hk.2.1⟩)⟩, ⟨by (with_reducible repeat (first | apply Kd.V_alloc | apply Kd.V_drewN | apply Kd.V_drew)); exact Kd.V_mono HO_53.out (fun _ hk => ⟨hk.1, hk.2.1⟩)⟩, ⟨by (with_reducible repeat (first | apply Kd.V_alloc | apply Kd.V_drewN | apply Kd.V_drew)); exact Kd.V_mono HO_197000.out (fun _ hk => ⟨hk.1, hk.2.1⟩)⟩, ⟨by (with_reducible repeat (first | apply Kd.V_alloc | apply Kd.V_drewN | apply Kd.V_drew)); exact Kd.V_mono HO_197001.out (fun _ hk => ⟨hk.1, hk.2.1⟩)⟩, ⟨by (with_reducible repeat (first | apply Kd.V_alloc | apply Kd.V_drewN | apply Kd.V_drew)); exact Kd.V_mono HO_216000.out (fun _ hk => ⟨hk.1, hk.2.1⟩)⟩, ⟨by (with_reducible repeat (first | apply Kd.V_alloc | apply Kd.V_drewN | apply Kd.V_drew)); exact Kd.V_mono HO_216001.out (fun _ hk => ⟨hk.1, hk.2.1⟩)⟩, ⟨by (with_reducible repeat (first | refine blk_drewN ?_ _ | refine blk_drew ?_ | refine blk_alloc ?_ _)); exact BK196.out⟩, ⟨by (with_reducible repeat (first | refine blk_drewN ?_ _ | refine blk_drew ?_ | refine blk_alloc ?_ _)); exact BK215.out⟩, ⟨by repeat (first | (with_reducible first | exact HB.out | apply below_alloc | apply pw_below_drewN | apply below_drew1 | refine below_set ?_ GE196.out | refine below_set ?_ GE215.out | refine below_set ?_ GE217.out) | exact HB.out)⟩⟩
               ·
                rw [if_neg c51] at H
                exact absurd H (by simp)
              ·
               rw [if_neg c50] at H
               exact absurd H (by simp)
            ·
             rw [if_neg c42] at H
             have c42b0 : ((Go.bits .and .u64 ((rd_T43 x197000_1 x55_2).f1) a1) == 0) = false := beq_eq_false_iff_ne.mpr c42
             have c42b1 : ((Go.bits .and .u64 ((rd_T43 x197000_1 x55_2).f1) a1) != 0) = true := bne_iff_ne.mpr c42
             have HC75 := Aside0.mk H
             clear H
             have p216 : 0 ≤ (x55_2 : Int) := of_decide_eq_true (by first | (with_reducible assumption) | assumption)
             have q216 : x55_2 < (x197000_1.length : Int) := of_decide_eq_true (by first | (with_reducible assumption) | assumption)
             obtain ⟨ad216, e216, hx216_0, hx216_1⟩ := at_T43 (Kd.V_reads' HO_53.out).2.2 x55_2 p216 q216
             cases e216
             replace p216 := eq_true p216
             replace q216 := eq_true q216
             go_upto_region 19 with (first | ((with_reducible refine gate_dst (N := 13) rfl ?_); refine box_event ?hg (N := 13) ?hd (cs := #[.int .i64 0, .int .u64 0]) (t := 43) ?hr ?_; (case hd => rfl); (case hg => rfl); (case hr => first | (go_simp; done) | (go_simp; rfl)); intro gb217 hg w76 hbox hb; have n0_ := Aside0.mk (Kd.V_below (Kd.V_elderB (by (with_reducible repeat (first | apply Kd.V_alloc | apply Kd.V_drewN | apply Kd.V_drew)); exact HO_9.out) gb217 (Nat.le_of_eq hg.symm)) hb); have n1_ := Aside0.mk (Kd.V_below (Kd.V_elderB (by (with_reducible repeat (first | apply Kd.V_alloc | apply Kd.V_drewN | apply Kd.V_drew)); exact HO_53.out) gb217 (Nat.le_of_eq hg.symm)) hb); have n2_ := Aside0.mk (Kd.V_below (Kd.V_elderB (by (with_reducible repeat (first | apply Kd.V_alloc | apply Kd.V_drewN | apply Kd.V_drew)); exact HO_197000.out) gb217 (Nat.le_of_eq hg.symm)) hb); have n3_ := Aside0.mk (Kd.V_below (Kd.V_elderB (by (with_reducible repeat (first | apply Kd.V_alloc | apply Kd.V_drewN | apply Kd.V_drew)); exact HO_197001.out) gb217 (Nat.le_of_eq hg.symm)) hb); have n4_ := Aside0.mk (Kd.V_below (Kd.V_elderB (by (with_reducible repeat (first | apply Kd.V_alloc | apply Kd.V_drewN | apply Kd.V_drew)); exact HO_216000.out) gb217 (Nat.le_of_eq hg.symm)) hb); have n5_ := Aside0.mk (Kd.V_below (Kd.V_elderB (by (with_reducible repeat (first | apply Kd.V_alloc | apply Kd.V_drewN | apply Kd.V_drew)); exact HO_216001.out) gb217 (Nat.le_of_eq hg.symm)) hb); have n6_ := Aside0.mk (blk_below (g := gb196) (o := .cells #[.slice (some ad216) x197000_1.length co29, .slice Ao30 x197001_1.length co30] 27 (0, 0)) (by (with_reducible repeat (first | refine blk_drewN ?_ _ | refine blk_drew ?_ | refine blk_alloc ?_ _)); exact BK196.out) hb); have n7_ := Aside0.mk (blk_below (g := gb215) (o := .cells #[.slice Ao33 t206.length co33, .slice Ao36 t209.length co36] 27 (0, 0)) (by (with_reducible repeat (first | refine blk_drewN ?_ _ | refine blk_drew ?_ | refine blk_alloc ?_ _)); exact BK215.out) hb); have n8_ := Aside0.mk (below_step (by repeat (first | (with_reducible first | exact HB.out | apply below_alloc | apply pw_below_drewN | apply below_drew1 | refine below_set ?_ GE196.out | refine below_set ?_ GE215.out) | exact HB.out)) hb); have n9_ := Aside0.mk (hbox); have n10_ := Aside0.mk ((by rw [hg]; exact (below_size (by repeat (first | (with_reducible first | exact HB.out | apply below_alloc | apply pw_below_drewN | apply below_drew1 | refine below_set ?_ GE196.out | refine below_set ?_ GE215.out) | exact HB.out))) : w.heap.size ≤ gb217)); have n11_ := Aside0.mk ((by rw [hg]; exact (below_size (by repeat (first | (with_reducible first | exact HB.out | apply below_alloc | apply pw_below_drewN | apply below_drew1 | refine below_set ?_ GE196.out | refine below_set ?_ GE215.out) | exact HB.out))) : w.heap.size ≤ gb217)); have n12_ := Aside0.mk ((by rw [hg]; exact Nat.ne_of_lt (blk_lt (g := gb196) (o := .cells #[.slice (some ad216) x197000_1.length co29, .slice Ao30 x197001_1.length co30] 27 (0, 0)) (by (with_reducible repeat (first | refine blk_drewN ?_ _ | refine blk_drew ?_ | refine blk_alloc ?_ _)); exact BK196.out)) : gb196 ≠ gb217)); have n13_ := Aside0.mk ((by rw [hg]; exact Nat.ne_of_gt (blk_lt (g := gb196) (o := .cells #[.slice (some ad216) x197000_1.length co29, .slice Ao30 x197001_1.length co30] 27 (0, 0)) (by (with_reducible repeat (first | refine blk_drewN ?_ _ | refine blk_drew ?_ | refine blk_alloc ?_ _)); exact BK196.out)) : gb217 ≠ gb196)); have n14_ := Aside0.mk ((by rw [hg]; exact Nat.ne_of_lt (blk_lt (g := gb215) (o := .cells #[.slice Ao33 t206.length co33, .slice Ao36 t209.length co36] 27 (0, 0)) (by (with_reducible repeat (first | refine blk_drewN ?_ _ | refine blk_drew ?_ | refine blk_alloc ?_ _)); exact BK215.out)) : gb215 ≠ gb217)); have n15_ := Aside0.mk ((by rw [hg]; exact Nat.ne_of_gt (blk_lt (g := gb215) (o := .cells #[.slice Ao33 t206.length co33, .slice Ao36 t209.length co36] 27 (0, 0)) (by (with_reducible repeat (first | refine blk_drewN ?_ _ | refine blk_drew ?_ | refine blk_alloc ?_ _)); exact BK215.out)) : gb217 ≠ gb215)); clear HO_9; clear HO_53; clear HO_197000; clear HO_197001; clear HO_216000; clear HO_216001; clear BK196; clear BK215; clear HB; have HO_9 := n0_; have HO_53 := n1_; have HO_197000 := n2_; have HO_197001 := n3_; have HO_216000 := n4_; have HO_216001 := n5_; have BK196 := n6_; have BK215 := n7_; have HB := n8_; have BK217 := n9_; have GW217 := n10_; have GE217 := n11_; have NB196_217 := n12_; have NB217_196 := n13_; have NB215_217 := n14_; have NB217_215 := n15_; clear n0_ n1_ n2_ n3_ n4_ n5_ n6_ n7_ n8_ n9_ n10_ n11_ n12_ n13_ n14_ n15_; clear hb hbox hg; have hnb77 := NB217_196.out; have hnc77 := NB196_217.out; have hnb78 := NB217_215.out; have hnc78 := NB215_217.out; have hcz79_0 : w76.cell? ⟨gb217, 0, none⟩ = some (.int .i64 0) := (blk_cell BK217.out 0).trans rfl; have hcz79_1 : w76.cell? ⟨gb217, 1, none⟩ = some (.int .u64 0) := (blk_cell BK217.out 1).trans rfl; have hfz79_0 := blk_frozen BK217.out 0; have hfz79_1 := blk_frozen BK217.out 1))
             (try simp only [Act.put, List.setIfInBounds_toArray, List.set_cons_zero, List.set_cons_succ])
             go_cut [83] (fun v83 wc => ∃ (kq : Nat) (x83_74 : Bool), v83 = .bool x83_74 ∧ Aside0 (warpbeamlaw18_ChoiceWakes.j2 kq a1 t212 x10_2 x11_2 x197000_1 (x197000_1.length : Int) x55_2 x83_74 t206 t209 = some r) ∧ Aside0 (kq ≤ k2) ∧ Aside0 (Kd.V (Kd.int .i64) 3 wc w.heap.size (fun k_ => k_ ≠ gb196 ∧ k_ ≠ gb215 ∧ k_ ≠ gb217) (.slice Ao37 t212.length co37) t212) ∧ Aside0 (Kd.V k43 43 wc w.heap.size (fun k_ => k_ ≠ gb196 ∧ k_ ≠ gb215 ∧ k_ ≠ gb217) (.slice (some ad216) x197000_1.length co29) x197000_1) ∧ Aside0 (Kd.V k43 43 wc w.heap.size (fun k_ => k_ ≠ gb196 ∧ k_ ≠ gb215 ∧ k_ ≠ gb217) (.slice (some ad216) x197000_1.length co29) x197000_1) ∧ Aside0 (Kd.V (Kd.int .i64) 3 wc w.heap.size (fun k_ => k_ ≠ gb196 ∧ k_ ≠ gb215 ∧ k_ ≠ gb217) (.slice Ao30 x197001_1.length co30) x197001_1) ∧ Aside0 (Kd.V k43 43 wc w.heap.size (fun k_ => k_ ≠ gb196 ∧ k_ ≠ gb215 ∧ k_ ≠ gb217) (.slice Ao33 t206.length co33) t206) ∧ Aside0 (Kd.V (Kd.int .i64) 3 wc w.heap.size (fun k_ => k_ ≠ gb196 ∧ k_ ≠ gb215 ∧ k_ ≠ gb217) (.slice Ao36 t209.length co36) t209) ∧ Aside0 (wc.heap[gb196]? = some (.cells #[(.slice (some ad216) x197000_1.length co29), (.slice Ao30 x197001_1.length co30)] 27 (0, 0))) ∧ Aside0 (wc.heap[gb215]? = some (.cells #[(.slice Ao33 t206.length co33), (.slice Ao36 t209.length co36)] 27 (0, 0))) ∧ Aside0 (wc.heap[gb217]? = some (.cells #[.int .i64 ((rd_T43 x197000_1 x55_2).f0), .int .u64 ((rd_T43 x197000_1 x55_2).f1)] 43 (0, 0))) ∧ Aside0 (Below w.heap.size w wc))
             case first =>
              have H := HC75.out
              clear HC75
              by_cases c80 : x10_2 ≥ (t212.length : Int)
              ·
               rw [if_pos c80] at H
               have c80b0 : decide ((t212.length : Int) ≤ x10_2) = true := decide_eq_true c80
               clear c80
               (first | rw [c80b0] | (simp only [i64_w, i32_w]; rw [c80b0]) | skip)
               have H' := Aside0.mk H
               clear H
               try go_wp2
               have n0_ : Aside0 (Kd.V (Kd.int .i64) 3 ((w76.setCell ⟨gb217, 0, none⟩ (.int .i64 ((rd_T43 x197000_1 x55_2).f0))).setCell ⟨gb217, 1, none⟩ (.int .u64 ((rd_T43 x197000_1 x55_2).f1))) w.heap.size (fun k_ => k_ ≠ gb196 ∧ k_ ≠ gb215 ∧ k_ ≠ gb217) (.slice Ao37 t212.length co37) t212) := ⟨by (with_reducible repeat (first | apply Kd.V_alloc | apply Kd.V_drewN | apply Kd.V_drew)); exact Kd.V_mono (Kd.V_far (p := ⟨gb217, 1, none⟩) (Kd.V_far (p := ⟨gb217, 0, none⟩) (Kd.V_mono HO_9.out (fun k_ hk => (⟨hk, hk.2⟩ : _ ∧ k_ ≠ gb217))) (fun _ hk => hk.2) (.int .i64 ((rd_T43 x197000_1 x55_2).f0))) (fun _ hk => hk.2) (.int .u64 ((rd_T43 x197000_1 x55_2).f1))) (fun _ hk => ⟨hk.1.1.1, ⟨hk.1.1.2, hk.1.2⟩⟩)⟩
               have n1_ : Aside0 (Kd.V k43 43 ((w76.setCell ⟨gb217, 0, none⟩ (.int .i64 ((rd_T43 x197000_1 x55_2).f0))).setCell ⟨gb217, 1, none⟩ (.int .u64 ((rd_T43 x197000_1 x55_2).f1))) w.heap.size (fun k_ => k_ ≠ gb196 ∧ k_ ≠ gb215 ∧ k_ ≠ gb217) (.slice (some ad216) x197000_1.length co29) x197000_1) := ⟨by (with_reducible repeat (first | apply Kd.V_alloc | apply Kd.V_drewN | apply Kd.V_drew)); exact Kd.V_mono (Kd.V_far (p := ⟨gb217, 1, none⟩) (Kd.V_far (p := ⟨gb217, 0, none⟩) (Kd.V_mono HO_53.out (fun k_ hk => (⟨hk, hk.2⟩ : _ ∧ k_ ≠ gb217))) (fun _ hk => hk.2) (.int .i64 ((rd_T43 x197000_1 x55_2).f0))) (fun _ hk => hk.2) (.int .u64 ((rd_T43 x197000_1 x55_2).f1))) (fun _ hk => ⟨hk.1.1.1, ⟨hk.1.1.2, hk.1.2⟩⟩)⟩
               have n2_ : Aside0 (Kd.V k43 43 ((w76.setCell ⟨gb217, 0, none⟩ (.int .i64 ((rd_T43 x197000_1 x55_2).f0))).setCell ⟨gb217, 1, none⟩ (.int .u64 ((rd_T43 x197000_1 x55_2).f1))) w.heap.size (fun k_ => k_ ≠ gb196 ∧ k_ ≠ gb215 ∧ k_ ≠ gb217) (.slice (some ad216) x197000_1.length co29) x197000_1) := ⟨by (with_reducible repeat (first | apply Kd.V_alloc | apply Kd.V_drewN | apply Kd.V_drew)); exact Kd.V_mono (Kd.V_far (p := ⟨gb217, 1, none⟩) (Kd.V_far (p := ⟨gb217, 0, none⟩) (Kd.V_mono HO_197000.out (fun k_ hk => (⟨hk, hk.2⟩ : _ ∧ k_ ≠ gb217))) (fun _ hk => hk.2) (.int .i64 ((rd_T43 x197000_1 x55_2).f0))) (fun _ hk => hk.2) (.int .u64 ((rd_T43 x197000_1 x55_2).f1))) (fun _ hk => ⟨hk.1.1.1, ⟨hk.1.1.2, hk.1.2⟩⟩)⟩
               have n3_ : Aside0 (Kd.V (Kd.int .i64) 3 ((w76.setCell ⟨gb217, 0, none⟩ (.int .i64 ((rd_T43 x197000_1 x55_2).f0))).setCell ⟨gb217, 1, none⟩ (.int .u64 ((rd_T43 x197000_1 x55_2).f1))) w.heap.size (fun k_ => k_ ≠ gb196 ∧ k_ ≠ gb215 ∧ k_ ≠ gb217) (.slice Ao30 x197001_1.length co30) x197001_1) := ⟨by (with_reducible repeat (first | apply Kd.V_alloc | apply Kd.V_drewN | apply Kd.V_drew)); exact Kd.V_mono (Kd.V_far (p := ⟨gb217, 1, none⟩) (Kd.V_far (p := ⟨gb217, 0, none⟩) (Kd.V_mono HO_197001.out (fun k_ hk => (⟨hk, hk.2⟩ : _ ∧ k_ ≠ gb217))) (fun _ hk => hk.2) (.int .i64 ((rd_T43 x197000_1 x55_2).f0))) (fun _ hk => hk.2) (.int .u64 ((rd_T43 x197000_1 x55_2).f1))) (fun _ hk => ⟨hk.1.1.1, ⟨hk.1.1.2, hk.1.2⟩⟩)⟩
               have n4_ : Aside0 (Kd.V k43 43 ((w76.setCell ⟨gb217, 0, none⟩ (.int .i64 ((rd_T43 x197000_1 x55_2).f0))).setCell ⟨gb217, 1, none⟩ (.int .u64 ((rd_T43 x197000_1 x55_2).f1))) w.heap.size (fun k_ => k_ ≠ gb196 ∧ k_ ≠ gb215 ∧ k_ ≠ gb217) (.slice Ao33 t206.length co33) t206) := ⟨by (with_reducible repeat (first | apply Kd.V_alloc | apply Kd.V_drewN | apply Kd.V_drew)); exact Kd.V_mono (Kd.V_far (p := ⟨gb217, 1, none⟩) (Kd.V_far (p := ⟨gb217, 0, none⟩) (Kd.V_mono HO_216000.out (fun k_ hk => (⟨hk, hk.2⟩ : _ ∧ k_ ≠ gb217))) (fun _ hk => hk.2) (.int .i64 ((rd_T43 x197000_1 x55_2).f0))) (fun _ hk => hk.2) (.int .u64 ((rd_T43 x197000_1 x55_2).f1))) (fun _ hk => ⟨hk.1.1.1, ⟨hk.1.1.2, hk.1.2⟩⟩)⟩
               have n5_ : Aside0 (Kd.V (Kd.int .i64) 3 ((w76.setCell ⟨gb217, 0, none⟩ (.int .i64 ((rd_T43 x197000_1 x55_2).f0))).setCell ⟨gb217, 1, none⟩ (.int .u64 ((rd_T43 x197000_1 x55_2).f1))) w.heap.size (fun k_ => k_ ≠ gb196 ∧ k_ ≠ gb215 ∧ k_ ≠ gb217) (.slice Ao36 t209.length co36) t209) := ⟨by (with_reducible repeat (first | apply Kd.V_alloc | apply Kd.V_drewN | apply Kd.V_drew)); exact Kd.V_mono (Kd.V_far (p := ⟨gb217, 1, none⟩) (Kd.V_far (p := ⟨gb217, 0, none⟩) (Kd.V_mono HO_216001.out (fun k_ hk => (⟨hk, hk.2⟩ : _ ∧ k_ ≠ gb217))) (fun _ hk => hk.2) (.int .i64 ((rd_T43 x197000_1 x55_2).f0))) (fun _ hk => hk.2) (.int .u64 ((rd_T43 x197000_1 x55_2).f1))) (fun _ hk => ⟨hk.1.1.1, ⟨hk.1.1.2, hk.1.2⟩⟩)⟩
               have n6_ : Aside0 (((w76.setCell ⟨gb217, 0, none⟩ (.int .i64 ((rd_T43 x197000_1 x55_2).f0))).setCell ⟨gb217, 1, none⟩ (.int .u64 ((rd_T43 x197000_1 x55_2).f1))).heap[gb196]? = some (.cells #[.slice (some ad216) x197000_1.length co29, .slice Ao30 x197001_1.length co30] 27 (0, 0))) := ⟨by (with_reducible repeat (first | refine blk_drewN ?_ _ | refine blk_drew ?_ | refine blk_alloc ?_ _)); refine blk_far ?_ NB196_217.out _; (with_reducible repeat (first | refine blk_drewN ?_ _ | refine blk_drew ?_ | refine blk_alloc ?_ _)); refine blk_far ?_ NB196_217.out _; (with_reducible repeat (first | refine blk_drewN ?_ _ | refine blk_drew ?_ | refine blk_alloc ?_ _)); exact BK196.out⟩
               have n7_ : Aside0 (((w76.setCell ⟨gb217, 0, none⟩ (.int .i64 ((rd_T43 x197000_1 x55_2).f0))).setCell ⟨gb217, 1, none⟩ (.int .u64 ((rd_T43 x197000_1 x55_2).f1))).heap[gb215]? = some (.cells #[.slice Ao33 t206.length co33, .slice Ao36 t209.length co36] 27 (0, 0))) := ⟨by (with_reducible repeat (first | refine blk_drewN ?_ _ | refine blk_drew ?_ | refine blk_alloc ?_ _)); refine blk_far ?_ NB215_217.out _; (with_reducible repeat (first | refine blk_drewN ?_ _ | refine blk_drew ?_ | refine blk_alloc ?_ _)); refine blk_far ?_ NB215_217.out _; (with_reducible repeat (first | refine blk_drewN ?_ _ | refine blk_drew ?_ | refine blk_alloc ?_ _)); exact BK215.out⟩
               have n8_ : Aside0 (((w76.setCell ⟨gb217, 0, none⟩ (.int .i64 ((rd_T43 x197000_1 x55_2).f0))).setCell ⟨gb217, 1, none⟩ (.int .u64 ((rd_T43 x197000_1 x55_2).f1))).heap[gb217]? = some (.cells #[.int .i64 ((rd_T43 x197000_1 x55_2).f0), .int .u64 ((rd_T43 x197000_1 x55_2).f1)] 43 (0, 0))) := ⟨by (with_reducible repeat (first | refine blk_drewN ?_ _ | refine blk_drew ?_ | refine blk_alloc ?_ _)); refine blk_put (cs := #[.int .i64 ((rd_T43 x197000_1 x55_2).f0), .int .u64 0]) ?_ 1 _ rfl; (with_reducible repeat (first | refine blk_drewN ?_ _ | refine blk_drew ?_ | refine blk_alloc ?_ _)); refine blk_put (cs := #[.int .i64 0, .int .u64 0]) ?_ 0 _ rfl; (with_reducible repeat (first | refine blk_drewN ?_ _ | refine blk_drew ?_ | refine blk_alloc ?_ _)); exact BK217.out⟩
               have n9_ : Aside0 (Below w.heap.size w ((w76.setCell ⟨gb217, 0, none⟩ (.int .i64 ((rd_T43 x197000_1 x55_2).f0))).setCell ⟨gb217, 1, none⟩ (.int .u64 ((rd_T43 x197000_1 x55_2).f1)))) := ⟨by repeat (first | (with_reducible first | exact HB.out | apply below_alloc | apply pw_below_drewN | apply below_drew1 | refine below_set ?_ GE196.out | refine below_set ?_ GE215.out | refine below_set ?_ GE217.out) | exact HB.out)⟩
               (try clear HO_9)
               (try clear HO_53)
               (try clear HO_197000)
               (try clear HO_197001)
               (try clear HO_216000)
               (try clear HO_216001)
               (try clear BK196)
               (try clear BK215)
               (try clear BK217)
               (try clear HB)
               generalize ((w76.setCell ⟨gb217, 0, none⟩ (.int .i64 ((rd_T43 x197000_1 x55_2).f0))).setCell ⟨gb217, 1, none⟩ (.int .u64 ((rd_T43 x197000_1 x55_2).f1))) = w81 at n0_ n1_ n2_ n3_ n4_ n5_ n6_ n7_ n8_ n9_ ⊢
               have HO_9 := n0_
               have HO_53 := n1_
               have HO_197000 := n2_
               have HO_197001 := n3_
               have HO_216000 := n4_
               have HO_216001 := n5_
               have BK196 := n6_
               have BK215 := n7_
               have BK217 := n8_
               have HB := n9_
               clear n0_ n1_ n2_ n3_ n4_ n5_ n6_ n7_ n8_ n9_
               have n0_ := Aside0.mk (Kd.V_drew HO_9.out)
               have n1_ := Aside0.mk (Kd.V_drew HO_53.out)
               have n2_ := Aside0.mk (Kd.V_drew HO_197000.out)
               have n3_ := Aside0.mk (Kd.V_drew HO_197001.out)
               have n4_ := Aside0.mk (Kd.V_drew HO_216000.out)
               have n5_ := Aside0.mk (Kd.V_drew HO_216001.out)
               have n6_ := Aside0.mk (blk_drew BK196.out)
               have n7_ := Aside0.mk (blk_drew BK215.out)
               have n8_ := Aside0.mk (blk_drew BK217.out)
               have n9_ := Aside0.mk (below_drew1 HB.out)
               clear HO_9
               clear HO_53
               clear HO_197000
               clear HO_197001
               clear HO_216000
               clear HO_216001
               clear BK196
               clear BK215
               clear BK217
               clear HB
               have HO_9 := n0_
               have HO_53 := n1_
               have HO_197000 := n2_
               have HO_197001 := n3_
               have HO_216000 := n4_
               have HO_216001 := n5_
               have BK196 := n6_
               have BK215 := n7_
               have BK217 := n8_
               have HB := n9_
               clear n0_ n1_ n2_ n3_ n4_ n5_ n6_ n7_ n8_ n9_
               refine start_ (n := 20) (S := fun w' => True) (ds := []) #[false, false, false, false, false, false, false, false, false, false, false, false, false, false, false, false, false, false, false, false] (by kernel_rfl) rfl rfl trivial (fun hHeld => ?_); refine with_tabW warpbeamlaw18_ChoiceWakes.tab19 warpbeamlaw18_ChoiceWakes.bits19 (fun HT_ HW_ => ?_)
               generalize w81.drew = w82 at HO_9 HO_53 HO_197000 HO_197001 HO_216000 HO_216001 BK196 BK215 BK217 HB hHeld ⊢
               refine pure_ (i := 0) (N := some 64) (v := ?_) (a' := ?_) #[true, false, false, false, false, false, false, false, false, false, false, false, false, false, false, false, false, false, false, false] rfl rfl (any_of HT_.out (by kernel_rfl)) (fun _ _ _ h => h) (Or.inl ⟨by rfl, ?_⟩) ?_ ?_
               rotate_left
               ·
                intro w'
                go_simp
                with_reducible rfl
               rotate_left
               ·
                simp only [Act.put, List.setIfInBounds_toArray, List.set_cons_zero, List.set_cons_succ, i64_w, i32_w]
                rfl
               refine pure_ (i := 1) (N := some 65) (v := ?_) (a' := ?_) #[true, true, false, false, false, false, false, false, false, false, false, false, false, false, false, false, false, false, false, false] rfl rfl (any_of HT_.out (by kernel_rfl)) (fun _ _ _ h => h) (Or.inl ⟨by rfl, ?_⟩) ?_ ?_
               rotate_left
               ·
                intro w'
                go_simp
                with_reducible rfl
               rotate_left
               ·
                simp only [Act.put, List.setIfInBounds_toArray, List.set_cons_zero, List.set_cons_succ, i64_w, i32_w]
                rfl
               refine pure_ (i := 2) (N := some 66) (v := ?_) (a' := ?_) #[true, true, true, false, false, false, false, false, false, false, false, false, false, false, false, false, false, false, false, false] rfl rfl (any_of HT_.out (by kernel_rfl)) (fun _ _ _ h => h) (Or.inl ⟨by rfl, ?_⟩) ?_ ?_
               rotate_left
               ·
                intro w'
                go_simp
                with_reducible rfl
               rotate_left
               ·
                simp only [Act.put, List.setIfInBounds_toArray, List.set_cons_zero, List.set_cons_succ, i64_w, i32_w]
                rfl
               refine pure_ (i := 3) (N := some 67) (v := ?_) (a' := ?_) #[true, true, true, true, false, false, false, false, false, false, false, false, false, false, false, false, false, false, false, false] rfl rfl (any_of HT_.out (by kernel_rfl)) (fun _ _ _ h => h) (Or.inl ⟨by rfl, ?_⟩) ?_ ?_
               rotate_left
               ·
                intro w'
                go_simp
                with_reducible rfl
               rotate_left
               ·
                simp only [Act.put, List.setIfInBounds_toArray, List.set_cons_zero, List.set_cons_succ, i64_w, i32_w]
                rfl
               refine pure_ (i := 4) (N := some 68) (v := ?_) (a' := ?_) #[true, true, true, true, true, false, false, false, false, false, false, false, false, false, false, false, false, false, false, false] rfl rfl (any_of HT_.out (by kernel_rfl)) (fun _ _ _ h => h) (Or.inl ⟨by rfl, ?_⟩) ?_ ?_
               rotate_left
               ·
                intro w'
                go_simp
                with_reducible rfl
               rotate_left
               ·
                simp only [Act.put, List.setIfInBounds_toArray, List.set_cons_zero, List.set_cons_succ, i64_w, i32_w]
                rfl
               refine pure_ (i := 5) (N := some 69) (v := undef) (a' := ?_) #[true, true, true, true, true, true, false, false, false, false, false, false, false, false, false, false, false, false, false, false] rfl rfl (any_of HT_.out (by kernel_rfl)) (fun _ _ _ h => h) (Or.inr ⟨by rfl, rfl⟩) ?_ ?_
               rotate_left
               ·
                simp only [Act.put, List.setIfInBounds_toArray, List.set_cons_zero, List.set_cons_succ, i64_w, i32_w]
                rfl
               refine pure_ (i := 6) (N := some 70) (v := undef) (a' := ?_) #[true, true, true, true, true, true, true, false, false, false, false, false, false, false, false, false, false, false, false, false] rfl rfl (any_of HT_.out (by kernel_rfl)) (fun _ _ _ h => h) (Or.inr ⟨by rfl, rfl⟩) ?_ ?_
               rotate_left
               ·
                simp only [Act.put, List.setIfInBounds_toArray, List.set_cons_zero, List.set_cons_succ, i64_w, i32_w]
                rfl
               refine pure_ (i := 7) (N := some 71) (v := undef) (a' := ?_) #[true, true, true, true, true, true, true, true, false, false, false, false, false, false, false, false, false, false, false, false] rfl rfl (any_of HT_.out (by kernel_rfl)) (fun _ _ _ h => h) (Or.inr ⟨by rfl, rfl⟩) ?_ ?_
               rotate_left
               ·
                simp only [Act.put, List.setIfInBounds_toArray, List.set_cons_zero, List.set_cons_succ, i64_w, i32_w]
                rfl
               refine pure_ (i := 8) (N := some 72) (v := undef) (a' := ?_) #[true, true, true, true, true, true, true, true, true, false, false, false, false, false, false, false, false, false, false, false] rfl rfl (any_of HT_.out (by kernel_rfl)) (fun _ _ _ h => h) (Or.inr ⟨by rfl, rfl⟩) ?_ ?_
               rotate_left
               ·
                simp only [Act.put, List.setIfInBounds_toArray, List.set_cons_zero, List.set_cons_succ, i64_w, i32_w]
                rfl
               refine pure_ (i := 9) (N := some 73) (v := undef) (a' := ?_) #[true, true, true, true, true, true, true, true, true, true, false, false, false, false, false, false, false, false, false, false] rfl rfl (any_of HT_.out (by kernel_rfl)) (fun _ _ _ h => h) (Or.inr ⟨by rfl, rfl⟩) ?_ ?_
               rotate_left
               ·
                simp only [Act.put, List.setIfInBounds_toArray, List.set_cons_zero, List.set_cons_succ, i64_w, i32_w]
                rfl
               refine pure_ (i := 10) (N := some 74) (v := undef) (a' := ?_) #[true, true, true, true, true, true, true, true, true, true, true, false, false, false, false, false, false, false, false, false] rfl rfl (any_of HT_.out (by kernel_rfl)) (fun _ _ _ h => h) (Or.inr ⟨by rfl, rfl⟩) ?_ ?_
               rotate_left
               ·
                simp only [Act.put, List.setIfInBounds_toArray, List.set_cons_zero, List.set_cons_succ, i64_w, i32_w]
                rfl
               refine pure_ (i := 11) (N := some 75) (v := undef) (a' := ?_) #[true, true, true, true, true, true, true, true, true, true, true, true, false, false, false, false, false, false, false, false] rfl rfl (any_of HT_.out (by kernel_rfl)) (fun _ _ _ h => h) (Or.inr ⟨by rfl, rfl⟩) ?_ ?_
               rotate_left
               ·
                simp only [Act.put, List.setIfInBounds_toArray, List.set_cons_zero, List.set_cons_succ, i64_w, i32_w]
                rfl
               refine pure_ (i := 12) (N := some 76) (v := ?_) (a' := ?_) #[true, true, true, true, true, true, true, true, true, true, true, true, true, false, false, false, false, false, false, false] rfl rfl (any_of HT_.out (by kernel_rfl)) (fun _ _ _ h => h) (Or.inl ⟨by rfl, ?_⟩) ?_ ?_
               rotate_left
               ·
                intro w'
                go_simp
                with_reducible rfl
               rotate_left
               ·
                simp only [Act.put, List.setIfInBounds_toArray, List.set_cons_zero, List.set_cons_succ, i64_w, i32_w]
                rfl
               refine pure_ (i := 13) (N := some 77) (v := ?_) (a' := ?_) #[true, true, true, true, true, true, true, true, true, true, true, true, true, true, false, false, false, false, false, false] rfl rfl (any_of HT_.out (by kernel_rfl)) (fun _ _ _ h => h) (Or.inl ⟨by rfl, ?_⟩) ?_ ?_
               rotate_left
               ·
                intro w'
                go_simp
                with_reducible rfl
               rotate_left
               ·
                simp only [Act.put, List.setIfInBounds_toArray, List.set_cons_zero, List.set_cons_succ, i64_w, i32_w]
                rfl
               refine pure_ (i := 14) (N := some 78) (v := undef) (a' := ?_) #[true, true, true, true, true, true, true, true, true, true, true, true, true, true, true, false, false, false, false, false] rfl rfl (any_of HT_.out (by kernel_rfl)) (fun _ _ _ h => h) (Or.inr ⟨by rfl, rfl⟩) ?_ ?_
               rotate_left
               ·
                simp only [Act.put, List.setIfInBounds_toArray, List.set_cons_zero, List.set_cons_succ, i64_w, i32_w]
                rfl
               refine pure_ (i := 15) (N := some 79) (v := undef) (a' := ?_) #[true, true, true, true, true, true, true, true, true, true, true, true, true, true, true, true, false, false, false, false] rfl rfl (any_of HT_.out (by kernel_rfl)) (fun _ _ _ h => h) (Or.inr ⟨by rfl, rfl⟩) ?_ ?_
               rotate_left
               ·
                simp only [Act.put, List.setIfInBounds_toArray, List.set_cons_zero, List.set_cons_succ, i64_w, i32_w]
                rfl
               refine pure_ (i := 16) (N := some 80) (v := undef) (a' := ?_) #[true, true, true, true, true, true, true, true, true, true, true, true, true, true, true, true, true, false, false, false] rfl rfl (any_of HT_.out (by kernel_rfl)) (fun _ _ _ h => h) (Or.inr ⟨by rfl, rfl⟩) ?_ ?_
               rotate_left
               ·
                simp only [Act.put, List.setIfInBounds_toArray, List.set_cons_zero, List.set_cons_succ, i64_w, i32_w]
                rfl
               refine pure_ (i := 17) (N := some 81) (v := undef) (a' := ?_) #[true, true, true, true, true, true, true, true, true, true, true, true, true, true, true, true, true, true, false, false] rfl rfl (any_of HT_.out (by kernel_rfl)) (fun _ _ _ h => h) (Or.inr ⟨by rfl, rfl⟩) ?_ ?_
               rotate_left
               ·
                simp only [Act.put, List.setIfInBounds_toArray, List.set_cons_zero, List.set_cons_succ, i64_w, i32_w]
                rfl
               refine pure_ (i := 18) (N := some 82) (v := undef) (a' := ?_) #[true, true, true, true, true, true, true, true, true, true, true, true, true, true, true, true, true, true, true, false] rfl rfl (any_of HT_.out (by kernel_rfl)) (fun _ _ _ h => h) (Or.inr ⟨by rfl, rfl⟩) ?_ ?_
               rotate_left
               ·
                simp only [Act.put, List.setIfInBounds_toArray, List.set_cons_zero, List.set_cons_succ, i64_w, i32_w]
                rfl
               refine pure_ (i := 19) (N := some 83) (v := ?_) (a' := ?_) #[true, true, true, true, true, true, true, true, true, true, true, true, true, true, true, true, true, true, true, true] rfl rfl (any_of HT_.out (by kernel_rfl)) (fun _ _ _ h => h) (Or.inl ⟨by rfl, ?_⟩) ?_ ?_
               rotate_left
               ·
                intro w'
                go_simp
                with_reducible rfl
               rotate_left
               ·
                simp only [Act.put, List.setIfInBounds_toArray, List.set_cons_zero, List.set_cons_succ, i64_w, i32_w]
                rfl
               refine done_ (done_of HT_.out (by kernel_rfl)) ?_
               try go_wp2
               go_meet
               case rel => exact ⟨_, (true), (by first | rfl | (simp; done) | (simp [*]; done)), H', ⟨by have := HK1.out; have := HK2.out; first | omega | exact Nat.le_refl _⟩, ⟨by (with_reducible repeat (first | apply Kd.V_alloc | apply Kd.V_drewN | apply Kd.V_drew)); exact HO_9.out⟩, ⟨by (with_reducible repeat (first | apply Kd.V_alloc | apply Kd.V_drewN | apply Kd.V_drew)); exact HO_53.out⟩, ⟨by (with_reducible repeat (first | apply Kd.V_alloc | apply Kd.V_drewN | apply Kd.V_drew)); exact HO_197000.out⟩, ⟨by (with_reducible repeat (first | apply Kd.V_alloc | apply Kd.V_drewN | apply Kd.V_drew)); exact HO_197001.out⟩, ⟨by (with_reducible repeat (first | apply Kd.V_alloc | apply Kd.V_drewN | apply Kd.V_drew)); exact HO_216000.out⟩, ⟨by (with_reducible repeat (first | apply Kd.V_alloc | apply Kd.V_drewN | apply Kd.V_drew)); exact HO_216001.out⟩, ⟨by (with_reducible repeat (first | refine blk_drewN ?_ _ | refine blk_drew ?_ | refine blk_alloc ?_ _)); exact BK196.out⟩, ⟨by (with_reducible repeat (first | refine blk_drewN ?_ _ | refine blk_drew ?_ | refine blk_alloc ?_ _)); exact BK215.out⟩, ⟨by (with_reducible repeat (first | refine blk_drewN ?_ _ | refine blk_drew ?_ | refine blk_alloc ?_ _)); exact BK217.out⟩, ⟨by repeat (first | (with_reducible first | exact HB.out | apply below_alloc | apply pw_below_drewN | apply below_drew1 | refine below_set ?_ GE196.out | refine below_set ?_ GE215.out | refine below_set ?_ GE217.out) | exact HB.out)⟩⟩
              ·
               rw [if_neg c80] at H
               have c80b0 : decide ((t212.length : Int) ≤ x10_2) = false := decide_eq_false c80
               clear c80
               (first | rw [c80b0] | (simp only [i64_w, i32_w]; rw [c80b0]) | skip)
               by_cases c83 : 0 ≤ x10_2
               ·
                rw [if_pos c83] at H
                have c83b0 : decide (0 ≤ x10_2) = true := decide_eq_true c83
                clear c83
                by_cases c84 : x10_2 < (t212.length : Int)
                ·
                 rw [if_pos c84] at H
                 have c84b0 : decide (x10_2 < (t212.length : Int)) = true := decide_eq_true c84
                 clear c84
                 by_cases c85 : (rd t212 x10_2) = ((rd_T43 x197000_1 x55_2).f0)
                 ·
                  rw [if_pos c85] at H
                  have c85b0 : ((rd t212 x10_2) == ((rd_T43 x197000_1 x55_2).f0)) = true := beq_iff_eq.mpr c85
                  have c85b1 : ((rd t212 x10_2) != ((rd_T43 x197000_1 x55_2).f0)) = false := bne_eq_false_iff_eq.mpr c85
                  clear c85
                  replace H := Option.bind_eq_some_iff.mp H
                  obtain ⟨t221, A860, H⟩ := H
                  replace H : (warpbeamlaw18_ChoiceWakes.j2 k2 a1 t212 x10_2 x11_2 x197000_1 (x197000_1.length : Int) x55_2 (!t221) t206 t209) = some r := H
                  have A86 := Aside0.mk A860
                  clear A860
                  have H' := Aside0.mk H
                  clear H
                  try go_wp2
                  have n0_ : Aside0 (Kd.V (Kd.int .i64) 3 ((w76.setCell ⟨gb217, 0, none⟩ (.int .i64 ((rd_T43 x197000_1 x55_2).f0))).setCell ⟨gb217, 1, none⟩ (.int .u64 ((rd_T43 x197000_1 x55_2).f1))) w.heap.size (fun k_ => k_ ≠ gb196 ∧ k_ ≠ gb215 ∧ k_ ≠ gb217) (.slice Ao37 t212.length co37) t212) := ⟨by (with_reducible repeat (first | apply Kd.V_alloc | apply Kd.V_drewN | apply Kd.V_drew)); exact Kd.V_mono (Kd.V_far (p := ⟨gb217, 1, none⟩) (Kd.V_far (p := ⟨gb217, 0, none⟩) (Kd.V_mono HO_9.out (fun k_ hk => (⟨hk, hk.2⟩ : _ ∧ k_ ≠ gb217))) (fun _ hk => hk.2) (.int .i64 ((rd_T43 x197000_1 x55_2).f0))) (fun _ hk => hk.2) (.int .u64 ((rd_T43 x197000_1 x55_2).f1))) (fun _ hk => ⟨hk.1.1.1, ⟨hk.1.1.2, hk.1.2⟩⟩)⟩
                  have n1_ : Aside0 (Kd.V k43 43 ((w76.setCell ⟨gb217, 0, none⟩ (.int .i64 ((rd_T43 x197000_1 x55_2).f0))).setCell ⟨gb217, 1, none⟩ (.int .u64 ((rd_T43 x197000_1 x55_2).f1))) w.heap.size (fun k_ => k_ ≠ gb196 ∧ k_ ≠ gb215 ∧ k_ ≠ gb217) (.slice (some ad216) x197000_1.length co29) x197000_1) := ⟨by (with_reducible repeat (first | apply Kd.V_alloc | apply Kd.V_drewN | apply Kd.V_drew)); exact Kd.V_mono (Kd.V_far (p := ⟨gb217, 1, none⟩) (Kd.V_far (p := ⟨gb217, 0, none⟩) (Kd.V_mono HO_53.out (fun k_ hk => (⟨hk, hk.2⟩ : _ ∧ k_ ≠ gb217))) (fun _ hk => hk.2) (.int .i64 ((rd_T43 x197000_1 x55_2).f0))) (fun _ hk => hk.2) (.int .u64 ((rd_T43 x197000_1 x55_2).f1))) (fun _ hk => ⟨hk.1.1.1, ⟨hk.1.1.2, hk.1.2⟩⟩)⟩
                  have n2_ : Aside0 (Kd.V k43 43 ((w76.setCell ⟨gb217, 0, none⟩ (.int .i64 ((rd_T43 x197000_1 x55_2).f0))).setCell ⟨gb217, 1, none⟩ (.int .u64 ((rd_T43 x197000_1 x55_2).f1))) w.heap.size (fun k_ => k_ ≠ gb196 ∧ k_ ≠ gb215 ∧ k_ ≠ gb217) (.slice (some ad216) x197000_1.length co29) x197000_1) := ⟨by (with_reducible repeat (first | apply Kd.V_alloc | apply Kd.V_drewN | apply Kd.V_drew)); exact Kd.V_mono (Kd.V_far (p := ⟨gb217, 1, none⟩) (Kd.V_far (p := ⟨gb217, 0, none⟩) (Kd.V_mono HO_197000.out (fun k_ hk => (⟨hk, hk.2⟩ : _ ∧ k_ ≠ gb217))) (fun _ hk => hk.2) (.int .i64 ((rd_T43 x197000_1 x55_2).f0))) (fun _ hk => hk.2) (.int .u64 ((rd_T43 x197000_1 x55_2).f1))) (fun _ hk => ⟨hk.1.1.1, ⟨hk.1.1.2, hk.1.2⟩⟩)⟩
                  have n3_ : Aside0 (Kd.V (Kd.int .i64) 3 ((w76.setCell ⟨gb217, 0, none⟩ (.int .i64 ((rd_T43 x197000_1 x55_2).f0))).setCell ⟨gb217, 1, none⟩ (.int .u64 ((rd_T43 x197000_1 x55_2).f1))) w.heap.size (fun k_ => k_ ≠ gb196 ∧ k_ ≠ gb215 ∧ k_ ≠ gb217) (.slice Ao30 x197001_1.length co30) x197001_1) := ⟨by (with_reducible repeat (first | apply Kd.V_alloc | apply Kd.V_drewN | apply Kd.V_drew)); exact Kd.V_mono (Kd.V_far (p := ⟨gb217, 1, none⟩) (Kd.V_far (p := ⟨gb217, 0, none⟩) (Kd.V_mono HO_197001.out (fun k_ hk => (⟨hk, hk.2⟩ : _ ∧ k_ ≠ gb217))) (fun _ hk => hk.2) (.int .i64 ((rd_T43 x197000_1 x55_2).f0))) (fun _ hk => hk.2) (.int .u64 ((rd_T43 x197000_1 x55_2).f1))) (fun _ hk => ⟨hk.1.1.1, ⟨hk.1.1.2, hk.1.2⟩⟩)⟩
                  have n4_ : Aside0 (Kd.V k43 43 ((w76.setCell ⟨gb217, 0, none⟩ (.int .i64 ((rd_T43 x197000_1 x55_2).f0))).setCell ⟨gb217, 1, none⟩ (.int .u64 ((rd_T43 x197000_1 x55_2).f1))) w.heap.size (fun k_ => k_ ≠ gb196 ∧ k_ ≠ gb215 ∧ k_ ≠ gb217) (.slice Ao33 t206.length co33) t206) := ⟨by (with_reducible repeat (first | apply Kd.V_alloc | apply Kd.V_drewN | apply Kd.V_drew)); exact Kd.V_mono (Kd.V_far (p := ⟨gb217, 1, none⟩) (Kd.V_far (p := ⟨gb217, 0, none⟩) (Kd.V_mono HO_216000.out (fun k_ hk => (⟨hk, hk.2⟩ : _ ∧ k_ ≠ gb217))) (fun _ hk => hk.2) (.int .i64 ((rd_T43 x197000_1 x55_2).f0))) (fun _ hk => hk.2) (.int .u64 ((rd_T43 x197000_1 x55_2).f1))) (fun _ hk => ⟨hk.1.1.1, ⟨hk.1.1.2, hk.1.2⟩⟩)⟩
                  have n5_ : Aside0 (Kd.V (Kd.int .i64) 3 ((w76.setCell ⟨gb217, 0, none⟩ (.int .i64 ((rd_T43 x197000_1 x55_2).f0))).setCell ⟨gb217, 1, none⟩ (.int .u64 ((rd_T43 x197000_1 x55_2).f1))) w.heap.size (fun k_ => k_ ≠ gb196 ∧ k_ ≠ gb215 ∧ k_ ≠ gb217) (.slice Ao36 t209.length co36) t209) := ⟨by (with_reducible repeat (first | apply Kd.V_alloc | apply Kd.V_drewN | apply Kd.V_drew)); exact Kd.V_mono (Kd.V_far (p := ⟨gb217, 1, none⟩) (Kd.V_far (p := ⟨gb217, 0, none⟩) (Kd.V_mono HO_216001.out (fun k_ hk => (⟨hk, hk.2⟩ : _ ∧ k_ ≠ gb217))) (fun _ hk => hk.2) (.int .i64 ((rd_T43 x197000_1 x55_2).f0))) (fun _ hk => hk.2) (.int .u64 ((rd_T43 x197000_1 x55_2).f1))) (fun _ hk => ⟨hk.1.1.1, ⟨hk.1.1.2, hk.1.2⟩⟩)⟩
                  have n6_ : Aside0 (((w76.setCell ⟨gb217, 0, none⟩ (.int .i64 ((rd_T43 x197000_1 x55_2).f0))).setCell ⟨gb217, 1, none⟩ (.int .u64 ((rd_T43 x197000_1 x55_2).f1))).heap[gb196]? = some (.cells #[.slice (some ad216) x197000_1.length co29, .slice Ao30 x197001_1.length co30] 27 (0, 0))) := ⟨by (with_reducible repeat (first | refine blk_drewN ?_ _ | refine blk_drew ?_ | refine blk_alloc ?_ _)); refine blk_far ?_ NB196_217.out _; (with_reducible repeat (first | refine blk_drewN ?_ _ | refine blk_drew ?_ | refine blk_alloc ?_ _)); refine blk_far ?_ NB196_217.out _; (with_reducible repeat (first | refine blk_drewN ?_ _ | refine blk_drew ?_ | refine blk_alloc ?_ _)); exact BK196.out⟩
                  have n7_ : Aside0 (((w76.setCell ⟨gb217, 0, none⟩ (.int .i64 ((rd_T43 x197000_1 x55_2).f0))).setCell ⟨gb217, 1, none⟩ (.int .u64 ((rd_T43 x197000_1 x55_2).f1))).heap[gb215]? = some (.cells #[.slice Ao33 t206.length co33, .slice Ao36 t209.length co36] 27 (0, 0))) := ⟨by (with_reducible repeat (first | refine blk_drewN ?_ _ | refine blk_drew ?_ | refine blk_alloc ?_ _)); refine blk_far ?_ NB215_217.out _; (with_reducible repeat (first | refine blk_drewN ?_ _ | refine blk_drew ?_ | refine blk_alloc ?_ _)); refine blk_far ?_ NB215_217.out _; (with_reducible repeat (first | refine blk_drewN ?_ _ | refine blk_drew ?_ | refine blk_alloc ?_ _)); exact BK215.out⟩
                  have n8_ : Aside0 (((w76.setCell ⟨gb217, 0, none⟩ (.int .i64 ((rd_T43 x197000_1 x55_2).f0))).setCell ⟨gb217, 1, none⟩ (.int .u64 ((rd_T43 x197000_1 x55_2).f1))).heap[gb217]? = some (.cells #[.int .i64 ((rd_T43 x197000_1 x55_2).f0), .int .u64 ((rd_T43 x197000_1 x55_2).f1)] 43 (0, 0))) := ⟨by (with_reducible repeat (first | refine blk_drewN ?_ _ | refine blk_drew ?_ | refine blk_alloc ?_ _)); refine blk_put (cs := #[.int .i64 ((rd_T43 x197000_1 x55_2).f0), .int .u64 0]) ?_ 1 _ rfl; (with_reducible repeat (first | refine blk_drewN ?_ _ | refine blk_drew ?_ | refine blk_alloc ?_ _)); refine blk_put (cs := #[.int .i64 0, .int .u64 0]) ?_ 0 _ rfl; (with_reducible repeat (first | refine blk_drewN ?_ _ | refine blk_drew ?_ | refine blk_alloc ?_ _)); exact BK217.out⟩
                  have n9_ : Aside0 (Below w.heap.size w ((w76.setCell ⟨gb217, 0, none⟩ (.int .i64 ((rd_T43 x197000_1 x55_2).f0))).setCell ⟨gb217, 1, none⟩ (.int .u64 ((rd_T43 x197000_1 x55_2).f1)))) := ⟨by repeat (first | (with_reducible first | exact HB.out | apply below_alloc | apply pw_below_drewN | apply below_drew1 | refine below_set ?_ GE196.out | refine below_set ?_ GE215.out | refine below_set ?_ GE217.out) | exact HB.out)⟩
                  (try clear HO_9)
                  (try clear HO_53)
                  (try clear HO_197000)
                  (try clear HO_197001)
                  (try clear HO_216000)
                  (try clear HO_216001)
                  (try clear BK196)
                  (try clear BK215)
                  (try clear BK217)
                  (try clear HB)
                  generalize ((w76.setCell ⟨gb217, 0, none⟩ (.int .i64 ((rd_T43 x197000_1 x55_2).f0))).setCell ⟨gb217, 1, none⟩ (.int .u64 ((rd_T43 x197000_1 x55_2).f1))) = w87 at n0_ n1_ n2_ n3_ n4_ n5_ n6_ n7_ n8_ n9_ ⊢
                  have HO_9 := n0_
                  have HO_53 := n1_
                  have HO_197000 := n2_
                  have HO_197001 := n3_
                  have HO_216000 := n4_
                  have HO_216001 := n5_
                  have BK196 := n6_
                  have BK215 := n7_
                  have BK217 := n8_
                  have HB := n9_
                  clear n0_ n1_ n2_ n3_ n4_ n5_ n6_ n7_ n8_ n9_
                  have n0_ := Aside0.mk (Kd.V_drew HO_9.out)
                  have n1_ := Aside0.mk (Kd.V_drew HO_53.out)
                  have n2_ := Aside0.mk (Kd.V_drew HO_197000.out)
                  have n3_ := Aside0.mk (Kd.V_drew HO_197001.out)
                  have n4_ := Aside0.mk (Kd.V_drew HO_216000.out)
                  have n5_ := Aside0.mk (Kd.V_drew HO_216001.out)
                  have n6_ := Aside0.mk (blk_drew BK196.out)
                  have n7_ := Aside0.mk (blk_drew BK215.out)
                  have n8_ := Aside0.mk (blk_drew BK217.out)
                  have n9_ := Aside0.mk (below_drew1 HB.out)
                  clear HO_9
                  clear HO_53
                  clear HO_197000
                  clear HO_197001
                  clear HO_216000
                  clear HO_216001
                  clear BK196
                  clear BK215
                  clear BK217
                  clear HB
                  have HO_9 := n0_
                  have HO_53 := n1_
                  have HO_197000 := n2_
                  have HO_197001 := n3_
                  have HO_216000 := n4_
                  have HO_216001 := n5_
                  have BK196 := n6_
                  have BK215 := n7_
                  have BK217 := n8_
                  have HB := n9_
                  clear n0_ n1_ n2_ n3_ n4_ n5_ n6_ n7_ n8_ n9_
                  have p220 : 0 ≤ (x10_2 : Int) := of_decide_eq_true (by first | (with_reducible assumption) | assumption)
                  have q220 : x10_2 < (t212.length : Int) := of_decide_eq_true (by first | (with_reducible assumption) | assumption)
                  obtain ⟨ad220, e220, hx220_0⟩ := Kd.at_int (Kd.V_reads' HO_9.out).2.2 x10_2 p220 q220
                  cases e220
                  replace p220 := eq_true p220
                  replace q220 := eq_true q220
                  refine start_ (n := 20) (S := fun w' => w'.cell? ⟨gb217, 0, none⟩ = some (.int .i64 ((rd_T43 x197000_1 x55_2).f0)) ∧ w'.cell? ⟨gb217, 1, none⟩ = some (.int .u64 ((rd_T43 x197000_1 x55_2).f1)) ∧ w'.cell? ⟨gb215, 0, none⟩ = some (.slice Ao33 t206.length co33) ∧ w'.cell? ⟨gb215, 1, none⟩ = some (.slice Ao36 t209.length co36) ∧ w'.cell? (ad220.add (x10_2).toNat) = some (.int .i64 (rd t212 x10_2))) (ds := []) #[false, false, false, false, false, false, false, false, false, false, false, false, false, false, false, false, false, false, false, false] (by kernel_rfl) rfl rfl ⟨(blk_cell BK217.out 0).trans rfl, (blk_cell BK217.out 1).trans rfl, (blk_cell BK215.out 0).trans rfl, (blk_cell BK215.out 1).trans rfl, hx220_0⟩ (fun hHeld => ?_); refine with_tabW warpbeamlaw18_ChoiceWakes.tab19 warpbeamlaw18_ChoiceWakes.bits19 (fun HT_ HW_ => ?_)
                  generalize w87.drew = w88 at HO_9 HO_53 HO_197000 HO_197001 HO_216000 HO_216001 BK196 BK215 BK217 HB hx220_0 hHeld ⊢
                  refine pure_ (i := 0) (N := some 64) (v := ?_) (a' := ?_) #[true, false, false, false, false, false, false, false, false, false, false, false, false, false, false, false, false, false, false, false] rfl rfl (any_of HT_.out (by kernel_rfl)) (fun _ _ _ h => h) (Or.inl ⟨by rfl, ?_⟩) ?_ ?_
                  rotate_left
                  ·
                   intro w'
                   go_simp
                   with_reducible rfl
                  rotate_left
                  ·
                   simp only [Act.put, List.setIfInBounds_toArray, List.set_cons_zero, List.set_cons_succ, i64_w, i32_w]
                   rfl
                  refine pure_ (i := 1) (N := some 65) (v := ?_) (a' := ?_) #[true, true, false, false, false, false, false, false, false, false, false, false, false, false, false, false, false, false, false, false] rfl rfl (any_of HT_.out (by kernel_rfl)) (fun _ _ _ h => h) (Or.inl ⟨by rfl, ?_⟩) ?_ ?_
                  rotate_left
                  ·
                   intro w'
                   go_simp
                   with_reducible rfl
                  rotate_left
                  ·
                   simp only [Act.put, List.setIfInBounds_toArray, List.set_cons_zero, List.set_cons_succ, i64_w, i32_w]
                   rfl
                  refine pure_ (i := 2) (N := some 66) (v := ?_) (a' := ?_) #[true, true, true, false, false, false, false, false, false, false, false, false, false, false, false, false, false, false, false, false] rfl rfl (any_of HT_.out (by kernel_rfl)) (fun _ _ _ h => h) (Or.inl ⟨by rfl, ?_⟩) ?_ ?_
                  rotate_left
                  ·
                   intro w'
                   go_simp
                   with_reducible rfl
                  rotate_left
                  ·
                   simp only [Act.put, List.setIfInBounds_toArray, List.set_cons_zero, List.set_cons_succ, i64_w, i32_w]
                   rfl
                  refine pure_ (i := 3) (N := some 67) (v := ?_) (a' := ?_) #[true, true, true, true, false, false, false, false, false, false, false, false, false, false, false, false, false, false, false, false] rfl rfl (any_of HT_.out (by kernel_rfl)) (fun _ _ _ h => h) (Or.inl ⟨by rfl, ?_⟩) ?_ ?_
                  rotate_left
                  ·
                   intro w'
                   go_simp
                   with_reducible rfl
                  rotate_left
                  ·
                   simp only [Act.put, List.setIfInBounds_toArray, List.set_cons_zero, List.set_cons_succ, i64_w, i32_w]
                   rfl
                  refine pure_ (i := 4) (N := some 68) (v := ?_) (a' := ?_) #[true, true, true, true, true, false, false, false, false, false, false, false, false, false, false, false, false, false, false, false] rfl rfl (any_of HT_.out (by kernel_rfl)) (fun _ _ _ h => h) (Or.inl ⟨by rfl, ?_⟩) ?_ ?_
                  rotate_left
                  ·
                   intro w'
                   go_simp
                   with_reducible rfl
                  rotate_left
                  ·
                   simp only [Act.put, List.setIfInBounds_toArray, List.set_cons_zero, List.set_cons_succ, i64_w, i32_w]
                   rfl
                  refine pure_ (i := 5) (N := some 69) (v := ?_) (a' := ?_) #[true, true, true, true, true, true, false, false, false, false, false, false, false, false, false, false, false, false, false, false] rfl rfl (any_of HT_.out (by kernel_rfl)) (fun _ _ _ h => h) (Or.inl ⟨by rfl, ?_⟩) ?_ ?_
                  rotate_left
                  ·
                   intro w'
                   go_simp
                   with_reducible rfl
                  rotate_left
                  ·
                   simp only [Act.put, List.setIfInBounds_toArray, List.set_cons_zero, List.set_cons_succ, i64_w, i32_w]
                   rfl
                  refine pure_ (i := 6) (N := some 70) (v := ?_) (a' := ?_) #[true, true, true, true, true, true, true, false, false, false, false, false, false, false, false, false, false, false, false, false] rfl rfl (any_of HT_.out (by kernel_rfl)) (fun _ _ _ h => h) (Or.inl ⟨by rfl, ?_⟩) ?_ ?_
                  rotate_left
                  ·
                   intro w'
                   go_simp
                   with_reducible rfl
                  rotate_left
                  ·
                   simp only [Act.put, List.setIfInBounds_toArray, List.set_cons_zero, List.set_cons_succ, i64_w, i32_w]
                   rfl
                  refine pure_ (i := 7) (N := some 71) (v := ?_) (a' := ?_) #[true, true, true, true, true, true, true, true, false, false, false, false, false, false, false, false, false, false, false, false] rfl rfl (any_of HT_.out (by kernel_rfl)) (fun _ _ _ h => h) (Or.inl ⟨by rfl, ?_⟩) ?_ ?_
                  rotate_left
                  ·
                   intro w'
                   go_simp
                   with_reducible rfl
                  rotate_left
                  ·
                   simp only [Act.put, List.setIfInBounds_toArray, List.set_cons_zero, List.set_cons_succ, i64_w, i32_w]
                   rfl
                  refine pure_ (i := 9) (N := some 73) (v := ?_) (a' := ?_) #[true, true, true, true, true, true, true, true, false, true, false, false, false, false, false, false, false, false, false, false] rfl rfl (any_of HT_.out (by kernel_rfl)) (fun _ _ _ h => h) (Or.inl ⟨by rfl, ?_⟩) ?_ ?_
                  rotate_left
                  ·
                   intro w'
                   go_simp
                   with_reducible rfl
                  rotate_left
                  ·
                   simp only [Act.put, List.setIfInBounds_toArray, List.set_cons_zero, List.set_cons_succ, i64_w, i32_w]
                   rfl
                  refine take_ (i := 8) (N := some 72) (v := ?_) (a' := ?_) #[true, true, true, true, true, true, true, true, true, true, false, false, false, false, false, false, false, false, false, false] rfl rfl (take_ofW HT_.out HW_.out (by kernel_rfl)) (fun _ _ _ h => h) (Or.inl ⟨by rfl, ?_⟩) hHeld ?_ ?_
                  rotate_left
                  ·
                   rintro w' ⟨s0, s1, s2, s3, s4⟩
                   go_simp
                   with_reducible rfl
                  rotate_left
                  ·
                   simp only [Act.put, List.setIfInBounds_toArray, List.set_cons_zero, List.set_cons_succ, i64_w, i32_w]
                   rfl
                  refine take_ (i := 10) (N := some 74) (v := ?_) (a' := ?_) #[true, true, true, true, true, true, true, true, true, true, true, false, false, false, false, false, false, false, false, false] rfl rfl (take_ofW HT_.out HW_.out (by kernel_rfl)) (fun _ _ _ h => h) (Or.inl ⟨by rfl, ?_⟩) hHeld ?_ ?_
                  rotate_left
                  ·
                   rintro w' ⟨s0, s1, s2, s3, s4⟩
                   go_simp
                   with_reducible rfl
                  rotate_left
                  ·
                   simp only [Act.put, List.setIfInBounds_toArray, List.set_cons_zero, List.set_cons_succ, i64_w, i32_w]
                   rfl
                  refine pure_ (i := 11) (N := some 75) (v := ?_) (a' := ?_) #[true, true, true, true, true, true, true, true, true, true, true, true, false, false, false, false, false, false, false, false] rfl rfl (any_of HT_.out (by kernel_rfl)) (fun _ _ _ h => h) (Or.inl ⟨by rfl, ?_⟩) ?_ ?_
                  rotate_left
                  ·
                   intro w'
                   go_simp
                   with_reducible rfl
                  rotate_left
                  ·
                   simp only [Act.put, List.setIfInBounds_toArray, List.set_cons_zero, List.set_cons_succ, i64_w, i32_w]
                   rfl
                  refine pure_ (i := 12) (N := some 76) (v := ?_) (a' := ?_) #[true, true, true, true, true, true, true, true, true, true, true, true, true, false, false, false, false, false, false, false] rfl rfl (any_of HT_.out (by kernel_rfl)) (fun _ _ _ h => h) (Or.inl ⟨by rfl, ?_⟩) ?_ ?_
                  rotate_left
                  ·
                   intro w'
                   go_simp
                   with_reducible rfl
                  rotate_left
                  ·
                   simp only [Act.put, List.setIfInBounds_toArray, List.set_cons_zero, List.set_cons_succ, i64_w, i32_w]
                   rfl
                  refine pure_ (i := 13) (N := some 77) (v := ?_) (a' := ?_) #[true, true, true, true, true, true, true, true, true, true, true, true, true, true, false, false, false, false, false, false] rfl rfl (any_of HT_.out (by kernel_rfl)) (fun _ _ _ h => h) (Or.inl ⟨by rfl, ?_⟩) ?_ ?_
                  rotate_left
                  ·
                   intro w'
                   go_simp
                   with_reducible rfl
                  rotate_left
                  ·
                   simp only [Act.put, List.setIfInBounds_toArray, List.set_cons_zero, List.set_cons_succ, i64_w, i32_w]
                   rfl
                  refine pure_ (i := 15) (N := some 79) (v := ?_) (a' := ?_) #[true, true, true, true, true, true, true, true, true, true, true, true, true, true, false, true, false, false, false, false] rfl rfl (any_of HT_.out (by kernel_rfl)) (fun _ _ _ h => h) (Or.inl ⟨by rfl, ?_⟩) ?_ ?_
                  rotate_left
                  ·
                   intro w'
                   go_simp
                   with_reducible rfl
                  rotate_left
                  ·
                   simp only [Act.put, List.setIfInBounds_toArray, List.set_cons_zero, List.set_cons_succ, i64_w, i32_w]
                   rfl
                  refine take_ (i := 14) (N := some 78) (v := ?_) (a' := ?_) #[true, true, true, true, true, true, true, true, true, true, true, true, true, true, true, true, false, false, false, false] rfl rfl (take_ofW HT_.out HW_.out (by kernel_rfl)) (fun _ _ _ h => h) (Or.inl ⟨by rfl, ?_⟩) hHeld ?_ ?_
                  rotate_left
                  ·
                   rintro w' ⟨s0, s1, s2, s3, s4⟩
                   go_simp
                   with_reducible rfl
                  rotate_left
                  ·
                   simp only [Act.put, List.setIfInBounds_toArray, List.set_cons_zero, List.set_cons_succ, i64_w, i32_w]
                   rfl
                  refine take_ (i := 16) (N := some 80) (v := ?_) (a' := ?_) #[true, true, true, true, true, true, true, true, true, true, true, true, true, true, true, true, true, false, false, false] rfl rfl (take_ofW HT_.out HW_.out (by kernel_rfl)) (fun _ _ _ h => h) (Or.inl ⟨by rfl, ?_⟩) hHeld ?_ ?_
                  rotate_left
                  ·
                   rintro w' ⟨s0, s1, s2, s3, s4⟩
                   go_simp
                   with_reducible rfl
                  rotate_left
                  ·
                   simp only [Act.put, List.setIfInBounds_toArray, List.set_cons_zero, List.set_cons_succ, i64_w, i32_w]
                   rfl
                  refine one_ (i := 17) (N := some 81) #[true, true, true, true, true, true, true, true, true, true, true, true, true, true, true, true, true, true, false, false] rfl rfl (one_of HT_.out (by kernel_rfl)) (by decide) (fun K hK => ?_)
                  refine goes_ Try.func10 (by kernel_rfl) rfl #[.agg #[.slice Ao33 t206.length co33, .slice Ao36 t209.length co36], .int .i64 ((rd_T43 x197000_1 x55_2).f0)] (by rfl) rfl rfl (by (try simp only [List.map_toArray, List.map_cons, List.map_nil]); first | done | rfl | (simp only [List.length_drop, List.length_take]; rfl)) ?_
                  with_reducible refine (choice_May.calls k2 _ _ t206 _ _ t209 ((rd_T43 x197000_1 x55_2).f0) t221 _ ?side1 ?side2 ?side3 ?side4 A86.out).mono ?_
                  (case side1 => repeat (first | exact (Kd.V_reads' HO_216000.out).2.2 | (with_reducible refine Kd.C_alloc ?_ _) | (with_reducible refine Kd.C_drewN ?_ _) | (with_reducible refine Kd.C_drew ?_)))
                  (case side2 => exact (Kd.V_reads' HO_216000.out).2.1)
                  (case side3 => repeat (first | exact (Kd.V_reads' HO_216001.out).2.2 | (with_reducible refine Kd.C_alloc ?_ _) | (with_reducible refine Kd.C_drewN ?_ _) | (with_reducible refine Kd.C_drew ?_)))
                  (case side4 => exact (Kd.V_reads' HO_216001.out).2.1)
                  rintro e w89 ⟨rfl, hb⟩
                  have HS4_ := (hb.cell (World.block_lt_of_cell? _ _ (hHeld.2.2.2.2))).trans (hHeld.2.2.2.2)
                  refine ⟨_, rfl, ?_⟩
                  have n0_ := Aside0.mk (Kd.V_below (by (with_reducible repeat (first | apply Kd.V_alloc | apply Kd.V_drewN | apply Kd.V_drew)); exact HO_9.out) hb)
                  have n1_ := Aside0.mk (Kd.V_below (by (with_reducible repeat (first | apply Kd.V_alloc | apply Kd.V_drewN | apply Kd.V_drew)); exact HO_53.out) hb)
                  have n2_ := Aside0.mk (Kd.V_below (by (with_reducible repeat (first | apply Kd.V_alloc | apply Kd.V_drewN | apply Kd.V_drew)); exact HO_197000.out) hb)
                  have n3_ := Aside0.mk (Kd.V_below (by (with_reducible repeat (first | apply Kd.V_alloc | apply Kd.V_drewN | apply Kd.V_drew)); exact HO_197001.out) hb)
                  have n4_ := Aside0.mk (Kd.V_below (by (with_reducible repeat (first | apply Kd.V_alloc | apply Kd.V_drewN | apply Kd.V_drew)); exact HO_216000.out) hb)
                  have n5_ := Aside0.mk (Kd.V_below (by (with_reducible repeat (first | apply Kd.V_alloc | apply Kd.V_drewN | apply Kd.V_drew)); exact HO_216001.out) hb)
                  have n6_ := Aside0.mk (blk_below (g := gb196) (o := .cells #[.slice (some ad216) x197000_1.length co29, .slice Ao30 x197001_1.length co30] 27 (0, 0)) (by (with_reducible repeat (first | refine blk_drewN ?_ _ | refine blk_drew ?_ | refine blk_alloc ?_ _)); exact BK196.out) hb)
                  have n7_ := Aside0.mk (blk_below (g := gb215) (o := .cells #[.slice Ao33 t206.length co33, .slice Ao36 t209.length co36] 27 (0, 0)) (by (with_reducible repeat (first | refine blk_drewN ?_ _ | refine blk_drew ?_ | refine blk_alloc ?_ _)); exact BK215.out) hb)
                  have n8_ := Aside0.mk (blk_below (g := gb217) (o := .cells #[.int .i64 ((rd_T43 x197000_1 x55_2).f0), .int .u64 ((rd_T43 x197000_1 x55_2).f1)] 43 (0, 0)) (by (with_reducible repeat (first | refine blk_drewN ?_ _ | refine blk_drew ?_ | refine blk_alloc ?_ _)); exact BK217.out) hb)
                  have n9_ := Aside0.mk (below_step (by repeat (first | (with_reducible first | exact HB.out | apply below_alloc | apply pw_below_drewN | apply below_drew1 | refine below_set ?_ GE196.out | refine below_set ?_ GE215.out | refine below_set ?_ GE217.out) | exact HB.out)) hb)
                  clear HO_9
                  clear HO_53
                  clear HO_197000
                  clear HO_197001
                  clear HO_216000
                  clear HO_216001
                  clear BK196
                  clear BK215
                  clear BK217
                  clear HB
                  have HO_9 := n0_
                  have HO_53 := n1_
                  have HO_197000 := n2_
                  have HO_197001 := n3_
                  have HO_216000 := n4_
                  have HO_216001 := n5_
                  have BK196 := n6_
                  have BK215 := n7_
                  have BK217 := n8_
                  have HB := n9_
                  clear n0_ n1_ n2_ n3_ n4_ n5_ n6_ n7_ n8_ n9_
                  (try clear hb)
                  (try clear hb2)
                  (try clear hk)
                  (try clear hi)
                  refine hK.out _ _ ⟨(blk_cell BK217.out 0).trans rfl, (blk_cell BK217.out 1).trans rfl, (blk_cell BK215.out 0).trans rfl, (blk_cell BK215.out 1).trans rfl, HS4_⟩ (fun hHeld => ?_)
                  clear hK K
                  refine norm_ (a' := ?_) ?_ ?_
                  rotate_left
                  ·
                   show Act.put _ (some 81) _ = _
                   simp only [Act.put, List.setIfInBounds_toArray, List.set_cons_zero, List.set_cons_succ, i64_w, i32_w]
                   rfl
                  refine pure_ (i := 18) (N := some 82) (v := ?_) (a' := ?_) #[true, true, true, true, true, true, true, true, true, true, true, true, true, true, true, true, true, true, true, false] rfl rfl (any_of HT_.out (by kernel_rfl)) (fun _ _ _ h => h) (Or.inl ⟨by rfl, ?_⟩) ?_ ?_
                  rotate_left
                  ·
                   intro w'
                   go_simp
                   with_reducible rfl
                  rotate_left
                  ·
                   simp only [Act.put, List.setIfInBounds_toArray, List.set_cons_zero, List.set_cons_succ, i64_w, i32_w]
                   rfl
                  refine pure_ (i := 19) (N := some 83) (v := ?_) (a' := ?_) #[true, true, true, true, true, true, true, true, true, true, true, true, true, true, true, true, true, true, true, true] rfl rfl (any_of HT_.out (by kernel_rfl)) (fun _ _ _ h => h) (Or.inl ⟨by rfl, ?_⟩) ?_ ?_
                  rotate_left
                  ·
                   intro w'
                   go_simp
                   with_reducible rfl
                  rotate_left
                  ·
                   simp only [Act.put, List.setIfInBounds_toArray, List.set_cons_zero, List.set_cons_succ, i64_w, i32_w]
                   rfl
                  refine done_ (done_of HT_.out (by kernel_rfl)) ?_
                  try go_wp2
                  go_meet
                  case rel => exact ⟨_, (!t221), (by first | rfl | (simp; done) | (simp [*]; done)), H', ⟨by have := HK1.out; have := HK2.out; first | omega | exact Nat.le_refl _⟩, ⟨by (with_reducible repeat (first | apply Kd.V_alloc | apply Kd.V_drewN | apply Kd.V_drew)); exact HO_9.out⟩, ⟨by (with_reducible repeat (first | apply Kd.V_alloc | apply Kd.V_drewN | apply Kd.V_drew)); exact HO_53.out⟩, ⟨by (with_reducible repeat (first | apply Kd.V_alloc | apply Kd.V_drewN | apply Kd.V_drew)); exact HO_197000.out⟩, ⟨by (with_reducible repeat (first | apply Kd.V_alloc | apply Kd.V_drewN | apply Kd.V_drew)); exact HO_197001.out⟩, ⟨by (with_reducible repeat (first | apply Kd.V_alloc | apply Kd.V_drewN | apply Kd.V_drew)); exact HO_216000.out⟩, ⟨by (with_reducible repeat (first | apply Kd.V_alloc | apply Kd.V_drewN | apply Kd.V_drew)); exact HO_216001.out⟩, ⟨by (with_reducible repeat (first | refine blk_drewN ?_ _ | refine blk_drew ?_ | refine blk_alloc ?_ _)); exact BK196.out⟩, ⟨by (with_reducible repeat (first | refine blk_drewN ?_ _ | refine blk_drew ?_ | refine blk_alloc ?_ _)); exact BK215.out⟩, ⟨by (with_reducible repeat (first | refine blk_drewN ?_ _ | refine blk_drew ?_ | refine blk_alloc ?_ _)); exact BK217.out⟩, ⟨by repeat (first | (with_reducible first | exact HB.out | apply below_alloc | apply pw_below_drewN | apply below_drew1 | refine below_set ?_ GE196.out | refine below_set ?_ GE215.out | refine below_set ?_ GE217.out) | exact HB.out)⟩⟩
                 ·
                  rw [if_neg c85] at H
                  have c85b0 : ((rd t212 x10_2) == ((rd_T43 x197000_1 x55_2).f0)) = false := beq_eq_false_iff_ne.mpr c85
                  have c85b1 : ((rd t212 x10_2) != ((rd_T43 x197000_1 x55_2).f0)) = true := bne_iff_ne.mpr c85
                  have H' := Aside0.mk H
                  clear H
                  try go_wp2
                  have n0_ : Aside0 (Kd.V (Kd.int .i64) 3 ((w76.setCell ⟨gb217, 0, none⟩ (.int .i64 ((rd_T43 x197000_1 x55_2).f0))).setCell ⟨gb217, 1, none⟩ (.int .u64 ((rd_T43 x197000_1 x55_2).f1))) w.heap.size (fun k_ => k_ ≠ gb196 ∧ k_ ≠ gb215 ∧ k_ ≠ gb217) (.slice Ao37 t212.length co37) t212) := ⟨by (with_reducible repeat (first | apply Kd.V_alloc | apply Kd.V_drewN | apply Kd.V_drew)); exact Kd.V_mono (Kd.V_far (p := ⟨gb217, 1, none⟩) (Kd.V_far (p := ⟨gb217, 0, none⟩) (Kd.V_mono HO_9.out (fun k_ hk => (⟨hk, hk.2⟩ : _ ∧ k_ ≠ gb217))) (fun _ hk => hk.2) (.int .i64 ((rd_T43 x197000_1 x55_2).f0))) (fun _ hk => hk.2) (.int .u64 ((rd_T43 x197000_1 x55_2).f1))) (fun _ hk => ⟨hk.1.1.1, ⟨hk.1.1.2, hk.1.2⟩⟩)⟩
                  have n1_ : Aside0 (Kd.V k43 43 ((w76.setCell ⟨gb217, 0, none⟩ (.int .i64 ((rd_T43 x197000_1 x55_2).f0))).setCell ⟨gb217, 1, none⟩ (.int .u64 ((rd_T43 x197000_1 x55_2).f1))) w.heap.size (fun k_ => k_ ≠ gb196 ∧ k_ ≠ gb215 ∧ k_ ≠ gb217) (.slice (some ad216) x197000_1.length co29) x197000_1) := ⟨by (with_reducible repeat (first | apply Kd.V_alloc | apply Kd.V_drewN | apply Kd.V_drew)); exact Kd.V_mono (Kd.V_far (p := ⟨gb217, 1, none⟩) (Kd.V_far (p := ⟨gb217, 0, none⟩) (Kd.V_mono HO_53.out (fun k_ hk => (⟨hk, hk.2⟩ : _ ∧ k_ ≠ gb217))) (fun _ hk => hk.2) (.int .i64 ((rd_T43 x197000_1 x55_2).f0))) (fun _ hk => hk.2) (.int .u64 ((rd_T43 x197000_1 x55_2).f1))) (fun _ hk => ⟨hk.1.1.1, ⟨hk.1.1.2, hk.1.2⟩⟩)⟩
                  have n2_ : Aside0 (Kd.V k43 43 ((w76.setCell ⟨gb217, 0, none⟩ (.int .i64 ((rd_T43 x197000_1 x55_2).f0))).setCell ⟨gb217, 1, none⟩ (.int .u64 ((rd_T43 x197000_1 x55_2).f1))) w.heap.size (fun k_ => k_ ≠ gb196 ∧ k_ ≠ gb215 ∧ k_ ≠ gb217) (.slice (some ad216) x197000_1.length co29) x197000_1) := ⟨by (with_reducible repeat (first | apply Kd.V_alloc | apply Kd.V_drewN | apply Kd.V_drew)); exact Kd.V_mono (Kd.V_far (p := ⟨gb217, 1, none⟩) (Kd.V_far (p := ⟨gb217, 0, none⟩) (Kd.V_mono HO_197000.out (fun k_ hk => (⟨hk, hk.2⟩ : _ ∧ k_ ≠ gb217))) (fun _ hk => hk.2) (.int .i64 ((rd_T43 x197000_1 x55_2).f0))) (fun _ hk => hk.2) (.int .u64 ((rd_T43 x197000_1 x55_2).f1))) (fun _ hk => ⟨hk.1.1.1, ⟨hk.1.1.2, hk.1.2⟩⟩)⟩
                  have n3_ : Aside0 (Kd.V (Kd.int .i64) 3 ((w76.setCell ⟨gb217, 0, none⟩ (.int .i64 ((rd_T43 x197000_1 x55_2).f0))).setCell ⟨gb217, 1, none⟩ (.int .u64 ((rd_T43 x197000_1 x55_2).f1))) w.heap.size (fun k_ => k_ ≠ gb196 ∧ k_ ≠ gb215 ∧ k_ ≠ gb217) (.slice Ao30 x197001_1.length co30) x197001_1) := ⟨by (with_reducible repeat (first | apply Kd.V_alloc | apply Kd.V_drewN | apply Kd.V_drew)); exact Kd.V_mono (Kd.V_far (p := ⟨gb217, 1, none⟩) (Kd.V_far (p := ⟨gb217, 0, none⟩) (Kd.V_mono HO_197001.out (fun k_ hk => (⟨hk, hk.2⟩ : _ ∧ k_ ≠ gb217))) (fun _ hk => hk.2) (.int .i64 ((rd_T43 x197000_1 x55_2).f0))) (fun _ hk => hk.2) (.int .u64 ((rd_T43 x197000_1 x55_2).f1))) (fun _ hk => ⟨hk.1.1.1, ⟨hk.1.1.2, hk.1.2⟩⟩)⟩
                  have n4_ : Aside0 (Kd.V k43 43 ((w76.setCell ⟨gb217, 0, none⟩ (.int .i64 ((rd_T43 x197000_1 x55_2).f0))).setCell ⟨gb217, 1, none⟩ (.int .u64 ((rd_T43 x197000_1 x55_2).f1))) w.heap.size (fun k_ => k_ ≠ gb196 ∧ k_ ≠ gb215 ∧ k_ ≠ gb217) (.slice Ao33 t206.length co33) t206) := ⟨by (with_reducible repeat (first | apply Kd.V_alloc | apply Kd.V_drewN | apply Kd.V_drew)); exact Kd.V_mono (Kd.V_far (p := ⟨gb217, 1, none⟩) (Kd.V_far (p := ⟨gb217, 0, none⟩) (Kd.V_mono HO_216000.out (fun k_ hk => (⟨hk, hk.2⟩ : _ ∧ k_ ≠ gb217))) (fun _ hk => hk.2) (.int .i64 ((rd_T43 x197000_1 x55_2).f0))) (fun _ hk => hk.2) (.int .u64 ((rd_T43 x197000_1 x55_2).f1))) (fun _ hk => ⟨hk.1.1.1, ⟨hk.1.1.2, hk.1.2⟩⟩)⟩
                  have n5_ : Aside0 (Kd.V (Kd.int .i64) 3 ((w76.setCell ⟨gb217, 0, none⟩ (.int .i64 ((rd_T43 x197000_1 x55_2).f0))).setCell ⟨gb217, 1, none⟩ (.int .u64 ((rd_T43 x197000_1 x55_2).f1))) w.heap.size (fun k_ => k_ ≠ gb196 ∧ k_ ≠ gb215 ∧ k_ ≠ gb217) (.slice Ao36 t209.length co36) t209) := ⟨by (with_reducible repeat (first | apply Kd.V_alloc | apply Kd.V_drewN | apply Kd.V_drew)); exact Kd.V_mono (Kd.V_far (p := ⟨gb217, 1, none⟩) (Kd.V_far (p := ⟨gb217, 0, none⟩) (Kd.V_mono HO_216001.out (fun k_ hk => (⟨hk, hk.2⟩ : _ ∧ k_ ≠ gb217))) (fun _ hk => hk.2) (.int .i64 ((rd_T43 x197000_1 x55_2).f0))) (fun _ hk => hk.2) (.int .u64 ((rd_T43 x197000_1 x55_2).f1))) (fun _ hk => ⟨hk.1.1.1, ⟨hk.1.1.2, hk.1.2⟩⟩)⟩
                  have n6_ : Aside0 (((w76.setCell ⟨gb217, 0, none⟩ (.int .i64 ((rd_T43 x197000_1 x55_2).f0))).setCell ⟨gb217, 1, none⟩ (.int .u64 ((rd_T43 x197000_1 x55_2).f1))).heap[gb196]? = some (.cells #[.slice (some ad216) x197000_1.length co29, .slice Ao30 x197001_1.length co30] 27 (0, 0))) := ⟨by (with_reducible repeat (first | refine blk_drewN ?_ _ | refine blk_drew ?_ | refine blk_alloc ?_ _)); refine blk_far ?_ NB196_217.out _; (with_reducible repeat (first | refine blk_drewN ?_ _ | refine blk_drew ?_ | refine blk_alloc ?_ _)); refine blk_far ?_ NB196_217.out _; (with_reducible repeat (first | refine blk_drewN ?_ _ | refine blk_drew ?_ | refine blk_alloc ?_ _)); exact BK196.out⟩
                  have n7_ : Aside0 (((w76.setCell ⟨gb217, 0, none⟩ (.int .i64 ((rd_T43 x197000_1 x55_2).f0))).setCell ⟨gb217, 1, none⟩ (.int .u64 ((rd_T43 x197000_1 x55_2).f1))).heap[gb215]? = some (.cells #[.slice Ao33 t206.length co33, .slice Ao36 t209.length co36] 27 (0, 0))) := ⟨by (with_reducible repeat (first | refine blk_drewN ?_ _ | refine blk_drew ?_ | refine blk_alloc ?_ _)); refine blk_far ?_ NB215_217.out _; (with_reducible repeat (first | refine blk_drewN ?_ _ | refine blk_drew ?_ | refine blk_alloc ?_ _)); refine blk_far ?_ NB215_217.out _; (with_reducible repeat (first | refine blk_drewN ?_ _ | refine blk_drew ?_ | refine blk_alloc ?_ _)); exact BK215.out⟩
                  have n8_ : Aside0 (((w76.setCell ⟨gb217, 0, none⟩ (.int .i64 ((rd_T43 x197000_1 x55_2).f0))).setCell ⟨gb217, 1, none⟩ (.int .u64 ((rd_T43 x197000_1 x55_2).f1))).heap[gb217]? = some (.cells #[.int .i64 ((rd_T43 x197000_1 x55_2).f0), .int .u64 ((rd_T43 x197000_1 x55_2).f1)] 43 (0, 0))) := ⟨by (with_reducible repeat (first | refine blk_drewN ?_ _ | refine blk_drew ?_ | refine blk_alloc ?_ _)); refine blk_put (cs := #[.int .i64 ((rd_T43 x197000_1 x55_2).f0), .int .u64 0]) ?_ 1 _ rfl; (with_reducible repeat (first | refine blk_drewN ?_ _ | refine blk_drew ?_ | refine blk_alloc ?_ _)); refine blk_put (cs := #[.int .i64 0, .int .u64 0]) ?_ 0 _ rfl; (with_reducible repeat (first | refine blk_drewN ?_ _ | refine blk_drew ?_ | refine blk_alloc ?_ _)); exact BK217.out⟩
                  have n9_ : Aside0 (Below w.heap.size w ((w76.setCell ⟨gb217, 0, none⟩ (.int .i64 ((rd_T43 x197000_1 x55_2).f0))).setCell ⟨gb217, 1, none⟩ (.int .u64 ((rd_T43 x197000_1 x55_2).f1)))) := ⟨by repeat (first | (with_reducible first | exact HB.out | apply below_alloc | apply pw_below_drewN | apply below_drew1 | refine below_set ?_ GE196.out | refine below_set ?_ GE215.out | refine below_set ?_ GE217.out) | exact HB.out)⟩
                  (try clear HO_9)
                  (try clear HO_53)
                  (try clear HO_197000)
                  (try clear HO_197001)
                  (try clear HO_216000)
                  (try clear HO_216001)
                  (try clear BK196)
                  (try clear BK215)
                  (try clear BK217)
                  (try clear HB)
                  generalize ((w76.setCell ⟨gb217, 0, none⟩ (.int .i64 ((rd_T43 x197000_1 x55_2).f0))).setCell ⟨gb217, 1, none⟩ (.int .u64 ((rd_T43 x197000_1 x55_2).f1))) = w90 at n0_ n1_ n2_ n3_ n4_ n5_ n6_ n7_ n8_ n9_ ⊢
                  have HO_9 := n0_
                  have HO_53 := n1_
                  have HO_197000 := n2_
                  have HO_197001 := n3_
                  have HO_216000 := n4_
                  have HO_216001 := n5_
                  have BK196 := n6_
                  have BK215 := n7_
                  have BK217 := n8_
                  have HB := n9_
                  clear n0_ n1_ n2_ n3_ n4_ n5_ n6_ n7_ n8_ n9_
                  have n0_ := Aside0.mk (Kd.V_drew HO_9.out)
                  have n1_ := Aside0.mk (Kd.V_drew HO_53.out)
                  have n2_ := Aside0.mk (Kd.V_drew HO_197000.out)
                  have n3_ := Aside0.mk (Kd.V_drew HO_197001.out)
                  have n4_ := Aside0.mk (Kd.V_drew HO_216000.out)
                  have n5_ := Aside0.mk (Kd.V_drew HO_216001.out)
                  have n6_ := Aside0.mk (blk_drew BK196.out)
                  have n7_ := Aside0.mk (blk_drew BK215.out)
                  have n8_ := Aside0.mk (blk_drew BK217.out)
                  have n9_ := Aside0.mk (below_drew1 HB.out)
                  clear HO_9
                  clear HO_53
                  clear HO_197000
                  clear HO_197001
                  clear HO_216000
                  clear HO_216001
                  clear BK196
                  clear BK215
                  clear BK217
                  clear HB
                  have HO_9 := n0_
                  have HO_53 := n1_
                  have HO_197000 := n2_
                  have HO_197001 := n3_
                  have HO_216000 := n4_
                  have HO_216001 := n5_
                  have BK196 := n6_
                  have BK215 := n7_
                  have BK217 := n8_
                  have HB := n9_
                  clear n0_ n1_ n2_ n3_ n4_ n5_ n6_ n7_ n8_ n9_
                  have p220 : 0 ≤ (x10_2 : Int) := of_decide_eq_true (by first | (with_reducible assumption) | assumption)
                  have q220 : x10_2 < (t212.length : Int) := of_decide_eq_true (by first | (with_reducible assumption) | assumption)
                  obtain ⟨ad220, e220, hx220_0⟩ := Kd.at_int (Kd.V_reads' HO_9.out).2.2 x10_2 p220 q220
                  cases e220
                  replace p220 := eq_true p220
                  replace q220 := eq_true q220
                  refine start_ (n := 20) (S := fun w' => w'.cell? ⟨gb217, 0, none⟩ = some (.int .i64 ((rd_T43 x197000_1 x55_2).f0)) ∧ w'.cell? ⟨gb217, 1, none⟩ = some (.int .u64 ((rd_T43 x197000_1 x55_2).f1)) ∧ w'.cell? (ad220.add (x10_2).toNat) = some (.int .i64 (rd t212 x10_2))) (ds := []) #[false, false, false, false, false, false, false, false, false, false, false, false, false, false, false, false, false, false, false, false] (by kernel_rfl) rfl rfl ⟨(blk_cell BK217.out 0).trans rfl, (blk_cell BK217.out 1).trans rfl, hx220_0⟩ (fun hHeld => ?_); refine with_tabW warpbeamlaw18_ChoiceWakes.tab19 warpbeamlaw18_ChoiceWakes.bits19 (fun HT_ HW_ => ?_)
                  generalize w90.drew = w91 at HO_9 HO_53 HO_197000 HO_197001 HO_216000 HO_216001 BK196 BK215 BK217 HB hx220_0 hHeld ⊢
                  refine pure_ (i := 0) (N := some 64) (v := ?_) (a' := ?_) #[true, false, false, false, false, false, false, false, false, false, false, false, false, false, false, false, false, false, false, false] rfl rfl (any_of HT_.out (by kernel_rfl)) (fun _ _ _ h => h) (Or.inl ⟨by rfl, ?_⟩) ?_ ?_
                  rotate_left
                  ·
                   intro w'
                   go_simp
                   with_reducible rfl
                  rotate_left
                  ·
                   simp only [Act.put, List.setIfInBounds_toArray, List.set_cons_zero, List.set_cons_succ, i64_w, i32_w]
                   rfl
                  refine pure_ (i := 1) (N := some 65) (v := ?_) (a' := ?_) #[true, true, false, false, false, false, false, false, false, false, false, false, false, false, false, false, false, false, false, false] rfl rfl (any_of HT_.out (by kernel_rfl)) (fun _ _ _ h => h) (Or.inl ⟨by rfl, ?_⟩) ?_ ?_
                  rotate_left
                  ·
                   intro w'
                   go_simp
                   with_reducible rfl
                  rotate_left
                  ·
                   simp only [Act.put, List.setIfInBounds_toArray, List.set_cons_zero, List.set_cons_succ, i64_w, i32_w]
                   rfl
                  refine pure_ (i := 2) (N := some 66) (v := ?_) (a' := ?_) #[true, true, true, false, false, false, false, false, false, false, false, false, false, false, false, false, false, false, false, false] rfl rfl (any_of HT_.out (by kernel_rfl)) (fun _ _ _ h => h) (Or.inl ⟨by rfl, ?_⟩) ?_ ?_
                  rotate_left
                  ·
                   intro w'
                   go_simp
                   with_reducible rfl
                  rotate_left
                  ·
                   simp only [Act.put, List.setIfInBounds_toArray, List.set_cons_zero, List.set_cons_succ, i64_w, i32_w]
                   rfl
                  refine pure_ (i := 3) (N := some 67) (v := ?_) (a' := ?_) #[true, true, true, true, false, false, false, false, false, false, false, false, false, false, false, false, false, false, false, false] rfl rfl (any_of HT_.out (by kernel_rfl)) (fun _ _ _ h => h) (Or.inl ⟨by rfl, ?_⟩) ?_ ?_
                  rotate_left
                  ·
                   intro w'
                   go_simp
                   with_reducible rfl
                  rotate_left
                  ·
                   simp only [Act.put, List.setIfInBounds_toArray, List.set_cons_zero, List.set_cons_succ, i64_w, i32_w]
                   rfl
                  refine pure_ (i := 4) (N := some 68) (v := ?_) (a' := ?_) #[true, true, true, true, true, false, false, false, false, false, false, false, false, false, false, false, false, false, false, false] rfl rfl (any_of HT_.out (by kernel_rfl)) (fun _ _ _ h => h) (Or.inl ⟨by rfl, ?_⟩) ?_ ?_
                  rotate_left
                  ·
                   intro w'
                   go_simp
                   with_reducible rfl
                  rotate_left
                  ·
                   simp only [Act.put, List.setIfInBounds_toArray, List.set_cons_zero, List.set_cons_succ, i64_w, i32_w]
                   rfl
                  refine pure_ (i := 5) (N := some 69) (v := ?_) (a' := ?_) #[true, true, true, true, true, true, false, false, false, false, false, false, false, false, false, false, false, false, false, false] rfl rfl (any_of HT_.out (by kernel_rfl)) (fun _ _ _ h => h) (Or.inl ⟨by rfl, ?_⟩) ?_ ?_
                  rotate_left
                  ·
                   intro w'
                   go_simp
                   with_reducible rfl
                  rotate_left
                  ·
                   simp only [Act.put, List.setIfInBounds_toArray, List.set_cons_zero, List.set_cons_succ, i64_w, i32_w]
                   rfl
                  refine pure_ (i := 6) (N := some 70) (v := ?_) (a' := ?_) #[true, true, true, true, true, true, true, false, false, false, false, false, false, false, false, false, false, false, false, false] rfl rfl (any_of HT_.out (by kernel_rfl)) (fun _ _ _ h => h) (Or.inl ⟨by rfl, ?_⟩) ?_ ?_
                  rotate_left
                  ·
                   intro w'
                   go_simp
                   with_reducible rfl
                  rotate_left
                  ·
                   simp only [Act.put, List.setIfInBounds_toArray, List.set_cons_zero, List.set_cons_succ, i64_w, i32_w]
                   rfl
                  refine pure_ (i := 7) (N := some 71) (v := ?_) (a' := ?_) #[true, true, true, true, true, true, true, true, false, false, false, false, false, false, false, false, false, false, false, false] rfl rfl (any_of HT_.out (by kernel_rfl)) (fun _ _ _ h => h) (Or.inl ⟨by rfl, ?_⟩) ?_ ?_
                  rotate_left
                  ·
                   intro w'
                   go_simp
                   with_reducible rfl
                  rotate_left
                  ·
                   simp only [Act.put, List.setIfInBounds_toArray, List.set_cons_zero, List.set_cons_succ, i64_w, i32_w]
                   rfl
                  refine pure_ (i := 9) (N := some 73) (v := ?_) (a' := ?_) #[true, true, true, true, true, true, true, true, false, true, false, false, false, false, false, false, false, false, false, false] rfl rfl (any_of HT_.out (by kernel_rfl)) (fun _ _ _ h => h) (Or.inl ⟨by rfl, ?_⟩) ?_ ?_
                  rotate_left
                  ·
                   intro w'
                   go_simp
                   with_reducible rfl
                  rotate_left
                  ·
                   simp only [Act.put, List.setIfInBounds_toArray, List.set_cons_zero, List.set_cons_succ, i64_w, i32_w]
                   rfl
                  refine take_ (i := 8) (N := some 72) (v := ?_) (a' := ?_) #[true, true, true, true, true, true, true, true, true, true, false, false, false, false, false, false, false, false, false, false] rfl rfl (take_ofW HT_.out HW_.out (by kernel_rfl)) (fun _ _ _ h => h) (Or.inl ⟨by rfl, ?_⟩) hHeld ?_ ?_
                  rotate_left
                  ·
                   rintro w' ⟨s0, s1, s2⟩
                   go_simp
                   with_reducible rfl
                  rotate_left
                  ·
                   simp only [Act.put, List.setIfInBounds_toArray, List.set_cons_zero, List.set_cons_succ, i64_w, i32_w]
                   rfl
                  refine take_ (i := 10) (N := some 74) (v := ?_) (a' := ?_) #[true, true, true, true, true, true, true, true, true, true, true, false, false, false, false, false, false, false, false, false] rfl rfl (take_ofW HT_.out HW_.out (by kernel_rfl)) (fun _ _ _ h => h) (Or.inl ⟨by rfl, ?_⟩) hHeld ?_ ?_
                  rotate_left
                  ·
                   rintro w' ⟨s0, s1, s2⟩
                   go_simp
                   with_reducible rfl
                  rotate_left
                  ·
                   simp only [Act.put, List.setIfInBounds_toArray, List.set_cons_zero, List.set_cons_succ, i64_w, i32_w]
                   rfl
                  refine pure_ (i := 11) (N := some 75) (v := ?_) (a' := ?_) #[true, true, true, true, true, true, true, true, true, true, true, true, false, false, false, false, false, false, false, false] rfl rfl (any_of HT_.out (by kernel_rfl)) (fun _ _ _ h => h) (Or.inl ⟨by rfl, ?_⟩) ?_ ?_
                  rotate_left
                  ·
                   intro w'
                   go_simp
                   with_reducible rfl
                  rotate_left
                  ·
                   simp only [Act.put, List.setIfInBounds_toArray, List.set_cons_zero, List.set_cons_succ, i64_w, i32_w]
                   rfl
                  refine pure_ (i := 12) (N := some 76) (v := ?_) (a' := ?_) #[true, true, true, true, true, true, true, true, true, true, true, true, true, false, false, false, false, false, false, false] rfl rfl (any_of HT_.out (by kernel_rfl)) (fun _ _ _ h => h) (Or.inl ⟨by rfl, ?_⟩) ?_ ?_
                  rotate_left
                  ·
                   intro w'
                   go_simp
                   with_reducible rfl
                  rotate_left
                  ·
                   simp only [Act.put, List.setIfInBounds_toArray, List.set_cons_zero, List.set_cons_succ, i64_w, i32_w]
                   rfl
                  refine pure_ (i := 13) (N := some 77) (v := ?_) (a' := ?_) #[true, true, true, true, true, true, true, true, true, true, true, true, true, true, false, false, false, false, false, false] rfl rfl (any_of HT_.out (by kernel_rfl)) (fun _ _ _ h => h) (Or.inl ⟨by rfl, ?_⟩) ?_ ?_
                  rotate_left
                  ·
                   intro w'
                   go_simp
                   with_reducible rfl
                  rotate_left
                  ·
                   simp only [Act.put, List.setIfInBounds_toArray, List.set_cons_zero, List.set_cons_succ, i64_w, i32_w]
                   rfl
                  refine pure_ (i := 14) (N := some 78) (v := undef) (a' := ?_) #[true, true, true, true, true, true, true, true, true, true, true, true, true, true, true, false, false, false, false, false] rfl rfl (any_of HT_.out (by kernel_rfl)) (fun _ _ _ h => h) (Or.inr ⟨by rfl, rfl⟩) ?_ ?_
                  rotate_left
                  ·
                   simp only [Act.put, List.setIfInBounds_toArray, List.set_cons_zero, List.set_cons_succ, i64_w, i32_w]
                   rfl
                  refine pure_ (i := 15) (N := some 79) (v := undef) (a' := ?_) #[true, true, true, true, true, true, true, true, true, true, true, true, true, true, true, true, false, false, false, false] rfl rfl (any_of HT_.out (by kernel_rfl)) (fun _ _ _ h => h) (Or.inr ⟨by rfl, rfl⟩) ?_ ?_
                  rotate_left
                  ·
                   simp only [Act.put, List.setIfInBounds_toArray, List.set_cons_zero, List.set_cons_succ, i64_w, i32_w]
                   rfl
                  refine pure_ (i := 16) (N := some 80) (v := undef) (a' := ?_) #[true, true, true, true, true, true, true, true, true, true, true, true, true, true, true, true, true, false, false, false] rfl rfl (any_of HT_.out (by kernel_rfl)) (fun _ _ _ h => h) (Or.inr ⟨by rfl, rfl⟩) ?_ ?_
                  rotate_left
                  ·
                   simp only [Act.put, List.setIfInBounds_toArray, List.set_cons_zero, List.set_cons_succ, i64_w, i32_w]
                   rfl
                  refine pure_ (i := 17) (N := some 81) (v := undef) (a' := ?_) #[true, true, true, true, true, true, true, true, true, true, true, true, true, true, true, true, true, true, false, false] rfl rfl (any_of HT_.out (by kernel_rfl)) (fun _ _ _ h => h) (Or.inr ⟨by rfl, rfl⟩) ?_ ?_
                  rotate_left
                  ·
                   simp only [Act.put, List.setIfInBounds_toArray, List.set_cons_zero, List.set_cons_succ, i64_w, i32_w]
                   rfl
                  refine pure_ (i := 18) (N := some 82) (v := undef) (a' := ?_) #[true, true, true, true, true, true, true, true, true, true, true, true, true, true, true, true, true, true, true, false] rfl rfl (any_of HT_.out (by kernel_rfl)) (fun _ _ _ h => h) (Or.inr ⟨by rfl, rfl⟩) ?_ ?_
                  rotate_left
                  ·
                   simp only [Act.put, List.setIfInBounds_toArray, List.set_cons_zero, List.set_cons_succ, i64_w, i32_w]
                   rfl
                  refine pure_ (i := 19) (N := some 83) (v := ?_) (a' := ?_) #[true, true, true, true, true, true, true, true, true, true, true, true, true, true, true, true, true, true, true, true] rfl rfl (any_of HT_.out (by kernel_rfl)) (fun _ _ _ h => h) (Or.inl ⟨by rfl, ?_⟩) ?_ ?_
                  rotate_left
                  ·
                   intro w'
                   go_simp
                   with_reducible rfl
                  rotate_left
                  ·
                   simp only [Act.put, List.setIfInBounds_toArray, List.set_cons_zero, List.set_cons_succ, i64_w, i32_w]
                   rfl
                  refine done_ (done_of HT_.out (by kernel_rfl)) ?_
                  try go_wp2
                  go_meet
                  case rel => exact ⟨_, (true), (by first | rfl | (simp; done) | (simp [*]; done)), H', ⟨by have := HK1.out; have := HK2.out; first | omega | exact Nat.le_refl _⟩, ⟨by (with_reducible repeat (first | apply Kd.V_alloc | apply Kd.V_drewN | apply Kd.V_drew)); exact HO_9.out⟩, ⟨by (with_reducible repeat (first | apply Kd.V_alloc | apply Kd.V_drewN | apply Kd.V_drew)); exact HO_53.out⟩, ⟨by (with_reducible repeat (first | apply Kd.V_alloc | apply Kd.V_drewN | apply Kd.V_drew)); exact HO_197000.out⟩, ⟨by (with_reducible repeat (first | apply Kd.V_alloc | apply Kd.V_drewN | apply Kd.V_drew)); exact HO_197001.out⟩, ⟨by (with_reducible repeat (first | apply Kd.V_alloc | apply Kd.V_drewN | apply Kd.V_drew)); exact HO_216000.out⟩, ⟨by (with_reducible repeat (first | apply Kd.V_alloc | apply Kd.V_drewN | apply Kd.V_drew)); exact HO_216001.out⟩, ⟨by (with_reducible repeat (first | refine blk_drewN ?_ _ | refine blk_drew ?_ | refine blk_alloc ?_ _)); exact BK196.out⟩, ⟨by (with_reducible repeat (first | refine blk_drewN ?_ _ | refine blk_drew ?_ | refine blk_alloc ?_ _)); exact BK215.out⟩, ⟨by (with_reducible repeat (first | refine blk_drewN ?_ _ | refine blk_drew ?_ | refine blk_alloc ?_ _)); exact BK217.out⟩, ⟨by repeat (first | (with_reducible first | exact HB.out | apply below_alloc | apply pw_below_drewN | apply below_drew1 | refine below_set ?_ GE196.out | refine below_set ?_ GE215.out | refine below_set ?_ GE217.out) | exact HB.out)⟩⟩
                ·
                 rw [if_neg c84] at H
                 exact absurd H (by simp)
               ·
                rw [if_neg c83] at H
                exact absurd H (by simp)
             case rest =>
              clear HC75
              try clear c1
              try clear p2
              try clear q2
              try clear hx2
              try clear c8
              try clear c10
              try clear p22
              try clear q22
              try clear hx22
              try clear c80
              try clear c80b0
              try clear c83
              try clear c83b0
              try clear c84
              try clear c84b0
              try clear c85
              try clear c85b0
              try clear c85b1
              try clear hx220_0
              try clear p220
              try clear q220
              obtain ⟨kq, x83_74, rfl, HA, HJ74, HO_9, HO_53, HO_197000, HO_197001, HO_216000, HO_216001, BK196, BK215, BK217, HB⟩ := hcut
              cases kq with
              | zero => exact absurd HA.out (by simp [warpbeamlaw18_ChoiceWakes.j2])
              | succ kj74 =>
               have H := HA.out
               clear HA
               simp only [warpbeamlaw18_ChoiceWakes.j2] at H
               by_cases c92 : x83_74 = true
               ·
                subst c92
                have H1 : (some false) = some r := by rw [if_pos rfl] at H; exact H
                clear H
                have H := H1
                clear H1
                obtain rfl := Option.some.inj H
                go_wp2
                go_ret
                exact ⟨by first | rfl | (simp [errW_none, errW_some] <;> rfl) | (simp [*, errW_none, errW_some] <;> rfl), by repeat (first | (with_reducible first | exact HB.out | apply below_alloc | apply pw_below_drewN | apply below_drew1 | refine below_set ?_ GE196.out | refine below_set ?_ GE215.out | refine below_set ?_ GE217.out) | exact HB.out)⟩
               ·
                replace c92 := Bool.eq_false_iff.mpr c92
                subst c92
                have H1 : (warpbeamlaw18_ChoiceWakes.l1 kj74 a1 t212 (wrap64 (x10_2 + 1)) x11_2 x197000_1 (x197000_1.length : Int) (wrap64 (x55_2 + 1)) t206 t209) = some r := by rw [if_neg (show ¬ (false = true) by decide)] at H; exact H
                clear H
                have H := H1
                clear H1
                have H' := Aside0.mk H
                clear H
                go_wp2
                go_roundg kj74
                case measure => have := HK1.out; have := HK2.out; have := HJ74.out; omega
                case rel => exact ⟨(wrap64 (x10_2 + 1)), (x11_2), (wrap64 (x55_2 + 1)), (by first | rfl | (simp; done) | (simp [*]; done)), (by first | rfl | (simp; done) | (simp [*]; done)), (by first | rfl | (simp; done) | (simp [*]; done)), H', ⟨by have := HK1.out; have := HK2.out; have := HJ74.out; omega⟩, ⟨by (with_reducible repeat (first | apply Kd.V_alloc | apply Kd.V_drewN | apply Kd.V_drew)); exact Kd.V_mono HO_9.out (fun _ hk => ⟨hk.1, hk.2.1⟩)⟩, ⟨by (with_reducible repeat (first | apply Kd.V_alloc | apply Kd.V_drewN | apply Kd.V_drew)); exact Kd.V_mono HO_53.out (fun _ hk => ⟨hk.1, hk.2.1⟩)⟩, ⟨by (with_reducible repeat (first | apply Kd.V_alloc | apply Kd.V_drewN | apply Kd.V_drew)); exact Kd.V_mono HO_197000.out (fun _ hk => ⟨hk.1, hk.2.1⟩)⟩, ⟨by (with_reducible repeat (first | apply Kd.V_alloc | apply Kd.V_drewN | apply Kd.V_drew)); exact Kd.V_mono HO_197001.out (fun _ hk => ⟨hk.1, hk.2.1⟩)⟩, ⟨by (with_reducible repeat (first | apply Kd.V_alloc | apply Kd.V_drewN | apply Kd.V_drew)); exact Kd.V_mono HO_216000.out (fun _ hk => ⟨hk.1, hk.2.1⟩)⟩, ⟨by (with_reducible repeat (first | apply Kd.V_alloc | apply Kd.V_drewN | apply Kd.V_drew)); exact Kd.V_mono HO_216001.out (fun _ hk => ⟨hk.1, hk.2.1⟩)⟩, ⟨by (with_reducible repeat (first | refine blk_drewN ?_ _ | refine blk_drew ?_ | refine blk_alloc ?_ _)); exact BK196.out⟩, ⟨by (with_reducible repeat (first | refine blk_drewN ?_ _ | refine blk_drew ?_ | refine blk_alloc ?_ _)); exact BK215.out⟩, ⟨by repeat (first | (with_reducible first | exact HB.out | apply below_alloc | apply pw_below_drewN | apply below_drew1 | refine below_set ?_ GE196.out | refine below_set ?_ GE215.out | refine below_set ?_ GE217.out) | exact HB.out)⟩⟩
           ·
            rw [if_neg c41] at H
            exact absurd H (by simp)
          ·
           rw [if_neg c40] at H
           exact absurd H (by simp)
         ·
          rw [if_neg c39] at H
          have c39b0 : decide (x55_2 < (x197000_1.length : Int)) = false := decide_eq_false c39
          clear c39
          obtain rfl := Option.some.inj H
          go_wp2
          go_ret
          exact ⟨by first | rfl | (simp [errW_none, errW_some] <;> rfl) | (simp [*, errW_none, errW_some] <;> rfl), by repeat (first | (with_reducible first | exact HB.out | apply below_alloc | apply pw_below_drewN | apply below_drew1 | refine below_set ?_ GE196.out | refine below_set ?_ GE215.out) | exact HB.out)⟩
      ·
       rw [if_neg c27] at H
       have c27b0 : ((wrap64 ((t212.length : Int) + (t206.length : Int))) == (x197000_1.length : Int)) = false := beq_eq_false_iff_ne.mpr c27
       have c27b1 : ((wrap64 ((t212.length : Int) + (t206.length : Int))) != (x197000_1.length : Int)) = true := bne_iff_ne.mpr c27
       obtain rfl := Option.some.inj H
       have hcz93_0 : wr.cell? ⟨gb196, 0, none⟩ = some (u197000) := (blk_cell BK196.out 0).trans rfl
       have hcz93_1 : wr.cell? ⟨gb196, 1, none⟩ = some (u197001) := (blk_cell BK196.out 1).trans rfl
       have hfz93_0 := blk_frozen BK196.out 0
       have hfz93_1 := blk_frozen BK196.out 1
       obtain ⟨Ao94, co94, eo94⟩ := Kd.V_slice HO_197000.out
       subst eo94
       obtain ⟨Ao95, co95, eo95⟩ := Kd.V_slice HO_197001.out
       subst eo95
       go_wp2_with (first | ((with_reducible refine gate_callee (f := 13) rfl ?_); refine goesL_ (some 39) rfl rfl Try.func13 (by kernel_rfl) rfl #[.agg #[.slice Ao94 x197000_1.length co94, .slice Ao95 x197001_1.length co95], .int .u64 a1] rfl (by (try simp only [List.map_toArray, List.map_cons, List.map_nil]); first | done | rfl | (simp only [List.length_drop, List.length_take]; rfl)) ?_; (with_reducible refine (choice_Wake.calls (fun k_ => k_ ≠ gb196) _ _ x197000_1 (fun k_ => k_ ≠ gb196) _ _ x197001_1 a1 t206 t209 t212 _ ?side1 ?side2 A26.out).mono ?_); (case side1 => exact HO_197000.out); (case side2 => exact HO_197001.out); rintro e w96 ⟨v207, v210, v213, rfl, ho0, ho1, ho2, hb⟩; refine ⟨_, rfl, ?_⟩; have n0_ := Aside0.mk (Kd.V_below (by (with_reducible repeat (first | apply Kd.V_alloc | apply Kd.V_drewN | apply Kd.V_drew)); exact HO_197000.out) hb); have n1_ := Aside0.mk (Kd.V_below (by (with_reducible repeat (first | apply Kd.V_alloc | apply Kd.V_drewN | apply Kd.V_drew)); exact HO_197001.out) hb); have n2_ := Aside0.mk (Kd.V_lower (Kd.V_mono (ok' := fun k_ => k_ ≠ gb196) ho0 (fun k_ hk_ => Or.elim hk_ (fun hs_ => Or.elim hs_ (fun hs_ => hs_) (fun hs_ => hs_)) (fun hn_ => (Kd.freshB (g := gb196) (o := .cells #[.slice Ao94 x197000_1.length co94, .slice Ao95 x197001_1.length co95] 27 (0, 0)) (by (with_reducible repeat (first | refine blk_drewN ?_ _ | refine blk_drew ?_ | refine blk_alloc ?_ _)); exact BK196.out) k_ hn_)))) (below_size (by repeat (first | (with_reducible first | exact HB.out | apply below_alloc | apply pw_below_drewN | apply below_drew1 | refine below_set ?_ GE196.out) | exact HB.out)))); have n3_ := Aside0.mk (Kd.V_lower (Kd.V_mono (ok' := fun k_ => k_ ≠ gb196) ho1 (fun k_ hk_ => Or.elim hk_ (fun hs_ => Or.elim hs_ (fun hs_ => hs_) (fun hs_ => hs_)) (fun hn_ => (Kd.freshB (g := gb196) (o := .cells #[.slice Ao94 x197000_1.length co94, .slice Ao95 x197001_1.length co95] 27 (0, 0)) (by (with_reducible repeat (first | refine blk_drewN ?_ _ | refine blk_drew ?_ | refine blk_alloc ?_ _)); exact BK196.out) k_ hn_)))) (below_size (by repeat (first | (with_reducible first | exact HB.out | apply below_alloc | apply pw_below_drewN | apply below_drew1 | refine below_set ?_ GE196.out) | exact HB.out)))); have n4_ := Aside0.mk (Kd.V_lower (Kd.V_mono (ok' := fun k_ => k_ ≠ gb196) ho2 (fun k_ hk_ => Or.elim hk_ (fun hs_ => Or.elim hs_ (fun hs_ => hs_) (fun hs_ => hs_)) (fun hn_ => (Kd.freshB (g := gb196) (o := .cells #[.slice Ao94 x197000_1.length co94, .slice Ao95 x197001_1.length co95] 27 (0, 0)) (by (with_reducible repeat (first | refine blk_drewN ?_ _ | refine blk_drew ?_ | refine blk_alloc ?_ _)); exact BK196.out) k_ hn_)))) (below_size (by repeat (first | (with_reducible first | exact HB.out | apply below_alloc | apply pw_below_drewN | apply below_drew1 | refine below_set ?_ GE196.out) | exact HB.out)))); have n5_ := Aside0.mk (blk_below (g := gb196) (o := .cells #[.slice Ao94 x197000_1.length co94, .slice Ao95 x197001_1.length co95] 27 (0, 0)) (by (with_reducible repeat (first | refine blk_drewN ?_ _ | refine blk_drew ?_ | refine blk_alloc ?_ _)); exact BK196.out) hb); have n6_ := Aside0.mk (below_step (by repeat (first | (with_reducible first | exact HB.out | apply below_alloc | apply pw_below_drewN | apply below_drew1 | refine below_set ?_ GE196.out) | exact HB.out)) hb); clear HO_197000; clear HO_197001; clear BK196; clear HB; have HO_197000 := n0_; have HO_197001 := n1_; have HO208 := n2_; have HO211 := n3_; have HO214 := n4_; have BK196 := n5_; have HB := n6_; clear n0_ n1_ n2_ n3_ n4_ n5_ n6_; (try clear hb); (try clear hb2); (try clear hk); (try clear hi); (try clear ho0); (try clear ho1); (try clear ho2)) | ((with_reducible refine gate_dst (N := 8) rfl ?_); refine box_event ?hg (N := 8) ?hd (cs := #[.slice none 0 0, .slice none 0 0]) (t := 27) ?hr ?_; (case hd => rfl); (case hg => rfl); (case hr => first | (go_simp; done) | (go_simp; rfl)); intro gb215 hg w97 hbox hb; have n0_ := Aside0.mk (Kd.V_below (Kd.V_elderB (by (with_reducible repeat (first | apply Kd.V_alloc | apply Kd.V_drewN | apply Kd.V_drew)); exact HO_197000.out) gb215 (Nat.le_of_eq hg.symm)) hb); have n1_ := Aside0.mk (Kd.V_below (Kd.V_elderB (by (with_reducible repeat (first | apply Kd.V_alloc | apply Kd.V_drewN | apply Kd.V_drew)); exact HO_197001.out) gb215 (Nat.le_of_eq hg.symm)) hb); have n2_ := Aside0.mk (Kd.V_below (Kd.V_elderB (by (with_reducible repeat (first | apply Kd.V_alloc | apply Kd.V_drewN | apply Kd.V_drew)); exact HO208.out) gb215 (Nat.le_of_eq hg.symm)) hb); have n3_ := Aside0.mk (Kd.V_below (Kd.V_elderB (by (with_reducible repeat (first | apply Kd.V_alloc | apply Kd.V_drewN | apply Kd.V_drew)); exact HO211.out) gb215 (Nat.le_of_eq hg.symm)) hb); have n4_ := Aside0.mk (Kd.V_below (Kd.V_elderB (by (with_reducible repeat (first | apply Kd.V_alloc | apply Kd.V_drewN | apply Kd.V_drew)); exact HO214.out) gb215 (Nat.le_of_eq hg.symm)) hb); have n5_ := Aside0.mk (blk_below (g := gb196) (o := .cells #[.slice Ao94 x197000_1.length co94, .slice Ao95 x197001_1.length co95] 27 (0, 0)) (by (with_reducible repeat (first | refine blk_drewN ?_ _ | refine blk_drew ?_ | refine blk_alloc ?_ _)); exact BK196.out) hb); have n6_ := Aside0.mk (below_step (by repeat (first | (with_reducible first | exact HB.out | apply below_alloc | apply pw_below_drewN | apply below_drew1 | refine below_set ?_ GE196.out) | exact HB.out)) hb); have n7_ := Aside0.mk (hbox); have n8_ := Aside0.mk ((by rw [hg]; exact (below_size (by repeat (first | (with_reducible first | exact HB.out | apply below_alloc | apply pw_below_drewN | apply below_drew1 | refine below_set ?_ GE196.out) | exact HB.out))) : w.heap.size ≤ gb215)); have n9_ := Aside0.mk ((by rw [hg]; exact (below_size (by repeat (first | (with_reducible first | exact HB.out | apply below_alloc | apply pw_below_drewN | apply below_drew1 | refine below_set ?_ GE196.out) | exact HB.out))) : w.heap.size ≤ gb215)); have n10_ := Aside0.mk ((by rw [hg]; exact Nat.ne_of_lt (blk_lt (g := gb196) (o := .cells #[.slice Ao94 x197000_1.length co94, .slice Ao95 x197001_1.length co95] 27 (0, 0)) (by (with_reducible repeat (first | refine blk_drewN ?_ _ | refine blk_drew ?_ | refine blk_alloc ?_ _)); exact BK196.out)) : gb196 ≠ gb215)); have n11_ := Aside0.mk ((by rw [hg]; exact Nat.ne_of_gt (blk_lt (g := gb196) (o := .cells #[.slice Ao94 x197000_1.length co94, .slice Ao95 x197001_1.length co95] 27 (0, 0)) (by (with_reducible repeat (first | refine blk_drewN ?_ _ | refine blk_drew ?_ | refine blk_alloc ?_ _)); exact BK196.out)) : gb215 ≠ gb196)); clear HO_197000; clear HO_197001; clear HO208; clear HO211; clear HO214; clear BK196; clear HB; have HO_197000 := n0_; have HO_197001 := n1_; have HO208 := n2_; have HO211 := n3_; have HO214 := n4_; have BK196 := n5_; have HB := n6_; have BK215 := n7_; have GW215 := n8_; have GE215 := n9_; have NB196_215 := n10_; have NB215_196 := n11_; clear n0_ n1_ n2_ n3_ n4_ n5_ n6_ n7_ n8_ n9_ n10_ n11_; clear hb hbox hg; obtain ⟨Ao98, co98, eo98⟩ := Kd.V_slice HO208.out; subst eo98; have hnb99 := NB215_196.out; have hnc99 := NB196_215.out; have hcz100_0 : w97.cell? ⟨gb215, 0, none⟩ = some (.slice none 0 0) := (blk_cell BK215.out 0).trans rfl; have hcz100_1 : w97.cell? ⟨gb215, 1, none⟩ = some (.slice none 0 0) := (blk_cell BK215.out 1).trans rfl; have hfz100_0 := blk_frozen BK215.out 0; have hfz100_1 := blk_frozen BK215.out 1; obtain ⟨Ao101, co101, eo101⟩ := Kd.V_slice HO211.out; subst eo101; obtain ⟨Ao102, co102, eo102⟩ := Kd.V_slice HO214.out; subst eo102; have hcz103_0 : w97.cell? ⟨gb196, 0, none⟩ = some (.slice Ao94 x197000_1.length co94) := (blk_cell BK196.out 0).trans rfl; have hcz103_1 : w97.cell? ⟨gb196, 1, none⟩ = some (.slice Ao95 x197001_1.length co95) := (blk_cell BK196.out 1).trans rfl; have hfz103_0 := blk_frozen BK196.out 0; have hfz103_1 := blk_frozen BK196.out 1))
       go_ret
       exact ⟨by first | rfl | (simp [errW_none, errW_some] <;> rfl) | (simp [*, errW_none, errW_some] <;> rfl), by repeat (first | (with_reducible first | exact HB.out | apply below_alloc | apply pw_below_drewN | apply below_drew1 | refine below_set ?_ GE196.out | refine below_set ?_ GE215.out) | exact HB.out)⟩
 ·
  replace c4 := Bool.eq_false_iff.mpr c4
  subst c4
  have H1 : (some false) = some r := by rw [if_neg (show ¬ (false = true) by decide)] at H; exact H
  clear H
  have H := H1
  clear H1
  obtain rfl := Option.some.inj H
  go_enter Try.func4, Try.ntmps4
  go_wp2_with (first | ((with_reducible refine gate_callee (f := 7) rfl ?_); refine goesL_ (some 14) rfl rfl Try.func7 (by kernel_rfl) rfl #[] rfl (by (try simp only [List.map_toArray, List.map_cons, List.map_nil]); first | done | rfl | (simp only [List.length_drop, List.length_take]; rfl)) ?_; (with_reducible refine (warpbeamlaw18_alive.calls  false _ A3.out).mono ?_); rintro e w104 ⟨rfl, hb⟩; refine ⟨_, rfl, ?_⟩; have n0_ := Aside0.mk (below_step (by repeat (first | (with_reducible first | exact HB.out | apply below_alloc | apply pw_below_drewN | apply below_drew1) | exact HB.out)) hb); clear HB; have HB := n0_; clear n0_; (try clear hb); (try clear hb2); (try clear hk); (try clear hi)))
  go_ret
  exact ⟨by first | rfl | (simp [errW_none, errW_some] <;> rfl) | (simp [*, errW_none, errW_some] <;> rfl), by repeat (first | (with_reducible first | exact HB.out | apply below_alloc | apply pw_below_drewN | apply below_drew1) | exact HB.out)⟩

end Go.Proofs.Ytnegpjnjgdnmpaa.Q
