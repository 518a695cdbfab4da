/- Plain functions that say what functions of the program compute, and proofs that they do; written by the printer for this claim, beside functions proved by hand. -/
import Derived.Test.YtnamlnlhigdnkaaQ0
import Derived.Test.YtnamlnlhigdnkaaQ1
import Derived.Test.YtnamlnlhigdnkaaQ2
import Derived.Test.YtnamlnlhigdnkaaQ4
import Derived.Test.YtnamlnlhigdnkaaHAlive
import Derived.Test.YtnamlnlhigdnkaaHMark
import Derived.Test.YtnamlnlhigdnkaaHPut2
namespace Go.Proofs.Ytnamlnlhigdnkaa.Q
open Go.RowKit Go.Proofs.YtnamlnlhigdnkaaW.PrintWords Go.Proofs.YtnamlnlhigdnkaaW.PrintLast Go.Proofs.YtnamlnlhigdnkaaW.PrintMore
attribute [local go_sem] max2_int min2_int max_two min_two max_three min_three max_four min_four   -- for this text's walks alone
set_option linter.unusedVariables false
set_option linter.unusedSimpArgs false

attribute [local go_sem high] eqA31 eqA35
-- BY HAND: function 9 (warpbeamlaw07_alive)

-- NOT PRINTED: function 8 (warpbeamlaw07_StoreDrops)

/-! ### warpbeamlaw07_StoreApart: function 7 -/
mutual
def warpbeamlaw07_StoreApart.j0 : Nat → Int → List (S35) → List (S35) → Int → List (S35) → Int → Bool → Int → Int → Int → Int → Int → Option (Bool)
  | 0, _, _, _, _, _, _, _, _, _, _, _, _ => none
  | k + 1, x2, x7, x8, x9, x10, x11, x52, x208000, x208001, x208002, x208003, x208004 => if x52 = true then (some false) else (warpbeamlaw07_StoreApart.l0 k x2 x7 x8 x9 x10 x11 (x7.length : Int) 0 x208000 x208001 x208002 x208003 x208004)
def warpbeamlaw07_StoreApart.l0 : Nat → Int → List (S35) → List (S35) → Int → List (S35) → Int → Int → Int → Int → Int → Int → Int → Int → Option (Bool)
  | 0, _, _, _, _, _, _, _, _, _, _, _, _, _ => none
  | k + 1, x2, x7, x8, x9, x10, x11, x54, x55, x208000, x208001, x208002, x208003, x208004 => if x55 < x54 then (if x55 = x208000 then (warpbeamlaw07_StoreApart.l0 k x2 x7 x8 x9 x10 x11 x54 (wrap64 (x55 + 1)) x208000 x208001 x208002 x208003 x208004) else (if 0 ≤ x55 then (if x55 < (x8.length : Int) then (if x55 < (x7.length : Int) then (if ((!(((rd_T35 x8 x55).f0.f0) == ((rd_T35 x7 x55).f0.f0)) || (!(((rd_T35 x8 x55).f0.f1) == ((rd_T35 x7 x55).f0.f1)))) || (!(((rd_T35 x8 x55).f1) == ((rd_T35 x7 x55).f1)) || (!(((rd_T35 x8 x55).f2) == ((rd_T35 x7 x55).f2)) || (!(((rd_T35 x8 x55).f3) == ((rd_T35 x7 x55).f3)))))) = true then (some false) else (if x55 < (x10.length : Int) then (if ((!(((rd_T35 x10 x55).f0.f0) == ((rd_T35 x7 x55).f0.f0)) || (!(((rd_T35 x10 x55).f0.f1) == ((rd_T35 x7 x55).f0.f1)))) || (!(((rd_T35 x10 x55).f1) == ((rd_T35 x7 x55).f1)) || (!(((rd_T35 x10 x55).f2) == ((rd_T35 x7 x55).f2)) || (!(((rd_T35 x10 x55).f3) == ((rd_T35 x7 x55).f3)))))) = true then (some false) else (warpbeamlaw07_StoreApart.l0 k x2 x7 x8 x9 x10 x11 x54 (wrap64 (x55 + 1)) x208000 x208001 x208002 x208003 x208004)) else (none))) else (none)) else (none)) else (none))) else (if x9 = 0 then (if 0 ≤ x208000 then (if x208000 < (x8.length : Int) then (if ((!(((rd_T35 x8 x208000).f0.f0) == x208003) || (!(((rd_T35 x8 x208000).f0.f1) == x208004))) || (!(((rd_T35 x8 x208000).f1) == x208001) || (!(((rd_T35 x8 x208000).f2) == x208002) || (!(((rd_T35 x8 x208000).f3) == 0))))) = true then (some false) else (if x11 = 0 then (if x208000 < (x10.length : Int) then ((set_Has.f ((rd_T35 x10 x208000).f3) x2).bind fun t226 => (if t226 = true then (if x208000 < (x7.length : Int) then (some (((rd_T35 x10 x208000).f0.f0) == ((rd_T35 x7 x208000).f0.f0) && (((rd_T35 x10 x208000).f0.f1) == ((rd_T35 x7 x208000).f0.f1)))) else (none)) else (some false))) else (none)) else (some true))) else (none)) else (none)) else (if x11 = 0 then (if 0 ≤ x208000 then (if x208000 < (x10.length : Int) then ((set_Has.f ((rd_T35 x10 x208000).f3) x2).bind fun t230 => (if t230 = true then (if x208000 < (x7.length : Int) then (some (((rd_T35 x10 x208000).f0.f0) == ((rd_T35 x7 x208000).f0.f0) && (((rd_T35 x10 x208000).f0.f1) == ((rd_T35 x7 x208000).f0.f1)))) else (none)) else (some false))) else (none)) else (none)) else (some true)))
end
def warpbeamlaw07_StoreApart.f (k : Nat) (l0 : List (S40)) (a1_0 : Int) (a1_1 : Int) (a1_2 : Int) (a1_3 : Int) (a1_4 : Int) (a2 : Int) : Option (Bool) := (warpbeamlaw07_alive.f).bind fun t208 => (if t208 = true then (if (l0.length : Int) > 100 then (some true) else ((warpbeamlaw07_Theirs.f k l0).bind fun t209 => ((store_Put.f t209 a1_0 a1_3 a1_4 a1_1 a1_2).bind fun bt212 => ((store_Mark.f t209 a1_0 a2).bind fun bt216 => (if (bt212.1.length : Int) = (t209.length : Int) then (warpbeamlaw07_StoreApart.j0 k a2 t209 bt212.1 bt212.2 bt216.1 bt216.2 ((bt216.1.length : Int) != (t209.length : Int)) a1_0 a1_1 a1_2 a1_3 a1_4) else (warpbeamlaw07_StoreApart.j0 k a2 t209 bt212.1 bt212.2 bt216.1 bt216.2 true a1_0 a1_1 a1_2 a1_3 a1_4)))))) else (some false))
theorem warpbeamlaw07_StoreApart.mono_l : ∀ k, (∀ y0 y1 y2 y3 y4 y5 y6 y7 y8 y9 y10 y11, LeO (warpbeamlaw07_StoreApart.j0 k y0 y1 y2 y3 y4 y5 y6 y7 y8 y9 y10 y11) (warpbeamlaw07_StoreApart.j0 (k + 1) y0 y1 y2 y3 y4 y5 y6 y7 y8 y9 y10 y11)) ∧ (∀ y0 y1 y2 y3 y4 y5 y6 y7 y8 y9 y10 y11 y12, LeO (warpbeamlaw07_StoreApart.l0 k y0 y1 y2 y3 y4 y5 y6 y7 y8 y9 y10 y11 y12) (warpbeamlaw07_StoreApart.l0 (k + 1) y0 y1 y2 y3 y4 y5 y6 y7 y8 y9 y10 y11 y12))
  | 0 => ⟨fun _ _ _ _ _ _ _ _ _ _ _ _ r h => by simp [warpbeamlaw07_StoreApart.j0] at h, fun _ _ _ _ _ _ _ _ _ _ _ _ _ r h => by simp [warpbeamlaw07_StoreApart.l0] at h⟩
  | k + 1 => by
    obtain ⟨ih0, ih1⟩ := warpbeamlaw07_StoreApart.mono_l k
    refine ⟨?_, ?_⟩
    · intro y0 y1 y2 y3 y4 y5 y6 y7 y8 y9 y10 y11
      unfold warpbeamlaw07_StoreApart.j0
      repeat' first
      | (with_reducible exact ih0 _ _ _ _ _ _ _ _ _ _ _ _)
      | (with_reducible exact ih1 _ _ _ _ _ _ _ _ _ _ _ _ _)
      | (with_reducible exact warpbeamlaw07_Theirs.mono _ _)
      | (with_reducible exact LeO.refl _)
      | (with_reducible exact LeO.none _)
      | (with_reducible refine LeO.ite ?_ ?_)
      | (with_reducible refine LeO.bind ?_ (fun _ => ?_))
      | exact ih0 _ _ _ _ _ _ _ _ _ _ _ _
      | exact ih1 _ _ _ _ _ _ _ _ _ _ _ _ _
      | exact warpbeamlaw07_Theirs.mono _ _
      | exact LeO.none _
      | refine LeO.ite ?_ ?_
      | refine LeO.bind ?_ (fun _ => ?_)
    · intro y0 y1 y2 y3 y4 y5 y6 y7 y8 y9 y10 y11 y12
      unfold warpbeamlaw07_StoreApart.l0
      repeat' first
      | (with_reducible exact ih0 _ _ _ _ _ _ _ _ _ _ _ _)
      | (with_reducible exact ih1 _ _ _ _ _ _ _ _ _ _ _ _ _)
      | (with_reducible exact warpbeamlaw07_Theirs.mono _ _)
      | (with_reducible exact LeO.refl _)
      | (with_reducible exact LeO.none _)
      | (with_reducible refine LeO.ite ?_ ?_)
      | (with_reducible refine LeO.bind ?_ (fun _ => ?_))
      | exact ih0 _ _ _ _ _ _ _ _ _ _ _ _
      | exact ih1 _ _ _ _ _ _ _ _ _ _ _ _ _
      | exact warpbeamlaw07_Theirs.mono _ _
      | exact LeO.none _
      | refine LeO.ite ?_ ?_
      | refine LeO.bind ?_ (fun _ => ?_)
theorem warpbeamlaw07_StoreApart.mono : ∀ a0 a1 a2 a3 a4 a5 a6 k, LeO (warpbeamlaw07_StoreApart.f k a0 a1 a2 a3 a4 a5 a6) (warpbeamlaw07_StoreApart.f (k + 1) a0 a1 a2 a3 a4 a5 a6) := by
  intro a0 a1 a2 a3 a4 a5 a6 k
  obtain ⟨ih0, ih1⟩ := warpbeamlaw07_StoreApart.mono_l k
  unfold warpbeamlaw07_StoreApart.f
  repeat' first
      | (with_reducible exact ih0 _ _ _ _ _ _ _ _ _ _ _ _)
      | (with_reducible exact ih1 _ _ _ _ _ _ _ _ _ _ _ _ _)
      | (with_reducible exact warpbeamlaw07_Theirs.mono _ _)
      | (with_reducible exact LeO.refl _)
      | (with_reducible exact LeO.none _)
      | (with_reducible refine LeO.ite ?_ ?_)
      | (with_reducible refine LeO.bind ?_ (fun _ => ?_))
      | exact ih0 _ _ _ _ _ _ _ _ _ _ _ _
      | exact ih1 _ _ _ _ _ _ _ _ _ _ _ _ _
      | exact warpbeamlaw07_Theirs.mono _ _
      | exact LeO.none _
      | refine LeO.ite ?_ ?_
      | refine LeO.bind ?_ (fun _ => ?_)
set_option maxHeartbeats 8000000 in
set_option maxRecDepth 100000 in
theorem warpbeamlaw07_StoreApart.calls (k : Nat) (A0 : Option Addr) (c0 : Nat) (l0 : List (S40)) (a1_0 : Int) (a1_1 : Int) (a1_2 : Int) (a1_3 : Int) (a1_4 : Int) (a2 : Int) (r : Bool) (w : World) (hr0 : Kd.C k40 w A0 l0.length l0) (hc0 : l0.length ≤ c0) (h : warpbeamlaw07_StoreApart.f k l0 a1_0 a1_1 a1_2 a1_3 a1_4 a2 = some r) :
    Calls Try.prog 7 #[.slice A0 l0.length c0, .agg #[.int .i64 a1_0, .int .i64 a1_1, .int .i64 a1_2, .int .i64 a1_3, .int .i64 a1_4], .int .i64 a2] w fun e w' => e = .returned (.bool r) ∧ Below w.heap.size w w' := by
  have hu26 := Try.underlying26
  have hu24 := Try.underlying24
  have hu35 := Try.underlying35
  have hu31 := Try.underlying31
  have HR0 := Aside0.mk hr0
  have HC0 := Aside0.mk hc0
  clear hr0 hc0
  have HB := Aside0.mk (Below.refl w.heap.size w)
  have H : ((warpbeamlaw07_alive.f).bind fun t208 => (if t208 = true then (if (l0.length : Int) > 100 then (some true) else ((warpbeamlaw07_Theirs.f k l0).bind fun t209 => ((store_Put.f t209 a1_0 a1_3 a1_4 a1_1 a1_2).bind fun bt212 => ((store_Mark.f t209 a1_0 a2).bind fun bt216 => (if (bt212.1.length : Int) = (t209.length : Int) then (warpbeamlaw07_StoreApart.j0 k a2 t209 bt212.1 bt212.2 bt216.1 bt216.2 ((bt216.1.length : Int) != (t209.length : Int)) a1_0 a1_1 a1_2 a1_3 a1_4) else (warpbeamlaw07_StoreApart.j0 k a2 t209 bt212.1 bt212.2 bt216.1 bt216.2 true a1_0 a1_1 a1_2 a1_3 a1_4)))))) else (some false))) = some r := h
  clear h
  replace H := Option.bind_eq_some_iff.mp H
  obtain ⟨t208, A40, H⟩ := H
  replace H : (if t208 = true then (if (l0.length : Int) > 100 then (some true) else ((warpbeamlaw07_Theirs.f k l0).bind fun t209 => ((store_Put.f t209 a1_0 a1_3 a1_4 a1_1 a1_2).bind fun bt212 => ((store_Mark.f t209 a1_0 a2).bind fun bt216 => (if (bt212.1.length : Int) = (t209.length : Int) then (warpbeamlaw07_StoreApart.j0 k a2 t209 bt212.1 bt212.2 bt216.1 bt216.2 ((bt216.1.length : Int) != (t209.length : Int)) a1_0 a1_1 a1_2 a1_3 a1_4) else (warpbeamlaw07_StoreApart.j0 k a2 t209 bt212.1 bt212.2 bt216.1 bt216.2 true a1_0 a1_1 a1_2 a1_3 a1_4)))))) else (some false)) = some r := H
  have A4 := Aside0.mk A40
  clear A40
  by_cases c5 : t208 = true
  · subst c5
    have H1 : (if (l0.length : Int) > 100 then (some true) else ((warpbeamlaw07_Theirs.f k l0).bind fun t209 => ((store_Put.f t209 a1_0 a1_3 a1_4 a1_1 a1_2).bind fun bt212 => ((store_Mark.f t209 a1_0 a2).bind fun bt216 => (if (bt212.1.length : Int) = (t209.length : Int) then (warpbeamlaw07_StoreApart.j0 k a2 t209 bt212.1 bt212.2 bt216.1 bt216.2 ((bt216.1.length : Int) != (t209.length : Int)) a1_0 a1_1 a1_2 a1_3 a1_4) else (warpbeamlaw07_StoreApart.j0 k a2 t209 bt212.1 bt212.2 bt216.1 bt216.2 true a1_0 a1_1 a1_2 a1_3 a1_4)))))) = some r := by rw [if_pos rfl] at H; exact H
    clear H
    have H := H1
    clear H1
    by_cases c6 : (l0.length : Int) > 100
    · rw [if_pos c6] at H
      have c6b0 : decide (100 < (l0.length : Int)) = true := decide_eq_true c6
      have c6b1 : decide (100 < l0.length) = true := decide_eq_true (by omega)
      clear c6
      obtain rfl := Option.some.inj H
      go_enter Try.func7, Try.ntmps7
      go_wp2_with (first | ((with_reducible refine gate_dst (N := 4) rfl ?_); (try (refine gate_guard (by rfl) ?_; dsimp only)); refine box_event ?hg (N := 4) ?hd (cs := #[.int .i64 a1_0, .int .i64 a1_1, .int .i64 a1_2, .int .i64 a1_3, .int .i64 a1_4]) (t := 26) ?hr ?_; (case hd => rfl); (case hg => rfl); (case hr => first | (go_simp; done) | (go_simp; rfl)); intro gb207 hg w7 hbox hb; have n0_ := Aside0.mk (below_step (by repeat (first | (with_reducible first | exact HB.out | apply below_alloc | apply pw_below_drewN | apply below_drew1) | exact HB.out)) hb); have n1_ := Aside0.mk (hbox); have n2_ := Aside0.mk ((by rw [hg]; exact (below_size (by repeat (first | (with_reducible first | exact HB.out | apply below_alloc | apply pw_below_drewN | apply below_drew1) | exact HB.out))) : w.heap.size ≤ gb207)); have n3_ := Aside0.mk ((by rw [hg]; exact (below_size (by repeat (first | (with_reducible first | exact HB.out | apply below_alloc | apply pw_below_drewN | apply below_drew1) | exact HB.out))) : w.heap.size ≤ gb207)); clear HB; have HB := n0_; have BK207 := n1_; have GW207 := n2_; have GE207 := n3_; clear n0_ n1_ n2_ n3_; clear hb hbox hg) | (go_at_call 9; (with_reducible refine (warpbeamlaw07_alive.calls  true _ A4.out).mono ?_); rintro e w8 ⟨rfl, hb⟩; have n0_ := Aside0.mk (blk_below (g := gb207) (o := .cells #[.int .i64 a1_0, .int .i64 a1_1, .int .i64 a1_2, .int .i64 a1_3, .int .i64 a1_4] 26 (0, 0)) (by (with_reducible repeat (first | refine blk_drewN ?_ _ | refine blk_drew ?_ | refine blk_alloc ?_ _)); exact BK207.out) hb); have n1_ := Aside0.mk (below_step (by repeat (first | (with_reducible first | exact HB.out | apply below_alloc | apply pw_below_drewN | apply below_drew1 | refine below_set ?_ GE207.out) | exact HB.out)) hb); clear BK207; clear HB; have BK207 := n0_; have HB := n1_; clear n0_ n1_; (try clear hb); (try clear hb2); (try clear hk); (try clear hi)))
      repeat (go_quiet (first | ((with_reducible refine gate_dst (N := 4) rfl ?_); (try (refine gate_guard (by rfl) ?_; dsimp only)); refine box_event ?hg (N := 4) ?hd (cs := #[.int .i64 a1_0, .int .i64 a1_1, .int .i64 a1_2, .int .i64 a1_3, .int .i64 a1_4]) (t := 26) ?hr ?_; (case hd => rfl); (case hg => rfl); (case hr => first | (go_simp; done) | (go_simp; rfl)); intro gb207 hg w7 hbox hb; have n0_ := Aside0.mk (below_step (by repeat (first | (with_reducible first | exact HB.out | apply below_alloc | apply pw_below_drewN | apply below_drew1) | exact HB.out)) hb); have n1_ := Aside0.mk (hbox); have n2_ := Aside0.mk ((by rw [hg]; exact (below_size (by repeat (first | (with_reducible first | exact HB.out | apply below_alloc | apply pw_below_drewN | apply below_drew1) | exact HB.out))) : w.heap.size ≤ gb207)); have n3_ := Aside0.mk ((by rw [hg]; exact (below_size (by repeat (first | (with_reducible first | exact HB.out | apply below_alloc | apply pw_below_drewN | apply below_drew1) | exact HB.out))) : w.heap.size ≤ gb207)); clear HB; have HB := n0_; have BK207 := n1_; have GW207 := n2_; have GE207 := n3_; clear n0_ n1_ n2_ n3_; clear hb hbox hg) | (go_at_call 9; (with_reducible refine (warpbeamlaw07_alive.calls  true _ A4.out).mono ?_); rintro e w8 ⟨rfl, hb⟩; have n0_ := Aside0.mk (blk_below (g := gb207) (o := .cells #[.int .i64 a1_0, .int .i64 a1_1, .int .i64 a1_2, .int .i64 a1_3, .int .i64 a1_4] 26 (0, 0)) (by (with_reducible repeat (first | refine blk_drewN ?_ _ | refine blk_drew ?_ | refine blk_alloc ?_ _)); exact BK207.out) hb); have n1_ := Aside0.mk (below_step (by repeat (first | (with_reducible first | exact HB.out | apply below_alloc | apply pw_below_drewN | apply below_drew1 | refine below_set ?_ GE207.out) | exact HB.out)) hb); clear BK207; clear HB; have BK207 := n0_; have HB := n1_; clear n0_ n1_; (try clear hb); (try clear hb2); (try clear hk); (try clear hi))); try go_wp2_with (first | ((with_reducible refine gate_dst (N := 4) rfl ?_); (try (refine gate_guard (by rfl) ?_; dsimp only)); refine box_event ?hg (N := 4) ?hd (cs := #[.int .i64 a1_0, .int .i64 a1_1, .int .i64 a1_2, .int .i64 a1_3, .int .i64 a1_4]) (t := 26) ?hr ?_; (case hd => rfl); (case hg => rfl); (case hr => first | (go_simp; done) | (go_simp; rfl)); intro gb207 hg w7 hbox hb; have n0_ := Aside0.mk (below_step (by repeat (first | (with_reducible first | exact HB.out | apply below_alloc | apply pw_below_drewN | apply below_drew1) | exact HB.out)) hb); have n1_ := Aside0.mk (hbox); have n2_ := Aside0.mk ((by rw [hg]; exact (below_size (by repeat (first | (with_reducible first | exact HB.out | apply below_alloc | apply pw_below_drewN | apply below_drew1) | exact HB.out))) : w.heap.size ≤ gb207)); have n3_ := Aside0.mk ((by rw [hg]; exact (below_size (by repeat (first | (with_reducible first | exact HB.out | apply below_alloc | apply pw_below_drewN | apply below_drew1) | exact HB.out))) : w.heap.size ≤ gb207)); clear HB; have HB := n0_; have BK207 := n1_; have GW207 := n2_; have GE207 := n3_; clear n0_ n1_ n2_ n3_; clear hb hbox hg) | (go_at_call 9; (with_reducible refine (warpbeamlaw07_alive.calls  true _ A4.out).mono ?_); rintro e w8 ⟨rfl, hb⟩; have n0_ := Aside0.mk (blk_below (g := gb207) (o := .cells #[.int .i64 a1_0, .int .i64 a1_1, .int .i64 a1_2, .int .i64 a1_3, .int .i64 a1_4] 26 (0, 0)) (by (with_reducible repeat (first | refine blk_drewN ?_ _ | refine blk_drew ?_ | refine blk_alloc ?_ _)); exact BK207.out) hb); have n1_ := Aside0.mk (below_step (by repeat (first | (with_reducible first | exact HB.out | apply below_alloc | apply pw_below_drewN | apply below_drew1 | refine below_set ?_ GE207.out) | exact HB.out)) hb); clear BK207; clear HB; have BK207 := n0_; have HB := n1_; clear n0_ n1_; (try clear hb); (try clear hb2); (try clear hk); (try clear hi))))
      go_ret
      exact ⟨by first | rfl | (simp [errW_none, errW_some] <;> rfl) | (simp [*, errW_none, errW_some] <;> rfl), by repeat (first | (with_reducible first | exact HB.out | apply below_alloc | apply pw_below_drewN | apply below_drew1 | refine below_set ?_ GE207.out) | exact HB.out)⟩
    · rw [if_neg c6] at H
      have c6b0 : decide (100 < (l0.length : Int)) = false := decide_eq_false c6
      have c6b1 : decide (100 < l0.length) = false := decide_eq_false (by omega)
      clear c6
      replace H := Option.bind_eq_some_iff.mp H
      obtain ⟨t209, A90, H⟩ := H
      replace H : ((store_Put.f t209 a1_0 a1_3 a1_4 a1_1 a1_2).bind fun bt212 => ((store_Mark.f t209 a1_0 a2).bind fun bt216 => (if (bt212.1.length : Int) = (t209.length : Int) then (warpbeamlaw07_StoreApart.j0 k a2 t209 bt212.1 bt212.2 bt216.1 bt216.2 ((bt216.1.length : Int) != (t209.length : Int)) a1_0 a1_1 a1_2 a1_3 a1_4) else (warpbeamlaw07_StoreApart.j0 k a2 t209 bt212.1 bt212.2 bt216.1 bt216.2 true a1_0 a1_1 a1_2 a1_3 a1_4)))) = some r := H
      have A9 := Aside0.mk A90
      clear A90
      replace H := Option.bind_eq_some_iff.mp H
      obtain ⟨⟨t212, t215⟩, A100, H⟩ := H
      replace H : ((store_Mark.f t209 a1_0 a2).bind fun bt216 => (if (t212.length : Int) = (t209.length : Int) then (warpbeamlaw07_StoreApart.j0 k a2 t209 t212 t215 bt216.1 bt216.2 ((bt216.1.length : Int) != (t209.length : Int)) a1_0 a1_1 a1_2 a1_3 a1_4) else (warpbeamlaw07_StoreApart.j0 k a2 t209 t212 t215 bt216.1 bt216.2 true a1_0 a1_1 a1_2 a1_3 a1_4))) = some r := H
      have A10 := Aside0.mk A100
      clear A100
      replace H := Option.bind_eq_some_iff.mp H
      obtain ⟨⟨t216, t219⟩, A110, H⟩ := H
      replace H : (if (t212.length : Int) = (t209.length : Int) then (warpbeamlaw07_StoreApart.j0 k a2 t209 t212 t215 t216 t219 ((t216.length : Int) != (t209.length : Int)) a1_0 a1_1 a1_2 a1_3 a1_4) else (warpbeamlaw07_StoreApart.j0 k a2 t209 t212 t215 t216 t219 true a1_0 a1_1 a1_2 a1_3 a1_4)) = some r := H
      have A11 := Aside0.mk A110
      clear A110
      have HC12 := Aside0.mk H
      clear H
      go_enter Try.func7, Try.ntmps7
      go_upto_region 8 with (first | ((with_reducible refine gate_dst (N := 4) rfl ?_); (try (refine gate_guard (by rfl) ?_; dsimp only)); refine box_event ?hg (N := 4) ?hd (cs := #[.int .i64 a1_0, .int .i64 a1_1, .int .i64 a1_2, .int .i64 a1_3, .int .i64 a1_4]) (t := 26) ?hr ?_; (case hd => rfl); (case hg => rfl); (case hr => first | (go_simp; done) | (go_simp; rfl)); intro gb207 hg w13 hbox hb; have n0_ := Aside0.mk (below_step (by repeat (first | (with_reducible first | exact HB.out | apply below_alloc | apply pw_below_drewN | apply below_drew1) | exact HB.out)) hb); have n1_ := Aside0.mk (hbox); have n2_ := Aside0.mk ((by rw [hg]; exact (below_size (by repeat (first | (with_reducible first | exact HB.out | apply below_alloc | apply pw_below_drewN | apply below_drew1) | exact HB.out))) : w.heap.size ≤ gb207)); have n3_ := Aside0.mk ((by rw [hg]; exact (below_size (by repeat (first | (with_reducible first | exact HB.out | apply below_alloc | apply pw_below_drewN | apply below_drew1) | exact HB.out))) : w.heap.size ≤ gb207)); clear HB; have HB := n0_; have BK207 := n1_; have GW207 := n2_; have GE207 := n3_; clear n0_ n1_ n2_ n3_; clear hb hbox hg) | (go_at_call 9; (with_reducible refine (warpbeamlaw07_alive.calls  true _ A4.out).mono ?_); rintro e w14 ⟨rfl, hb⟩; have n0_ := Aside0.mk (blk_below (g := gb207) (o := .cells #[.int .i64 a1_0, .int .i64 a1_1, .int .i64 a1_2, .int .i64 a1_3, .int .i64 a1_4] 26 (0, 0)) (by (with_reducible repeat (first | refine blk_drewN ?_ _ | refine blk_drew ?_ | refine blk_alloc ?_ _)); exact BK207.out) hb); have n1_ := Aside0.mk (below_step (by repeat (first | (with_reducible first | exact HB.out | apply below_alloc | apply pw_below_drewN | apply below_drew1 | refine below_set ?_ GE207.out) | exact HB.out)) hb); clear BK207; clear HB; have BK207 := n0_; have HB := n1_; clear n0_ n1_; (try clear hb); (try clear hb2); (try clear hk); (try clear hi)) | (go_at_call 10; (with_reducible refine (warpbeamlaw07_Theirs.calls k _ _ l0 t209 _ ?side1 ?side2 A9.out).mono ?_); (case side1 => repeat (first | exact (Kd.C_below HR0.out HB.out) | (with_reducible refine Kd.C_alloc ?_ _) | (with_reducible refine Kd.C_drewN ?_ _) | (with_reducible refine Kd.C_drew ?_))); (case side2 => exact HC0.out); rintro e w15 ⟨v210, rfl, ho0, hb⟩; have n0_ := Aside0.mk (Kd.R_lower ho0 (below_size (by repeat (first | (with_reducible first | exact HB.out | apply below_alloc | apply pw_below_drewN | apply below_drew1 | refine below_set ?_ GE207.out) | exact HB.out)))); have n1_ := Aside0.mk (blk_below (g := gb207) (o := .cells #[.int .i64 a1_0, .int .i64 a1_1, .int .i64 a1_2, .int .i64 a1_3, .int .i64 a1_4] 26 (0, 0)) (by (with_reducible repeat (first | refine blk_drewN ?_ _ | refine blk_drew ?_ | refine blk_alloc ?_ _)); exact BK207.out) hb); have n2_ := Aside0.mk (below_step (by repeat (first | (with_reducible first | exact HB.out | apply below_alloc | apply pw_below_drewN | apply below_drew1 | refine below_set ?_ GE207.out) | exact HB.out)) hb); clear BK207; clear HB; have HO211 := n0_; have BK207 := n1_; have HB := n2_; clear n0_ n1_ n2_; (try clear hb); (try clear hb2); (try clear hk); (try clear hi); (try clear ho0); have hcz16_0 : w15.cell? ⟨gb207, 0, none⟩ = some (.int .i64 a1_0) := (blk_cell BK207.out 0).trans rfl; have hcz16_1 : w15.cell? ⟨gb207, 1, none⟩ = some (.int .i64 a1_1) := (blk_cell BK207.out 1).trans rfl; have hcz16_2 : w15.cell? ⟨gb207, 2, none⟩ = some (.int .i64 a1_2) := (blk_cell BK207.out 2).trans rfl; have hcz16_3 : w15.cell? ⟨gb207, 3, none⟩ = some (.int .i64 a1_3) := (blk_cell BK207.out 3).trans rfl; have hcz16_4 : w15.cell? ⟨gb207, 4, none⟩ = some (.int .i64 a1_4) := (blk_cell BK207.out 4).trans rfl; have hfz16_0 := blk_frozen BK207.out 0; have hfz16_1 := blk_frozen BK207.out 1; have hfz16_2 := blk_frozen BK207.out 2; have hfz16_3 := blk_frozen BK207.out 3; have hfz16_4 := blk_frozen BK207.out 4; obtain ⟨Ao17, co17, eo17⟩ := Kd.R_slice HO211.out; subst eo17) | (go_at_call 13; (with_reducible refine (store_Put.calls (fun k_ => some k_ = (.slice Ao17 t209.length co17 : Value).ownBlock) _ _ t209 a1_0 a1_3 a1_4 a1_1 a1_2 t212 t215 _ ?side1 A10.out).mono ?_); (case side1 => exact Kd.R_V (Kd.R_tight rfl (Kd.R_types (HO211.out) BK207.out (by decide)))); rintro e w18 ⟨v213, rfl, ho0, hb⟩; have n0_ := Aside0.mk (Kd.R_below (by (with_reducible repeat (first | apply Kd.R_alloc | apply Kd.R_drewN | apply Kd.R_drew)); exact HO211.out) hb); have n1_ := Aside0.mk (Kd.V_lower (Kd.V_mono (ok' := fun k_ => k_ ≠ gb207) ho0 (fun k_ hk_ => Or.elim hk_ (fun hs_ => ((Kd.R_types (HO211.out) BK207.out (by decide)).1 k_ hs_.symm).2) (fun hn_ => (Kd.freshB (g := gb207) (o := .cells #[.int .i64 a1_0, .int .i64 a1_1, .int .i64 a1_2, .int .i64 a1_3, .int .i64 a1_4] 26 (0, 0)) (by (with_reducible repeat (first | refine blk_drewN ?_ _ | refine blk_drew ?_ | refine blk_alloc ?_ _)); exact BK207.out) k_ hn_)))) (below_size (by repeat (first | (with_reducible first | exact HB.out | apply below_alloc | apply pw_below_drewN | apply below_drew1 | refine below_set ?_ GE207.out) | exact HB.out)))); have n2_ := Aside0.mk (blk_below (g := gb207) (o := .cells #[.int .i64 a1_0, .int .i64 a1_1, .int .i64 a1_2, .int .i64 a1_3, .int .i64 a1_4] 26 (0, 0)) (by (with_reducible repeat (first | refine blk_drewN ?_ _ | refine blk_drew ?_ | refine blk_alloc ?_ _)); exact BK207.out) hb); have n3_ := Aside0.mk (below_step (by repeat (first | (with_reducible first | exact HB.out | apply below_alloc | apply pw_below_drewN | apply below_drew1 | refine below_set ?_ GE207.out) | exact HB.out)) hb); clear HO211; clear BK207; clear HB; have HO211 := n0_; have HO214 := n1_; have BK207 := n2_; have HB := n3_; clear n0_ n1_ n2_ n3_; (try clear hb); (try clear hb2); (try clear hk); (try clear hi); (try clear ho0); have hcz19_0 : w18.cell? ⟨gb207, 0, none⟩ = some (.int .i64 a1_0) := (blk_cell BK207.out 0).trans rfl; have hcz19_1 : w18.cell? ⟨gb207, 1, none⟩ = some (.int .i64 a1_1) := (blk_cell BK207.out 1).trans rfl; have hcz19_2 : w18.cell? ⟨gb207, 2, none⟩ = some (.int .i64 a1_2) := (blk_cell BK207.out 2).trans rfl; have hcz19_3 : w18.cell? ⟨gb207, 3, none⟩ = some (.int .i64 a1_3) := (blk_cell BK207.out 3).trans rfl; have hcz19_4 : w18.cell? ⟨gb207, 4, none⟩ = some (.int .i64 a1_4) := (blk_cell BK207.out 4).trans rfl; have hfz19_0 := blk_frozen BK207.out 0; have hfz19_1 := blk_frozen BK207.out 1; have hfz19_2 := blk_frozen BK207.out 2; have hfz19_3 := blk_frozen BK207.out 3; have hfz19_4 := blk_frozen BK207.out 4) | (go_at_call 15; (with_reducible refine (store_Mark.calls (fun k_ => some k_ = (.slice Ao17 t209.length co17 : Value).ownBlock) _ _ t209 a1_0 a2 t216 t219 _ ?side1 A11.out).mono ?_); (case side1 => exact Kd.R_V (Kd.R_tight rfl (Kd.R_types (HO211.out) BK207.out (by decide)))); rintro e w20 ⟨v217, rfl, ho0, hb⟩; have n0_ := Aside0.mk (Kd.R_below (by (with_reducible repeat (first | apply Kd.R_alloc | apply Kd.R_drewN | apply Kd.R_drew)); exact HO211.out) hb); have n1_ := Aside0.mk (Kd.V_below (by (with_reducible repeat (first | apply Kd.V_alloc | apply Kd.V_drewN | apply Kd.V_drew)); exact HO214.out) hb); have n2_ := Aside0.mk (Kd.V_lower (Kd.V_mono (ok' := fun k_ => k_ ≠ gb207) ho0 (fun k_ hk_ => Or.elim hk_ (fun hs_ => ((Kd.R_types (HO211.out) BK207.out (by decide)).1 k_ hs_.symm).2) (fun hn_ => (Kd.freshB (g := gb207) (o := .cells #[.int .i64 a1_0, .int .i64 a1_1, .int .i64 a1_2, .int .i64 a1_3, .int .i64 a1_4] 26 (0, 0)) (by (with_reducible repeat (first | refine blk_drewN ?_ _ | refine blk_drew ?_ | refine blk_alloc ?_ _)); exact BK207.out) k_ hn_)))) (below_size (by repeat (first | (with_reducible first | exact HB.out | apply below_alloc | apply pw_below_drewN | apply below_drew1 | refine below_set ?_ GE207.out) | exact HB.out)))); have n3_ := Aside0.mk (blk_below (g := gb207) (o := .cells #[.int .i64 a1_0, .int .i64 a1_1, .int .i64 a1_2, .int .i64 a1_3, .int .i64 a1_4] 26 (0, 0)) (by (with_reducible repeat (first | refine blk_drewN ?_ _ | refine blk_drew ?_ | refine blk_alloc ?_ _)); exact BK207.out) hb); have n4_ := Aside0.mk (below_step (by repeat (first | (with_reducible first | exact HB.out | apply below_alloc | apply pw_below_drewN | apply below_drew1 | refine below_set ?_ GE207.out) | exact HB.out)) hb); clear HO211; clear HO214; clear BK207; clear HB; have HO211 := n0_; have HO214 := n1_; have HO218 := n2_; have BK207 := n3_; have HB := n4_; clear n0_ n1_ n2_ n3_ n4_; (try clear hb); (try clear hb2); (try clear hk); (try clear hi); (try clear ho0)))
      repeat (go_quiet (first | ((with_reducible refine gate_dst (N := 4) rfl ?_); (try (refine gate_guard (by rfl) ?_; dsimp only)); refine box_event ?hg (N := 4) ?hd (cs := #[.int .i64 a1_0, .int .i64 a1_1, .int .i64 a1_2, .int .i64 a1_3, .int .i64 a1_4]) (t := 26) ?hr ?_; (case hd => rfl); (case hg => rfl); (case hr => first | (go_simp; done) | (go_simp; rfl)); intro gb207 hg w13 hbox hb; have n0_ := Aside0.mk (below_step (by repeat (first | (with_reducible first | exact HB.out | apply below_alloc | apply pw_below_drewN | apply below_drew1) | exact HB.out)) hb); have n1_ := Aside0.mk (hbox); have n2_ := Aside0.mk ((by rw [hg]; exact (below_size (by repeat (first | (with_reducible first | exact HB.out | apply below_alloc | apply pw_below_drewN | apply below_drew1) | exact HB.out))) : w.heap.size ≤ gb207)); have n3_ := Aside0.mk ((by rw [hg]; exact (below_size (by repeat (first | (with_reducible first | exact HB.out | apply below_alloc | apply pw_below_drewN | apply below_drew1) | exact HB.out))) : w.heap.size ≤ gb207)); clear HB; have HB := n0_; have BK207 := n1_; have GW207 := n2_; have GE207 := n3_; clear n0_ n1_ n2_ n3_; clear hb hbox hg) | (go_at_call 9; (with_reducible refine (warpbeamlaw07_alive.calls  true _ A4.out).mono ?_); rintro e w14 ⟨rfl, hb⟩; have n0_ := Aside0.mk (blk_below (g := gb207) (o := .cells #[.int .i64 a1_0, .int .i64 a1_1, .int .i64 a1_2, .int .i64 a1_3, .int .i64 a1_4] 26 (0, 0)) (by (with_reducible repeat (first | refine blk_drewN ?_ _ | refine blk_drew ?_ | refine blk_alloc ?_ _)); exact BK207.out) hb); have n1_ := Aside0.mk (below_step (by repeat (first | (with_reducible first | exact HB.out | apply below_alloc | apply pw_below_drewN | apply below_drew1 | refine below_set ?_ GE207.out) | exact HB.out)) hb); clear BK207; clear HB; have BK207 := n0_; have HB := n1_; clear n0_ n1_; (try clear hb); (try clear hb2); (try clear hk); (try clear hi)) | (go_at_call 10; (with_reducible refine (warpbeamlaw07_Theirs.calls k _ _ l0 t209 _ ?side1 ?side2 A9.out).mono ?_); (case side1 => repeat (first | exact (Kd.C_below HR0.out HB.out) | (with_reducible refine Kd.C_alloc ?_ _) | (with_reducible refine Kd.C_drewN ?_ _) | (with_reducible refine Kd.C_drew ?_))); (case side2 => exact HC0.out); rintro e w15 ⟨v210, rfl, ho0, hb⟩; have n0_ := Aside0.mk (Kd.R_lower ho0 (below_size (by repeat (first | (with_reducible first | exact HB.out | apply below_alloc | apply pw_below_drewN | apply below_drew1 | refine below_set ?_ GE207.out) | exact HB.out)))); have n1_ := Aside0.mk (blk_below (g := gb207) (o := .cells #[.int .i64 a1_0, .int .i64 a1_1, .int .i64 a1_2, .int .i64 a1_3, .int .i64 a1_4] 26 (0, 0)) (by (with_reducible repeat (first | refine blk_drewN ?_ _ | refine blk_drew ?_ | refine blk_alloc ?_ _)); exact BK207.out) hb); have n2_ := Aside0.mk (below_step (by repeat (first | (with_reducible first | exact HB.out | apply below_alloc | apply pw_below_drewN | apply below_drew1 | refine below_set ?_ GE207.out) | exact HB.out)) hb); clear BK207; clear HB; have HO211 := n0_; have BK207 := n1_; have HB := n2_; clear n0_ n1_ n2_; (try clear hb); (try clear hb2); (try clear hk); (try clear hi); (try clear ho0); have hcz16_0 : w15.cell? ⟨gb207, 0, none⟩ = some (.int .i64 a1_0) := (blk_cell BK207.out 0).trans rfl; have hcz16_1 : w15.cell? ⟨gb207, 1, none⟩ = some (.int .i64 a1_1) := (blk_cell BK207.out 1).trans rfl; have hcz16_2 : w15.cell? ⟨gb207, 2, none⟩ = some (.int .i64 a1_2) := (blk_cell BK207.out 2).trans rfl; have hcz16_3 : w15.cell? ⟨gb207, 3, none⟩ = some (.int .i64 a1_3) := (blk_cell BK207.out 3).trans rfl; have hcz16_4 : w15.cell? ⟨gb207, 4, none⟩ = some (.int .i64 a1_4) := (blk_cell BK207.out 4).trans rfl; have hfz16_0 := blk_frozen BK207.out 0; have hfz16_1 := blk_frozen BK207.out 1; have hfz16_2 := blk_frozen BK207.out 2; have hfz16_3 := blk_frozen BK207.out 3; have hfz16_4 := blk_frozen BK207.out 4; obtain ⟨Ao17, co17, eo17⟩ := Kd.R_slice HO211.out; subst eo17) | (go_at_call 13; (with_reducible refine (store_Put.calls (fun k_ => some k_ = (.slice Ao17 t209.length co17 : Value).ownBlock) _ _ t209 a1_0 a1_3 a1_4 a1_1 a1_2 t212 t215 _ ?side1 A10.out).mono ?_); (case side1 => exact Kd.R_V (Kd.R_tight rfl (Kd.R_types (HO211.out) BK207.out (by decide)))); rintro e w18 ⟨v213, rfl, ho0, hb⟩; have n0_ := Aside0.mk (Kd.R_below (by (with_reducible repeat (first | apply Kd.R_alloc | apply Kd.R_drewN | apply Kd.R_drew)); exact HO211.out) hb); have n1_ := Aside0.mk (Kd.V_lower (Kd.V_mono (ok' := fun k_ => k_ ≠ gb207) ho0 (fun k_ hk_ => Or.elim hk_ (fun hs_ => ((Kd.R_types (HO211.out) BK207.out (by decide)).1 k_ hs_.symm).2) (fun hn_ => (Kd.freshB (g := gb207) (o := .cells #[.int .i64 a1_0, .int .i64 a1_1, .int .i64 a1_2, .int .i64 a1_3, .int .i64 a1_4] 26 (0, 0)) (by (with_reducible repeat (first | refine blk_drewN ?_ _ | refine blk_drew ?_ | refine blk_alloc ?_ _)); exact BK207.out) k_ hn_)))) (below_size (by repeat (first | (with_reducible first | exact HB.out | apply below_alloc | apply pw_below_drewN | apply below_drew1 | refine below_set ?_ GE207.out) | exact HB.out)))); have n2_ := Aside0.mk (blk_below (g := gb207) (o := .cells #[.int .i64 a1_0, .int .i64 a1_1, .int .i64 a1_2, .int .i64 a1_3, .int .i64 a1_4] 26 (0, 0)) (by (with_reducible repeat (first | refine blk_drewN ?_ _ | refine blk_drew ?_ | refine blk_alloc ?_ _)); exact BK207.out) hb); have n3_ := Aside0.mk (below_step (by repeat (first | (with_reducible first | exact HB.out | apply below_alloc | apply pw_below_drewN | apply below_drew1 | refine below_set ?_ GE207.out) | exact HB.out)) hb); clear HO211; clear BK207; clear HB; have HO211 := n0_; have HO214 := n1_; have BK207 := n2_; have HB := n3_; clear n0_ n1_ n2_ n3_; (try clear hb); (try clear hb2); (try clear hk); (try clear hi); (try clear ho0); have hcz19_0 : w18.cell? ⟨gb207, 0, none⟩ = some (.int .i64 a1_0) := (blk_cell BK207.out 0).trans rfl; have hcz19_1 : w18.cell? ⟨gb207, 1, none⟩ = some (.int .i64 a1_1) := (blk_cell BK207.out 1).trans rfl; have hcz19_2 : w18.cell? ⟨gb207, 2, none⟩ = some (.int .i64 a1_2) := (blk_cell BK207.out 2).trans rfl; have hcz19_3 : w18.cell? ⟨gb207, 3, none⟩ = some (.int .i64 a1_3) := (blk_cell BK207.out 3).trans rfl; have hcz19_4 : w18.cell? ⟨gb207, 4, none⟩ = some (.int .i64 a1_4) := (blk_cell BK207.out 4).trans rfl; have hfz19_0 := blk_frozen BK207.out 0; have hfz19_1 := blk_frozen BK207.out 1; have hfz19_2 := blk_frozen BK207.out 2; have hfz19_3 := blk_frozen BK207.out 3; have hfz19_4 := blk_frozen BK207.out 4) | (go_at_call 15; (with_reducible refine (store_Mark.calls (fun k_ => some k_ = (.slice Ao17 t209.length co17 : Value).ownBlock) _ _ t209 a1_0 a2 t216 t219 _ ?side1 A11.out).mono ?_); (case side1 => exact Kd.R_V (Kd.R_tight rfl (Kd.R_types (HO211.out) BK207.out (by decide)))); rintro e w20 ⟨v217, rfl, ho0, hb⟩; have n0_ := Aside0.mk (Kd.R_below (by (with_reducible repeat (first | apply Kd.R_alloc | apply Kd.R_drewN | apply Kd.R_drew)); exact HO211.out) hb); have n1_ := Aside0.mk (Kd.V_below (by (with_reducible repeat (first | apply Kd.V_alloc | apply Kd.V_drewN | apply Kd.V_drew)); exact HO214.out) hb); have n2_ := Aside0.mk (Kd.V_lower (Kd.V_mono (ok' := fun k_ => k_ ≠ gb207) ho0 (fun k_ hk_ => Or.elim hk_ (fun hs_ => ((Kd.R_types (HO211.out) BK207.out (by decide)).1 k_ hs_.symm).2) (fun hn_ => (Kd.freshB (g := gb207) (o := .cells #[.int .i64 a1_0, .int .i64 a1_1, .int .i64 a1_2, .int .i64 a1_3, .int .i64 a1_4] 26 (0, 0)) (by (with_reducible repeat (first | refine blk_drewN ?_ _ | refine blk_drew ?_ | refine blk_alloc ?_ _)); exact BK207.out) k_ hn_)))) (below_size (by repeat (first | (with_reducible first | exact HB.out | apply below_alloc | apply pw_below_drewN | apply below_drew1 | refine below_set ?_ GE207.out) | exact HB.out)))); have n3_ := Aside0.mk (blk_below (g := gb207) (o := .cells #[.int .i64 a1_0, .int .i64 a1_1, .int .i64 a1_2, .int .i64 a1_3, .int .i64 a1_4] 26 (0, 0)) (by (with_reducible repeat (first | refine blk_drewN ?_ _ | refine blk_drew ?_ | refine blk_alloc ?_ _)); exact BK207.out) hb); have n4_ := Aside0.mk (below_step (by repeat (first | (with_reducible first | exact HB.out | apply below_alloc | apply pw_below_drewN | apply below_drew1 | refine below_set ?_ GE207.out) | exact HB.out)) hb); clear HO211; clear HO214; clear BK207; clear HB; have HO211 := n0_; have HO214 := n1_; have HO218 := n2_; have BK207 := n3_; have HB := n4_; clear n0_ n1_ n2_ n3_ n4_; (try clear hb); (try clear hb2); (try clear hk); (try clear hi); (try clear ho0))); go_upto_region 8 with (first | ((with_reducible refine gate_dst (N := 4) rfl ?_); (try (refine gate_guard (by rfl) ?_; dsimp only)); refine box_event ?hg (N := 4) ?hd (cs := #[.int .i64 a1_0, .int .i64 a1_1, .int .i64 a1_2, .int .i64 a1_3, .int .i64 a1_4]) (t := 26) ?hr ?_; (case hd => rfl); (case hg => rfl); (case hr => first | (go_simp; done) | (go_simp; rfl)); intro gb207 hg w13 hbox hb; have n0_ := Aside0.mk (below_step (by repeat (first | (with_reducible first | exact HB.out | apply below_alloc | apply pw_below_drewN | apply below_drew1) | exact HB.out)) hb); have n1_ := Aside0.mk (hbox); have n2_ := Aside0.mk ((by rw [hg]; exact (below_size (by repeat (first | (with_reducible first | exact HB.out | apply below_alloc | apply pw_below_drewN | apply below_drew1) | exact HB.out))) : w.heap.size ≤ gb207)); have n3_ := Aside0.mk ((by rw [hg]; exact (below_size (by repeat (first | (with_reducible first | exact HB.out | apply below_alloc | apply pw_below_drewN | apply below_drew1) | exact HB.out))) : w.heap.size ≤ gb207)); clear HB; have HB := n0_; have BK207 := n1_; have GW207 := n2_; have GE207 := n3_; clear n0_ n1_ n2_ n3_; clear hb hbox hg) | (go_at_call 9; (with_reducible refine (warpbeamlaw07_alive.calls  true _ A4.out).mono ?_); rintro e w14 ⟨rfl, hb⟩; have n0_ := Aside0.mk (blk_below (g := gb207) (o := .cells #[.int .i64 a1_0, .int .i64 a1_1, .int .i64 a1_2, .int .i64 a1_3, .int .i64 a1_4] 26 (0, 0)) (by (with_reducible repeat (first | refine blk_drewN ?_ _ | refine blk_drew ?_ | refine blk_alloc ?_ _)); exact BK207.out) hb); have n1_ := Aside0.mk (below_step (by repeat (first | (with_reducible first | exact HB.out | apply below_alloc | apply pw_below_drewN | apply below_drew1 | refine below_set ?_ GE207.out) | exact HB.out)) hb); clear BK207; clear HB; have BK207 := n0_; have HB := n1_; clear n0_ n1_; (try clear hb); (try clear hb2); (try clear hk); (try clear hi)) | (go_at_call 10; (with_reducible refine (warpbeamlaw07_Theirs.calls k _ _ l0 t209 _ ?side1 ?side2 A9.out).mono ?_); (case side1 => repeat (first | exact (Kd.C_below HR0.out HB.out) | (with_reducible refine Kd.C_alloc ?_ _) | (with_reducible refine Kd.C_drewN ?_ _) | (with_reducible refine Kd.C_drew ?_))); (case side2 => exact HC0.out); rintro e w15 ⟨v210, rfl, ho0, hb⟩; have n0_ := Aside0.mk (Kd.R_lower ho0 (below_size (by repeat (first | (with_reducible first | exact HB.out | apply below_alloc | apply pw_below_drewN | apply below_drew1 | refine below_set ?_ GE207.out) | exact HB.out)))); have n1_ := Aside0.mk (blk_below (g := gb207) (o := .cells #[.int .i64 a1_0, .int .i64 a1_1, .int .i64 a1_2, .int .i64 a1_3, .int .i64 a1_4] 26 (0, 0)) (by (with_reducible repeat (first | refine blk_drewN ?_ _ | refine blk_drew ?_ | refine blk_alloc ?_ _)); exact BK207.out) hb); have n2_ := Aside0.mk (below_step (by repeat (first | (with_reducible first | exact HB.out | apply below_alloc | apply pw_below_drewN | apply below_drew1 | refine below_set ?_ GE207.out) | exact HB.out)) hb); clear BK207; clear HB; have HO211 := n0_; have BK207 := n1_; have HB := n2_; clear n0_ n1_ n2_; (try clear hb); (try clear hb2); (try clear hk); (try clear hi); (try clear ho0); have hcz16_0 : w15.cell? ⟨gb207, 0, none⟩ = some (.int .i64 a1_0) := (blk_cell BK207.out 0).trans rfl; have hcz16_1 : w15.cell? ⟨gb207, 1, none⟩ = some (.int .i64 a1_1) := (blk_cell BK207.out 1).trans rfl; have hcz16_2 : w15.cell? ⟨gb207, 2, none⟩ = some (.int .i64 a1_2) := (blk_cell BK207.out 2).trans rfl; have hcz16_3 : w15.cell? ⟨gb207, 3, none⟩ = some (.int .i64 a1_3) := (blk_cell BK207.out 3).trans rfl; have hcz16_4 : w15.cell? ⟨gb207, 4, none⟩ = some (.int .i64 a1_4) := (blk_cell BK207.out 4).trans rfl; have hfz16_0 := blk_frozen BK207.out 0; have hfz16_1 := blk_frozen BK207.out 1; have hfz16_2 := blk_frozen BK207.out 2; have hfz16_3 := blk_frozen BK207.out 3; have hfz16_4 := blk_frozen BK207.out 4; obtain ⟨Ao17, co17, eo17⟩ := Kd.R_slice HO211.out; subst eo17) | (go_at_call 13; (with_reducible refine (store_Put.calls (fun k_ => some k_ = (.slice Ao17 t209.length co17 : Value).ownBlock) _ _ t209 a1_0 a1_3 a1_4 a1_1 a1_2 t212 t215 _ ?side1 A10.out).mono ?_); (case side1 => exact Kd.R_V (Kd.R_tight rfl (Kd.R_types (HO211.out) BK207.out (by decide)))); rintro e w18 ⟨v213, rfl, ho0, hb⟩; have n0_ := Aside0.mk (Kd.R_below (by (with_reducible repeat (first | apply Kd.R_alloc | apply Kd.R_drewN | apply Kd.R_drew)); exact HO211.out) hb); have n1_ := Aside0.mk (Kd.V_lower (Kd.V_mono (ok' := fun k_ => k_ ≠ gb207) ho0 (fun k_ hk_ => Or.elim hk_ (fun hs_ => ((Kd.R_types (HO211.out) BK207.out (by decide)).1 k_ hs_.symm).2) (fun hn_ => (Kd.freshB (g := gb207) (o := .cells #[.int .i64 a1_0, .int .i64 a1_1, .int .i64 a1_2, .int .i64 a1_3, .int .i64 a1_4] 26 (0, 0)) (by (with_reducible repeat (first | refine blk_drewN ?_ _ | refine blk_drew ?_ | refine blk_alloc ?_ _)); exact BK207.out) k_ hn_)))) (below_size (by repeat (first | (with_reducible first | exact HB.out | apply below_alloc | apply pw_below_drewN | apply below_drew1 | refine below_set ?_ GE207.out) | exact HB.out)))); have n2_ := Aside0.mk (blk_below (g := gb207) (o := .cells #[.int .i64 a1_0, .int .i64 a1_1, .int .i64 a1_2, .int .i64 a1_3, .int .i64 a1_4] 26 (0, 0)) (by (with_reducible repeat (first | refine blk_drewN ?_ _ | refine blk_drew ?_ | refine blk_alloc ?_ _)); exact BK207.out) hb); have n3_ := Aside0.mk (below_step (by repeat (first | (with_reducible first | exact HB.out | apply below_alloc | apply pw_below_drewN | apply below_drew1 | refine below_set ?_ GE207.out) | exact HB.out)) hb); clear HO211; clear BK207; clear HB; have HO211 := n0_; have HO214 := n1_; have BK207 := n2_; have HB := n3_; clear n0_ n1_ n2_ n3_; (try clear hb); (try clear hb2); (try clear hk); (try clear hi); (try clear ho0); have hcz19_0 : w18.cell? ⟨gb207, 0, none⟩ = some (.int .i64 a1_0) := (blk_cell BK207.out 0).trans rfl; have hcz19_1 : w18.cell? ⟨gb207, 1, none⟩ = some (.int .i64 a1_1) := (blk_cell BK207.out 1).trans rfl; have hcz19_2 : w18.cell? ⟨gb207, 2, none⟩ = some (.int .i64 a1_2) := (blk_cell BK207.out 2).trans rfl; have hcz19_3 : w18.cell? ⟨gb207, 3, none⟩ = some (.int .i64 a1_3) := (blk_cell BK207.out 3).trans rfl; have hcz19_4 : w18.cell? ⟨gb207, 4, none⟩ = some (.int .i64 a1_4) := (blk_cell BK207.out 4).trans rfl; have hfz19_0 := blk_frozen BK207.out 0; have hfz19_1 := blk_frozen BK207.out 1; have hfz19_2 := blk_frozen BK207.out 2; have hfz19_3 := blk_frozen BK207.out 3; have hfz19_4 := blk_frozen BK207.out 4) | (go_at_call 15; (with_reducible refine (store_Mark.calls (fun k_ => some k_ = (.slice Ao17 t209.length co17 : Value).ownBlock) _ _ t209 a1_0 a2 t216 t219 _ ?side1 A11.out).mono ?_); (case side1 => exact Kd.R_V (Kd.R_tight rfl (Kd.R_types (HO211.out) BK207.out (by decide)))); rintro e w20 ⟨v217, rfl, ho0, hb⟩; have n0_ := Aside0.mk (Kd.R_below (by (with_reducible repeat (first | apply Kd.R_alloc | apply Kd.R_drewN | apply Kd.R_drew)); exact HO211.out) hb); have n1_ := Aside0.mk (Kd.V_below (by (with_reducible repeat (first | apply Kd.V_alloc | apply Kd.V_drewN | apply Kd.V_drew)); exact HO214.out) hb); have n2_ := Aside0.mk (Kd.V_lower (Kd.V_mono (ok' := fun k_ => k_ ≠ gb207) ho0 (fun k_ hk_ => Or.elim hk_ (fun hs_ => ((Kd.R_types (HO211.out) BK207.out (by decide)).1 k_ hs_.symm).2) (fun hn_ => (Kd.freshB (g := gb207) (o := .cells #[.int .i64 a1_0, .int .i64 a1_1, .int .i64 a1_2, .int .i64 a1_3, .int .i64 a1_4] 26 (0, 0)) (by (with_reducible repeat (first | refine blk_drewN ?_ _ | refine blk_drew ?_ | refine blk_alloc ?_ _)); exact BK207.out) k_ hn_)))) (below_size (by repeat (first | (with_reducible first | exact HB.out | apply below_alloc | apply pw_below_drewN | apply below_drew1 | refine below_set ?_ GE207.out) | exact HB.out)))); have n3_ := Aside0.mk (blk_below (g := gb207) (o := .cells #[.int .i64 a1_0, .int .i64 a1_1, .int .i64 a1_2, .int .i64 a1_3, .int .i64 a1_4] 26 (0, 0)) (by (with_reducible repeat (first | refine blk_drewN ?_ _ | refine blk_drew ?_ | refine blk_alloc ?_ _)); exact BK207.out) hb); have n4_ := Aside0.mk (below_step (by repeat (first | (with_reducible first | exact HB.out | apply below_alloc | apply pw_below_drewN | apply below_drew1 | refine below_set ?_ GE207.out) | exact HB.out)) hb); clear HO211; clear HO214; clear BK207; clear HB; have HO211 := n0_; have HO214 := n1_; have HO218 := n2_; have BK207 := n3_; have HB := n4_; clear n0_ n1_ n2_ n3_ n4_; (try clear hb); (try clear hb2); (try clear hk); (try clear hi); (try clear ho0))))
      (try simp only [Act.put, List.setIfInBounds_toArray, List.set_cons_zero, List.set_cons_succ])
      go_cut [52] (fun v52 wc => ∃ (kq : Nat) (x52_11 : Bool), v52 = .bool x52_11 ∧ Aside0 (warpbeamlaw07_StoreApart.j0 kq a2 t209 t212 t215 t216 t219 x52_11 a1_0 a1_1 a1_2 a1_3 a1_4 = some r) ∧ Aside0 (kq ≤ k) ∧ Aside0 (Kd.R k35 35 wc w.heap.size (fun _ => True) (.slice Ao17 t209.length co17) t209) ∧ Aside0 (Kd.V k35 35 wc w.heap.size (fun k_ => k_ ≠ gb207) v213 t212) ∧ Aside0 (Kd.V k35 35 wc w.heap.size (fun k_ => k_ ≠ gb207) v217 t216) ∧ Aside0 (wc.heap[gb207]? = some (.cells #[.int .i64 a1_0, .int .i64 a1_1, .int .i64 a1_2, .int .i64 a1_3, .int .i64 a1_4] 26 (0, 0))) ∧ Aside0 (Below w.heap.size w wc))
      case first =>
        have H := HC12.out
        clear HC12
        by_cases c21 : (t212.length : Int) = (t209.length : Int)
        · rw [if_pos c21] at H
          have c21b0 : ((t212.length : Int) == (t209.length : Int)) = true := beq_iff_eq.mpr c21
          have c21b1 : ((t212.length : Int) != (t209.length : Int)) = false := bne_eq_false_iff_eq.mpr c21
          have c21b2 : (t212.length == t209.length) = true := by first | simpa using c21 | (simp at c21 ⊢; omega)
          clear c21
          (first | rw [c21b0] | (simp only [i64_w, i32_w]; rw [c21b0]) | skip)
          have H' := Aside0.mk H
          clear H
          obtain ⟨Ao22, co22, eo22⟩ := Kd.V_slice HO214.out
          subst eo22
          obtain ⟨Ao23, co23, eo23⟩ := Kd.V_slice HO218.out
          subst eo23
          go_wp2
          repeat (go_quiet (fail); try go_wp2)
          go_meet
          case rel => exact ⟨_, (((t216.length : Int) != (t209.length : Int))), (by first | rfl | (simp; done) | (simp [*]; done)), H', ⟨by first | omega | exact Nat.le_refl _⟩, ⟨by (with_reducible repeat (first | apply Kd.R_alloc | apply Kd.R_drewN | apply Kd.R_drew)); exact HO211.out⟩, ⟨by (with_reducible repeat (first | apply Kd.V_alloc | apply Kd.V_drewN | apply Kd.V_drew)); exact HO214.out⟩, ⟨by (with_reducible repeat (first | apply Kd.V_alloc | apply Kd.V_drewN | apply Kd.V_drew)); exact HO218.out⟩, ⟨by (with_reducible repeat (first | refine blk_drewN ?_ _ | refine blk_drew ?_ | refine blk_alloc ?_ _)); exact BK207.out⟩, ⟨by repeat (first | (with_reducible first | exact HB.out | apply below_alloc | apply pw_below_drewN | apply below_drew1 | refine below_set ?_ GE207.out) | exact HB.out)⟩⟩
        · rw [if_neg c21] at H
          have c21b0 : ((t212.length : Int) == (t209.length : Int)) = false := beq_eq_false_iff_ne.mpr c21
          have c21b1 : ((t212.length : Int) != (t209.length : Int)) = true := bne_iff_ne.mpr c21
          have c21b2 : (t212.length == t209.length) = false := by first | simpa using c21 | (simp at c21 ⊢; omega)
          (first | rw [c21b0] | (simp only [i64_w, i32_w]; rw [c21b0]) | skip)
          have H' := Aside0.mk H
          clear H
          obtain ⟨Ao24, co24, eo24⟩ := Kd.V_slice HO214.out
          subst eo24
          go_wp2
          repeat (go_quiet (fail); try go_wp2)
          go_meet
          case rel => exact ⟨_, (true), (by first | rfl | (simp; done) | (simp [*]; done)), H', ⟨by first | omega | exact Nat.le_refl _⟩, ⟨by (with_reducible repeat (first | apply Kd.R_alloc | apply Kd.R_drewN | apply Kd.R_drew)); exact HO211.out⟩, ⟨by (with_reducible repeat (first | apply Kd.V_alloc | apply Kd.V_drewN | apply Kd.V_drew)); exact HO214.out⟩, ⟨by (with_reducible repeat (first | apply Kd.V_alloc | apply Kd.V_drewN | apply Kd.V_drew)); exact HO218.out⟩, ⟨by (with_reducible repeat (first | refine blk_drewN ?_ _ | refine blk_drew ?_ | refine blk_alloc ?_ _)); exact BK207.out⟩, ⟨by repeat (first | (with_reducible first | exact HB.out | apply below_alloc | apply pw_below_drewN | apply below_drew1 | refine below_set ?_ GE207.out) | exact HB.out)⟩⟩
      case rest =>
        clear HC12
        try clear c2
        try clear p2
        try clear c5
        try clear c6
        try clear c6b0
        try clear c6b1
        try clear c7
        try clear c21
        try clear c21b0
        try clear c21b1
        try clear c21b2
        try clear hcz16_0
        try clear hcz16_1
        try clear hcz16_2
        try clear hcz16_3
        try clear hcz16_4
        try clear hcz19_0
        try clear hcz19_1
        try clear hcz19_2
        try clear hcz19_3
        try clear hcz19_4
        try clear hfz16_0
        try clear hfz16_1
        try clear hfz16_2
        try clear hfz16_3
        try clear hfz16_4
        try clear hfz19_0
        try clear hfz19_1
        try clear hfz19_2
        try clear hfz19_3
        try clear hfz19_4
        obtain ⟨kq, x52_11, rfl, HA, HJ11, HO_7, HO_8, HO_10, BK207, HB⟩ := hcut
        cases kq with
        | zero => exact absurd HA.out (by simp [warpbeamlaw07_StoreApart.j0])
        | succ kj11 =>
          have H := HA.out
          clear HA
          simp only [warpbeamlaw07_StoreApart.j0] at H
          by_cases c25 : x52_11 = true
          · subst c25
            have H1 : (some false) = some r := by rw [if_pos rfl] at H; exact H
            clear H
            have H := H1
            clear H1
            obtain rfl := Option.some.inj H
            go_wp2
            repeat (go_quiet (fail); try go_wp2)
            go_ret
            exact ⟨by first | rfl | (simp [errW_none, errW_some] <;> rfl) | (simp [*, errW_none, errW_some] <;> rfl), by repeat (first | (with_reducible first | exact HB.out | apply below_alloc | apply pw_below_drewN | apply below_drew1 | refine below_set ?_ GE207.out) | exact HB.out)⟩
          · replace c25 := Bool.eq_false_iff.mpr c25
            subst c25
            have H1 : (warpbeamlaw07_StoreApart.l0 kj11 a2 t209 t212 t215 t216 t219 (t209.length : Int) 0 a1_0 a1_1 a1_2 a1_3 a1_4) = some r := by rw [if_neg (show ¬ (false = true) by decide)] at H; exact H
            clear H
            have H := H1
            clear H1
            have H' := Aside0.mk H
            clear H
            go_wp2
            repeat (go_quiet (fail); try go_wp2)
            go_loopg [55] kj11 (fun kq v55 w' => ∃ (x55_2 : Int), v55 = .int .i64 x55_2 ∧ Aside0 (warpbeamlaw07_StoreApart.l0 kq a2 t209 t212 t215 t216 t219 (t209.length : Int) x55_2 a1_0 a1_1 a1_2 a1_3 a1_4 = some r) ∧ Aside0 (kq ≤ kj11) ∧ Aside0 (Kd.R k35 35 w' w.heap.size (fun _ => True) (.slice Ao17 t209.length co17) t209) ∧ Aside0 (Kd.V k35 35 w' w.heap.size (fun k_ => k_ ≠ gb207) v213 t212) ∧ Aside0 (Kd.V k35 35 w' w.heap.size (fun k_ => k_ ≠ gb207) v217 t216) ∧ Aside0 (w'.heap[gb207]? = some (.cells #[.int .i64 a1_0, .int .i64 a1_1, .int .i64 a1_2, .int .i64 a1_3, .int .i64 a1_4] 26 (0, 0))) ∧ Aside0 (Below w.heap.size w w'))
            case atStart => exact ⟨(0), (by first | rfl | (simp; done) | (simp [*]; done)), H', ⟨Nat.le_refl _⟩, ⟨by (with_reducible repeat (first | apply Kd.R_alloc | apply Kd.R_drewN | apply Kd.R_drew)); exact HO_7.out⟩, ⟨by (with_reducible repeat (first | apply Kd.V_alloc | apply Kd.V_drewN | apply Kd.V_drew)); exact HO_8.out⟩, ⟨by (with_reducible repeat (first | apply Kd.V_alloc | apply Kd.V_drewN | apply Kd.V_drew)); exact HO_10.out⟩, ⟨by (with_reducible repeat (first | refine blk_drewN ?_ _ | refine blk_drew ?_ | refine blk_alloc ?_ _)); exact BK207.out⟩, ⟨by repeat (first | (with_reducible first | exact HB.out | apply below_alloc | apply pw_below_drewN | apply below_drew1 | refine below_set ?_ GE207.out) | exact HB.out)⟩⟩
            case round =>
              clear H'
              try clear c2
              try clear p2
              try clear c5
              try clear c6
              try clear c6b0
              try clear c6b1
              try clear c7
              try clear c21
              try clear c21b0
              try clear c21b1
              try clear c21b2
              try clear c25
              try clear hcz16_0
              try clear hcz16_1
              try clear hcz16_2
              try clear hcz16_3
              try clear hcz16_4
              try clear hcz19_0
              try clear hcz19_1
              try clear hcz19_2
              try clear hcz19_3
              try clear hcz19_4
              try clear hfz16_0
              try clear hfz16_1
              try clear hfz16_2
              try clear hfz16_3
              try clear hfz16_4
              try clear hfz19_0
              try clear hfz19_1
              try clear hfz19_2
              try clear hfz19_3
              try clear hfz19_4
              try clear p2
              obtain ⟨x55_2, rfl, HA, HK2, HO_7, HO_8, HO_10, BK207, HB⟩ := hrel
              cases gk with
              | zero => exact absurd HA.out (by simp [warpbeamlaw07_StoreApart.l0])
              | succ k2 =>
                have H := HA.out
                clear HA
                simp only [warpbeamlaw07_StoreApart.l0] at H
                by_cases c26 : x55_2 < (t209.length : Int)
                · rw [if_pos c26] at H
                  have c26b0 : decide (x55_2 < (t209.length : Int)) = true := decide_eq_true c26
                  clear c26
                  by_cases c27 : x55_2 = a1_0
                  · rw [if_pos c27] at H
                    have c27b0 : (x55_2 == a1_0) = true := beq_iff_eq.mpr c27
                    have c27b1 : (x55_2 != a1_0) = false := bne_eq_false_iff_eq.mpr c27
                    clear c27
                    have H' := Aside0.mk H
                    clear H
                    have hcz28_0 : wr.cell? ⟨gb207, 0, none⟩ = some (.int .i64 a1_0) := (blk_cell BK207.out 0).trans rfl
                    have hcz28_1 : wr.cell? ⟨gb207, 1, none⟩ = some (.int .i64 a1_1) := (blk_cell BK207.out 1).trans rfl
                    have hcz28_2 : wr.cell? ⟨gb207, 2, none⟩ = some (.int .i64 a1_2) := (blk_cell BK207.out 2).trans rfl
                    have hcz28_3 : wr.cell? ⟨gb207, 3, none⟩ = some (.int .i64 a1_3) := (blk_cell BK207.out 3).trans rfl
                    have hcz28_4 : wr.cell? ⟨gb207, 4, none⟩ = some (.int .i64 a1_4) := (blk_cell BK207.out 4).trans rfl
                    have hfz28_0 := blk_frozen BK207.out 0
                    have hfz28_1 := blk_frozen BK207.out 1
                    have hfz28_2 := blk_frozen BK207.out 2
                    have hfz28_3 := blk_frozen BK207.out 3
                    have hfz28_4 := blk_frozen BK207.out 4
                    go_wp2
                    repeat (go_quiet (fail); try go_wp2)
                    go_roundg k2
                    case measure => have := HJ11.out; have := HK2.out; omega
                    case rel => exact ⟨(wrap64 (x55_2 + 1)), (by first | rfl | (simp; done) | (simp [*]; done)), H', ⟨by have := HJ11.out; have := HK2.out; omega⟩, ⟨by (with_reducible repeat (first | apply Kd.R_alloc | apply Kd.R_drewN | apply Kd.R_drew)); exact HO_7.out⟩, ⟨by (with_reducible repeat (first | apply Kd.V_alloc | apply Kd.V_drewN | apply Kd.V_drew)); exact HO_8.out⟩, ⟨by (with_reducible repeat (first | apply Kd.V_alloc | apply Kd.V_drewN | apply Kd.V_drew)); exact HO_10.out⟩, ⟨by (with_reducible repeat (first | refine blk_drewN ?_ _ | refine blk_drew ?_ | refine blk_alloc ?_ _)); exact BK207.out⟩, ⟨by repeat (first | (with_reducible first | exact HB.out | apply below_alloc | apply pw_below_drewN | apply below_drew1 | refine below_set ?_ GE207.out) | exact HB.out)⟩⟩
                  · rw [if_neg c27] at H
                    have c27b0 : (x55_2 == a1_0) = false := beq_eq_false_iff_ne.mpr c27
                    have c27b1 : (x55_2 != a1_0) = true := bne_iff_ne.mpr c27
                    by_cases c29 : 0 ≤ x55_2
                    · rw [if_pos c29] at H
                      have c29b0 : decide (0 ≤ x55_2) = true := decide_eq_true c29
                      clear c29
                      by_cases c30 : x55_2 < (t212.length : Int)
                      · rw [if_pos c30] at H
                        have c30b0 : decide (x55_2 < (t212.length : Int)) = true := decide_eq_true c30
                        clear c30
                        by_cases c31 : x55_2 < (t209.length : Int)
                        · rw [if_pos c31] at H
                          have c31b0 : decide (x55_2 < (t209.length : Int)) = true := decide_eq_true c31
                          clear c31
                          by_cases c32 : ((!(((rd_T35 t212 x55_2).f0.f0) == ((rd_T35 t209 x55_2).f0.f0)) || (!(((rd_T35 t212 x55_2).f0.f1) == ((rd_T35 t209 x55_2).f0.f1)))) || (!(((rd_T35 t212 x55_2).f1) == ((rd_T35 t209 x55_2).f1)) || (!(((rd_T35 t212 x55_2).f2) == ((rd_T35 t209 x55_2).f2)) || (!(((rd_T35 t212 x55_2).f3) == ((rd_T35 t209 x55_2).f3)))))) = true
                          · rw [if_pos c32] at H
                            have c32b0 : ((!(((rd_T35 t212 x55_2).f0.f0) == ((rd_T35 t209 x55_2).f0.f0)) || (!(((rd_T35 t212 x55_2).f0.f1) == ((rd_T35 t209 x55_2).f0.f1)))) || (!(((rd_T35 t212 x55_2).f1) == ((rd_T35 t209 x55_2).f1)) || (!(((rd_T35 t212 x55_2).f2) == ((rd_T35 t209 x55_2).f2)) || (!(((rd_T35 t212 x55_2).f3) == ((rd_T35 t209 x55_2).f3)))))) = true := c32
                            clear c32
                            obtain rfl := Option.some.inj H
                            have hcz33_0 : wr.cell? ⟨gb207, 0, none⟩ = some (.int .i64 a1_0) := (blk_cell BK207.out 0).trans rfl
                            have hcz33_1 : wr.cell? ⟨gb207, 1, none⟩ = some (.int .i64 a1_1) := (blk_cell BK207.out 1).trans rfl
                            have hcz33_2 : wr.cell? ⟨gb207, 2, none⟩ = some (.int .i64 a1_2) := (blk_cell BK207.out 2).trans rfl
                            have hcz33_3 : wr.cell? ⟨gb207, 3, none⟩ = some (.int .i64 a1_3) := (blk_cell BK207.out 3).trans rfl
                            have hcz33_4 : wr.cell? ⟨gb207, 4, none⟩ = some (.int .i64 a1_4) := (blk_cell BK207.out 4).trans rfl
                            have hfz33_0 := blk_frozen BK207.out 0
                            have hfz33_1 := blk_frozen BK207.out 1
                            have hfz33_2 := blk_frozen BK207.out 2
                            have hfz33_3 := blk_frozen BK207.out 3
                            have hfz33_4 := blk_frozen BK207.out 4
                            obtain ⟨Ao34, co34, eo34⟩ := Kd.V_slice HO_8.out
                            subst eo34
                            have p220 : 0 ≤ (x55_2 : Int) := of_decide_eq_true (by first | (with_reducible assumption) | assumption)
                            have q220 : x55_2 < (t212.length : Int) := of_decide_eq_true (by first | (with_reducible assumption) | assumption)
                            obtain ⟨ad220, e220, hx220_0, hx220_1, hx220_2, hx220_3, hx220_4⟩ := at_T35 (Kd.V_reads' HO_8.out).2.2 x55_2 p220 q220
                            cases e220
                            replace p220 := eq_true p220
                            replace q220 := eq_true q220
                            have p221 : 0 ≤ (x55_2 : Int) := of_decide_eq_true (by first | (with_reducible assumption) | assumption)
                            have q221 : x55_2 < (t209.length : Int) := of_decide_eq_true (by first | (with_reducible assumption) | assumption)
                            obtain ⟨ad221, e221, hx221_0, hx221_1, hx221_2, hx221_3, hx221_4⟩ := at_T35 (Kd.R_reads' HO_7.out).2.2 x55_2 p221 q221
                            cases e221
                            replace p221 := eq_true p221
                            replace q221 := eq_true q221
                            go_wp2
                            repeat (go_quiet (fail); try go_wp2)
                            go_ret
                            exact ⟨by first | rfl | (simp [errW_none, errW_some] <;> rfl) | (simp [*, errW_none, errW_some] <;> rfl), by repeat (first | (with_reducible first | exact HB.out | apply below_alloc | apply pw_below_drewN | apply below_drew1 | refine below_set ?_ GE207.out) | exact HB.out)⟩
                          · rw [if_neg c32] at H
                            have c32b0 : ((!(((rd_T35 t212 x55_2).f0.f0) == ((rd_T35 t209 x55_2).f0.f0)) || (!(((rd_T35 t212 x55_2).f0.f1) == ((rd_T35 t209 x55_2).f0.f1)))) || (!(((rd_T35 t212 x55_2).f1) == ((rd_T35 t209 x55_2).f1)) || (!(((rd_T35 t212 x55_2).f2) == ((rd_T35 t209 x55_2).f2)) || (!(((rd_T35 t212 x55_2).f3) == ((rd_T35 t209 x55_2).f3)))))) = false := by simpa using c32
                            clear c32
                            by_cases c35 : x55_2 < (t216.length : Int)
                            · rw [if_pos c35] at H
                              have c35b0 : decide (x55_2 < (t216.length : Int)) = true := decide_eq_true c35
                              clear c35
                              by_cases c36 : ((!(((rd_T35 t216 x55_2).f0.f0) == ((rd_T35 t209 x55_2).f0.f0)) || (!(((rd_T35 t216 x55_2).f0.f1) == ((rd_T35 t209 x55_2).f0.f1)))) || (!(((rd_T35 t216 x55_2).f1) == ((rd_T35 t209 x55_2).f1)) || (!(((rd_T35 t216 x55_2).f2) == ((rd_T35 t209 x55_2).f2)) || (!(((rd_T35 t216 x55_2).f3) == ((rd_T35 t209 x55_2).f3)))))) = true
                              · rw [if_pos c36] at H
                                have c36b0 : ((!(((rd_T35 t216 x55_2).f0.f0) == ((rd_T35 t209 x55_2).f0.f0)) || (!(((rd_T35 t216 x55_2).f0.f1) == ((rd_T35 t209 x55_2).f0.f1)))) || (!(((rd_T35 t216 x55_2).f1) == ((rd_T35 t209 x55_2).f1)) || (!(((rd_T35 t216 x55_2).f2) == ((rd_T35 t209 x55_2).f2)) || (!(((rd_T35 t216 x55_2).f3) == ((rd_T35 t209 x55_2).f3)))))) = true := c36
                                clear c36
                                obtain rfl := Option.some.inj H
                                have hcz37_0 : wr.cell? ⟨gb207, 0, none⟩ = some (.int .i64 a1_0) := (blk_cell BK207.out 0).trans rfl
                                have hcz37_1 : wr.cell? ⟨gb207, 1, none⟩ = some (.int .i64 a1_1) := (blk_cell BK207.out 1).trans rfl
                                have hcz37_2 : wr.cell? ⟨gb207, 2, none⟩ = some (.int .i64 a1_2) := (blk_cell BK207.out 2).trans rfl
                                have hcz37_3 : wr.cell? ⟨gb207, 3, none⟩ = some (.int .i64 a1_3) := (blk_cell BK207.out 3).trans rfl
                                have hcz37_4 : wr.cell? ⟨gb207, 4, none⟩ = some (.int .i64 a1_4) := (blk_cell BK207.out 4).trans rfl
                                have hfz37_0 := blk_frozen BK207.out 0
                                have hfz37_1 := blk_frozen BK207.out 1
                                have hfz37_2 := blk_frozen BK207.out 2
                                have hfz37_3 := blk_frozen BK207.out 3
                                have hfz37_4 := blk_frozen BK207.out 4
                                obtain ⟨Ao38, co38, eo38⟩ := Kd.V_slice HO_8.out
                                subst eo38
                                have p220 : 0 ≤ (x55_2 : Int) := of_decide_eq_true (by first | (with_reducible assumption) | assumption)
                                have q220 : x55_2 < (t212.length : Int) := of_decide_eq_true (by first | (with_reducible assumption) | assumption)
                                obtain ⟨ad220, e220, hx220_0, hx220_1, hx220_2, hx220_3, hx220_4⟩ := at_T35 (Kd.V_reads' HO_8.out).2.2 x55_2 p220 q220
                                cases e220
                                replace p220 := eq_true p220
                                replace q220 := eq_true q220
                                have p221 : 0 ≤ (x55_2 : Int) := of_decide_eq_true (by first | (with_reducible assumption) | assumption)
                                have q221 : x55_2 < (t209.length : Int) := of_decide_eq_true (by first | (with_reducible assumption) | assumption)
                                obtain ⟨ad221, e221, hx221_0, hx221_1, hx221_2, hx221_3, hx221_4⟩ := at_T35 (Kd.R_reads' HO_7.out).2.2 x55_2 p221 q221
                                cases e221
                                replace p221 := eq_true p221
                                replace q221 := eq_true q221
                                obtain ⟨Ao39, co39, eo39⟩ := Kd.V_slice HO_10.out
                                subst eo39
                                have p222 : 0 ≤ (x55_2 : Int) := of_decide_eq_true (by first | (with_reducible assumption) | assumption)
                                have q222 : x55_2 < (t216.length : Int) := of_decide_eq_true (by first | (with_reducible assumption) | assumption)
                                obtain ⟨ad222, e222, hx222_0, hx222_1, hx222_2, hx222_3, hx222_4⟩ := at_T35 (Kd.V_reads' HO_10.out).2.2 x55_2 p222 q222
                                cases e222
                                replace p222 := eq_true p222
                                replace q222 := eq_true q222
                                have p223 : 0 ≤ (x55_2 : Int) := of_decide_eq_true (by first | (with_reducible assumption) | assumption)
                                have q223 : x55_2 < (t209.length : Int) := of_decide_eq_true (by first | (with_reducible assumption) | assumption)
                                obtain ⟨ad223, e223, hx223_0, hx223_1, hx223_2, hx223_3, hx223_4⟩ := at_T35 (Kd.R_reads' HO_7.out).2.2 x55_2 p223 q223
                                obtain rfl : ad221 = ad223 := (by injection e223)
                                replace p223 := eq_true p223
                                replace q223 := eq_true q223
                                go_wp2
                                repeat (go_quiet (fail); try go_wp2)
                                go_ret
                                exact ⟨by first | rfl | (simp [errW_none, errW_some] <;> rfl) | (simp [*, errW_none, errW_some] <;> rfl), by repeat (first | (with_reducible first | exact HB.out | apply below_alloc | apply pw_below_drewN | apply below_drew1 | refine below_set ?_ GE207.out) | exact HB.out)⟩
                              · rw [if_neg c36] at H
                                have c36b0 : ((!(((rd_T35 t216 x55_2).f0.f0) == ((rd_T35 t209 x55_2).f0.f0)) || (!(((rd_T35 t216 x55_2).f0.f1) == ((rd_T35 t209 x55_2).f0.f1)))) || (!(((rd_T35 t216 x55_2).f1) == ((rd_T35 t209 x55_2).f1)) || (!(((rd_T35 t216 x55_2).f2) == ((rd_T35 t209 x55_2).f2)) || (!(((rd_T35 t216 x55_2).f3) == ((rd_T35 t209 x55_2).f3)))))) = false := by simpa using c36
                                clear c36
                                have H' := Aside0.mk H
                                clear H
                                have hcz40_0 : wr.cell? ⟨gb207, 0, none⟩ = some (.int .i64 a1_0) := (blk_cell BK207.out 0).trans rfl
                                have hcz40_1 : wr.cell? ⟨gb207, 1, none⟩ = some (.int .i64 a1_1) := (blk_cell BK207.out 1).trans rfl
                                have hcz40_2 : wr.cell? ⟨gb207, 2, none⟩ = some (.int .i64 a1_2) := (blk_cell BK207.out 2).trans rfl
                                have hcz40_3 : wr.cell? ⟨gb207, 3, none⟩ = some (.int .i64 a1_3) := (blk_cell BK207.out 3).trans rfl
                                have hcz40_4 : wr.cell? ⟨gb207, 4, none⟩ = some (.int .i64 a1_4) := (blk_cell BK207.out 4).trans rfl
                                have hfz40_0 := blk_frozen BK207.out 0
                                have hfz40_1 := blk_frozen BK207.out 1
                                have hfz40_2 := blk_frozen BK207.out 2
                                have hfz40_3 := blk_frozen BK207.out 3
                                have hfz40_4 := blk_frozen BK207.out 4
                                obtain ⟨Ao41, co41, eo41⟩ := Kd.V_slice HO_8.out
                                subst eo41
                                have p220 : 0 ≤ (x55_2 : Int) := of_decide_eq_true (by first | (with_reducible assumption) | assumption)
                                have q220 : x55_2 < (t212.length : Int) := of_decide_eq_true (by first | (with_reducible assumption) | assumption)
                                obtain ⟨ad220, e220, hx220_0, hx220_1, hx220_2, hx220_3, hx220_4⟩ := at_T35 (Kd.V_reads' HO_8.out).2.2 x55_2 p220 q220
                                cases e220
                                replace p220 := eq_true p220
                                replace q220 := eq_true q220
                                have p221 : 0 ≤ (x55_2 : Int) := of_decide_eq_true (by first | (with_reducible assumption) | assumption)
                                have q221 : x55_2 < (t209.length : Int) := of_decide_eq_true (by first | (with_reducible assumption) | assumption)
                                obtain ⟨ad221, e221, hx221_0, hx221_1, hx221_2, hx221_3, hx221_4⟩ := at_T35 (Kd.R_reads' HO_7.out).2.2 x55_2 p221 q221
                                cases e221
                                replace p221 := eq_true p221
                                replace q221 := eq_true q221
                                obtain ⟨Ao42, co42, eo42⟩ := Kd.V_slice HO_10.out
                                subst eo42
                                have p222 : 0 ≤ (x55_2 : Int) := of_decide_eq_true (by first | (with_reducible assumption) | assumption)
                                have q222 : x55_2 < (t216.length : Int) := of_decide_eq_true (by first | (with_reducible assumption) | assumption)
                                obtain ⟨ad222, e222, hx222_0, hx222_1, hx222_2, hx222_3, hx222_4⟩ := at_T35 (Kd.V_reads' HO_10.out).2.2 x55_2 p222 q222
                                cases e222
                                replace p222 := eq_true p222
                                replace q222 := eq_true q222
                                have p223 : 0 ≤ (x55_2 : Int) := of_decide_eq_true (by first | (with_reducible assumption) | assumption)
                                have q223 : x55_2 < (t209.length : Int) := of_decide_eq_true (by first | (with_reducible assumption) | assumption)
                                obtain ⟨ad223, e223, hx223_0, hx223_1, hx223_2, hx223_3, hx223_4⟩ := at_T35 (Kd.R_reads' HO_7.out).2.2 x55_2 p223 q223
                                obtain rfl : ad221 = ad223 := (by injection e223)
                                replace p223 := eq_true p223
                                replace q223 := eq_true q223
                                go_wp2
                                repeat (go_quiet (fail); try go_wp2)
                                go_roundg k2
                                case measure => have := HJ11.out; have := HK2.out; omega
                                case rel => exact ⟨(wrap64 (x55_2 + 1)), (by first | rfl | (simp; done) | (simp [*]; done)), H', ⟨by have := HJ11.out; have := HK2.out; omega⟩, ⟨by (with_reducible repeat (first | apply Kd.R_alloc | apply Kd.R_drewN | apply Kd.R_drew)); exact HO_7.out⟩, ⟨by (with_reducible repeat (first | apply Kd.V_alloc | apply Kd.V_drewN | apply Kd.V_drew)); exact HO_8.out⟩, ⟨by (with_reducible repeat (first | apply Kd.V_alloc | apply Kd.V_drewN | apply Kd.V_drew)); exact HO_10.out⟩, ⟨by (with_reducible repeat (first | refine blk_drewN ?_ _ | refine blk_drew ?_ | refine blk_alloc ?_ _)); exact BK207.out⟩, ⟨by repeat (first | (with_reducible first | exact HB.out | apply below_alloc | apply pw_below_drewN | apply below_drew1 | refine below_set ?_ GE207.out) | exact HB.out)⟩⟩
                            · rw [if_neg c35] at H
                              exact absurd H (by simp)
                        · rw [if_neg c31] at H
                          exact absurd H (by simp)
                      · rw [if_neg c30] at H
                        exact absurd H (by simp)
                    · rw [if_neg c29] at H
                      exact absurd H (by simp)
                · rw [if_neg c26] at H
                  have c26b0 : decide (x55_2 < (t209.length : Int)) = false := decide_eq_false c26
                  clear c26
                  by_cases c43 : t215 = 0
                  · rw [if_pos c43] at H
                    have c43b0 : (t215 == 0) = true := beq_iff_eq.mpr c43
                    have c43b1 : (t215 != 0) = false := bne_eq_false_iff_eq.mpr c43
                    clear c43
                    by_cases c44 : 0 ≤ a1_0
                    · rw [if_pos c44] at H
                      have c44b0 : decide (0 ≤ a1_0) = true := decide_eq_true c44
                      clear c44
                      by_cases c45 : a1_0 < (t212.length : Int)
                      · rw [if_pos c45] at H
                        have c45b0 : decide (a1_0 < (t212.length : Int)) = true := decide_eq_true c45
                        clear c45
                        by_cases c46 : ((!(((rd_T35 t212 a1_0).f0.f0) == a1_3) || (!(((rd_T35 t212 a1_0).f0.f1) == a1_4))) || (!(((rd_T35 t212 a1_0).f1) == a1_1) || (!(((rd_T35 t212 a1_0).f2) == a1_2) || (!(((rd_T35 t212 a1_0).f3) == 0))))) = true
                        · rw [if_pos c46] at H
                          have c46b0 : ((!(((rd_T35 t212 a1_0).f0.f0) == a1_3) || (!(((rd_T35 t212 a1_0).f0.f1) == a1_4))) || (!(((rd_T35 t212 a1_0).f1) == a1_1) || (!(((rd_T35 t212 a1_0).f2) == a1_2) || (!(((rd_T35 t212 a1_0).f3) == 0))))) = true := c46
                          clear c46
                          obtain rfl := Option.some.inj H
                          have hcz47_0 : wr.cell? ⟨gb207, 0, none⟩ = some (.int .i64 a1_0) := (blk_cell BK207.out 0).trans rfl
                          have hcz47_1 : wr.cell? ⟨gb207, 1, none⟩ = some (.int .i64 a1_1) := (blk_cell BK207.out 1).trans rfl
                          have hcz47_2 : wr.cell? ⟨gb207, 2, none⟩ = some (.int .i64 a1_2) := (blk_cell BK207.out 2).trans rfl
                          have hcz47_3 : wr.cell? ⟨gb207, 3, none⟩ = some (.int .i64 a1_3) := (blk_cell BK207.out 3).trans rfl
                          have hcz47_4 : wr.cell? ⟨gb207, 4, none⟩ = some (.int .i64 a1_4) := (blk_cell BK207.out 4).trans rfl
                          have hfz47_0 := blk_frozen BK207.out 0
                          have hfz47_1 := blk_frozen BK207.out 1
                          have hfz47_2 := blk_frozen BK207.out 2
                          have hfz47_3 := blk_frozen BK207.out 3
                          have hfz47_4 := blk_frozen BK207.out 4
                          obtain ⟨Ao48, co48, eo48⟩ := Kd.V_slice HO_8.out
                          subst eo48
                          have p224 : 0 ≤ (a1_0 : Int) := of_decide_eq_true (by first | (with_reducible assumption) | assumption)
                          have q224 : a1_0 < (t212.length : Int) := of_decide_eq_true (by first | (with_reducible assumption) | assumption)
                          obtain ⟨ad224, e224, hx224_0, hx224_1, hx224_2, hx224_3, hx224_4⟩ := at_T35 (Kd.V_reads' HO_8.out).2.2 a1_0 p224 q224
                          cases e224
                          replace p224 := eq_true p224
                          replace q224 := eq_true q224
                          go_wp2
                          repeat (go_quiet (fail); try go_wp2)
                          go_ret
                          exact ⟨by first | rfl | (simp [errW_none, errW_some] <;> rfl) | (simp [*, errW_none, errW_some] <;> rfl), by repeat (first | (with_reducible first | exact HB.out | apply below_alloc | apply pw_below_drewN | apply below_drew1 | refine below_set ?_ GE207.out) | exact HB.out)⟩
                        · rw [if_neg c46] at H
                          have c46b0 : ((!(((rd_T35 t212 a1_0).f0.f0) == a1_3) || (!(((rd_T35 t212 a1_0).f0.f1) == a1_4))) || (!(((rd_T35 t212 a1_0).f1) == a1_1) || (!(((rd_T35 t212 a1_0).f2) == a1_2) || (!(((rd_T35 t212 a1_0).f3) == 0))))) = false := by simpa using c46
                          clear c46
                          by_cases c49 : t219 = 0
                          · rw [if_pos c49] at H
                            have c49b0 : (t219 == 0) = true := beq_iff_eq.mpr c49
                            have c49b1 : (t219 != 0) = false := bne_eq_false_iff_eq.mpr c49
                            clear c49
                            by_cases c50 : a1_0 < (t216.length : Int)
                            · rw [if_pos c50] at H
                              have c50b0 : decide (a1_0 < (t216.length : Int)) = true := decide_eq_true c50
                              clear c50
                              replace H := Option.bind_eq_some_iff.mp H
                              obtain ⟨t226, A510, H⟩ := H
                              replace H : (if t226 = true then (if a1_0 < (t209.length : Int) then (some (((rd_T35 t216 a1_0).f0.f0) == ((rd_T35 t209 a1_0).f0.f0) && (((rd_T35 t216 a1_0).f0.f1) == ((rd_T35 t209 a1_0).f0.f1)))) else (none)) else (some false)) = some r := H
                              have A51 := Aside0.mk A510
                              clear A510
                              by_cases c52 : t226 = true
                              · subst c52
                                have H1 : (if a1_0 < (t209.length : Int) then (some (((rd_T35 t216 a1_0).f0.f0) == ((rd_T35 t209 a1_0).f0.f0) && (((rd_T35 t216 a1_0).f0.f1) == ((rd_T35 t209 a1_0).f0.f1)))) else (none)) = some r := by rw [if_pos rfl] at H; exact H
                                clear H
                                have H := H1
                                clear H1
                                by_cases c53 : a1_0 < (t209.length : Int)
                                · rw [if_pos c53] at H
                                  have c53b0 : decide (a1_0 < (t209.length : Int)) = true := decide_eq_true c53
                                  clear c53
                                  obtain rfl := Option.some.inj H
                                  have hcz54_0 : wr.cell? ⟨gb207, 0, none⟩ = some (.int .i64 a1_0) := (blk_cell BK207.out 0).trans rfl
                                  have hcz54_1 : wr.cell? ⟨gb207, 1, none⟩ = some (.int .i64 a1_1) := (blk_cell BK207.out 1).trans rfl
                                  have hcz54_2 : wr.cell? ⟨gb207, 2, none⟩ = some (.int .i64 a1_2) := (blk_cell BK207.out 2).trans rfl
                                  have hcz54_3 : wr.cell? ⟨gb207, 3, none⟩ = some (.int .i64 a1_3) := (blk_cell BK207.out 3).trans rfl
                                  have hcz54_4 : wr.cell? ⟨gb207, 4, none⟩ = some (.int .i64 a1_4) := (blk_cell BK207.out 4).trans rfl
                                  have hfz54_0 := blk_frozen BK207.out 0
                                  have hfz54_1 := blk_frozen BK207.out 1
                                  have hfz54_2 := blk_frozen BK207.out 2
                                  have hfz54_3 := blk_frozen BK207.out 3
                                  have hfz54_4 := blk_frozen BK207.out 4
                                  obtain ⟨Ao55, co55, eo55⟩ := Kd.V_slice HO_8.out
                                  subst eo55
                                  have p224 : 0 ≤ (a1_0 : Int) := of_decide_eq_true (by first | (with_reducible assumption) | assumption)
                                  have q224 : a1_0 < (t212.length : Int) := of_decide_eq_true (by first | (with_reducible assumption) | assumption)
                                  obtain ⟨ad224, e224, hx224_0, hx224_1, hx224_2, hx224_3, hx224_4⟩ := at_T35 (Kd.V_reads' HO_8.out).2.2 a1_0 p224 q224
                                  cases e224
                                  replace p224 := eq_true p224
                                  replace q224 := eq_true q224
                                  obtain ⟨Ao56, co56, eo56⟩ := Kd.V_slice HO_10.out
                                  subst eo56
                                  have p225 : 0 ≤ (a1_0 : Int) := of_decide_eq_true (by first | (with_reducible assumption) | assumption)
                                  have q225 : a1_0 < (t216.length : Int) := of_decide_eq_true (by first | (with_reducible assumption) | assumption)
                                  obtain ⟨ad225, e225, hx225_0, hx225_1, hx225_2, hx225_3, hx225_4⟩ := at_T35 (Kd.V_reads' HO_10.out).2.2 a1_0 p225 q225
                                  cases e225
                                  replace p225 := eq_true p225
                                  replace q225 := eq_true q225
                                  go_wp2_with (first | (go_at_call 25; (with_reducible refine (set_Has.calls ((rd_T35 t216 a1_0).f3) a2 true _ A51.out).mono ?_); rintro e w' ⟨rfl, ⟨nd, rfl⟩⟩; (try first | exact ⟨rfl, _, World.drewN_drewN _ _ _⟩ | exact ⟨rfl, _, Eq.trans (World.drewN_drewN _ _ _) (congrArg (World.drewN _) (Nat.add_assoc _ _ _))⟩); have p227 : 0 ≤ (a1_0 : Int) := of_decide_eq_true (by first | (with_reducible assumption) | assumption); have q227 : a1_0 < (t216.length : Int) := of_decide_eq_true (by first | (with_reducible assumption) | assumption); obtain ⟨ad227, e227, hx227_0, hx227_1, hx227_2, hx227_3, hx227_4⟩ := at_T35 (Kd.V_reads' HO_10.out).2.2 a1_0 p227 q227; obtain rfl : ad225 = ad227 := (by injection e227); replace p227 := eq_true p227; replace q227 := eq_true q227; have p228 : 0 ≤ (a1_0 : Int) := of_decide_eq_true (by first | (with_reducible assumption) | assumption); have q228 : a1_0 < (t209.length : Int) := of_decide_eq_true (by first | (with_reducible assumption) | assumption); obtain ⟨ad228, e228, hx228_0, hx228_1, hx228_2, hx228_3, hx228_4⟩ := at_T35 (Kd.R_reads' HO_7.out).2.2 a1_0 p228 q228; cases e228; replace p228 := eq_true p228; replace q228 := eq_true q228))
                                  repeat (go_quiet (first | (go_at_call 25; (with_reducible refine (set_Has.calls ((rd_T35 t216 a1_0).f3) a2 true _ A51.out).mono ?_); rintro e w' ⟨rfl, ⟨nd, rfl⟩⟩; (try first | exact ⟨rfl, _, World.drewN_drewN _ _ _⟩ | exact ⟨rfl, _, Eq.trans (World.drewN_drewN _ _ _) (congrArg (World.drewN _) (Nat.add_assoc _ _ _))⟩); have p227 : 0 ≤ (a1_0 : Int) := of_decide_eq_true (by first | (with_reducible assumption) | assumption); have q227 : a1_0 < (t216.length : Int) := of_decide_eq_true (by first | (with_reducible assumption) | assumption); obtain ⟨ad227, e227, hx227_0, hx227_1, hx227_2, hx227_3, hx227_4⟩ := at_T35 (Kd.V_reads' HO_10.out).2.2 a1_0 p227 q227; obtain rfl : ad225 = ad227 := (by injection e227); replace p227 := eq_true p227; replace q227 := eq_true q227; have p228 : 0 ≤ (a1_0 : Int) := of_decide_eq_true (by first | (with_reducible assumption) | assumption); have q228 : a1_0 < (t209.length : Int) := of_decide_eq_true (by first | (with_reducible assumption) | assumption); obtain ⟨ad228, e228, hx228_0, hx228_1, hx228_2, hx228_3, hx228_4⟩ := at_T35 (Kd.R_reads' HO_7.out).2.2 a1_0 p228 q228; cases e228; replace p228 := eq_true p228; replace q228 := eq_true q228)); try go_wp2_with (first | (go_at_call 25; (with_reducible refine (set_Has.calls ((rd_T35 t216 a1_0).f3) a2 true _ A51.out).mono ?_); rintro e w' ⟨rfl, ⟨nd, rfl⟩⟩; (try first | exact ⟨rfl, _, World.drewN_drewN _ _ _⟩ | exact ⟨rfl, _, Eq.trans (World.drewN_drewN _ _ _) (congrArg (World.drewN _) (Nat.add_assoc _ _ _))⟩); have p227 : 0 ≤ (a1_0 : Int) := of_decide_eq_true (by first | (with_reducible assumption) | assumption); have q227 : a1_0 < (t216.length : Int) := of_decide_eq_true (by first | (with_reducible assumption) | assumption); obtain ⟨ad227, e227, hx227_0, hx227_1, hx227_2, hx227_3, hx227_4⟩ := at_T35 (Kd.V_reads' HO_10.out).2.2 a1_0 p227 q227; obtain rfl : ad225 = ad227 := (by injection e227); replace p227 := eq_true p227; replace q227 := eq_true q227; have p228 : 0 ≤ (a1_0 : Int) := of_decide_eq_true (by first | (with_reducible assumption) | assumption); have q228 : a1_0 < (t209.length : Int) := of_decide_eq_true (by first | (with_reducible assumption) | assumption); obtain ⟨ad228, e228, hx228_0, hx228_1, hx228_2, hx228_3, hx228_4⟩ := at_T35 (Kd.R_reads' HO_7.out).2.2 a1_0 p228 q228; cases e228; replace p228 := eq_true p228; replace q228 := eq_true q228)))
                                  go_ret
                                  exact ⟨by first | rfl | (simp [errW_none, errW_some] <;> rfl) | (simp [*, errW_none, errW_some] <;> rfl), by repeat (first | (with_reducible first | exact HB.out | apply below_alloc | apply pw_below_drewN | apply below_drew1 | refine below_set ?_ GE207.out) | exact HB.out)⟩
                                · rw [if_neg c53] at H
                                  exact absurd H (by simp)
                              · replace c52 := Bool.eq_false_iff.mpr c52
                                subst c52
                                have H1 : (some false) = some r := by rw [if_neg (show ¬ (false = true) by decide)] at H; exact H
                                clear H
                                have H := H1
                                clear H1
                                obtain rfl := Option.some.inj H
                                have hcz57_0 : wr.cell? ⟨gb207, 0, none⟩ = some (.int .i64 a1_0) := (blk_cell BK207.out 0).trans rfl
                                have hcz57_1 : wr.cell? ⟨gb207, 1, none⟩ = some (.int .i64 a1_1) := (blk_cell BK207.out 1).trans rfl
                                have hcz57_2 : wr.cell? ⟨gb207, 2, none⟩ = some (.int .i64 a1_2) := (blk_cell BK207.out 2).trans rfl
                                have hcz57_3 : wr.cell? ⟨gb207, 3, none⟩ = some (.int .i64 a1_3) := (blk_cell BK207.out 3).trans rfl
                                have hcz57_4 : wr.cell? ⟨gb207, 4, none⟩ = some (.int .i64 a1_4) := (blk_cell BK207.out 4).trans rfl
                                have hfz57_0 := blk_frozen BK207.out 0
                                have hfz57_1 := blk_frozen BK207.out 1
                                have hfz57_2 := blk_frozen BK207.out 2
                                have hfz57_3 := blk_frozen BK207.out 3
                                have hfz57_4 := blk_frozen BK207.out 4
                                obtain ⟨Ao58, co58, eo58⟩ := Kd.V_slice HO_8.out
                                subst eo58
                                have p224 : 0 ≤ (a1_0 : Int) := of_decide_eq_true (by first | (with_reducible assumption) | assumption)
                                have q224 : a1_0 < (t212.length : Int) := of_decide_eq_true (by first | (with_reducible assumption) | assumption)
                                obtain ⟨ad224, e224, hx224_0, hx224_1, hx224_2, hx224_3, hx224_4⟩ := at_T35 (Kd.V_reads' HO_8.out).2.2 a1_0 p224 q224
                                cases e224
                                replace p224 := eq_true p224
                                replace q224 := eq_true q224
                                obtain ⟨Ao59, co59, eo59⟩ := Kd.V_slice HO_10.out
                                subst eo59
                                have p225 : 0 ≤ (a1_0 : Int) := of_decide_eq_true (by first | (with_reducible assumption) | assumption)
                                have q225 : a1_0 < (t216.length : Int) := of_decide_eq_true (by first | (with_reducible assumption) | assumption)
                                obtain ⟨ad225, e225, hx225_0, hx225_1, hx225_2, hx225_3, hx225_4⟩ := at_T35 (Kd.V_reads' HO_10.out).2.2 a1_0 p225 q225
                                cases e225
                                replace p225 := eq_true p225
                                replace q225 := eq_true q225
                                go_wp2_with (first | (go_at_call 25; (with_reducible refine (set_Has.calls ((rd_T35 t216 a1_0).f3) a2 false _ A51.out).mono ?_); rintro e w' ⟨rfl, ⟨nd, rfl⟩⟩; (try first | exact ⟨rfl, _, World.drewN_drewN _ _ _⟩ | exact ⟨rfl, _, Eq.trans (World.drewN_drewN _ _ _) (congrArg (World.drewN _) (Nat.add_assoc _ _ _))⟩)))
                                repeat (go_quiet (first | (go_at_call 25; (with_reducible refine (set_Has.calls ((rd_T35 t216 a1_0).f3) a2 false _ A51.out).mono ?_); rintro e w' ⟨rfl, ⟨nd, rfl⟩⟩; (try first | exact ⟨rfl, _, World.drewN_drewN _ _ _⟩ | exact ⟨rfl, _, Eq.trans (World.drewN_drewN _ _ _) (congrArg (World.drewN _) (Nat.add_assoc _ _ _))⟩))); try go_wp2_with (first | (go_at_call 25; (with_reducible refine (set_Has.calls ((rd_T35 t216 a1_0).f3) a2 false _ A51.out).mono ?_); rintro e w' ⟨rfl, ⟨nd, rfl⟩⟩; (try first | exact ⟨rfl, _, World.drewN_drewN _ _ _⟩ | exact ⟨rfl, _, Eq.trans (World.drewN_drewN _ _ _) (congrArg (World.drewN _) (Nat.add_assoc _ _ _))⟩))))
                                go_ret
                                exact ⟨by first | rfl | (simp [errW_none, errW_some] <;> rfl) | (simp [*, errW_none, errW_some] <;> rfl), by repeat (first | (with_reducible first | exact HB.out | apply below_alloc | apply pw_below_drewN | apply below_drew1 | refine below_set ?_ GE207.out) | exact HB.out)⟩
                            · rw [if_neg c50] at H
                              exact absurd H (by simp)
                          · rw [if_neg c49] at H
                            have c49b0 : (t219 == 0) = false := beq_eq_false_iff_ne.mpr c49
                            have c49b1 : (t219 != 0) = true := bne_iff_ne.mpr c49
                            obtain rfl := Option.some.inj H
                            have hcz60_0 : wr.cell? ⟨gb207, 0, none⟩ = some (.int .i64 a1_0) := (blk_cell BK207.out 0).trans rfl
                            have hcz60_1 : wr.cell? ⟨gb207, 1, none⟩ = some (.int .i64 a1_1) := (blk_cell BK207.out 1).trans rfl
                            have hcz60_2 : wr.cell? ⟨gb207, 2, none⟩ = some (.int .i64 a1_2) := (blk_cell BK207.out 2).trans rfl
                            have hcz60_3 : wr.cell? ⟨gb207, 3, none⟩ = some (.int .i64 a1_3) := (blk_cell BK207.out 3).trans rfl
                            have hcz60_4 : wr.cell? ⟨gb207, 4, none⟩ = some (.int .i64 a1_4) := (blk_cell BK207.out 4).trans rfl
                            have hfz60_0 := blk_frozen BK207.out 0
                            have hfz60_1 := blk_frozen BK207.out 1
                            have hfz60_2 := blk_frozen BK207.out 2
                            have hfz60_3 := blk_frozen BK207.out 3
                            have hfz60_4 := blk_frozen BK207.out 4
                            obtain ⟨Ao61, co61, eo61⟩ := Kd.V_slice HO_8.out
                            subst eo61
                            have p224 : 0 ≤ (a1_0 : Int) := of_decide_eq_true (by first | (with_reducible assumption) | assumption)
                            have q224 : a1_0 < (t212.length : Int) := of_decide_eq_true (by first | (with_reducible assumption) | assumption)
                            obtain ⟨ad224, e224, hx224_0, hx224_1, hx224_2, hx224_3, hx224_4⟩ := at_T35 (Kd.V_reads' HO_8.out).2.2 a1_0 p224 q224
                            cases e224
                            replace p224 := eq_true p224
                            replace q224 := eq_true q224
                            go_wp2
                            repeat (go_quiet (fail); try go_wp2)
                            go_ret
                            exact ⟨by first | rfl | (simp [errW_none, errW_some] <;> rfl) | (simp [*, errW_none, errW_some] <;> rfl), by repeat (first | (with_reducible first | exact HB.out | apply below_alloc | apply pw_below_drewN | apply below_drew1 | refine below_set ?_ GE207.out) | exact HB.out)⟩
                      · rw [if_neg c45] at H
                        exact absurd H (by simp)
                    · rw [if_neg c44] at H
                      exact absurd H (by simp)
                  · rw [if_neg c43] at H
                    have c43b0 : (t215 == 0) = false := beq_eq_false_iff_ne.mpr c43
                    have c43b1 : (t215 != 0) = true := bne_iff_ne.mpr c43
                    by_cases c62 : t219 = 0
                    · rw [if_pos c62] at H
                      have c62b0 : (t219 == 0) = true := beq_iff_eq.mpr c62
                      have c62b1 : (t219 != 0) = false := bne_eq_false_iff_eq.mpr c62
                      clear c62
                      by_cases c63 : 0 ≤ a1_0
                      · rw [if_pos c63] at H
                        have c63b0 : decide (0 ≤ a1_0) = true := decide_eq_true c63
                        clear c63
                        by_cases c64 : a1_0 < (t216.length : Int)
                        · rw [if_pos c64] at H
                          have c64b0 : decide (a1_0 < (t216.length : Int)) = true := decide_eq_true c64
                          clear c64
                          replace H := Option.bind_eq_some_iff.mp H
                          obtain ⟨t230, A650, H⟩ := H
                          replace H : (if t230 = true then (if a1_0 < (t209.length : Int) then (some (((rd_T35 t216 a1_0).f0.f0) == ((rd_T35 t209 a1_0).f0.f0) && (((rd_T35 t216 a1_0).f0.f1) == ((rd_T35 t209 a1_0).f0.f1)))) else (none)) else (some false)) = some r := H
                          have A65 := Aside0.mk A650
                          clear A650
                          by_cases c66 : t230 = true
                          · subst c66
                            have H1 : (if a1_0 < (t209.length : Int) then (some (((rd_T35 t216 a1_0).f0.f0) == ((rd_T35 t209 a1_0).f0.f0) && (((rd_T35 t216 a1_0).f0.f1) == ((rd_T35 t209 a1_0).f0.f1)))) else (none)) = some r := by rw [if_pos rfl] at H; exact H
                            clear H
                            have H := H1
                            clear H1
                            by_cases c67 : a1_0 < (t209.length : Int)
                            · rw [if_pos c67] at H
                              have c67b0 : decide (a1_0 < (t209.length : Int)) = true := decide_eq_true c67
                              clear c67
                              obtain rfl := Option.some.inj H
                              have hcz68_0 : wr.cell? ⟨gb207, 0, none⟩ = some (.int .i64 a1_0) := (blk_cell BK207.out 0).trans rfl
                              have hcz68_1 : wr.cell? ⟨gb207, 1, none⟩ = some (.int .i64 a1_1) := (blk_cell BK207.out 1).trans rfl
                              have hcz68_2 : wr.cell? ⟨gb207, 2, none⟩ = some (.int .i64 a1_2) := (blk_cell BK207.out 2).trans rfl
                              have hcz68_3 : wr.cell? ⟨gb207, 3, none⟩ = some (.int .i64 a1_3) := (blk_cell BK207.out 3).trans rfl
                              have hcz68_4 : wr.cell? ⟨gb207, 4, none⟩ = some (.int .i64 a1_4) := (blk_cell BK207.out 4).trans rfl
                              have hfz68_0 := blk_frozen BK207.out 0
                              have hfz68_1 := blk_frozen BK207.out 1
                              have hfz68_2 := blk_frozen BK207.out 2
                              have hfz68_3 := blk_frozen BK207.out 3
                              have hfz68_4 := blk_frozen BK207.out 4
                              obtain ⟨Ao69, co69, eo69⟩ := Kd.V_slice HO_10.out
                              subst eo69
                              have p229 : 0 ≤ (a1_0 : Int) := of_decide_eq_true (by first | (with_reducible assumption) | assumption)
                              have q229 : a1_0 < (t216.length : Int) := of_decide_eq_true (by first | (with_reducible assumption) | assumption)
                              obtain ⟨ad229, e229, hx229_0, hx229_1, hx229_2, hx229_3, hx229_4⟩ := at_T35 (Kd.V_reads' HO_10.out).2.2 a1_0 p229 q229
                              cases e229
                              replace p229 := eq_true p229
                              replace q229 := eq_true q229
                              go_wp2_with (first | (go_at_call 25; (with_reducible refine (set_Has.calls ((rd_T35 t216 a1_0).f3) a2 true _ A65.out).mono ?_); rintro e w' ⟨rfl, ⟨nd, rfl⟩⟩; (try first | exact ⟨rfl, _, World.drewN_drewN _ _ _⟩ | exact ⟨rfl, _, Eq.trans (World.drewN_drewN _ _ _) (congrArg (World.drewN _) (Nat.add_assoc _ _ _))⟩); have p231 : 0 ≤ (a1_0 : Int) := of_decide_eq_true (by first | (with_reducible assumption) | assumption); have q231 : a1_0 < (t216.length : Int) := of_decide_eq_true (by first | (with_reducible assumption) | assumption); obtain ⟨ad231, e231, hx231_0, hx231_1, hx231_2, hx231_3, hx231_4⟩ := at_T35 (Kd.V_reads' HO_10.out).2.2 a1_0 p231 q231; obtain rfl : ad229 = ad231 := (by injection e231); replace p231 := eq_true p231; replace q231 := eq_true q231; have p232 : 0 ≤ (a1_0 : Int) := of_decide_eq_true (by first | (with_reducible assumption) | assumption); have q232 : a1_0 < (t209.length : Int) := of_decide_eq_true (by first | (with_reducible assumption) | assumption); obtain ⟨ad232, e232, hx232_0, hx232_1, hx232_2, hx232_3, hx232_4⟩ := at_T35 (Kd.R_reads' HO_7.out).2.2 a1_0 p232 q232; cases e232; replace p232 := eq_true p232; replace q232 := eq_true q232))
                              repeat (go_quiet (first | (go_at_call 25; (with_reducible refine (set_Has.calls ((rd_T35 t216 a1_0).f3) a2 true _ A65.out).mono ?_); rintro e w' ⟨rfl, ⟨nd, rfl⟩⟩; (try first | exact ⟨rfl, _, World.drewN_drewN _ _ _⟩ | exact ⟨rfl, _, Eq.trans (World.drewN_drewN _ _ _) (congrArg (World.drewN _) (Nat.add_assoc _ _ _))⟩); have p231 : 0 ≤ (a1_0 : Int) := of_decide_eq_true (by first | (with_reducible assumption) | assumption); have q231 : a1_0 < (t216.length : Int) := of_decide_eq_true (by first | (with_reducible assumption) | assumption); obtain ⟨ad231, e231, hx231_0, hx231_1, hx231_2, hx231_3, hx231_4⟩ := at_T35 (Kd.V_reads' HO_10.out).2.2 a1_0 p231 q231; obtain rfl : ad229 = ad231 := (by injection e231); replace p231 := eq_true p231; replace q231 := eq_true q231; have p232 : 0 ≤ (a1_0 : Int) := of_decide_eq_true (by first | (with_reducible assumption) | assumption); have q232 : a1_0 < (t209.length : Int) := of_decide_eq_true (by first | (with_reducible assumption) | assumption); obtain ⟨ad232, e232, hx232_0, hx232_1, hx232_2, hx232_3, hx232_4⟩ := at_T35 (Kd.R_reads' HO_7.out).2.2 a1_0 p232 q232; cases e232; replace p232 := eq_true p232; replace q232 := eq_true q232)); try go_wp2_with (first | (go_at_call 25; (with_reducible refine (set_Has.calls ((rd_T35 t216 a1_0).f3) a2 true _ A65.out).mono ?_); rintro e w' ⟨rfl, ⟨nd, rfl⟩⟩; (try first | exact ⟨rfl, _, World.drewN_drewN _ _ _⟩ | exact ⟨rfl, _, Eq.trans (World.drewN_drewN _ _ _) (congrArg (World.drewN _) (Nat.add_assoc _ _ _))⟩); have p231 : 0 ≤ (a1_0 : Int) := of_decide_eq_true (by first | (with_reducible assumption) | assumption); have q231 : a1_0 < (t216.length : Int) := of_decide_eq_true (by first | (with_reducible assumption) | assumption); obtain ⟨ad231, e231, hx231_0, hx231_1, hx231_2, hx231_3, hx231_4⟩ := at_T35 (Kd.V_reads' HO_10.out).2.2 a1_0 p231 q231; obtain rfl : ad229 = ad231 := (by injection e231); replace p231 := eq_true p231; replace q231 := eq_true q231; have p232 : 0 ≤ (a1_0 : Int) := of_decide_eq_true (by first | (with_reducible assumption) | assumption); have q232 : a1_0 < (t209.length : Int) := of_decide_eq_true (by first | (with_reducible assumption) | assumption); obtain ⟨ad232, e232, hx232_0, hx232_1, hx232_2, hx232_3, hx232_4⟩ := at_T35 (Kd.R_reads' HO_7.out).2.2 a1_0 p232 q232; cases e232; replace p232 := eq_true p232; replace q232 := eq_true q232)))
                              go_ret
                              exact ⟨by first | rfl | (simp [errW_none, errW_some] <;> rfl) | (simp [*, errW_none, errW_some] <;> rfl), by repeat (first | (with_reducible first | exact HB.out | apply below_alloc | apply pw_below_drewN | apply below_drew1 | refine below_set ?_ GE207.out) | exact HB.out)⟩
                            · rw [if_neg c67] at H
                              exact absurd H (by simp)
                          · replace c66 := Bool.eq_false_iff.mpr c66
                            subst c66
                            have H1 : (some false) = some r := by rw [if_neg (show ¬ (false = true) by decide)] at H; exact H
                            clear H
                            have H := H1
                            clear H1
                            obtain rfl := Option.some.inj H
                            have hcz70_0 : wr.cell? ⟨gb207, 0, none⟩ = some (.int .i64 a1_0) := (blk_cell BK207.out 0).trans rfl
                            have hcz70_1 : wr.cell? ⟨gb207, 1, none⟩ = some (.int .i64 a1_1) := (blk_cell BK207.out 1).trans rfl
                            have hcz70_2 : wr.cell? ⟨gb207, 2, none⟩ = some (.int .i64 a1_2) := (blk_cell BK207.out 2).trans rfl
                            have hcz70_3 : wr.cell? ⟨gb207, 3, none⟩ = some (.int .i64 a1_3) := (blk_cell BK207.out 3).trans rfl
                            have hcz70_4 : wr.cell? ⟨gb207, 4, none⟩ = some (.int .i64 a1_4) := (blk_cell BK207.out 4).trans rfl
                            have hfz70_0 := blk_frozen BK207.out 0
                            have hfz70_1 := blk_frozen BK207.out 1
                            have hfz70_2 := blk_frozen BK207.out 2
                            have hfz70_3 := blk_frozen BK207.out 3
                            have hfz70_4 := blk_frozen BK207.out 4
                            obtain ⟨Ao71, co71, eo71⟩ := Kd.V_slice HO_10.out
                            subst eo71
                            have p229 : 0 ≤ (a1_0 : Int) := of_decide_eq_true (by first | (with_reducible assumption) | assumption)
                            have q229 : a1_0 < (t216.length : Int) := of_decide_eq_true (by first | (with_reducible assumption) | assumption)
                            obtain ⟨ad229, e229, hx229_0, hx229_1, hx229_2, hx229_3, hx229_4⟩ := at_T35 (Kd.V_reads' HO_10.out).2.2 a1_0 p229 q229
                            cases e229
                            replace p229 := eq_true p229
                            replace q229 := eq_true q229
                            go_wp2_with (first | (go_at_call 25; (with_reducible refine (set_Has.calls ((rd_T35 t216 a1_0).f3) a2 false _ A65.out).mono ?_); rintro e w' ⟨rfl, ⟨nd, rfl⟩⟩; (try first | exact ⟨rfl, _, World.drewN_drewN _ _ _⟩ | exact ⟨rfl, _, Eq.trans (World.drewN_drewN _ _ _) (congrArg (World.drewN _) (Nat.add_assoc _ _ _))⟩)))
                            repeat (go_quiet (first | (go_at_call 25; (with_reducible refine (set_Has.calls ((rd_T35 t216 a1_0).f3) a2 false _ A65.out).mono ?_); rintro e w' ⟨rfl, ⟨nd, rfl⟩⟩; (try first | exact ⟨rfl, _, World.drewN_drewN _ _ _⟩ | exact ⟨rfl, _, Eq.trans (World.drewN_drewN _ _ _) (congrArg (World.drewN _) (Nat.add_assoc _ _ _))⟩))); try go_wp2_with (first | (go_at_call 25; (with_reducible refine (set_Has.calls ((rd_T35 t216 a1_0).f3) a2 false _ A65.out).mono ?_); rintro e w' ⟨rfl, ⟨nd, rfl⟩⟩; (try first | exact ⟨rfl, _, World.drewN_drewN _ _ _⟩ | exact ⟨rfl, _, Eq.trans (World.drewN_drewN _ _ _) (congrArg (World.drewN _) (Nat.add_assoc _ _ _))⟩))))
                            go_ret
                            exact ⟨by first | rfl | (simp [errW_none, errW_some] <;> rfl) | (simp [*, errW_none, errW_some] <;> rfl), by repeat (first | (with_reducible first | exact HB.out | apply below_alloc | apply pw_below_drewN | apply below_drew1 | refine below_set ?_ GE207.out) | exact HB.out)⟩
                        · rw [if_neg c64] at H
                          exact absurd H (by simp)
                      · rw [if_neg c63] at H
                        exact absurd H (by simp)
                    · rw [if_neg c62] at H
                      have c62b0 : (t219 == 0) = false := beq_eq_false_iff_ne.mpr c62
                      have c62b1 : (t219 != 0) = true := bne_iff_ne.mpr c62
                      obtain rfl := Option.some.inj H
                      go_wp2
                      repeat (go_quiet (fail); try go_wp2)
                      go_ret
                      exact ⟨by first | rfl | (simp [errW_none, errW_some] <;> rfl) | (simp [*, errW_none, errW_some] <;> rfl), by repeat (first | (with_reducible first | exact HB.out | apply below_alloc | apply pw_below_drewN | apply below_drew1 | refine below_set ?_ GE207.out) | exact HB.out)⟩
  · replace c5 := Bool.eq_false_iff.mpr c5
    subst c5
    have H1 : (some false) = some r := by rw [if_neg (show ¬ (false = true) by decide)] at H; exact H
    clear H
    have H := H1
    clear H1
    obtain rfl := Option.some.inj H
    go_enter Try.func7, Try.ntmps7
    go_wp2_with (first | ((with_reducible refine gate_dst (N := 4) rfl ?_); (try (refine gate_guard (by rfl) ?_; dsimp only)); refine box_event ?hg (N := 4) ?hd (cs := #[.int .i64 a1_0, .int .i64 a1_1, .int .i64 a1_2, .int .i64 a1_3, .int .i64 a1_4]) (t := 26) ?hr ?_; (case hd => rfl); (case hg => rfl); (case hr => first | (go_simp; done) | (go_simp; rfl)); intro gb207 hg w72 hbox hb; have n0_ := Aside0.mk (below_step (by repeat (first | (with_reducible first | exact HB.out | apply below_alloc | apply pw_below_drewN | apply below_drew1) | exact HB.out)) hb); have n1_ := Aside0.mk (hbox); have n2_ := Aside0.mk ((by rw [hg]; exact (below_size (by repeat (first | (with_reducible first | exact HB.out | apply below_alloc | apply pw_below_drewN | apply below_drew1) | exact HB.out))) : w.heap.size ≤ gb207)); have n3_ := Aside0.mk ((by rw [hg]; exact (below_size (by repeat (first | (with_reducible first | exact HB.out | apply below_alloc | apply pw_below_drewN | apply below_drew1) | exact HB.out))) : w.heap.size ≤ gb207)); clear HB; have HB := n0_; have BK207 := n1_; have GW207 := n2_; have GE207 := n3_; clear n0_ n1_ n2_ n3_; clear hb hbox hg) | (go_at_call 9; (with_reducible refine (warpbeamlaw07_alive.calls  false _ A4.out).mono ?_); rintro e w73 ⟨rfl, hb⟩; have n0_ := Aside0.mk (blk_below (g := gb207) (o := .cells #[.int .i64 a1_0, .int .i64 a1_1, .int .i64 a1_2, .int .i64 a1_3, .int .i64 a1_4] 26 (0, 0)) (by (with_reducible repeat (first | refine blk_drewN ?_ _ | refine blk_drew ?_ | refine blk_alloc ?_ _)); exact BK207.out) hb); have n1_ := Aside0.mk (below_step (by repeat (first | (with_reducible first | exact HB.out | apply below_alloc | apply pw_below_drewN | apply below_drew1 | refine below_set ?_ GE207.out) | exact HB.out)) hb); clear BK207; clear HB; have BK207 := n0_; have HB := n1_; clear n0_ n1_; (try clear hb); (try clear hb2); (try clear hk); (try clear hi)))
    repeat (go_quiet (first | ((with_reducible refine gate_dst (N := 4) rfl ?_); (try (refine gate_guard (by rfl) ?_; dsimp only)); refine box_event ?hg (N := 4) ?hd (cs := #[.int .i64 a1_0, .int .i64 a1_1, .int .i64 a1_2, .int .i64 a1_3, .int .i64 a1_4]) (t := 26) ?hr ?_; (case hd => rfl); (case hg => rfl); (case hr => first | (go_simp; done) | (go_simp; rfl)); intro gb207 hg w72 hbox hb; have n0_ := Aside0.mk (below_step (by repeat (first | (with_reducible first | exact HB.out | apply below_alloc | apply pw_below_drewN | apply below_drew1) | exact HB.out)) hb); have n1_ := Aside0.mk (hbox); have n2_ := Aside0.mk ((by rw [hg]; exact (below_size (by repeat (first | (with_reducible first | exact HB.out | apply below_alloc | apply pw_below_drewN | apply below_drew1) | exact HB.out))) : w.heap.size ≤ gb207)); have n3_ := Aside0.mk ((by rw [hg]; exact (below_size (by repeat (first | (with_reducible first | exact HB.out | apply below_alloc | apply pw_below_drewN | apply below_drew1) | exact HB.out))) : w.heap.size ≤ gb207)); clear HB; have HB := n0_; have BK207 := n1_; have GW207 := n2_; have GE207 := n3_; clear n0_ n1_ n2_ n3_; clear hb hbox hg) | (go_at_call 9; (with_reducible refine (warpbeamlaw07_alive.calls  false _ A4.out).mono ?_); rintro e w73 ⟨rfl, hb⟩; have n0_ := Aside0.mk (blk_below (g := gb207) (o := .cells #[.int .i64 a1_0, .int .i64 a1_1, .int .i64 a1_2, .int .i64 a1_3, .int .i64 a1_4] 26 (0, 0)) (by (with_reducible repeat (first | refine blk_drewN ?_ _ | refine blk_drew ?_ | refine blk_alloc ?_ _)); exact BK207.out) hb); have n1_ := Aside0.mk (below_step (by repeat (first | (with_reducible first | exact HB.out | apply below_alloc | apply pw_below_drewN | apply below_drew1 | refine below_set ?_ GE207.out) | exact HB.out)) hb); clear BK207; clear HB; have BK207 := n0_; have HB := n1_; clear n0_ n1_; (try clear hb); (try clear hb2); (try clear hk); (try clear hi))); try go_wp2_with (first | ((with_reducible refine gate_dst (N := 4) rfl ?_); (try (refine gate_guard (by rfl) ?_; dsimp only)); refine box_event ?hg (N := 4) ?hd (cs := #[.int .i64 a1_0, .int .i64 a1_1, .int .i64 a1_2, .int .i64 a1_3, .int .i64 a1_4]) (t := 26) ?hr ?_; (case hd => rfl); (case hg => rfl); (case hr => first | (go_simp; done) | (go_simp; rfl)); intro gb207 hg w72 hbox hb; have n0_ := Aside0.mk (below_step (by repeat (first | (with_reducible first | exact HB.out | apply below_alloc | apply pw_below_drewN | apply below_drew1) | exact HB.out)) hb); have n1_ := Aside0.mk (hbox); have n2_ := Aside0.mk ((by rw [hg]; exact (below_size (by repeat (first | (with_reducible first | exact HB.out | apply below_alloc | apply pw_below_drewN | apply below_drew1) | exact HB.out))) : w.heap.size ≤ gb207)); have n3_ := Aside0.mk ((by rw [hg]; exact (below_size (by repeat (first | (with_reducible first | exact HB.out | apply below_alloc | apply pw_below_drewN | apply below_drew1) | exact HB.out))) : w.heap.size ≤ gb207)); clear HB; have HB := n0_; have BK207 := n1_; have GW207 := n2_; have GE207 := n3_; clear n0_ n1_ n2_ n3_; clear hb hbox hg) | (go_at_call 9; (with_reducible refine (warpbeamlaw07_alive.calls  false _ A4.out).mono ?_); rintro e w73 ⟨rfl, hb⟩; have n0_ := Aside0.mk (blk_below (g := gb207) (o := .cells #[.int .i64 a1_0, .int .i64 a1_1, .int .i64 a1_2, .int .i64 a1_3, .int .i64 a1_4] 26 (0, 0)) (by (with_reducible repeat (first | refine blk_drewN ?_ _ | refine blk_drew ?_ | refine blk_alloc ?_ _)); exact BK207.out) hb); have n1_ := Aside0.mk (below_step (by repeat (first | (with_reducible first | exact HB.out | apply below_alloc | apply pw_below_drewN | apply below_drew1 | refine below_set ?_ GE207.out) | exact HB.out)) hb); clear BK207; clear HB; have BK207 := n0_; have HB := n1_; clear n0_ n1_; (try clear hb); (try clear hb2); (try clear hk); (try clear hi))))
    go_ret
    exact ⟨by first | rfl | (simp [errW_none, errW_some] <;> rfl) | (simp [*, errW_none, errW_some] <;> rfl), by repeat (first | (with_reducible first | exact HB.out | apply below_alloc | apply pw_below_drewN | apply below_drew1 | refine below_set ?_ GE207.out) | exact HB.out)⟩

end Go.Proofs.Ytnamlnlhigdnkaa.Q
