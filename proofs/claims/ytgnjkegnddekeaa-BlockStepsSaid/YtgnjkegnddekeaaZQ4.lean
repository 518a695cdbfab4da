/- Words of the printer that this claim uses, cut to these by a program of its author (not as they were printed). -/
import Derived.Test.YtgnjkegnddekeaaZQ0
open List renaming setIfInBounds_toArray → zI, set_cons_zero → zJ, set_cons_succ → zK
open And renaming intro → zL
namespace Go.Proofs.Ytgnjkegnddekeaa.Q
open Go.RowKit Go.Proofs.YtgnjkegnddekeaaW.PrintWords Go.Proofs.YtgnjkegnddekeaaW.PrintLast Go.Proofs.YtgnjkegnddekeaaW.PrintMore
attribute [local go_sem] max2_int min2_int max_two min_two max_three min_three max_four min_four   -- for this text's walks alone
set_option linter.unusedVariables false
set_option linter.unusedSimpArgs false
def warpbeamref17_number.f (a0:Int):Option (Int × Int):=some (1,a0)
set_option maxHeartbeats 8000000 in
set_option maxRecDepth 100000 in
theorem warpbeamref17_number.calls (a0 : Int) (r1 : Int) (r2 : Int) (w : World) (h : warpbeamref17_number.f a0 = some (r1, r2)) :
  Calls Try.prog 36 #[.int .i64 a0] w fun e w' => e=.returned (.agg #[.int .i64 r1,.int .i64 r2])∧Below w.heap.size w w':=by
 have hu24:=Try.underlying24
 have HB:=Aside0.mk (Below.refl w.heap.size w)
 have H:(some (1,a0))=some (r1,r2):=h
 clear h
 simp only [Option.some.injEq,Prod.mk.injEq] at H
 obtain ⟨rfl,rfl⟩:=H
 go_enter Try.func36,Try.ntmps36
 go_wp2_with (first | ((with_reducible refine gate_dst (N:=2) rfl ?_);refine box_event ?hg (N:=2) ?hd (cs:=#[.int .i64 0,.int .i64 0]) (t:=24) ?hr ?_;(case hd => rfl);(case hg => rfl);(case hr => first | (go_simp;done) | (go_simp;rfl));intro gb150 hg w2 hbox hb;have n0_:=Aside0.mk (below_step (by repeat (first | (with_reducible first | exact HB.out | apply below_alloc | apply zH | apply below_drew1) | exact HB.out)) hb);have n1_:=Aside0.mk (hbox);have n2_:=Aside0.mk ((by rw [hg];exact (below_size (by repeat (first | (with_reducible first | exact HB.out | apply below_alloc | apply zH | apply below_drew1) | exact HB.out))):w.heap.size ≤ gb150));have n3_:=Aside0.mk ((by rw [hg];exact (below_size (by repeat (first | (with_reducible first | exact HB.out | apply below_alloc | apply zH | apply below_drew1) | exact HB.out))):w.heap.size ≤ gb150));clear HB;have HB:=n0_;have BK150:=n1_;have GW150:=n2_;have GE150:=n3_;clear n0_ n1_ n2_ n3_;clear hb hbox hg;have hcz3_0:w2.cell? ⟨gb150,0,none⟩=some (.int .i64 0):=(zC BK150.out 0).trans rfl;have hcz3_1:w2.cell? ⟨gb150,1,none⟩=some (.int .i64 0):=(zC BK150.out 1).trans rfl;have hfz3_0:=zD BK150.out 0;have hfz3_1:=zD BK150.out 1))
 refine bodyPost_ret (results_cell_row rfl _ _ gb150 24 #[.int .i64 1,.int .i64 a0] (0,0) _ rfl (by (with_reducible repeat (first | refine blk_drewN ?_ _ | refine blk_drew ?_ | refine blk_alloc ?_ _));refine blk_put (cs:=#[.int .i64 1,.int .i64 0]) ?_ 1 _ rfl;(with_reducible repeat (first | refine blk_drewN ?_ _ | refine blk_drew ?_ | refine blk_alloc ?_ _));refine blk_put (cs:=#[.int .i64 0,.int .i64 0]) ?_ 0 _ rfl;(with_reducible repeat (first | refine blk_drewN ?_ _ | refine blk_drew ?_ | refine blk_alloc ?_ _));exact BK150.out) Try.underlying24 rfl (by kernel_rfl)) rfl ?_
 exact ⟨by first | rfl | (simp [errW_none,errW_some] <;> rfl) | (simp [*,errW_none,errW_some] <;> rfl),by repeat (first | (with_reducible first | exact HB.out | apply below_alloc | apply zH | apply below_drew1 | refine below_set ?_ GE150.out) | exact HB.out)⟩
def warpbeamref06_Less.f (a0_0:Int) (a0_1:Int) (a1_0:Int) (a1_1:Int):Option (Bool × Int):=if a0_0=1 then (if a1_0=1 then (some (decide (a0_1 < a1_1),0)) else (some (false,7))) else (some (false,7))
set_option maxHeartbeats 8000000 in
set_option maxRecDepth 100000 in
theorem warpbeamref06_Less.calls (a0_0 : Int) (a0_1 : Int) (a1_0 : Int) (a1_1 : Int) (r1 : Bool) (r2 : Int) (w : World) (h : warpbeamref06_Less.f a0_0 a0_1 a1_0 a1_1 = some (r1, r2)) :
  Calls Try.prog 57 #[.agg #[.int .i64 a0_0,.int .i64 a0_1],.agg #[.int .i64 a1_0,.int .i64 a1_1]] w fun e w' => e=.returned (.tuple #[.bool r1,.int .i64 r2])∧Below w.heap.size w w':=by
 have hu24:=Try.underlying24
 have HB:=Aside0.mk (Below.refl w.heap.size w)
 have H:(if a0_0=1 then (if a1_0=1 then (some (decide (a0_1 < a1_1),0)) else (some (false,7))) else (some (false,7)))=some (r1,r2):=h
 clear h
 by_cases c3:a0_0=1
 ·
  rw [if_pos c3] at H
  have c3b0:(a0_0 == 1)=true:=beq_iff_eq.mpr c3
  have c3b1:(a0_0 != 1)=false:=bne_eq_false_iff_eq.mpr c3
  clear c3
  by_cases c4:a1_0=1
  ·
   rw [if_pos c4] at H
   have c4b0:(a1_0 == 1)=true:=beq_iff_eq.mpr c4
   have c4b1:(a1_0 != 1)=false:=bne_eq_false_iff_eq.mpr c4
   clear c4
   simp only [Option.some.injEq,Prod.mk.injEq] at H
   obtain ⟨rfl,rfl⟩:=H
   go_enter Try.func57,Try.ntmps57
   go_wp2_with (first | ((with_reducible refine gate_dst (N:=2) rfl ?_);refine box_event ?hg (N:=2) ?hd (cs:=#[.int .i64 a0_0,.int .i64 a0_1]) (t:=24) ?hr ?_;(case hd => rfl);(case hg => rfl);(case hr => first | (go_simp;done) | (go_simp;rfl));intro gb151 hg w5 hbox hb;have n0_:=Aside0.mk (below_step (by repeat (first | (with_reducible first | exact HB.out | apply below_alloc | apply zH | apply below_drew1) | exact HB.out)) hb);have n1_:=Aside0.mk (hbox);have n2_:=Aside0.mk ((by rw [hg];exact (below_size (by repeat (first | (with_reducible first | exact HB.out | apply below_alloc | apply zH | apply below_drew1) | exact HB.out))):w.heap.size ≤ gb151));have n3_:=Aside0.mk ((by rw [hg];exact (below_size (by repeat (first | (with_reducible first | exact HB.out | apply below_alloc | apply zH | apply below_drew1) | exact HB.out))):w.heap.size ≤ gb151));clear HB;have HB:=n0_;have BK151:=n1_;have GW151:=n2_;have GE151:=n3_;clear n0_ n1_ n2_ n3_;clear hb hbox hg) | ((with_reducible refine gate_dst (N:=3) rfl ?_);refine box_event ?hg (N:=3) ?hd (cs:=#[.int .i64 a1_0,.int .i64 a1_1]) (t:=24) ?hr ?_;(case hd => rfl);(case hg => rfl);(case hr => first | (go_simp;done) | (go_simp;rfl));intro gb152 hg w6 hbox hb;have n0_:=Aside0.mk (zB (g:=gb151) (o:=.cells #[.int .i64 a0_0,.int .i64 a0_1] 24 (0,0)) (by (with_reducible repeat (first | refine blk_drewN ?_ _ | refine blk_drew ?_ | refine blk_alloc ?_ _));exact BK151.out) hb);have n1_:=Aside0.mk (below_step (by repeat (first | (with_reducible first | exact HB.out | apply below_alloc | apply zH | apply below_drew1 | refine below_set ?_ GE151.out) | exact HB.out)) hb);have n2_:=Aside0.mk (hbox);have n3_:=Aside0.mk ((by rw [hg];exact (below_size (by repeat (first | (with_reducible first | exact HB.out | apply below_alloc | apply zH | apply below_drew1 | refine below_set ?_ GE151.out) | exact HB.out))):w.heap.size ≤ gb152));have n4_:=Aside0.mk ((by rw [hg];exact (below_size (by repeat (first | (with_reducible first | exact HB.out | apply below_alloc | apply zH | apply below_drew1 | refine below_set ?_ GE151.out) | exact HB.out))):w.heap.size ≤ gb152));have n5_:=Aside0.mk ((by rw [hg];exact Nat.ne_of_lt (zE (g:=gb151) (o:=.cells #[.int .i64 a0_0,.int .i64 a0_1] 24 (0,0)) (by (with_reducible repeat (first | refine blk_drewN ?_ _ | refine blk_drew ?_ | refine blk_alloc ?_ _));exact BK151.out)):gb151 ≠ gb152));have n6_:=Aside0.mk ((by rw [hg];exact Nat.ne_of_gt (zE (g:=gb151) (o:=.cells #[.int .i64 a0_0,.int .i64 a0_1] 24 (0,0)) (by (with_reducible repeat (first | refine blk_drewN ?_ _ | refine blk_drew ?_ | refine blk_alloc ?_ _));exact BK151.out)):gb152 ≠ gb151));clear BK151;clear HB;have BK151:=n0_;have HB:=n1_;have BK152:=n2_;have GW152:=n3_;have GE152:=n4_;have NB151_152:=n5_;have NB152_151:=n6_;clear n0_ n1_ n2_ n3_ n4_ n5_ n6_;clear hb hbox hg;have hnb7:=NB151_152.out;have hnc7:=NB152_151.out;have hcz8_0:w6.cell? ⟨gb151,0,none⟩=some (.int .i64 a0_0):=(zC BK151.out 0).trans rfl;have hcz8_1:w6.cell? ⟨gb151,1,none⟩=some (.int .i64 a0_1):=(zC BK151.out 1).trans rfl;have hfz8_0:=zD BK151.out 0;have hfz8_1:=zD BK151.out 1;have hcz9_0:w6.cell? ⟨gb152,0,none⟩=some (.int .i64 a1_0):=(zC BK152.out 0).trans rfl;have hcz9_1:w6.cell? ⟨gb152,1,none⟩=some (.int .i64 a1_1):=(zC BK152.out 1).trans rfl;have hfz9_0:=zD BK152.out 0;have hfz9_1:=zD BK152.out 1))
   go_ret2
   exact ⟨by first | rfl | (simp [errW_none,errW_some] <;> rfl) | (simp [*,errW_none,errW_some] <;> rfl),by repeat (first | (with_reducible first | exact HB.out | apply below_alloc | apply zH | apply below_drew1 | refine below_set ?_ GE151.out | refine below_set ?_ GE152.out) | exact HB.out)⟩
  ·
   rw [if_neg c4] at H
   have c4b0:(a1_0 == 1)=false:=beq_eq_false_iff_ne.mpr c4
   have c4b1:(a1_0 != 1)=true:=bne_iff_ne.mpr c4
   simp only [Option.some.injEq,Prod.mk.injEq] at H
   obtain ⟨rfl,rfl⟩:=H
   go_enter Try.func57,Try.ntmps57
   go_wp2_with (first | ((with_reducible refine gate_dst (N:=2) rfl ?_);refine box_event ?hg (N:=2) ?hd (cs:=#[.int .i64 a0_0,.int .i64 a0_1]) (t:=24) ?hr ?_;(case hd => rfl);(case hg => rfl);(case hr => first | (go_simp;done) | (go_simp;rfl));intro gb151 hg w10 hbox hb;have n0_:=Aside0.mk (below_step (by repeat (first | (with_reducible first | exact HB.out | apply below_alloc | apply zH | apply below_drew1) | exact HB.out)) hb);have n1_:=Aside0.mk (hbox);have n2_:=Aside0.mk ((by rw [hg];exact (below_size (by repeat (first | (with_reducible first | exact HB.out | apply below_alloc | apply zH | apply below_drew1) | exact HB.out))):w.heap.size ≤ gb151));have n3_:=Aside0.mk ((by rw [hg];exact (below_size (by repeat (first | (with_reducible first | exact HB.out | apply below_alloc | apply zH | apply below_drew1) | exact HB.out))):w.heap.size ≤ gb151));clear HB;have HB:=n0_;have BK151:=n1_;have GW151:=n2_;have GE151:=n3_;clear n0_ n1_ n2_ n3_;clear hb hbox hg) | ((with_reducible refine gate_dst (N:=3) rfl ?_);refine box_event ?hg (N:=3) ?hd (cs:=#[.int .i64 a1_0,.int .i64 a1_1]) (t:=24) ?hr ?_;(case hd => rfl);(case hg => rfl);(case hr => first | (go_simp;done) | (go_simp;rfl));intro gb152 hg w11 hbox hb;have n0_:=Aside0.mk (zB (g:=gb151) (o:=.cells #[.int .i64 a0_0,.int .i64 a0_1] 24 (0,0)) (by (with_reducible repeat (first | refine blk_drewN ?_ _ | refine blk_drew ?_ | refine blk_alloc ?_ _));exact BK151.out) hb);have n1_:=Aside0.mk (below_step (by repeat (first | (with_reducible first | exact HB.out | apply below_alloc | apply zH | apply below_drew1 | refine below_set ?_ GE151.out) | exact HB.out)) hb);have n2_:=Aside0.mk (hbox);have n3_:=Aside0.mk ((by rw [hg];exact (below_size (by repeat (first | (with_reducible first | exact HB.out | apply below_alloc | apply zH | apply below_drew1 | refine below_set ?_ GE151.out) | exact HB.out))):w.heap.size ≤ gb152));have n4_:=Aside0.mk ((by rw [hg];exact (below_size (by repeat (first | (with_reducible first | exact HB.out | apply below_alloc | apply zH | apply below_drew1 | refine below_set ?_ GE151.out) | exact HB.out))):w.heap.size ≤ gb152));have n5_:=Aside0.mk ((by rw [hg];exact Nat.ne_of_lt (zE (g:=gb151) (o:=.cells #[.int .i64 a0_0,.int .i64 a0_1] 24 (0,0)) (by (with_reducible repeat (first | refine blk_drewN ?_ _ | refine blk_drew ?_ | refine blk_alloc ?_ _));exact BK151.out)):gb151 ≠ gb152));have n6_:=Aside0.mk ((by rw [hg];exact Nat.ne_of_gt (zE (g:=gb151) (o:=.cells #[.int .i64 a0_0,.int .i64 a0_1] 24 (0,0)) (by (with_reducible repeat (first | refine blk_drewN ?_ _ | refine blk_drew ?_ | refine blk_alloc ?_ _));exact BK151.out)):gb152 ≠ gb151));clear BK151;clear HB;have BK151:=n0_;have HB:=n1_;have BK152:=n2_;have GW152:=n3_;have GE152:=n4_;have NB151_152:=n5_;have NB152_151:=n6_;clear n0_ n1_ n2_ n3_ n4_ n5_ n6_;clear hb hbox hg;have hnb12:=NB151_152.out;have hnc12:=NB152_151.out;have hcz13_0:w11.cell? ⟨gb151,0,none⟩=some (.int .i64 a0_0):=(zC BK151.out 0).trans rfl;have hcz13_1:w11.cell? ⟨gb151,1,none⟩=some (.int .i64 a0_1):=(zC BK151.out 1).trans rfl;have hfz13_0:=zD BK151.out 0;have hfz13_1:=zD BK151.out 1;have hcz14_0:w11.cell? ⟨gb152,0,none⟩=some (.int .i64 a1_0):=(zC BK152.out 0).trans rfl;have hcz14_1:w11.cell? ⟨gb152,1,none⟩=some (.int .i64 a1_1):=(zC BK152.out 1).trans rfl;have hfz14_0:=zD BK152.out 0;have hfz14_1:=zD BK152.out 1))
   go_ret2
   exact ⟨by first | rfl | (simp [errW_none,errW_some] <;> rfl) | (simp [*,errW_none,errW_some] <;> rfl),by repeat (first | (with_reducible first | exact HB.out | apply below_alloc | apply zH | apply below_drew1 | refine below_set ?_ GE151.out | refine below_set ?_ GE152.out) | exact HB.out)⟩
 ·
  rw [if_neg c3] at H
  have c3b0:(a0_0 == 1)=false:=beq_eq_false_iff_ne.mpr c3
  have c3b1:(a0_0 != 1)=true:=bne_iff_ne.mpr c3
  simp only [Option.some.injEq,Prod.mk.injEq] at H
  obtain ⟨rfl,rfl⟩:=H
  go_enter Try.func57,Try.ntmps57
  go_wp2_with (first | ((with_reducible refine gate_dst (N:=2) rfl ?_);refine box_event ?hg (N:=2) ?hd (cs:=#[.int .i64 a0_0,.int .i64 a0_1]) (t:=24) ?hr ?_;(case hd => rfl);(case hg => rfl);(case hr => first | (go_simp;done) | (go_simp;rfl));intro gb151 hg w15 hbox hb;have n0_:=Aside0.mk (below_step (by repeat (first | (with_reducible first | exact HB.out | apply below_alloc | apply zH | apply below_drew1) | exact HB.out)) hb);have n1_:=Aside0.mk (hbox);have n2_:=Aside0.mk ((by rw [hg];exact (below_size (by repeat (first | (with_reducible first | exact HB.out | apply below_alloc | apply zH | apply below_drew1) | exact HB.out))):w.heap.size ≤ gb151));have n3_:=Aside0.mk ((by rw [hg];exact (below_size (by repeat (first | (with_reducible first | exact HB.out | apply below_alloc | apply zH | apply below_drew1) | exact HB.out))):w.heap.size ≤ gb151));clear HB;have HB:=n0_;have BK151:=n1_;have GW151:=n2_;have GE151:=n3_;clear n0_ n1_ n2_ n3_;clear hb hbox hg) | ((with_reducible refine gate_dst (N:=3) rfl ?_);refine box_event ?hg (N:=3) ?hd (cs:=#[.int .i64 a1_0,.int .i64 a1_1]) (t:=24) ?hr ?_;(case hd => rfl);(case hg => rfl);(case hr => first | (go_simp;done) | (go_simp;rfl));intro gb152 hg w16 hbox hb;have n0_:=Aside0.mk (zB (g:=gb151) (o:=.cells #[.int .i64 a0_0,.int .i64 a0_1] 24 (0,0)) (by (with_reducible repeat (first | refine blk_drewN ?_ _ | refine blk_drew ?_ | refine blk_alloc ?_ _));exact BK151.out) hb);have n1_:=Aside0.mk (below_step (by repeat (first | (with_reducible first | exact HB.out | apply below_alloc | apply zH | apply below_drew1 | refine below_set ?_ GE151.out) | exact HB.out)) hb);have n2_:=Aside0.mk (hbox);have n3_:=Aside0.mk ((by rw [hg];exact (below_size (by repeat (first | (with_reducible first | exact HB.out | apply below_alloc | apply zH | apply below_drew1 | refine below_set ?_ GE151.out) | exact HB.out))):w.heap.size ≤ gb152));have n4_:=Aside0.mk ((by rw [hg];exact (below_size (by repeat (first | (with_reducible first | exact HB.out | apply below_alloc | apply zH | apply below_drew1 | refine below_set ?_ GE151.out) | exact HB.out))):w.heap.size ≤ gb152));have n5_:=Aside0.mk ((by rw [hg];exact Nat.ne_of_lt (zE (g:=gb151) (o:=.cells #[.int .i64 a0_0,.int .i64 a0_1] 24 (0,0)) (by (with_reducible repeat (first | refine blk_drewN ?_ _ | refine blk_drew ?_ | refine blk_alloc ?_ _));exact BK151.out)):gb151 ≠ gb152));have n6_:=Aside0.mk ((by rw [hg];exact Nat.ne_of_gt (zE (g:=gb151) (o:=.cells #[.int .i64 a0_0,.int .i64 a0_1] 24 (0,0)) (by (with_reducible repeat (first | refine blk_drewN ?_ _ | refine blk_drew ?_ | refine blk_alloc ?_ _));exact BK151.out)):gb152 ≠ gb151));clear BK151;clear HB;have BK151:=n0_;have HB:=n1_;have BK152:=n2_;have GW152:=n3_;have GE152:=n4_;have NB151_152:=n5_;have NB152_151:=n6_;clear n0_ n1_ n2_ n3_ n4_ n5_ n6_;clear hb hbox hg;have hnb17:=NB151_152.out;have hnc17:=NB152_151.out;have hcz18_0:w16.cell? ⟨gb151,0,none⟩=some (.int .i64 a0_0):=(zC BK151.out 0).trans rfl;have hcz18_1:w16.cell? ⟨gb151,1,none⟩=some (.int .i64 a0_1):=(zC BK151.out 1).trans rfl;have hfz18_0:=zD BK151.out 0;have hfz18_1:=zD BK151.out 1))
  go_ret2
  exact ⟨by first | rfl | (simp [errW_none,errW_some] <;> rfl) | (simp [*,errW_none,errW_some] <;> rfl),by repeat (first | (with_reducible first | exact HB.out | apply below_alloc | apply zH | apply below_drew1 | refine below_set ?_ GE151.out | refine below_set ?_ GE152.out) | exact HB.out)⟩
def warpbeamref06_Do.j0:Nat → Int → Bool → Int → Int → Int → Int → Option (Int × Int × Int)
 | 0,_,_,_,_,_,_ => none
 | k + 1,x0,x15,x154000,x154001,x155000,x155001 => if x15=true then (some (0,0,7)) else (if x0=43 then (some (1,wrap64 (x154001 + x155001),0)) else (if x0=45 then (some (1,wrap64 (x154001 - x155001),0)) else (some (1,wrap64 (x154001 * x155001),0))))
def warpbeamref06_Do.f (k:Nat) (a0:Int) (a1_0:Int) (a1_1:Int) (a2_0:Int) (a2_1:Int):Option (Int × Int × Int):=if a1_0=1 then (warpbeamref06_Do.j0 k a0 (a2_0 != 1) a1_0 a1_1 a2_0 a2_1) else (warpbeamref06_Do.j0 k a0 true a1_0 a1_1 a2_0 a2_1)
set_option maxHeartbeats 8000000 in
set_option maxRecDepth 100000 in
theorem warpbeamref06_Do.calls (k : Nat) (a0 : Int) (a1_0 : Int) (a1_1 : Int) (a2_0 : Int) (a2_1 : Int) (r1 : Int) (r2 : Int) (r3 : Int) (w : World) (h : warpbeamref06_Do.f k a0 a1_0 a1_1 a2_0 a2_1 = some (r1, r2, r3)) :
  Calls Try.prog 58 #[.int .u8 a0,.agg #[.int .i64 a1_0,.int .i64 a1_1],.agg #[.int .i64 a2_0,.int .i64 a2_1]] w fun e w' => e=.returned (.tuple #[.agg #[.int .i64 r1,.int .i64 r2],.int .i64 r3])∧Below w.heap.size w w':=by
 have hu24:=Try.underlying24
 have HB:=Aside0.mk (Below.refl w.heap.size w)
 have H:(if a1_0=1 then (warpbeamref06_Do.j0 k a0 (a2_0 != 1) a1_0 a1_1 a2_0 a2_1) else (warpbeamref06_Do.j0 k a0 true a1_0 a1_1 a2_0 a2_1))=some (r1,r2,r3):=h
 clear h
 have HC4:=Aside0.mk H
 clear H
 go_enter Try.func58,Try.ntmps58
 go_upto_region 1 with (first | ((with_reducible refine gate_dst (N:=4) rfl ?_);refine box_event ?hg (N:=4) ?hd (cs:=#[.int .i64 a1_0,.int .i64 a1_1]) (t:=24) ?hr ?_;(case hd => rfl);(case hg => rfl);(case hr => first | (go_simp;done) | (go_simp;rfl));intro gb153 hg w5 hbox hb;have n0_:=Aside0.mk (below_step (by repeat (first | (with_reducible first | exact HB.out | apply below_alloc | apply zH | apply below_drew1) | exact HB.out)) hb);have n1_:=Aside0.mk (hbox);have n2_:=Aside0.mk ((by rw [hg];exact (below_size (by repeat (first | (with_reducible first | exact HB.out | apply below_alloc | apply zH | apply below_drew1) | exact HB.out))):w.heap.size ≤ gb153));have n3_:=Aside0.mk ((by rw [hg];exact (below_size (by repeat (first | (with_reducible first | exact HB.out | apply below_alloc | apply zH | apply below_drew1) | exact HB.out))):w.heap.size ≤ gb153));clear HB;have HB:=n0_;have BK153:=n1_;have GW153:=n2_;have GE153:=n3_;clear n0_ n1_ n2_ n3_;clear hb hbox hg) | ((with_reducible refine gate_dst (N:=5) rfl ?_);refine box_event ?hg (N:=5) ?hd (cs:=#[.int .i64 a2_0,.int .i64 a2_1]) (t:=24) ?hr ?_;(case hd => rfl);(case hg => rfl);(case hr => first | (go_simp;done) | (go_simp;rfl));intro gb154 hg w6 hbox hb;have n0_:=Aside0.mk (zB (g:=gb153) (o:=.cells #[.int .i64 a1_0,.int .i64 a1_1] 24 (0,0)) (by (with_reducible repeat (first | refine blk_drewN ?_ _ | refine blk_drew ?_ | refine blk_alloc ?_ _));exact BK153.out) hb);have n1_:=Aside0.mk (below_step (by repeat (first | (with_reducible first | exact HB.out | apply below_alloc | apply zH | apply below_drew1 | refine below_set ?_ GE153.out) | exact HB.out)) hb);have n2_:=Aside0.mk (hbox);have n3_:=Aside0.mk ((by rw [hg];exact (below_size (by repeat (first | (with_reducible first | exact HB.out | apply below_alloc | apply zH | apply below_drew1 | refine below_set ?_ GE153.out) | exact HB.out))):w.heap.size ≤ gb154));have n4_:=Aside0.mk ((by rw [hg];exact (below_size (by repeat (first | (with_reducible first | exact HB.out | apply below_alloc | apply zH | apply below_drew1 | refine below_set ?_ GE153.out) | exact HB.out))):w.heap.size ≤ gb154));have n5_:=Aside0.mk ((by rw [hg];exact Nat.ne_of_lt (zE (g:=gb153) (o:=.cells #[.int .i64 a1_0,.int .i64 a1_1] 24 (0,0)) (by (with_reducible repeat (first | refine blk_drewN ?_ _ | refine blk_drew ?_ | refine blk_alloc ?_ _));exact BK153.out)):gb153 ≠ gb154));have n6_:=Aside0.mk ((by rw [hg];exact Nat.ne_of_gt (zE (g:=gb153) (o:=.cells #[.int .i64 a1_0,.int .i64 a1_1] 24 (0,0)) (by (with_reducible repeat (first | refine blk_drewN ?_ _ | refine blk_drew ?_ | refine blk_alloc ?_ _));exact BK153.out)):gb154 ≠ gb153));clear BK153;clear HB;have BK153:=n0_;have HB:=n1_;have BK154:=n2_;have GW154:=n3_;have GE154:=n4_;have NB153_154:=n5_;have NB154_153:=n6_;clear n0_ n1_ n2_ n3_ n4_ n5_ n6_;clear hb hbox hg) | ((with_reducible refine gate_dst (N:=6) rfl ?_);refine box_event ?hg (N:=6) ?hd (cs:=#[.int .i64 0,.int .i64 0]) (t:=24) ?hr ?_;(case hd => rfl);(case hg => rfl);(case hr => first | (go_simp;done) | (go_simp;rfl));intro gb155 hg w7 hbox hb;have n0_:=Aside0.mk (zB (g:=gb153) (o:=.cells #[.int .i64 a1_0,.int .i64 a1_1] 24 (0,0)) (by (with_reducible repeat (first | refine blk_drewN ?_ _ | refine blk_drew ?_ | refine blk_alloc ?_ _));exact BK153.out) hb);have n1_:=Aside0.mk (zB (g:=gb154) (o:=.cells #[.int .i64 a2_0,.int .i64 a2_1] 24 (0,0)) (by (with_reducible repeat (first | refine blk_drewN ?_ _ | refine blk_drew ?_ | refine blk_alloc ?_ _));exact BK154.out) hb);have n2_:=Aside0.mk (below_step (by repeat (first | (with_reducible first | exact HB.out | apply below_alloc | apply zH | apply below_drew1 | refine below_set ?_ GE153.out | refine below_set ?_ GE154.out) | exact HB.out)) hb);have n3_:=Aside0.mk (hbox);have n4_:=Aside0.mk ((by rw [hg];exact (below_size (by repeat (first | (with_reducible first | exact HB.out | apply below_alloc | apply zH | apply below_drew1 | refine below_set ?_ GE153.out | refine below_set ?_ GE154.out) | exact HB.out))):w.heap.size ≤ gb155));have n5_:=Aside0.mk ((by rw [hg];exact (below_size (by repeat (first | (with_reducible first | exact HB.out | apply below_alloc | apply zH | apply below_drew1 | refine below_set ?_ GE153.out | refine below_set ?_ GE154.out) | exact HB.out))):w.heap.size ≤ gb155));have n6_:=Aside0.mk ((by rw [hg];exact Nat.ne_of_lt (zE (g:=gb153) (o:=.cells #[.int .i64 a1_0,.int .i64 a1_1] 24 (0,0)) (by (with_reducible repeat (first | refine blk_drewN ?_ _ | refine blk_drew ?_ | refine blk_alloc ?_ _));exact BK153.out)):gb153 ≠ gb155));have n7_:=Aside0.mk ((by rw [hg];exact Nat.ne_of_gt (zE (g:=gb153) (o:=.cells #[.int .i64 a1_0,.int .i64 a1_1] 24 (0,0)) (by (with_reducible repeat (first | refine blk_drewN ?_ _ | refine blk_drew ?_ | refine blk_alloc ?_ _));exact BK153.out)):gb155 ≠ gb153));have n8_:=Aside0.mk ((by rw [hg];exact Nat.ne_of_lt (zE (g:=gb154) (o:=.cells #[.int .i64 a2_0,.int .i64 a2_1] 24 (0,0)) (by (with_reducible repeat (first | refine blk_drewN ?_ _ | refine blk_drew ?_ | refine blk_alloc ?_ _));exact BK154.out)):gb154 ≠ gb155));have n9_:=Aside0.mk ((by rw [hg];exact Nat.ne_of_gt (zE (g:=gb154) (o:=.cells #[.int .i64 a2_0,.int .i64 a2_1] 24 (0,0)) (by (with_reducible repeat (first | refine blk_drewN ?_ _ | refine blk_drew ?_ | refine blk_alloc ?_ _));exact BK154.out)):gb155 ≠ gb154));clear BK153;clear BK154;clear HB;have BK153:=n0_;have BK154:=n1_;have HB:=n2_;have BK155:=n3_;have GW155:=n4_;have GE155:=n5_;have NB153_155:=n6_;have NB155_153:=n7_;have NB154_155:=n8_;have NB155_154:=n9_;clear n0_ n1_ n2_ n3_ n4_ n5_ n6_ n7_ n8_ n9_;clear hb hbox hg))
 (try simp only [Act.put,zI,zJ,zK])
 go_cut [15] (fun v15 wc => ∃ (kq:Nat) (x15_3:Bool),v15=.bool x15_3∧Aside0 (warpbeamref06_Do.j0 kq a0 x15_3 a1_0 a1_1 a2_0 a2_1=some (r1,r2,r3))∧Aside0 (kq ≤ k)∧Aside0 (wc.heap[gb153]?=some (.cells #[.int .i64 a1_0,.int .i64 a1_1] 24 (0,0)))∧Aside0 (wc.heap[gb154]?=some (.cells #[.int .i64 a2_0,.int .i64 a2_1] 24 (0,0)))∧Aside0 (wc.heap[gb155]?=some (.cells #[.int .i64 0,.int .i64 0] 24 (0,0)))∧Aside0 (Below w.heap.size w wc))
 case first =>
  have H:=HC4.out
  clear HC4
  by_cases c8:a1_0=1
  ·
   rw [if_pos c8] at H
   have c8b0:(a1_0 == 1)=true:=beq_iff_eq.mpr c8
   have c8b1:(a1_0 != 1)=false:=bne_eq_false_iff_eq.mpr c8
   clear c8
   (first | rw [c8b0] | (simp only [i64_w,i32_w];rw [c8b0]) | skip)
   have H':=Aside0.mk H
   clear H
   have hnb9:=NB153_154.out
   have hnc9:=NB154_153.out
   have hnb10:=NB153_155.out
   have hnc10:=NB155_153.out
   have hcz11_0:w7.cell? ⟨gb153,0,none⟩=some (.int .i64 a1_0):=(zC BK153.out 0).trans rfl
   have hcz11_1:w7.cell? ⟨gb153,1,none⟩=some (.int .i64 a1_1):=(zC BK153.out 1).trans rfl
   have hfz11_0:=zD BK153.out 0
   have hfz11_1:=zD BK153.out 1
   have hnb12:=NB154_155.out
   have hnc12:=NB155_154.out
   have hcz13_0:w7.cell? ⟨gb154,0,none⟩=some (.int .i64 a2_0):=(zC BK154.out 0).trans rfl
   have hcz13_1:w7.cell? ⟨gb154,1,none⟩=some (.int .i64 a2_1):=(zC BK154.out 1).trans rfl
   have hfz13_0:=zD BK154.out 0
   have hfz13_1:=zD BK154.out 1
   go_wp2
   go_meet
   case rel => exact ⟨_,((a2_0 != 1)),(by first | rfl | (simp;done) | (simp [*];done)),H',⟨by first | omega | exact Nat.le_refl _⟩,⟨by (with_reducible repeat (first | refine blk_drewN ?_ _ | refine blk_drew ?_ | refine blk_alloc ?_ _));exact BK153.out⟩,⟨by (with_reducible repeat (first | refine blk_drewN ?_ _ | refine blk_drew ?_ | refine blk_alloc ?_ _));exact BK154.out⟩,⟨by (with_reducible repeat (first | refine blk_drewN ?_ _ | refine blk_drew ?_ | refine blk_alloc ?_ _));exact BK155.out⟩,⟨by repeat (first | (with_reducible first | exact HB.out | apply below_alloc | apply zH | apply below_drew1 | refine below_set ?_ GE153.out | refine below_set ?_ GE154.out | refine below_set ?_ GE155.out) | exact HB.out)⟩⟩
  ·
   rw [if_neg c8] at H
   have c8b0:(a1_0 == 1)=false:=beq_eq_false_iff_ne.mpr c8
   have c8b1:(a1_0 != 1)=true:=bne_iff_ne.mpr c8
   (first | rw [c8b0] | (simp only [i64_w,i32_w];rw [c8b0]) | skip)
   have H':=Aside0.mk H
   clear H
   have hnb14:=NB153_154.out
   have hnc14:=NB154_153.out
   have hnb15:=NB153_155.out
   have hnc15:=NB155_153.out
   have hcz16_0:w7.cell? ⟨gb153,0,none⟩=some (.int .i64 a1_0):=(zC BK153.out 0).trans rfl
   have hcz16_1:w7.cell? ⟨gb153,1,none⟩=some (.int .i64 a1_1):=(zC BK153.out 1).trans rfl
   have hfz16_0:=zD BK153.out 0
   have hfz16_1:=zD BK153.out 1
   go_wp2
   go_meet
   case rel => exact ⟨_,(true),(by first | rfl | (simp;done) | (simp [*];done)),H',⟨by first | omega | exact Nat.le_refl _⟩,⟨by (with_reducible repeat (first | refine blk_drewN ?_ _ | refine blk_drew ?_ | refine blk_alloc ?_ _));exact BK153.out⟩,⟨by (with_reducible repeat (first | refine blk_drewN ?_ _ | refine blk_drew ?_ | refine blk_alloc ?_ _));exact BK154.out⟩,⟨by (with_reducible repeat (first | refine blk_drewN ?_ _ | refine blk_drew ?_ | refine blk_alloc ?_ _));exact BK155.out⟩,⟨by repeat (first | (with_reducible first | exact HB.out | apply below_alloc | apply zH | apply below_drew1 | refine below_set ?_ GE153.out | refine below_set ?_ GE154.out | refine below_set ?_ GE155.out) | exact HB.out)⟩⟩
 case rest =>
  clear HC4
  try clear c1
  try clear p2
  try clear c5
  try clear c8
  try clear c8b0
  try clear c8b1
  try clear c9
  try clear c10
  try clear c12
  try clear c14
  try clear c15
  try clear hcz11_0
  try clear hcz11_1
  try clear hcz13_0
  try clear hcz13_1
  try clear hcz16_0
  try clear hcz16_1
  try clear hfz11_0
  try clear hfz11_1
  try clear hfz13_0
  try clear hfz13_1
  try clear hfz16_0
  try clear hfz16_1
  obtain ⟨kq,x15_3,rfl,HA,HJ3,BK153,BK154,BK155,HB⟩:=hcut
  cases kq with
  | zero => exact absurd HA.out (by simp [warpbeamref06_Do.j0])
  | succ kj3 =>
   have H:=HA.out
   clear HA
   simp only [warpbeamref06_Do.j0] at H
   by_cases c17:x15_3=true
   ·
    subst c17
    have H1:(some (0,0,7))=some (r1,r2,r3):=by rw [if_pos rfl] at H;exact H
    clear H
    have H:=H1
    clear H1
    simp only [Option.some.injEq,Prod.mk.injEq] at H
    obtain ⟨rfl,rfl,rfl⟩:=H
    have hnb18:=NB155_153.out
    have hnc18:=NB153_155.out
    have hnb19:=NB155_154.out
    have hnc19:=NB154_155.out
    have hcz20_0:wc.cell? ⟨gb155,0,none⟩=some (.int .i64 0):=(zC BK155.out 0).trans rfl
    have hcz20_1:wc.cell? ⟨gb155,1,none⟩=some (.int .i64 0):=(zC BK155.out 1).trans rfl
    have hfz20_0:=zD BK155.out 0
    have hfz20_1:=zD BK155.out 1
    go_wp2
    refine bodyPost_ret (results_ct rfl _ _ gb155 24 #[.int .i64 0,.int .i64 0] (0,0) _ rfl (by (with_reducible repeat (first | refine blk_drewN ?_ _ | refine blk_drew ?_ | refine blk_alloc ?_ _));refine blk_put (cs:=#[.int .i64 0,.int .i64 0]) ?_ 1 _ rfl;(with_reducible repeat (first | refine blk_drewN ?_ _ | refine blk_drew ?_ | refine blk_alloc ?_ _));refine blk_put (cs:=#[.int .i64 0,.int .i64 0]) ?_ 0 _ rfl;(with_reducible repeat (first | refine blk_drewN ?_ _ | refine blk_drew ?_ | refine blk_alloc ?_ _));exact BK155.out) Try.underlying24 rfl (by kernel_rfl)) rfl ?_
    exact ⟨by first | rfl | (simp [errW_none,errW_some] <;> rfl) | (simp [*,errW_none,errW_some] <;> rfl),by repeat (first | (with_reducible first | exact HB.out | apply below_alloc | apply zH | apply below_drew1 | refine below_set ?_ GE153.out | refine below_set ?_ GE154.out | refine below_set ?_ GE155.out) | exact HB.out)⟩
   ·
    replace c17:=Bool.eq_false_iff.mpr c17
    subst c17
    have H1:(if a0=43 then (some (1,wrap64 (a1_1 + a2_1),0)) else (if a0=45 then (some (1,wrap64 (a1_1 - a2_1),0)) else (some (1,wrap64 (a1_1 * a2_1),0))))=some (r1,r2,r3):=by rw [if_neg (show ¬ (false=true) by decide)] at H;exact H
    clear H
    have H:=H1
    clear H1
    by_cases c21:a0=43
    ·
     rw [if_pos c21] at H
     have c21b0:(a0 == 43)=true:=beq_iff_eq.mpr c21
     have c21b1:(a0 != 43)=false:=bne_eq_false_iff_eq.mpr c21
     clear c21
     simp only [Option.some.injEq,Prod.mk.injEq] at H
     obtain ⟨rfl,rfl,rfl⟩:=H
     have hnb22:=NB153_154.out
     have hnc22:=NB154_153.out
     have hnb23:=NB153_155.out
     have hnc23:=NB155_153.out
     have hcz24_0:wc.cell? ⟨gb153,0,none⟩=some (.int .i64 a1_0):=(zC BK153.out 0).trans rfl
     have hcz24_1:wc.cell? ⟨gb153,1,none⟩=some (.int .i64 a1_1):=(zC BK153.out 1).trans rfl
     have hfz24_0:=zD BK153.out 0
     have hfz24_1:=zD BK153.out 1
     have hnb25:=NB154_155.out
     have hnc25:=NB155_154.out
     have hcz26_0:wc.cell? ⟨gb154,0,none⟩=some (.int .i64 a2_0):=(zC BK154.out 0).trans rfl
     have hcz26_1:wc.cell? ⟨gb154,1,none⟩=some (.int .i64 a2_1):=(zC BK154.out 1).trans rfl
     have hfz26_0:=zD BK154.out 0
     have hfz26_1:=zD BK154.out 1
     have hcz27_0:wc.cell? ⟨gb155,0,none⟩=some (.int .i64 0):=(zC BK155.out 0).trans rfl
     have hcz27_1:wc.cell? ⟨gb155,1,none⟩=some (.int .i64 0):=(zC BK155.out 1).trans rfl
     have hfz27_0:=zD BK155.out 0
     have hfz27_1:=zD BK155.out 1
     go_wp2
     refine bodyPost_ret (results_ct rfl _ _ gb155 24 #[.int .i64 1,.int .i64 (wrap64 (a1_1 + a2_1))] (0,0) _ rfl (by (with_reducible repeat (first | refine blk_drewN ?_ _ | refine blk_drew ?_ | refine blk_alloc ?_ _));refine blk_put (cs:=#[.int .i64 1,.int .i64 0]) ?_ 1 _ rfl;(with_reducible repeat (first | refine blk_drewN ?_ _ | refine blk_drew ?_ | refine blk_alloc ?_ _));refine blk_put (cs:=#[.int .i64 0,.int .i64 0]) ?_ 0 _ rfl;(with_reducible repeat (first | refine blk_drewN ?_ _ | refine blk_drew ?_ | refine blk_alloc ?_ _));exact BK155.out) Try.underlying24 rfl (by kernel_rfl)) rfl ?_
     exact ⟨by first | rfl | (simp [errW_none,errW_some] <;> rfl) | (simp [*,errW_none,errW_some] <;> rfl),by repeat (first | (with_reducible first | exact HB.out | apply below_alloc | apply zH | apply below_drew1 | refine below_set ?_ GE153.out | refine below_set ?_ GE154.out | refine below_set ?_ GE155.out) | exact HB.out)⟩
    ·
     rw [if_neg c21] at H
     have c21b0:(a0 == 43)=false:=beq_eq_false_iff_ne.mpr c21
     have c21b1:(a0 != 43)=true:=bne_iff_ne.mpr c21
     by_cases c28:a0=45
     ·
      rw [if_pos c28] at H
      have c28b0:(a0 == 45)=true:=beq_iff_eq.mpr c28
      have c28b1:(a0 != 45)=false:=bne_eq_false_iff_eq.mpr c28
      clear c28
      simp only [Option.some.injEq,Prod.mk.injEq] at H
      obtain ⟨rfl,rfl,rfl⟩:=H
      have hnb29:=NB153_154.out
      have hnc29:=NB154_153.out
      have hnb30:=NB153_155.out
      have hnc30:=NB155_153.out
      have hcz31_0:wc.cell? ⟨gb153,0,none⟩=some (.int .i64 a1_0):=(zC BK153.out 0).trans rfl
      have hcz31_1:wc.cell? ⟨gb153,1,none⟩=some (.int .i64 a1_1):=(zC BK153.out 1).trans rfl
      have hfz31_0:=zD BK153.out 0
      have hfz31_1:=zD BK153.out 1
      have hnb32:=NB154_155.out
      have hnc32:=NB155_154.out
      have hcz33_0:wc.cell? ⟨gb154,0,none⟩=some (.int .i64 a2_0):=(zC BK154.out 0).trans rfl
      have hcz33_1:wc.cell? ⟨gb154,1,none⟩=some (.int .i64 a2_1):=(zC BK154.out 1).trans rfl
      have hfz33_0:=zD BK154.out 0
      have hfz33_1:=zD BK154.out 1
      have hcz34_0:wc.cell? ⟨gb155,0,none⟩=some (.int .i64 0):=(zC BK155.out 0).trans rfl
      have hcz34_1:wc.cell? ⟨gb155,1,none⟩=some (.int .i64 0):=(zC BK155.out 1).trans rfl
      have hfz34_0:=zD BK155.out 0
      have hfz34_1:=zD BK155.out 1
      go_wp2
      refine bodyPost_ret (results_ct rfl _ _ gb155 24 #[.int .i64 1,.int .i64 (wrap64 (a1_1 - a2_1))] (0,0) _ rfl (by (with_reducible repeat (first | refine blk_drewN ?_ _ | refine blk_drew ?_ | refine blk_alloc ?_ _));refine blk_put (cs:=#[.int .i64 1,.int .i64 0]) ?_ 1 _ rfl;(with_reducible repeat (first | refine blk_drewN ?_ _ | refine blk_drew ?_ | refine blk_alloc ?_ _));refine blk_put (cs:=#[.int .i64 0,.int .i64 0]) ?_ 0 _ rfl;(with_reducible repeat (first | refine blk_drewN ?_ _ | refine blk_drew ?_ | refine blk_alloc ?_ _));exact BK155.out) Try.underlying24 rfl (by kernel_rfl)) rfl ?_
      exact ⟨by first | rfl | (simp [errW_none,errW_some] <;> rfl) | (simp [*,errW_none,errW_some] <;> rfl),by repeat (first | (with_reducible first | exact HB.out | apply below_alloc | apply zH | apply below_drew1 | refine below_set ?_ GE153.out | refine below_set ?_ GE154.out | refine below_set ?_ GE155.out) | exact HB.out)⟩
     ·
      rw [if_neg c28] at H
      have c28b0:(a0 == 45)=false:=beq_eq_false_iff_ne.mpr c28
      have c28b1:(a0 != 45)=true:=bne_iff_ne.mpr c28
      simp only [Option.some.injEq,Prod.mk.injEq] at H
      obtain ⟨rfl,rfl,rfl⟩:=H
      have hnb35:=NB153_154.out
      have hnc35:=NB154_153.out
      have hnb36:=NB153_155.out
      have hnc36:=NB155_153.out
      have hcz37_0:wc.cell? ⟨gb153,0,none⟩=some (.int .i64 a1_0):=(zC BK153.out 0).trans rfl
      have hcz37_1:wc.cell? ⟨gb153,1,none⟩=some (.int .i64 a1_1):=(zC BK153.out 1).trans rfl
      have hfz37_0:=zD BK153.out 0
      have hfz37_1:=zD BK153.out 1
      have hnb38:=NB154_155.out
      have hnc38:=NB155_154.out
      have hcz39_0:wc.cell? ⟨gb154,0,none⟩=some (.int .i64 a2_0):=(zC BK154.out 0).trans rfl
      have hcz39_1:wc.cell? ⟨gb154,1,none⟩=some (.int .i64 a2_1):=(zC BK154.out 1).trans rfl
      have hfz39_0:=zD BK154.out 0
      have hfz39_1:=zD BK154.out 1
      have hcz40_0:wc.cell? ⟨gb155,0,none⟩=some (.int .i64 0):=(zC BK155.out 0).trans rfl
      have hcz40_1:wc.cell? ⟨gb155,1,none⟩=some (.int .i64 0):=(zC BK155.out 1).trans rfl
      have hfz40_0:=zD BK155.out 0
      have hfz40_1:=zD BK155.out 1
      go_wp2
      refine bodyPost_ret (results_ct rfl _ _ gb155 24 #[.int .i64 1,.int .i64 (wrap64 (a1_1 * a2_1))] (0,0) _ rfl (by (with_reducible repeat (first | refine blk_drewN ?_ _ | refine blk_drew ?_ | refine blk_alloc ?_ _));refine blk_put (cs:=#[.int .i64 1,.int .i64 0]) ?_ 1 _ rfl;(with_reducible repeat (first | refine blk_drewN ?_ _ | refine blk_drew ?_ | refine blk_alloc ?_ _));refine blk_put (cs:=#[.int .i64 0,.int .i64 0]) ?_ 0 _ rfl;(with_reducible repeat (first | refine blk_drewN ?_ _ | refine blk_drew ?_ | refine blk_alloc ?_ _));exact BK155.out) Try.underlying24 rfl (by kernel_rfl)) rfl ?_
      exact ⟨by first | rfl | (simp [errW_none,errW_some] <;> rfl) | (simp [*,errW_none,errW_some] <;> rfl),by repeat (first | (with_reducible first | exact HB.out | apply below_alloc | apply zH | apply below_drew1 | refine below_set ?_ GE153.out | refine below_set ?_ GE154.out | refine below_set ?_ GE155.out) | exact HB.out)⟩
def warpbeamref08_Find.l0:Nat → List (S114) → Int → Bool → Bool → Int → Int → Option (Int)
 | 0,_,_,_,_,_,_ => none
 | k + 1,x0,x1,x2,x3,x9,x10 => if x10 < (x0.length:Int) then (if 0 ≤ x10 then (if ((rd_T114 x0 x10).f0)=x1 then (if (((rd_T114 x0 x10).f2) == x2)=true then (if x9 < 0 then (warpbeamref08_Find.l0 k x0 x1 x2 x3 x10 (wrap64 (x10 + 1))) else (if x3=true then (warpbeamref08_Find.l0 k x0 x1 x2 x3 x10 (wrap64 (x10 + 1))) else (warpbeamref08_Find.l0 k x0 x1 x2 x3 x9 (wrap64 (x10 + 1))))) else (warpbeamref08_Find.l0 k x0 x1 x2 x3 x9 (wrap64 (x10 + 1)))) else (warpbeamref08_Find.l0 k x0 x1 x2 x3 x9 (wrap64 (x10 + 1)))) else (none)) else (some x9)
def warpbeamref08_Find.f (k:Nat) (l0:List (S114)) (a1:Int) (a2:Bool) (a3:Bool):Option (Int):=warpbeamref08_Find.l0 k l0 a1 a2 a3 (-1) 0
def warpbeamref08_Look.f (k:Nat) (l0:List (S114)) (a1:Int):Option (Int × Int × Bool):=(warpbeamref08_Find.f k l0 a1 true true).bind fun t159 => (if t159 < 0 then ((warpbeamref08_Find.f k l0 a1 false false).bind fun t160 => (if t160 < 0 then (some (0,0,false)) else (if 0 ≤ t160 then (if t160 < (l0.length:Int) then (some ((rd_T114 l0 t160).f1.f0,(rd_T114 l0 t160).f1.f1,true)) else (none)) else (none)))) else (if 0 ≤ t159 then (if t159 < (l0.length:Int) then (some ((rd_T114 l0 t159).f1.f0,(rd_T114 l0 t159).f1.f1,true)) else (none)) else (none)))
def warpbeamref06_Right.f (a0_0:Int) (a0_1:Int):Option (Bool):=if a0_0=0 then (some (a0_1 == 0)) else (if a0_0=1 then (some true) else (if a0_0=2 then (if a0_1 ≥ 0 then (some (decide (a0_1 < 64))) else (some false)) else (some false)))
end Go.Proofs.Ytgnjkegnddekeaa.Q
