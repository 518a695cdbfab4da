/- Words of the printer that this claim uses, cut to these by a program of its author (not as they were printed). -/
import Derived.Test.YtgnjkegnddekeaaYQ0
set_option maxHeartbeats 8000000
set_option maxRecDepth 100000
open Go.World renaming block_lt_of_cell? → zO
open List renaming setIfInBounds_toArray → zQ, set_cons_zero → zS, set_cons_succ → zT
namespace Go.Proofs.Ytgnjkegnddekeaa.Q
open Go.RowKit Go.Proofs.YtgnjkegnddekeaaW.PrintWords Go.Proofs.YtgnjkegnddekeaaW.PrintLast Go.Proofs.YtgnjkegnddekeaaW.PrintMore
attribute [local go_sem] max2_int min2_int max_two min_two max_three min_three max_four min_four   -- for this text's walks alone
set_option linter.unusedVariables false
set_option linter.unusedSimpArgs false
def warpbeamref17_number.f (a0:Int):Option (Int × Int):=some (1,a0)
theorem warpbeamref17_number.calls (a0:Int) (r1:Int) (r2:Int) (w:World) (h:warpbeamref17_number.f a0=some (r1,r2)) :
  Calls Try.prog 36 #[.int .i64 a0] w fun e w'=>e=.returned (.agg #[.int .i64 r1,.int .i64 r2])∧Below w.heap.size w w':=by
 have hu24:=Try.underlying24
 have HB:=Aside0.mk (Below.refl w.heap.size w)
 have H:(some (1,a0))=some (r1,r2):=h
 clear h
 simp only [Option.some.injEq,Prod.mk.injEq] at H
 obtain ⟨rfl,rfl⟩:=H
 go_enter Try.func36,Try.ntmps36
 go_wp2_with (first|((with_reducible refine gate_dst (N:=2) rfl ?_);refine box_event ?hg (N:=2) ?hd (cs:=#[.int .i64 0,.int .i64 0]) (t:=24) ?hr ?_;(case hd=>rfl);(case hg=>rfl);(case hr=>first|(go_simp;done)|(go_simp;rfl));intro gb150 hg w2 hbox hb;have n0_:=Aside0.mk (below_step (by repeat (first|(with_reducible first|exact HB.out|apply zG|apply zN|apply zH)|exact HB.out)) hb);have n1_:=Aside0.mk (hbox);have n2_:=Aside0.mk ((by rw [hg];exact (below_size (by repeat (first|(with_reducible first|exact HB.out|apply zG|apply zN|apply zH)|exact HB.out))):w.heap.size≤gb150));have n3_:=Aside0.mk ((by rw [hg];exact (below_size (by repeat (first|(with_reducible first|exact HB.out|apply zG|apply zN|apply zH)|exact HB.out))):w.heap.size≤gb150));clear HB;have HB:=n0_;have BK150:=n1_;have GW150:=n2_;have GE150:=n3_;clear n0_ n1_ n2_ n3_;clear hb hbox hg;have hcz3_0:w2.cell? ⟨gb150,0,none⟩=some (.int .i64 0):=(zJ BK150.out 0).trans rfl;have hcz3_1:w2.cell? ⟨gb150,1,none⟩=some (.int .i64 0):=(zJ BK150.out 1).trans rfl;have hfz3_0:=zK BK150.out 0;have hfz3_1:=zK BK150.out 1))
 refine bodyPost_ret (results_cell_row rfl _ _ gb150 24 #[.int .i64 1,.int .i64 a0] (0,0) _ rfl (by (with_reducible repeat (first|refine blk_drewN ?_ _|refine blk_drew ?_|refine blk_alloc ?_ _));refine blk_put (cs:=#[.int .i64 1,.int .i64 0]) ?_ 1 _ rfl;(with_reducible repeat (first|refine blk_drewN ?_ _|refine blk_drew ?_|refine blk_alloc ?_ _));refine blk_put (cs:=#[.int .i64 0,.int .i64 0]) ?_ 0 _ rfl;(with_reducible repeat (first|refine blk_drewN ?_ _|refine blk_drew ?_|refine blk_alloc ?_ _));exact BK150.out) Try.underlying24 rfl (by kernel_rfl)) rfl ?_
 exact ⟨by first|rfl|(simp [errW_none,errW_some] <;> rfl)|(simp [*,errW_none,errW_some] <;> rfl),by repeat (first|(with_reducible first|exact HB.out|apply zG|apply zN|apply zH|refine below_set ?_ GE150.out)|exact HB.out)⟩
def warpbeamref06_Less.f (a0_0:Int) (a0_1:Int) (a1_0:Int) (a1_1:Int):Option (Bool × Int):=if a0_0=1 then (if a1_0=1 then (some (decide (a0_1<a1_1),0)) else (some (false,7))) else (some (false,7))
theorem warpbeamref06_Less.calls (a0_0:Int) (a0_1:Int) (a1_0:Int) (a1_1:Int) (r1:Bool) (r2:Int) (w:World) (h:warpbeamref06_Less.f a0_0 a0_1 a1_0 a1_1=some (r1,r2)) :
  Calls Try.prog 57 #[.agg #[.int .i64 a0_0,.int .i64 a0_1],.agg #[.int .i64 a1_0,.int .i64 a1_1]] w fun e w'=>e=.returned (.tuple #[.bool r1,.int .i64 r2])∧Below w.heap.size w w':=by
 have hu24:=Try.underlying24
 have HB:=Aside0.mk (Below.refl w.heap.size w)
 have H:(if a0_0=1 then (if a1_0=1 then (some (decide (a0_1<a1_1),0)) else (some (false,7))) else (some (false,7)))=some (r1,r2):=h
 clear h
 by_cases c3:a0_0=1
 ·
  rw [if_pos c3] at H
  have c3b0:(a0_0==1)=true:=beq_iff_eq.mpr c3
  have c3b1:(a0_0 != 1)=false:=bne_eq_false_iff_eq.mpr c3
  clear c3
  by_cases c4:a1_0=1
  ·
   rw [if_pos c4] at H
   have c4b0:(a1_0==1)=true:=beq_iff_eq.mpr c4
   have c4b1:(a1_0 != 1)=false:=bne_eq_false_iff_eq.mpr c4
   clear c4
   simp only [Option.some.injEq,Prod.mk.injEq] at H
   obtain ⟨rfl,rfl⟩:=H
   go_enter Try.func57,Try.ntmps57
   go_wp2_with (first|((with_reducible refine gate_dst (N:=2) rfl ?_);refine box_event ?hg (N:=2) ?hd (cs:=#[.int .i64 a0_0,.int .i64 a0_1]) (t:=24) ?hr ?_;(case hd=>rfl);(case hg=>rfl);(case hr=>first|(go_simp;done)|(go_simp;rfl));intro gb151 hg w5 hbox hb;have n0_:=Aside0.mk (below_step (by repeat (first|(with_reducible first|exact HB.out|apply zG|apply zN|apply zH)|exact HB.out)) hb);have n1_:=Aside0.mk (hbox);have n2_:=Aside0.mk ((by rw [hg];exact (below_size (by repeat (first|(with_reducible first|exact HB.out|apply zG|apply zN|apply zH)|exact HB.out))):w.heap.size≤gb151));have n3_:=Aside0.mk ((by rw [hg];exact (below_size (by repeat (first|(with_reducible first|exact HB.out|apply zG|apply zN|apply zH)|exact HB.out))):w.heap.size≤gb151));clear HB;have HB:=n0_;have BK151:=n1_;have GW151:=n2_;have GE151:=n3_;clear n0_ n1_ n2_ n3_;clear hb hbox hg)|((with_reducible refine gate_dst (N:=3) rfl ?_);refine box_event ?hg (N:=3) ?hd (cs:=#[.int .i64 a1_0,.int .i64 a1_1]) (t:=24) ?hr ?_;(case hd=>rfl);(case hg=>rfl);(case hr=>first|(go_simp;done)|(go_simp;rfl));intro gb152 hg w6 hbox hb;have n0_:=Aside0.mk (zI (g:=gb151) (o:=.cells #[.int .i64 a0_0,.int .i64 a0_1] 24 (0,0)) (by (with_reducible repeat (first|refine blk_drewN ?_ _|refine blk_drew ?_|refine blk_alloc ?_ _));exact BK151.out) hb);have n1_:=Aside0.mk (below_step (by repeat (first|(with_reducible first|exact HB.out|apply zG|apply zN|apply zH|refine below_set ?_ GE151.out)|exact HB.out)) hb);have n2_:=Aside0.mk (hbox);have n3_:=Aside0.mk ((by rw [hg];exact (below_size (by repeat (first|(with_reducible first|exact HB.out|apply zG|apply zN|apply zH|refine below_set ?_ GE151.out)|exact HB.out))):w.heap.size≤gb152));have n4_:=Aside0.mk ((by rw [hg];exact (below_size (by repeat (first|(with_reducible first|exact HB.out|apply zG|apply zN|apply zH|refine below_set ?_ GE151.out)|exact HB.out))):w.heap.size≤gb152));have n5_:=Aside0.mk ((by rw [hg];exact Nat.ne_of_lt (zL (g:=gb151) (o:=.cells #[.int .i64 a0_0,.int .i64 a0_1] 24 (0,0)) (by (with_reducible repeat (first|refine blk_drewN ?_ _|refine blk_drew ?_|refine blk_alloc ?_ _));exact BK151.out)):gb151≠gb152));have n6_:=Aside0.mk ((by rw [hg];exact Nat.ne_of_gt (zL (g:=gb151) (o:=.cells #[.int .i64 a0_0,.int .i64 a0_1] 24 (0,0)) (by (with_reducible repeat (first|refine blk_drewN ?_ _|refine blk_drew ?_|refine blk_alloc ?_ _));exact BK151.out)):gb152≠gb151));clear BK151;clear HB;have BK151:=n0_;have HB:=n1_;have BK152:=n2_;have GW152:=n3_;have GE152:=n4_;have NB151_152:=n5_;have NB152_151:=n6_;clear n0_ n1_ n2_ n3_ n4_ n5_ n6_;clear hb hbox hg;have hnb7:=NB151_152.out;have hnc7:=NB152_151.out;have hcz8_0:w6.cell? ⟨gb151,0,none⟩=some (.int .i64 a0_0):=(zJ BK151.out 0).trans rfl;have hcz8_1:w6.cell? ⟨gb151,1,none⟩=some (.int .i64 a0_1):=(zJ BK151.out 1).trans rfl;have hfz8_0:=zK BK151.out 0;have hfz8_1:=zK BK151.out 1;have hcz9_0:w6.cell? ⟨gb152,0,none⟩=some (.int .i64 a1_0):=(zJ BK152.out 0).trans rfl;have hcz9_1:w6.cell? ⟨gb152,1,none⟩=some (.int .i64 a1_1):=(zJ BK152.out 1).trans rfl;have hfz9_0:=zK BK152.out 0;have hfz9_1:=zK BK152.out 1))
   go_ret2
   exact ⟨by first|rfl|(simp [errW_none,errW_some] <;> rfl)|(simp [*,errW_none,errW_some] <;> rfl),by repeat (first|(with_reducible first|exact HB.out|apply zG|apply zN|apply zH|refine below_set ?_ GE151.out|refine below_set ?_ GE152.out)|exact HB.out)⟩
  ·
   rw [if_neg c4] at H
   have c4b0:(a1_0==1)=false:=beq_eq_false_iff_ne.mpr c4
   have c4b1:(a1_0 != 1)=true:=bne_iff_ne.mpr c4
   simp only [Option.some.injEq,Prod.mk.injEq] at H
   obtain ⟨rfl,rfl⟩:=H
   go_enter Try.func57,Try.ntmps57
   go_wp2_with (first|((with_reducible refine gate_dst (N:=2) rfl ?_);refine box_event ?hg (N:=2) ?hd (cs:=#[.int .i64 a0_0,.int .i64 a0_1]) (t:=24) ?hr ?_;(case hd=>rfl);(case hg=>rfl);(case hr=>first|(go_simp;done)|(go_simp;rfl));intro gb151 hg w10 hbox hb;have n0_:=Aside0.mk (below_step (by repeat (first|(with_reducible first|exact HB.out|apply zG|apply zN|apply zH)|exact HB.out)) hb);have n1_:=Aside0.mk (hbox);have n2_:=Aside0.mk ((by rw [hg];exact (below_size (by repeat (first|(with_reducible first|exact HB.out|apply zG|apply zN|apply zH)|exact HB.out))):w.heap.size≤gb151));have n3_:=Aside0.mk ((by rw [hg];exact (below_size (by repeat (first|(with_reducible first|exact HB.out|apply zG|apply zN|apply zH)|exact HB.out))):w.heap.size≤gb151));clear HB;have HB:=n0_;have BK151:=n1_;have GW151:=n2_;have GE151:=n3_;clear n0_ n1_ n2_ n3_;clear hb hbox hg)|((with_reducible refine gate_dst (N:=3) rfl ?_);refine box_event ?hg (N:=3) ?hd (cs:=#[.int .i64 a1_0,.int .i64 a1_1]) (t:=24) ?hr ?_;(case hd=>rfl);(case hg=>rfl);(case hr=>first|(go_simp;done)|(go_simp;rfl));intro gb152 hg w11 hbox hb;have n0_:=Aside0.mk (zI (g:=gb151) (o:=.cells #[.int .i64 a0_0,.int .i64 a0_1] 24 (0,0)) (by (with_reducible repeat (first|refine blk_drewN ?_ _|refine blk_drew ?_|refine blk_alloc ?_ _));exact BK151.out) hb);have n1_:=Aside0.mk (below_step (by repeat (first|(with_reducible first|exact HB.out|apply zG|apply zN|apply zH|refine below_set ?_ GE151.out)|exact HB.out)) hb);have n2_:=Aside0.mk (hbox);have n3_:=Aside0.mk ((by rw [hg];exact (below_size (by repeat (first|(with_reducible first|exact HB.out|apply zG|apply zN|apply zH|refine below_set ?_ GE151.out)|exact HB.out))):w.heap.size≤gb152));have n4_:=Aside0.mk ((by rw [hg];exact (below_size (by repeat (first|(with_reducible first|exact HB.out|apply zG|apply zN|apply zH|refine below_set ?_ GE151.out)|exact HB.out))):w.heap.size≤gb152));have n5_:=Aside0.mk ((by rw [hg];exact Nat.ne_of_lt (zL (g:=gb151) (o:=.cells #[.int .i64 a0_0,.int .i64 a0_1] 24 (0,0)) (by (with_reducible repeat (first|refine blk_drewN ?_ _|refine blk_drew ?_|refine blk_alloc ?_ _));exact BK151.out)):gb151≠gb152));have n6_:=Aside0.mk ((by rw [hg];exact Nat.ne_of_gt (zL (g:=gb151) (o:=.cells #[.int .i64 a0_0,.int .i64 a0_1] 24 (0,0)) (by (with_reducible repeat (first|refine blk_drewN ?_ _|refine blk_drew ?_|refine blk_alloc ?_ _));exact BK151.out)):gb152≠gb151));clear BK151;clear HB;have BK151:=n0_;have HB:=n1_;have BK152:=n2_;have GW152:=n3_;have GE152:=n4_;have NB151_152:=n5_;have NB152_151:=n6_;clear n0_ n1_ n2_ n3_ n4_ n5_ n6_;clear hb hbox hg;have hnb12:=NB151_152.out;have hnc12:=NB152_151.out;have hcz13_0:w11.cell? ⟨gb151,0,none⟩=some (.int .i64 a0_0):=(zJ BK151.out 0).trans rfl;have hcz13_1:w11.cell? ⟨gb151,1,none⟩=some (.int .i64 a0_1):=(zJ BK151.out 1).trans rfl;have hfz13_0:=zK BK151.out 0;have hfz13_1:=zK BK151.out 1;have hcz14_0:w11.cell? ⟨gb152,0,none⟩=some (.int .i64 a1_0):=(zJ BK152.out 0).trans rfl;have hcz14_1:w11.cell? ⟨gb152,1,none⟩=some (.int .i64 a1_1):=(zJ BK152.out 1).trans rfl;have hfz14_0:=zK BK152.out 0;have hfz14_1:=zK BK152.out 1))
   go_ret2
   exact ⟨by first|rfl|(simp [errW_none,errW_some] <;> rfl)|(simp [*,errW_none,errW_some] <;> rfl),by repeat (first|(with_reducible first|exact HB.out|apply zG|apply zN|apply zH|refine below_set ?_ GE151.out|refine below_set ?_ GE152.out)|exact HB.out)⟩
 ·
  rw [if_neg c3] at H
  have c3b0:(a0_0==1)=false:=beq_eq_false_iff_ne.mpr c3
  have c3b1:(a0_0 != 1)=true:=bne_iff_ne.mpr c3
  simp only [Option.some.injEq,Prod.mk.injEq] at H
  obtain ⟨rfl,rfl⟩:=H
  go_enter Try.func57,Try.ntmps57
  go_wp2_with (first|((with_reducible refine gate_dst (N:=2) rfl ?_);refine box_event ?hg (N:=2) ?hd (cs:=#[.int .i64 a0_0,.int .i64 a0_1]) (t:=24) ?hr ?_;(case hd=>rfl);(case hg=>rfl);(case hr=>first|(go_simp;done)|(go_simp;rfl));intro gb151 hg w15 hbox hb;have n0_:=Aside0.mk (below_step (by repeat (first|(with_reducible first|exact HB.out|apply zG|apply zN|apply zH)|exact HB.out)) hb);have n1_:=Aside0.mk (hbox);have n2_:=Aside0.mk ((by rw [hg];exact (below_size (by repeat (first|(with_reducible first|exact HB.out|apply zG|apply zN|apply zH)|exact HB.out))):w.heap.size≤gb151));have n3_:=Aside0.mk ((by rw [hg];exact (below_size (by repeat (first|(with_reducible first|exact HB.out|apply zG|apply zN|apply zH)|exact HB.out))):w.heap.size≤gb151));clear HB;have HB:=n0_;have BK151:=n1_;have GW151:=n2_;have GE151:=n3_;clear n0_ n1_ n2_ n3_;clear hb hbox hg)|((with_reducible refine gate_dst (N:=3) rfl ?_);refine box_event ?hg (N:=3) ?hd (cs:=#[.int .i64 a1_0,.int .i64 a1_1]) (t:=24) ?hr ?_;(case hd=>rfl);(case hg=>rfl);(case hr=>first|(go_simp;done)|(go_simp;rfl));intro gb152 hg w16 hbox hb;have n0_:=Aside0.mk (zI (g:=gb151) (o:=.cells #[.int .i64 a0_0,.int .i64 a0_1] 24 (0,0)) (by (with_reducible repeat (first|refine blk_drewN ?_ _|refine blk_drew ?_|refine blk_alloc ?_ _));exact BK151.out) hb);have n1_:=Aside0.mk (below_step (by repeat (first|(with_reducible first|exact HB.out|apply zG|apply zN|apply zH|refine below_set ?_ GE151.out)|exact HB.out)) hb);have n2_:=Aside0.mk (hbox);have n3_:=Aside0.mk ((by rw [hg];exact (below_size (by repeat (first|(with_reducible first|exact HB.out|apply zG|apply zN|apply zH|refine below_set ?_ GE151.out)|exact HB.out))):w.heap.size≤gb152));have n4_:=Aside0.mk ((by rw [hg];exact (below_size (by repeat (first|(with_reducible first|exact HB.out|apply zG|apply zN|apply zH|refine below_set ?_ GE151.out)|exact HB.out))):w.heap.size≤gb152));have n5_:=Aside0.mk ((by rw [hg];exact Nat.ne_of_lt (zL (g:=gb151) (o:=.cells #[.int .i64 a0_0,.int .i64 a0_1] 24 (0,0)) (by (with_reducible repeat (first|refine blk_drewN ?_ _|refine blk_drew ?_|refine blk_alloc ?_ _));exact BK151.out)):gb151≠gb152));have n6_:=Aside0.mk ((by rw [hg];exact Nat.ne_of_gt (zL (g:=gb151) (o:=.cells #[.int .i64 a0_0,.int .i64 a0_1] 24 (0,0)) (by (with_reducible repeat (first|refine blk_drewN ?_ _|refine blk_drew ?_|refine blk_alloc ?_ _));exact BK151.out)):gb152≠gb151));clear BK151;clear HB;have BK151:=n0_;have HB:=n1_;have BK152:=n2_;have GW152:=n3_;have GE152:=n4_;have NB151_152:=n5_;have NB152_151:=n6_;clear n0_ n1_ n2_ n3_ n4_ n5_ n6_;clear hb hbox hg;have hnb17:=NB151_152.out;have hnc17:=NB152_151.out;have hcz18_0:w16.cell? ⟨gb151,0,none⟩=some (.int .i64 a0_0):=(zJ BK151.out 0).trans rfl;have hcz18_1:w16.cell? ⟨gb151,1,none⟩=some (.int .i64 a0_1):=(zJ BK151.out 1).trans rfl;have hfz18_0:=zK BK151.out 0;have hfz18_1:=zK BK151.out 1))
  go_ret2
  exact ⟨by first|rfl|(simp [errW_none,errW_some] <;> rfl)|(simp [*,errW_none,errW_some] <;> rfl),by repeat (first|(with_reducible first|exact HB.out|apply zG|apply zN|apply zH|refine below_set ?_ GE151.out|refine below_set ?_ GE152.out)|exact HB.out)⟩
def warpbeamref06_Do.j0:Nat→Int→Bool→Int→Int→Int→Int→Option (Int × Int × Int)
 | 0,_,_,_,_,_,_=>none
 | k+1,x0,x15,x154000,x154001,x155000,x155001=>if x15=true then (some (0,0,7)) else (if x0=43 then (some (1,wrap64 (x154001+x155001),0)) else (if x0=45 then (some (1,wrap64 (x154001 - x155001),0)) else (some (1,wrap64 (x154001 * x155001),0))))
def warpbeamref06_Do.f (k:Nat) (a0:Int) (a1_0:Int) (a1_1:Int) (a2_0:Int) (a2_1:Int):Option (Int × Int × Int):=if a1_0=1 then (warpbeamref06_Do.j0 k a0 (a2_0 != 1) a1_0 a1_1 a2_0 a2_1) else (warpbeamref06_Do.j0 k a0 true a1_0 a1_1 a2_0 a2_1)
theorem warpbeamref06_Do.calls (k:Nat) (a0:Int) (a1_0:Int) (a1_1:Int) (a2_0:Int) (a2_1:Int) (r1:Int) (r2:Int) (r3:Int) (w:World) (h:warpbeamref06_Do.f k a0 a1_0 a1_1 a2_0 a2_1=some (r1,r2,r3)) :
  Calls Try.prog 58 #[.int .u8 a0,.agg #[.int .i64 a1_0,.int .i64 a1_1],.agg #[.int .i64 a2_0,.int .i64 a2_1]] w fun e w'=>e=.returned (.tuple #[.agg #[.int .i64 r1,.int .i64 r2],.int .i64 r3])∧Below w.heap.size w w':=by
 have hu24:=Try.underlying24
 have HB:=Aside0.mk (Below.refl w.heap.size w)
 have H:(if a1_0=1 then (warpbeamref06_Do.j0 k a0 (a2_0 != 1) a1_0 a1_1 a2_0 a2_1) else (warpbeamref06_Do.j0 k a0 true a1_0 a1_1 a2_0 a2_1))=some (r1,r2,r3):=h
 clear h
 have HC4:=Aside0.mk H
 clear H
 go_enter Try.func58,Try.ntmps58
 go_upto_region 1 with (first|((with_reducible refine gate_dst (N:=4) rfl ?_);refine box_event ?hg (N:=4) ?hd (cs:=#[.int .i64 a1_0,.int .i64 a1_1]) (t:=24) ?hr ?_;(case hd=>rfl);(case hg=>rfl);(case hr=>first|(go_simp;done)|(go_simp;rfl));intro gb153 hg w5 hbox hb;have n0_:=Aside0.mk (below_step (by repeat (first|(with_reducible first|exact HB.out|apply zG|apply zN|apply zH)|exact HB.out)) hb);have n1_:=Aside0.mk (hbox);have n2_:=Aside0.mk ((by rw [hg];exact (below_size (by repeat (first|(with_reducible first|exact HB.out|apply zG|apply zN|apply zH)|exact HB.out))):w.heap.size≤gb153));have n3_:=Aside0.mk ((by rw [hg];exact (below_size (by repeat (first|(with_reducible first|exact HB.out|apply zG|apply zN|apply zH)|exact HB.out))):w.heap.size≤gb153));clear HB;have HB:=n0_;have BK153:=n1_;have GW153:=n2_;have GE153:=n3_;clear n0_ n1_ n2_ n3_;clear hb hbox hg)|((with_reducible refine gate_dst (N:=5) rfl ?_);refine box_event ?hg (N:=5) ?hd (cs:=#[.int .i64 a2_0,.int .i64 a2_1]) (t:=24) ?hr ?_;(case hd=>rfl);(case hg=>rfl);(case hr=>first|(go_simp;done)|(go_simp;rfl));intro gb154 hg w6 hbox hb;have n0_:=Aside0.mk (zI (g:=gb153) (o:=.cells #[.int .i64 a1_0,.int .i64 a1_1] 24 (0,0)) (by (with_reducible repeat (first|refine blk_drewN ?_ _|refine blk_drew ?_|refine blk_alloc ?_ _));exact BK153.out) hb);have n1_:=Aside0.mk (below_step (by repeat (first|(with_reducible first|exact HB.out|apply zG|apply zN|apply zH|refine below_set ?_ GE153.out)|exact HB.out)) hb);have n2_:=Aside0.mk (hbox);have n3_:=Aside0.mk ((by rw [hg];exact (below_size (by repeat (first|(with_reducible first|exact HB.out|apply zG|apply zN|apply zH|refine below_set ?_ GE153.out)|exact HB.out))):w.heap.size≤gb154));have n4_:=Aside0.mk ((by rw [hg];exact (below_size (by repeat (first|(with_reducible first|exact HB.out|apply zG|apply zN|apply zH|refine below_set ?_ GE153.out)|exact HB.out))):w.heap.size≤gb154));have n5_:=Aside0.mk ((by rw [hg];exact Nat.ne_of_lt (zL (g:=gb153) (o:=.cells #[.int .i64 a1_0,.int .i64 a1_1] 24 (0,0)) (by (with_reducible repeat (first|refine blk_drewN ?_ _|refine blk_drew ?_|refine blk_alloc ?_ _));exact BK153.out)):gb153≠gb154));have n6_:=Aside0.mk ((by rw [hg];exact Nat.ne_of_gt (zL (g:=gb153) (o:=.cells #[.int .i64 a1_0,.int .i64 a1_1] 24 (0,0)) (by (with_reducible repeat (first|refine blk_drewN ?_ _|refine blk_drew ?_|refine blk_alloc ?_ _));exact BK153.out)):gb154≠gb153));clear BK153;clear HB;have BK153:=n0_;have HB:=n1_;have BK154:=n2_;have GW154:=n3_;have GE154:=n4_;have NB153_154:=n5_;have NB154_153:=n6_;clear n0_ n1_ n2_ n3_ n4_ n5_ n6_;clear hb hbox hg)|((with_reducible refine gate_dst (N:=6) rfl ?_);refine box_event ?hg (N:=6) ?hd (cs:=#[.int .i64 0,.int .i64 0]) (t:=24) ?hr ?_;(case hd=>rfl);(case hg=>rfl);(case hr=>first|(go_simp;done)|(go_simp;rfl));intro gb155 hg w7 hbox hb;have n0_:=Aside0.mk (zI (g:=gb153) (o:=.cells #[.int .i64 a1_0,.int .i64 a1_1] 24 (0,0)) (by (with_reducible repeat (first|refine blk_drewN ?_ _|refine blk_drew ?_|refine blk_alloc ?_ _));exact BK153.out) hb);have n1_:=Aside0.mk (zI (g:=gb154) (o:=.cells #[.int .i64 a2_0,.int .i64 a2_1] 24 (0,0)) (by (with_reducible repeat (first|refine blk_drewN ?_ _|refine blk_drew ?_|refine blk_alloc ?_ _));exact BK154.out) hb);have n2_:=Aside0.mk (below_step (by repeat (first|(with_reducible first|exact HB.out|apply zG|apply zN|apply zH|refine below_set ?_ GE153.out|refine below_set ?_ GE154.out)|exact HB.out)) hb);have n3_:=Aside0.mk (hbox);have n4_:=Aside0.mk ((by rw [hg];exact (below_size (by repeat (first|(with_reducible first|exact HB.out|apply zG|apply zN|apply zH|refine below_set ?_ GE153.out|refine below_set ?_ GE154.out)|exact HB.out))):w.heap.size≤gb155));have n5_:=Aside0.mk ((by rw [hg];exact (below_size (by repeat (first|(with_reducible first|exact HB.out|apply zG|apply zN|apply zH|refine below_set ?_ GE153.out|refine below_set ?_ GE154.out)|exact HB.out))):w.heap.size≤gb155));have n6_:=Aside0.mk ((by rw [hg];exact Nat.ne_of_lt (zL (g:=gb153) (o:=.cells #[.int .i64 a1_0,.int .i64 a1_1] 24 (0,0)) (by (with_reducible repeat (first|refine blk_drewN ?_ _|refine blk_drew ?_|refine blk_alloc ?_ _));exact BK153.out)):gb153≠gb155));have n7_:=Aside0.mk ((by rw [hg];exact Nat.ne_of_gt (zL (g:=gb153) (o:=.cells #[.int .i64 a1_0,.int .i64 a1_1] 24 (0,0)) (by (with_reducible repeat (first|refine blk_drewN ?_ _|refine blk_drew ?_|refine blk_alloc ?_ _));exact BK153.out)):gb155≠gb153));have n8_:=Aside0.mk ((by rw [hg];exact Nat.ne_of_lt (zL (g:=gb154) (o:=.cells #[.int .i64 a2_0,.int .i64 a2_1] 24 (0,0)) (by (with_reducible repeat (first|refine blk_drewN ?_ _|refine blk_drew ?_|refine blk_alloc ?_ _));exact BK154.out)):gb154≠gb155));have n9_:=Aside0.mk ((by rw [hg];exact Nat.ne_of_gt (zL (g:=gb154) (o:=.cells #[.int .i64 a2_0,.int .i64 a2_1] 24 (0,0)) (by (with_reducible repeat (first|refine blk_drewN ?_ _|refine blk_drew ?_|refine blk_alloc ?_ _));exact BK154.out)):gb155≠gb154));clear BK153;clear BK154;clear HB;have BK153:=n0_;have BK154:=n1_;have HB:=n2_;have BK155:=n3_;have GW155:=n4_;have GE155:=n5_;have NB153_155:=n6_;have NB155_153:=n7_;have NB154_155:=n8_;have NB155_154:=n9_;clear n0_ n1_ n2_ n3_ n4_ n5_ n6_ n7_ n8_ n9_;clear hb hbox hg))
 (try simp only [Act.put,zQ,zS,zT])
 go_cut [15] (fun v15 wc=>∃ (kq:Nat) (x15_3:Bool),v15=.bool x15_3∧Aside0 (warpbeamref06_Do.j0 kq a0 x15_3 a1_0 a1_1 a2_0 a2_1=some (r1,r2,r3))∧Aside0 (kq≤k)∧Aside0 (wc.heap[gb153]?=some (.cells #[.int .i64 a1_0,.int .i64 a1_1] 24 (0,0)))∧Aside0 (wc.heap[gb154]?=some (.cells #[.int .i64 a2_0,.int .i64 a2_1] 24 (0,0)))∧Aside0 (wc.heap[gb155]?=some (.cells #[.int .i64 0,.int .i64 0] 24 (0,0)))∧Aside0 (Below w.heap.size w wc))
 case first =>
  have H:=HC4.out
  clear HC4
  by_cases c8:a1_0=1
  ·
   rw [if_pos c8] at H
   have c8b0:(a1_0==1)=true:=beq_iff_eq.mpr c8
   have c8b1:(a1_0 != 1)=false:=bne_eq_false_iff_eq.mpr c8
   clear c8
   (first|rw [c8b0]|(simp only [i64_w,i32_w];rw [c8b0])|skip)
   have H':=Aside0.mk H
   clear H
   have hnb9:=NB153_154.out
   have hnc9:=NB154_153.out
   have hnb10:=NB153_155.out
   have hnc10:=NB155_153.out
   have hcz11_0:w7.cell? ⟨gb153,0,none⟩=some (.int .i64 a1_0):=(zJ BK153.out 0).trans rfl
   have hcz11_1:w7.cell? ⟨gb153,1,none⟩=some (.int .i64 a1_1):=(zJ BK153.out 1).trans rfl
   have hfz11_0:=zK BK153.out 0
   have hfz11_1:=zK BK153.out 1
   have hnb12:=NB154_155.out
   have hnc12:=NB155_154.out
   have hcz13_0:w7.cell? ⟨gb154,0,none⟩=some (.int .i64 a2_0):=(zJ BK154.out 0).trans rfl
   have hcz13_1:w7.cell? ⟨gb154,1,none⟩=some (.int .i64 a2_1):=(zJ BK154.out 1).trans rfl
   have hfz13_0:=zK BK154.out 0
   have hfz13_1:=zK BK154.out 1
   go_wp2
   go_meet
   case rel=>exact ⟨_,((a2_0 != 1)),(by first|rfl|(simp;done)|(simp [*];done)),H',⟨by first|omega|exact Nat.le_refl _⟩,⟨by (with_reducible repeat (first|refine blk_drewN ?_ _|refine blk_drew ?_|refine blk_alloc ?_ _));exact BK153.out⟩,⟨by (with_reducible repeat (first|refine blk_drewN ?_ _|refine blk_drew ?_|refine blk_alloc ?_ _));exact BK154.out⟩,⟨by (with_reducible repeat (first|refine blk_drewN ?_ _|refine blk_drew ?_|refine blk_alloc ?_ _));exact BK155.out⟩,⟨by repeat (first|(with_reducible first|exact HB.out|apply zG|apply zN|apply zH|refine below_set ?_ GE153.out|refine below_set ?_ GE154.out|refine below_set ?_ GE155.out)|exact HB.out)⟩⟩
  ·
   rw [if_neg c8] at H
   have c8b0:(a1_0==1)=false:=beq_eq_false_iff_ne.mpr c8
   have c8b1:(a1_0 != 1)=true:=bne_iff_ne.mpr c8
   (first|rw [c8b0]|(simp only [i64_w,i32_w];rw [c8b0])|skip)
   have H':=Aside0.mk H
   clear H
   have hnb14:=NB153_154.out
   have hnc14:=NB154_153.out
   have hnb15:=NB153_155.out
   have hnc15:=NB155_153.out
   have hcz16_0:w7.cell? ⟨gb153,0,none⟩=some (.int .i64 a1_0):=(zJ BK153.out 0).trans rfl
   have hcz16_1:w7.cell? ⟨gb153,1,none⟩=some (.int .i64 a1_1):=(zJ BK153.out 1).trans rfl
   have hfz16_0:=zK BK153.out 0
   have hfz16_1:=zK BK153.out 1
   go_wp2
   go_meet
   case rel=>exact ⟨_,(true),(by first|rfl|(simp;done)|(simp [*];done)),H',⟨by first|omega|exact Nat.le_refl _⟩,⟨by (with_reducible repeat (first|refine blk_drewN ?_ _|refine blk_drew ?_|refine blk_alloc ?_ _));exact BK153.out⟩,⟨by (with_reducible repeat (first|refine blk_drewN ?_ _|refine blk_drew ?_|refine blk_alloc ?_ _));exact BK154.out⟩,⟨by (with_reducible repeat (first|refine blk_drewN ?_ _|refine blk_drew ?_|refine blk_alloc ?_ _));exact BK155.out⟩,⟨by repeat (first|(with_reducible first|exact HB.out|apply zG|apply zN|apply zH|refine below_set ?_ GE153.out|refine below_set ?_ GE154.out|refine below_set ?_ GE155.out)|exact HB.out)⟩⟩
 case rest =>
  clear HC4
  try clear c1
  try clear p2
  try clear c5
  try clear c8
  try clear c8b0
  try clear c8b1
  try clear c9
  try clear c10
  try clear c12
  try clear c14
  try clear c15
  try clear hcz11_0
  try clear hcz11_1
  try clear hcz13_0
  try clear hcz13_1
  try clear hcz16_0
  try clear hcz16_1
  try clear hfz11_0
  try clear hfz11_1
  try clear hfz13_0
  try clear hfz13_1
  try clear hfz16_0
  try clear hfz16_1
  obtain ⟨kq,x15_3,rfl,HA,HJ3,BK153,BK154,BK155,HB⟩:=hcut
  cases kq with
  | zero=>exact absurd HA.out (by simp [warpbeamref06_Do.j0])
  | succ kj3 =>
   have H:=HA.out
   clear HA
   simp only [warpbeamref06_Do.j0] at H
   by_cases c17:x15_3=true
   ·
    subst c17
    have H1:(some (0,0,7))=some (r1,r2,r3):=by rw [if_pos rfl] at H;exact H
    clear H
    have H:=H1
    clear H1
    simp only [Option.some.injEq,Prod.mk.injEq] at H
    obtain ⟨rfl,rfl,rfl⟩:=H
    have hnb18:=NB155_153.out
    have hnc18:=NB153_155.out
    have hnb19:=NB155_154.out
    have hnc19:=NB154_155.out
    have hcz20_0:wc.cell? ⟨gb155,0,none⟩=some (.int .i64 0):=(zJ BK155.out 0).trans rfl
    have hcz20_1:wc.cell? ⟨gb155,1,none⟩=some (.int .i64 0):=(zJ BK155.out 1).trans rfl
    have hfz20_0:=zK BK155.out 0
    have hfz20_1:=zK BK155.out 1
    go_wp2
    refine bodyPost_ret (results_ct rfl _ _ gb155 24 #[.int .i64 0,.int .i64 0] (0,0) _ rfl (by (with_reducible repeat (first|refine blk_drewN ?_ _|refine blk_drew ?_|refine blk_alloc ?_ _));refine blk_put (cs:=#[.int .i64 0,.int .i64 0]) ?_ 1 _ rfl;(with_reducible repeat (first|refine blk_drewN ?_ _|refine blk_drew ?_|refine blk_alloc ?_ _));refine blk_put (cs:=#[.int .i64 0,.int .i64 0]) ?_ 0 _ rfl;(with_reducible repeat (first|refine blk_drewN ?_ _|refine blk_drew ?_|refine blk_alloc ?_ _));exact BK155.out) Try.underlying24 rfl (by kernel_rfl)) rfl ?_
    exact ⟨by first|rfl|(simp [errW_none,errW_some] <;> rfl)|(simp [*,errW_none,errW_some] <;> rfl),by repeat (first|(with_reducible first|exact HB.out|apply zG|apply zN|apply zH|refine below_set ?_ GE153.out|refine below_set ?_ GE154.out|refine below_set ?_ GE155.out)|exact HB.out)⟩
   ·
    replace c17:=Bool.eq_false_iff.mpr c17
    subst c17
    have H1:(if a0=43 then (some (1,wrap64 (a1_1+a2_1),0)) else (if a0=45 then (some (1,wrap64 (a1_1 - a2_1),0)) else (some (1,wrap64 (a1_1 * a2_1),0))))=some (r1,r2,r3):=by rw [if_neg (show ¬ (false=true) by decide)] at H;exact H
    clear H
    have H:=H1
    clear H1
    by_cases c21:a0=43
    ·
     rw [if_pos c21] at H
     have c21b0:(a0==43)=true:=beq_iff_eq.mpr c21
     have c21b1:(a0 != 43)=false:=bne_eq_false_iff_eq.mpr c21
     clear c21
     simp only [Option.some.injEq,Prod.mk.injEq] at H
     obtain ⟨rfl,rfl,rfl⟩:=H
     have hnb22:=NB153_154.out
     have hnc22:=NB154_153.out
     have hnb23:=NB153_155.out
     have hnc23:=NB155_153.out
     have hcz24_0:wc.cell? ⟨gb153,0,none⟩=some (.int .i64 a1_0):=(zJ BK153.out 0).trans rfl
     have hcz24_1:wc.cell? ⟨gb153,1,none⟩=some (.int .i64 a1_1):=(zJ BK153.out 1).trans rfl
     have hfz24_0:=zK BK153.out 0
     have hfz24_1:=zK BK153.out 1
     have hnb25:=NB154_155.out
     have hnc25:=NB155_154.out
     have hcz26_0:wc.cell? ⟨gb154,0,none⟩=some (.int .i64 a2_0):=(zJ BK154.out 0).trans rfl
     have hcz26_1:wc.cell? ⟨gb154,1,none⟩=some (.int .i64 a2_1):=(zJ BK154.out 1).trans rfl
     have hfz26_0:=zK BK154.out 0
     have hfz26_1:=zK BK154.out 1
     have hcz27_0:wc.cell? ⟨gb155,0,none⟩=some (.int .i64 0):=(zJ BK155.out 0).trans rfl
     have hcz27_1:wc.cell? ⟨gb155,1,none⟩=some (.int .i64 0):=(zJ BK155.out 1).trans rfl
     have hfz27_0:=zK BK155.out 0
     have hfz27_1:=zK BK155.out 1
     go_wp2
     refine bodyPost_ret (results_ct rfl _ _ gb155 24 #[.int .i64 1,.int .i64 (wrap64 (a1_1+a2_1))] (0,0) _ rfl (by (with_reducible repeat (first|refine blk_drewN ?_ _|refine blk_drew ?_|refine blk_alloc ?_ _));refine blk_put (cs:=#[.int .i64 1,.int .i64 0]) ?_ 1 _ rfl;(with_reducible repeat (first|refine blk_drewN ?_ _|refine blk_drew ?_|refine blk_alloc ?_ _));refine blk_put (cs:=#[.int .i64 0,.int .i64 0]) ?_ 0 _ rfl;(with_reducible repeat (first|refine blk_drewN ?_ _|refine blk_drew ?_|refine blk_alloc ?_ _));exact BK155.out) Try.underlying24 rfl (by kernel_rfl)) rfl ?_
     exact ⟨by first|rfl|(simp [errW_none,errW_some] <;> rfl)|(simp [*,errW_none,errW_some] <;> rfl),by repeat (first|(with_reducible first|exact HB.out|apply zG|apply zN|apply zH|refine below_set ?_ GE153.out|refine below_set ?_ GE154.out|refine below_set ?_ GE155.out)|exact HB.out)⟩
    ·
     rw [if_neg c21] at H
     have c21b0:(a0==43)=false:=beq_eq_false_iff_ne.mpr c21
     have c21b1:(a0 != 43)=true:=bne_iff_ne.mpr c21
     by_cases c28:a0=45
     ·
      rw [if_pos c28] at H
      have c28b0:(a0==45)=true:=beq_iff_eq.mpr c28
      have c28b1:(a0 != 45)=false:=bne_eq_false_iff_eq.mpr c28
      clear c28
      simp only [Option.some.injEq,Prod.mk.injEq] at H
      obtain ⟨rfl,rfl,rfl⟩:=H
      have hnb29:=NB153_154.out
      have hnc29:=NB154_153.out
      have hnb30:=NB153_155.out
      have hnc30:=NB155_153.out
      have hcz31_0:wc.cell? ⟨gb153,0,none⟩=some (.int .i64 a1_0):=(zJ BK153.out 0).trans rfl
      have hcz31_1:wc.cell? ⟨gb153,1,none⟩=some (.int .i64 a1_1):=(zJ BK153.out 1).trans rfl
      have hfz31_0:=zK BK153.out 0
      have hfz31_1:=zK BK153.out 1
      have hnb32:=NB154_155.out
      have hnc32:=NB155_154.out
      have hcz33_0:wc.cell? ⟨gb154,0,none⟩=some (.int .i64 a2_0):=(zJ BK154.out 0).trans rfl
      have hcz33_1:wc.cell? ⟨gb154,1,none⟩=some (.int .i64 a2_1):=(zJ BK154.out 1).trans rfl
      have hfz33_0:=zK BK154.out 0
      have hfz33_1:=zK BK154.out 1
      have hcz34_0:wc.cell? ⟨gb155,0,none⟩=some (.int .i64 0):=(zJ BK155.out 0).trans rfl
      have hcz34_1:wc.cell? ⟨gb155,1,none⟩=some (.int .i64 0):=(zJ BK155.out 1).trans rfl
      have hfz34_0:=zK BK155.out 0
      have hfz34_1:=zK BK155.out 1
      go_wp2
      refine bodyPost_ret (results_ct rfl _ _ gb155 24 #[.int .i64 1,.int .i64 (wrap64 (a1_1 - a2_1))] (0,0) _ rfl (by (with_reducible repeat (first|refine blk_drewN ?_ _|refine blk_drew ?_|refine blk_alloc ?_ _));refine blk_put (cs:=#[.int .i64 1,.int .i64 0]) ?_ 1 _ rfl;(with_reducible repeat (first|refine blk_drewN ?_ _|refine blk_drew ?_|refine blk_alloc ?_ _));refine blk_put (cs:=#[.int .i64 0,.int .i64 0]) ?_ 0 _ rfl;(with_reducible repeat (first|refine blk_drewN ?_ _|refine blk_drew ?_|refine blk_alloc ?_ _));exact BK155.out) Try.underlying24 rfl (by kernel_rfl)) rfl ?_
      exact ⟨by first|rfl|(simp [errW_none,errW_some] <;> rfl)|(simp [*,errW_none,errW_some] <;> rfl),by repeat (first|(with_reducible first|exact HB.out|apply zG|apply zN|apply zH|refine below_set ?_ GE153.out|refine below_set ?_ GE154.out|refine below_set ?_ GE155.out)|exact HB.out)⟩
     ·
      rw [if_neg c28] at H
      have c28b0:(a0==45)=false:=beq_eq_false_iff_ne.mpr c28
      have c28b1:(a0 != 45)=true:=bne_iff_ne.mpr c28
      simp only [Option.some.injEq,Prod.mk.injEq] at H
      obtain ⟨rfl,rfl,rfl⟩:=H
      have hnb35:=NB153_154.out
      have hnc35:=NB154_153.out
      have hnb36:=NB153_155.out
      have hnc36:=NB155_153.out
      have hcz37_0:wc.cell? ⟨gb153,0,none⟩=some (.int .i64 a1_0):=(zJ BK153.out 0).trans rfl
      have hcz37_1:wc.cell? ⟨gb153,1,none⟩=some (.int .i64 a1_1):=(zJ BK153.out 1).trans rfl
      have hfz37_0:=zK BK153.out 0
      have hfz37_1:=zK BK153.out 1
      have hnb38:=NB154_155.out
      have hnc38:=NB155_154.out
      have hcz39_0:wc.cell? ⟨gb154,0,none⟩=some (.int .i64 a2_0):=(zJ BK154.out 0).trans rfl
      have hcz39_1:wc.cell? ⟨gb154,1,none⟩=some (.int .i64 a2_1):=(zJ BK154.out 1).trans rfl
      have hfz39_0:=zK BK154.out 0
      have hfz39_1:=zK BK154.out 1
      have hcz40_0:wc.cell? ⟨gb155,0,none⟩=some (.int .i64 0):=(zJ BK155.out 0).trans rfl
      have hcz40_1:wc.cell? ⟨gb155,1,none⟩=some (.int .i64 0):=(zJ BK155.out 1).trans rfl
      have hfz40_0:=zK BK155.out 0
      have hfz40_1:=zK BK155.out 1
      go_wp2
      refine bodyPost_ret (results_ct rfl _ _ gb155 24 #[.int .i64 1,.int .i64 (wrap64 (a1_1 * a2_1))] (0,0) _ rfl (by (with_reducible repeat (first|refine blk_drewN ?_ _|refine blk_drew ?_|refine blk_alloc ?_ _));refine blk_put (cs:=#[.int .i64 1,.int .i64 0]) ?_ 1 _ rfl;(with_reducible repeat (first|refine blk_drewN ?_ _|refine blk_drew ?_|refine blk_alloc ?_ _));refine blk_put (cs:=#[.int .i64 0,.int .i64 0]) ?_ 0 _ rfl;(with_reducible repeat (first|refine blk_drewN ?_ _|refine blk_drew ?_|refine blk_alloc ?_ _));exact BK155.out) Try.underlying24 rfl (by kernel_rfl)) rfl ?_
      exact ⟨by first|rfl|(simp [errW_none,errW_some] <;> rfl)|(simp [*,errW_none,errW_some] <;> rfl),by repeat (first|(with_reducible first|exact HB.out|apply zG|apply zN|apply zH|refine below_set ?_ GE153.out|refine below_set ?_ GE154.out|refine below_set ?_ GE155.out)|exact HB.out)⟩
def warpbeamref08_Find.l0:Nat→List (S114)→Int→Bool→Bool→Int→Int→Option (Int)
 | 0,_,_,_,_,_,_=>none
 | k+1,x0,x1,x2,x3,x9,x10=>if x10<(x0.length:Int) then (if 0≤x10 then (if ((rd_T114 x0 x10).f0)=x1 then (if (((rd_T114 x0 x10).f2)==x2)=true then (if x9<0 then (warpbeamref08_Find.l0 k x0 x1 x2 x3 x10 (wrap64 (x10+1))) else (if x3=true then (warpbeamref08_Find.l0 k x0 x1 x2 x3 x10 (wrap64 (x10+1))) else (warpbeamref08_Find.l0 k x0 x1 x2 x3 x9 (wrap64 (x10+1))))) else (warpbeamref08_Find.l0 k x0 x1 x2 x3 x9 (wrap64 (x10+1)))) else (warpbeamref08_Find.l0 k x0 x1 x2 x3 x9 (wrap64 (x10+1)))) else (none)) else (some x9)
def warpbeamref08_Find.f (k:Nat) (l0:List (S114)) (a1:Int) (a2:Bool) (a3:Bool):Option (Int):=warpbeamref08_Find.l0 k l0 a1 a2 a3 (-1) 0
theorem warpbeamref08_Find.calls (k:Nat) (A0:Option Addr) (c0:Nat) (l0:List (S114)) (a1:Int) (a2:Bool) (a3:Bool) (r:Int) (w:World) (hr0:Kd.C k114 w A0 l0.length l0) (hc0:l0.length≤c0) (h:warpbeamref08_Find.f k l0 a1 a2 a3=some r) :
  Calls Try.prog 86 #[.slice A0 l0.length c0,.int .i64 a1,.bool a2,.bool a3] w fun e w'=>e=.returned (.int .i64 r)∧Drawn0 w w':=by
 have HR0:=Aside0.mk hr0
 have HC0:=Aside0.mk hc0
 clear hr0 hc0
 have H:(warpbeamref08_Find.l0 k l0 a1 a2 a3 (-1) 0)=some r:=h
 clear h
 have H':=Aside0.mk H
 clear H
 go_enter Try.func86,Try.ntmps86
 go_wp2
 go_loopg [9,10] k (fun kq v9 v10 w'=>∃ (x9_1:Int) (x10_1:Int),v9=.int .i64 x9_1∧v10=.int .i64 x10_1∧Aside0 (warpbeamref08_Find.l0 kq l0 a1 a2 a3 x9_1 x10_1=some r)∧Aside0 (kq≤k)∧Drawn0 w w')
 case atStart=>exact ⟨((-1)),(0),(by first|rfl|(simp;done)|(simp [*];done)),(by first|rfl|(simp;done)|(simp [*];done)),H',⟨Nat.le_refl _⟩,by repeat (first|exact Drawn0.refl _|apply Drawn0.step)⟩
 case round =>
  clear H'
  try clear p2
  obtain ⟨x9_1,x10_1,rfl,rfl,HA,HK1,⟨m1,rfl⟩⟩:=hrel
  cases gk with
  | zero=>exact absurd HA.out (by simp [warpbeamref08_Find.l0])
  | succ k1 =>
   have H:=HA.out
   clear HA
   simp only [warpbeamref08_Find.l0] at H
   by_cases c5:x10_1<(l0.length:Int)
   ·
    rw [if_pos c5] at H
    have c5b0:decide (x10_1<(l0.length:Int))=true:=decide_eq_true c5
    clear c5
    by_cases c6:0≤x10_1
    ·
     rw [if_pos c6] at H
     have c6b0:decide (0≤x10_1)=true:=decide_eq_true c6
     clear c6
     by_cases c7:((rd_T114 l0 x10_1).f0)=a1
     ·
      rw [if_pos c7] at H
      have c7b0:(((rd_T114 l0 x10_1).f0)==a1)=true:=beq_iff_eq.mpr c7
      have c7b1:(((rd_T114 l0 x10_1).f0) != a1)=false:=bne_eq_false_iff_eq.mpr c7
      clear c7
      by_cases c8:(((rd_T114 l0 x10_1).f2)==a2)=true
      ·
       rw [if_pos c8] at H
       have c8b0:(((rd_T114 l0 x10_1).f2)==a2)=true:=c8
       (try (have c8b1:decide (((rd_T114 l0 x10_1).f2)=a2)=true:=by simpa using c8))
       (try (have c8b2:(((rd_T114 l0 x10_1).f2)==a2)=true:=by simpa using c8))
       clear c8
       by_cases c9:x9_1<0
       ·
        rw [if_pos c9] at H
        have c9b0:decide (x9_1<0)=true:=decide_eq_true c9
        clear c9
        have H':=Aside0.mk H
        clear H
        have p156:0≤(x10_1:Int):=of_decide_eq_true (by first|(with_reducible assumption)|assumption)
        have q156:x10_1<(l0.length:Int):=of_decide_eq_true (by first|(with_reducible assumption)|assumption)
        obtain ⟨ad156,e156,hx156_0,hx156_1,hx156_2,hx156_3⟩:=at_T114 HR0.out x10_1 p156 q156
        cases e156
        replace p156:=eq_true p156
        replace q156:=eq_true q156
        have p157:0≤(x10_1:Int):=of_decide_eq_true (by first|(with_reducible assumption)|assumption)
        have q157:x10_1<(l0.length:Int):=of_decide_eq_true (by first|(with_reducible assumption)|assumption)
        obtain ⟨ad157,e157,hx157_0,hx157_1,hx157_2,hx157_3⟩:=at_T114 HR0.out x10_1 p157 q157
        obtain rfl:ad156=ad157:=(by injection e157)
        replace p157:=eq_true p157
        replace q157:=eq_true q157
        go_wp2
        go_roundg k1
        case measure=>have:=HK1.out;omega
        case rel=>exact ⟨(x10_1),(wrap64 (x10_1+1)),(by first|rfl|(simp;done)|(simp [*];done)),(by first|rfl|(simp;done)|(simp [*];done)),H',⟨by have:=HK1.out;omega⟩,by repeat (first|exact Drawn0.refl _|apply Drawn0.step)⟩
       ·
        rw [if_neg c9] at H
        have c9b0:decide (x9_1<0)=false:=decide_eq_false c9
        clear c9
        by_cases c10:a3=true
        ·
         subst c10
         have H1:(warpbeamref08_Find.l0 k1 l0 a1 a2 true x10_1 (wrap64 (x10_1+1)))=some r:=by rw [if_pos rfl] at H;exact H
         clear H
         have H:=H1
         clear H1
         have H':=Aside0.mk H
         clear H
         have p156:0≤(x10_1:Int):=of_decide_eq_true (by first|(with_reducible assumption)|assumption)
         have q156:x10_1<(l0.length:Int):=of_decide_eq_true (by first|(with_reducible assumption)|assumption)
         obtain ⟨ad156,e156,hx156_0,hx156_1,hx156_2,hx156_3⟩:=at_T114 HR0.out x10_1 p156 q156
         cases e156
         replace p156:=eq_true p156
         replace q156:=eq_true q156
         have p157:0≤(x10_1:Int):=of_decide_eq_true (by first|(with_reducible assumption)|assumption)
         have q157:x10_1<(l0.length:Int):=of_decide_eq_true (by first|(with_reducible assumption)|assumption)
         obtain ⟨ad157,e157,hx157_0,hx157_1,hx157_2,hx157_3⟩:=at_T114 HR0.out x10_1 p157 q157
         obtain rfl:ad156=ad157:=(by injection e157)
         replace p157:=eq_true p157
         replace q157:=eq_true q157
         go_wp2
         go_roundg k1
         case measure=>have:=HK1.out;omega
         case rel=>exact ⟨(x10_1),(wrap64 (x10_1+1)),(by first|rfl|(simp;done)|(simp [*];done)),(by first|rfl|(simp;done)|(simp [*];done)),H',⟨by have:=HK1.out;omega⟩,by repeat (first|exact Drawn0.refl _|apply Drawn0.step)⟩
        ·
         replace c10:=Bool.eq_false_iff.mpr c10
         subst c10
         have H1:(warpbeamref08_Find.l0 k1 l0 a1 a2 false x9_1 (wrap64 (x10_1+1)))=some r:=by rw [if_neg (show ¬ (false=true) by decide)] at H;exact H
         clear H
         have H:=H1
         clear H1
         have H':=Aside0.mk H
         clear H
         have p156:0≤(x10_1:Int):=of_decide_eq_true (by first|(with_reducible assumption)|assumption)
         have q156:x10_1<(l0.length:Int):=of_decide_eq_true (by first|(with_reducible assumption)|assumption)
         obtain ⟨ad156,e156,hx156_0,hx156_1,hx156_2,hx156_3⟩:=at_T114 HR0.out x10_1 p156 q156
         cases e156
         replace p156:=eq_true p156
         replace q156:=eq_true q156
         have p157:0≤(x10_1:Int):=of_decide_eq_true (by first|(with_reducible assumption)|assumption)
         have q157:x10_1<(l0.length:Int):=of_decide_eq_true (by first|(with_reducible assumption)|assumption)
         obtain ⟨ad157,e157,hx157_0,hx157_1,hx157_2,hx157_3⟩:=at_T114 HR0.out x10_1 p157 q157
         obtain rfl:ad156=ad157:=(by injection e157)
         replace p157:=eq_true p157
         replace q157:=eq_true q157
         go_wp2
         go_roundg k1
         case measure=>have:=HK1.out;omega
         case rel=>exact ⟨(x9_1),(wrap64 (x10_1+1)),(by first|rfl|(simp;done)|(simp [*];done)),(by first|rfl|(simp;done)|(simp [*];done)),H',⟨by have:=HK1.out;omega⟩,by repeat (first|exact Drawn0.refl _|apply Drawn0.step)⟩
      ·
       rw [if_neg c8] at H
       have c8b0:(((rd_T114 l0 x10_1).f2)==a2)=false:=by simpa using c8
       (try (have c8b1:decide (((rd_T114 l0 x10_1).f2)=a2)=false:=by simpa using c8))
       (try (have c8b2:(((rd_T114 l0 x10_1).f2)==a2)=false:=by simpa using c8))
       (try (have c8b3:¬ (((rd_T114 l0 x10_1).f2)=a2):=by simpa using c8))
       clear c8
       have H':=Aside0.mk H
       clear H
       have p156:0≤(x10_1:Int):=of_decide_eq_true (by first|(with_reducible assumption)|assumption)
       have q156:x10_1<(l0.length:Int):=of_decide_eq_true (by first|(with_reducible assumption)|assumption)
       obtain ⟨ad156,e156,hx156_0,hx156_1,hx156_2,hx156_3⟩:=at_T114 HR0.out x10_1 p156 q156
       cases e156
       replace p156:=eq_true p156
       replace q156:=eq_true q156
       have p157:0≤(x10_1:Int):=of_decide_eq_true (by first|(with_reducible assumption)|assumption)
       have q157:x10_1<(l0.length:Int):=of_decide_eq_true (by first|(with_reducible assumption)|assumption)
       obtain ⟨ad157,e157,hx157_0,hx157_1,hx157_2,hx157_3⟩:=at_T114 HR0.out x10_1 p157 q157
       obtain rfl:ad156=ad157:=(by injection e157)
       replace p157:=eq_true p157
       replace q157:=eq_true q157
       go_wp2
       go_roundg k1
       case measure=>have:=HK1.out;omega
       case rel=>exact ⟨(x9_1),(wrap64 (x10_1+1)),(by first|rfl|(simp;done)|(simp [*];done)),(by first|rfl|(simp;done)|(simp [*];done)),H',⟨by have:=HK1.out;omega⟩,by repeat (first|exact Drawn0.refl _|apply Drawn0.step)⟩
     ·
      rw [if_neg c7] at H
      have c7b0:(((rd_T114 l0 x10_1).f0)==a1)=false:=beq_eq_false_iff_ne.mpr c7
      have c7b1:(((rd_T114 l0 x10_1).f0) != a1)=true:=bne_iff_ne.mpr c7
      have H':=Aside0.mk H
      clear H
      have p156:0≤(x10_1:Int):=of_decide_eq_true (by first|(with_reducible assumption)|assumption)
      have q156:x10_1<(l0.length:Int):=of_decide_eq_true (by first|(with_reducible assumption)|assumption)
      obtain ⟨ad156,e156,hx156_0,hx156_1,hx156_2,hx156_3⟩:=at_T114 HR0.out x10_1 p156 q156
      cases e156
      replace p156:=eq_true p156
      replace q156:=eq_true q156
      go_wp2
      go_roundg k1
      case measure=>have:=HK1.out;omega
      case rel=>exact ⟨(x9_1),(wrap64 (x10_1+1)),(by first|rfl|(simp;done)|(simp [*];done)),(by first|rfl|(simp;done)|(simp [*];done)),H',⟨by have:=HK1.out;omega⟩,by repeat (first|exact Drawn0.refl _|apply Drawn0.step)⟩
    ·
     rw [if_neg c6] at H
     exact absurd H (by simp)
   ·
    rw [if_neg c5] at H
    have c5b0:decide (x10_1<(l0.length:Int))=false:=decide_eq_false c5
    clear c5
    obtain rfl:=Option.some.inj H
    go_wp2
    go_ret
    exact ⟨by first|rfl|(simp;done)|(simp [*];done),by repeat (first|exact Drawn0.refl _|apply Drawn0.step)⟩
def warpbeamref08_Look.f (k:Nat) (l0:List (S114)) (a1:Int):Option (Int × Int × Bool):=(warpbeamref08_Find.f k l0 a1 true true).bind fun t159=>(if t159<0 then ((warpbeamref08_Find.f k l0 a1 false false).bind fun t160=>(if t160<0 then (some (0,0,false)) else (if 0≤t160 then (if t160<(l0.length:Int) then (some ((rd_T114 l0 t160).f1.f0,(rd_T114 l0 t160).f1.f1,true)) else (none)) else (none)))) else (if 0≤t159 then (if t159<(l0.length:Int) then (some ((rd_T114 l0 t159).f1.f0,(rd_T114 l0 t159).f1.f1,true)) else (none)) else (none)))
theorem warpbeamref08_Look.calls (k:Nat) (A0:Option Addr) (c0:Nat) (l0:List (S114)) (a1:Int) (r1:Int) (r2:Int) (r3:Bool) (w:World) (hr0:Kd.C k114 w A0 l0.length l0) (hc0:l0.length≤c0) (h:warpbeamref08_Look.f k l0 a1=some (r1,r2,r3)) :
  Calls Try.prog 63 #[.slice A0 l0.length c0,.int .i64 a1] w fun e w'=>e=.returned (.tuple #[.agg #[.int .i64 r1,.int .i64 r2],.bool r3])∧Below w.heap.size w w':=by
 have hu24:=Try.underlying24
 have HR0:=Aside0.mk hr0
 have HC0:=Aside0.mk hc0
 clear hr0 hc0
 have HB:=Aside0.mk (Below.refl w.heap.size w)
 have H:((warpbeamref08_Find.f k l0 a1 true true).bind fun t159=>(if t159<0 then ((warpbeamref08_Find.f k l0 a1 false false).bind fun t160=>(if t160<0 then (some (0,0,false)) else (if 0≤t160 then (if t160<(l0.length:Int) then (some ((rd_T114 l0 t160).f1.f0,(rd_T114 l0 t160).f1.f1,true)) else (none)) else (none)))) else (if 0≤t159 then (if t159<(l0.length:Int) then (some ((rd_T114 l0 t159).f1.f0,(rd_T114 l0 t159).f1.f1,true)) else (none)) else (none))))=some (r1,r2,r3):=h
 clear h
 replace H:=Option.bind_eq_some_iff.mp H
 obtain ⟨t159,A30,H⟩:=H
 replace H:(if t159<0 then ((warpbeamref08_Find.f k l0 a1 false false).bind fun t160=>(if t160<0 then (some (0,0,false)) else (if 0≤t160 then (if t160<(l0.length:Int) then (some ((rd_T114 l0 t160).f1.f0,(rd_T114 l0 t160).f1.f1,true)) else (none)) else (none)))) else (if 0≤t159 then (if t159<(l0.length:Int) then (some ((rd_T114 l0 t159).f1.f0,(rd_T114 l0 t159).f1.f1,true)) else (none)) else (none)))=some (r1,r2,r3):=H
 have A3:=Aside0.mk A30
 clear A30
 by_cases c4:t159<0
 ·
  rw [if_pos c4] at H
  have c4b0:decide (t159<0)=true:=decide_eq_true c4
  clear c4
  replace H:=Option.bind_eq_some_iff.mp H
  obtain ⟨t160,A50,H⟩:=H
  replace H:(if t160<0 then (some (0,0,false)) else (if 0≤t160 then (if t160<(l0.length:Int) then (some ((rd_T114 l0 t160).f1.f0,(rd_T114 l0 t160).f1.f1,true)) else (none)) else (none)))=some (r1,r2,r3):=H
  have A5:=Aside0.mk A50
  clear A50
  by_cases c6:t160<0
  ·
   rw [if_pos c6] at H
   have c6b0:decide (t160<0)=true:=decide_eq_true c6
   clear c6
   simp only [Option.some.injEq,Prod.mk.injEq] at H
   obtain ⟨rfl,rfl,rfl⟩:=H
   go_enter Try.func63,Try.ntmps63
   go_wp2_with (first|((with_reducible refine gate_dst (N:=4) rfl ?_);refine box_event ?hg (N:=4) ?hd (cs:=#[.int .i64 0,.int .i64 0]) (t:=24) ?hr ?_;(case hd=>rfl);(case hg=>rfl);(case hr=>first|(go_simp;done)|(go_simp;rfl));intro gb158 hg w7 hbox hb;have n0_:=Aside0.mk (below_step (by repeat (first|(with_reducible first|exact HB.out|apply zG|apply zN|apply zH)|exact HB.out)) hb);have n1_:=Aside0.mk (hbox);have n2_:=Aside0.mk ((by rw [hg];exact (below_size (by repeat (first|(with_reducible first|exact HB.out|apply zG|apply zN|apply zH)|exact HB.out))):w.heap.size≤gb158));have n3_:=Aside0.mk ((by rw [hg];exact (below_size (by repeat (first|(with_reducible first|exact HB.out|apply zG|apply zN|apply zH)|exact HB.out))):w.heap.size≤gb158));clear HB;have HB:=n0_;have BK158:=n1_;have GW158:=n2_;have GE158:=n3_;clear n0_ n1_ n2_ n3_;clear hb hbox hg)|((with_reducible refine gate_callee (f:=86) rfl ?_);refine goesL_ (some 9) rfl rfl Try.func86 (by kernel_rfl) rfl #[.slice A0 l0.length c0,.int .i64 a1,.bool true,.bool true] rfl (by (try simp only [List.map_toArray,List.map_cons,List.map_nil]);first|done|rfl|(simp only [List.length_drop,List.length_take];rfl)) ?_;(with_reducible refine (warpbeamref08_Find.calls k _ _ l0 a1 true true t159 _ ?side1 ?side2 A3.out).mono ?_);(case side1=>repeat (first|exact (Kd.C_below HR0.out HB.out)|(with_reducible refine Kd.C_alloc ?_ _)|(with_reducible refine Kd.C_drewN ?_ _)|(with_reducible refine Kd.C_drew ?_)));(case side2=>exact HC0.out);rintro e w' ⟨rfl,⟨nd,rfl⟩⟩;refine ⟨_,rfl,?_⟩;(try (rw [drewN_self w7];generalize hq_:World.drewN w7 _=w7;have n0_:Aside0 (w7.heap[gb158]?=some (.cells #[.int .i64 0,.int .i64 0] 24 (0,0))):=⟨by rw [← hq_];exact (by (with_reducible repeat (first|refine blk_drewN ?_ _|refine blk_drew ?_|refine blk_alloc ?_ _));exact BK158.out)⟩;have n1_:Aside0 (Below w.heap.size w w7):=⟨by rw [← hq_];exact (by repeat (first|(with_reducible first|exact HB.out|apply zG|apply zN|apply zH|refine below_set ?_ GE158.out)|exact HB.out))⟩;clear BK158 HB hq_;have BK158:=n0_;have HB:=n1_;clear n0_ n1_)))|((with_reducible refine gate_callee (f:=86) rfl ?_);refine goesL_ (some 14) rfl rfl Try.func86 (by kernel_rfl) rfl #[.slice A0 l0.length c0,.int .i64 a1,.bool false,.bool false] rfl (by (try simp only [List.map_toArray,List.map_cons,List.map_nil]);first|done|rfl|(simp only [List.length_drop,List.length_take];rfl)) ?_;(with_reducible refine (warpbeamref08_Find.calls k _ _ l0 a1 false false t160 _ ?side1 ?side2 A5.out).mono ?_);(case side1=>repeat (first|exact (Kd.C_below HR0.out HB.out)|(with_reducible refine Kd.C_alloc ?_ _)|(with_reducible refine Kd.C_drewN ?_ _)|(with_reducible refine Kd.C_drew ?_)));(case side2=>exact HC0.out);rintro e w' ⟨rfl,⟨nd,rfl⟩⟩;refine ⟨_,rfl,?_⟩;(try (rw [drewN_self w7];generalize hq_:World.drewN w7 _=w7;have n0_:Aside0 (w7.heap[gb158]?=some (.cells #[.int .i64 0,.int .i64 0] 24 (0,0))):=⟨by rw [← hq_];exact (by (with_reducible repeat (first|refine blk_drewN ?_ _|refine blk_drew ?_|refine blk_alloc ?_ _));exact BK158.out)⟩;have n1_:Aside0 (Below w.heap.size w w7):=⟨by rw [← hq_];exact (by repeat (first|(with_reducible first|exact HB.out|apply zG|apply zN|apply zH|refine below_set ?_ GE158.out)|exact HB.out))⟩;clear BK158 HB hq_;have BK158:=n0_;have HB:=n1_;clear n0_ n1_));have hcz8_0:w7.cell? ⟨gb158,0,none⟩=some (.int .i64 0):=(zJ BK158.out 0).trans rfl;have hcz8_1:w7.cell? ⟨gb158,1,none⟩=some (.int .i64 0):=(zJ BK158.out 1).trans rfl;have hfz8_0:=zK BK158.out 0;have hfz8_1:=zK BK158.out 1))
   refine bodyPost_ret (results_ct rfl _ _ gb158 24 #[.int .i64 0,.int .i64 0] (0,0) _ rfl (by (with_reducible repeat (first|refine blk_drewN ?_ _|refine blk_drew ?_|refine blk_alloc ?_ _));refine blk_put (cs:=#[.int .i64 0,.int .i64 0]) ?_ 1 _ rfl;(with_reducible repeat (first|refine blk_drewN ?_ _|refine blk_drew ?_|refine blk_alloc ?_ _));refine blk_put (cs:=#[.int .i64 0,.int .i64 0]) ?_ 0 _ rfl;(with_reducible repeat (first|refine blk_drewN ?_ _|refine blk_drew ?_|refine blk_alloc ?_ _));exact BK158.out) Try.underlying24 rfl (by kernel_rfl)) rfl ?_
   exact ⟨by first|rfl|(simp [errW_none,errW_some] <;> rfl)|(simp [*,errW_none,errW_some] <;> rfl),by repeat (first|(with_reducible first|exact HB.out|apply zG|apply zN|apply zH|refine below_set ?_ GE158.out)|exact HB.out)⟩
  ·
   rw [if_neg c6] at H
   have c6b0:decide (t160<0)=false:=decide_eq_false c6
   clear c6
   by_cases c9:0≤t160
   ·
    rw [if_pos c9] at H
    have c9b0:decide (0≤t160)=true:=decide_eq_true c9
    clear c9
    by_cases c10:t160<(l0.length:Int)
    ·
     rw [if_pos c10] at H
     have c10b0:decide (t160<(l0.length:Int))=true:=decide_eq_true c10
     clear c10
     simp only [Option.some.injEq,Prod.mk.injEq] at H
     obtain ⟨rfl,rfl,rfl⟩:=H
     go_enter Try.func63,Try.ntmps63
     go_wp2_with (first|((with_reducible refine gate_dst (N:=4) rfl ?_);refine box_event ?hg (N:=4) ?hd (cs:=#[.int .i64 0,.int .i64 0]) (t:=24) ?hr ?_;(case hd=>rfl);(case hg=>rfl);(case hr=>first|(go_simp;done)|(go_simp;rfl));intro gb158 hg w11 hbox hb;have n0_:=Aside0.mk (below_step (by repeat (first|(with_reducible first|exact HB.out|apply zG|apply zN|apply zH)|exact HB.out)) hb);have n1_:=Aside0.mk (hbox);have n2_:=Aside0.mk ((by rw [hg];exact (below_size (by repeat (first|(with_reducible first|exact HB.out|apply zG|apply zN|apply zH)|exact HB.out))):w.heap.size≤gb158));have n3_:=Aside0.mk ((by rw [hg];exact (below_size (by repeat (first|(with_reducible first|exact HB.out|apply zG|apply zN|apply zH)|exact HB.out))):w.heap.size≤gb158));clear HB;have HB:=n0_;have BK158:=n1_;have GW158:=n2_;have GE158:=n3_;clear n0_ n1_ n2_ n3_;clear hb hbox hg)|((with_reducible refine gate_callee (f:=86) rfl ?_);refine goesL_ (some 9) rfl rfl Try.func86 (by kernel_rfl) rfl #[.slice A0 l0.length c0,.int .i64 a1,.bool true,.bool true] rfl (by (try simp only [List.map_toArray,List.map_cons,List.map_nil]);first|done|rfl|(simp only [List.length_drop,List.length_take];rfl)) ?_;(with_reducible refine (warpbeamref08_Find.calls k _ _ l0 a1 true true t159 _ ?side1 ?side2 A3.out).mono ?_);(case side1=>repeat (first|exact (Kd.C_below HR0.out HB.out)|(with_reducible refine Kd.C_alloc ?_ _)|(with_reducible refine Kd.C_drewN ?_ _)|(with_reducible refine Kd.C_drew ?_)));(case side2=>exact HC0.out);rintro e w' ⟨rfl,⟨nd,rfl⟩⟩;refine ⟨_,rfl,?_⟩;(try (rw [drewN_self w11];generalize hq_:World.drewN w11 _=w11;have n0_:Aside0 (w11.heap[gb158]?=some (.cells #[.int .i64 0,.int .i64 0] 24 (0,0))):=⟨by rw [← hq_];exact (by (with_reducible repeat (first|refine blk_drewN ?_ _|refine blk_drew ?_|refine blk_alloc ?_ _));exact BK158.out)⟩;have n1_:Aside0 (Below w.heap.size w w11):=⟨by rw [← hq_];exact (by repeat (first|(with_reducible first|exact HB.out|apply zG|apply zN|apply zH|refine below_set ?_ GE158.out)|exact HB.out))⟩;clear BK158 HB hq_;have BK158:=n0_;have HB:=n1_;clear n0_ n1_)))|((with_reducible refine gate_callee (f:=86) rfl ?_);refine goesL_ (some 14) rfl rfl Try.func86 (by kernel_rfl) rfl #[.slice A0 l0.length c0,.int .i64 a1,.bool false,.bool false] rfl (by (try simp only [List.map_toArray,List.map_cons,List.map_nil]);first|done|rfl|(simp only [List.length_drop,List.length_take];rfl)) ?_;(with_reducible refine (warpbeamref08_Find.calls k _ _ l0 a1 false false t160 _ ?side1 ?side2 A5.out).mono ?_);(case side1=>repeat (first|exact (Kd.C_below HR0.out HB.out)|(with_reducible refine Kd.C_alloc ?_ _)|(with_reducible refine Kd.C_drewN ?_ _)|(with_reducible refine Kd.C_drew ?_)));(case side2=>exact HC0.out);rintro e w' ⟨rfl,⟨nd,rfl⟩⟩;refine ⟨_,rfl,?_⟩;(try (rw [drewN_self w11];generalize hq_:World.drewN w11 _=w11;have n0_:Aside0 (w11.heap[gb158]?=some (.cells #[.int .i64 0,.int .i64 0] 24 (0,0))):=⟨by rw [← hq_];exact (by (with_reducible repeat (first|refine blk_drewN ?_ _|refine blk_drew ?_|refine blk_alloc ?_ _));exact BK158.out)⟩;have n1_:Aside0 (Below w.heap.size w w11):=⟨by rw [← hq_];exact (by repeat (first|(with_reducible first|exact HB.out|apply zG|apply zN|apply zH|refine below_set ?_ GE158.out)|exact HB.out))⟩;clear BK158 HB hq_;have BK158:=n0_;have HB:=n1_;clear n0_ n1_));have p161:0≤(t160:Int):=of_decide_eq_true (by first|(with_reducible assumption)|assumption);have q161:t160<(l0.length:Int):=of_decide_eq_true (by first|(with_reducible assumption)|assumption);obtain ⟨ad161,e161,hx161_0,hx161_1,hx161_2,hx161_3⟩:=at_T114 HR0.out t160 p161 q161;cases e161;replace hx161_0:=(HB.out.cell (zO w _ hx161_0)).trans hx161_0;replace hx161_1:=(HB.out.cell (zO w _ hx161_1)).trans hx161_1;replace hx161_2:=(HB.out.cell (zO w _ hx161_2)).trans hx161_2;replace hx161_3:=(HB.out.cell (zO w _ hx161_3)).trans hx161_3;replace p161:=eq_true p161;replace q161:=eq_true q161;have hcz12_0:w11.cell? ⟨gb158,0,none⟩=some (.int .i64 0):=(zJ BK158.out 0).trans rfl;have hcz12_1:w11.cell? ⟨gb158,1,none⟩=some (.int .i64 0):=(zJ BK158.out 1).trans rfl;have hfz12_0:=zK BK158.out 0;have hfz12_1:=zK BK158.out 1))
     refine bodyPost_ret (results_ct rfl _ _ gb158 24 #[.int .i64 ((rd_T114 l0 t160).f1.f0),.int .i64 ((rd_T114 l0 t160).f1.f1)] (0,0) _ rfl (by (with_reducible repeat (first|refine blk_drewN ?_ _|refine blk_drew ?_|refine blk_alloc ?_ _));refine blk_put (cs:=#[.int .i64 ((rd_T114 l0 t160).f1.f0),.int .i64 0]) ?_ 1 _ rfl;(with_reducible repeat (first|refine blk_drewN ?_ _|refine blk_drew ?_|refine blk_alloc ?_ _));refine blk_put (cs:=#[.int .i64 0,.int .i64 0]) ?_ 0 _ rfl;(with_reducible repeat (first|refine blk_drewN ?_ _|refine blk_drew ?_|refine blk_alloc ?_ _));exact BK158.out) Try.underlying24 rfl (by kernel_rfl)) rfl ?_
     exact ⟨by first|rfl|(simp [errW_none,errW_some] <;> rfl)|(simp [*,errW_none,errW_some] <;> rfl),by repeat (first|(with_reducible first|exact HB.out|apply zG|apply zN|apply zH|refine below_set ?_ GE158.out)|exact HB.out)⟩
    ·
     rw [if_neg c10] at H
     exact absurd H (by simp)
   ·
    rw [if_neg c9] at H
    exact absurd H (by simp)
 ·
  rw [if_neg c4] at H
  have c4b0:decide (t159<0)=false:=decide_eq_false c4
  clear c4
  by_cases c13:0≤t159
  ·
   rw [if_pos c13] at H
   have c13b0:decide (0≤t159)=true:=decide_eq_true c13
   clear c13
   by_cases c14:t159<(l0.length:Int)
   ·
    rw [if_pos c14] at H
    have c14b0:decide (t159<(l0.length:Int))=true:=decide_eq_true c14
    clear c14
    simp only [Option.some.injEq,Prod.mk.injEq] at H
    obtain ⟨rfl,rfl,rfl⟩:=H
    go_enter Try.func63,Try.ntmps63
    go_wp2_with (first|((with_reducible refine gate_dst (N:=4) rfl ?_);refine box_event ?hg (N:=4) ?hd (cs:=#[.int .i64 0,.int .i64 0]) (t:=24) ?hr ?_;(case hd=>rfl);(case hg=>rfl);(case hr=>first|(go_simp;done)|(go_simp;rfl));intro gb158 hg w15 hbox hb;have n0_:=Aside0.mk (below_step (by repeat (first|(with_reducible first|exact HB.out|apply zG|apply zN|apply zH)|exact HB.out)) hb);have n1_:=Aside0.mk (hbox);have n2_:=Aside0.mk ((by rw [hg];exact (below_size (by repeat (first|(with_reducible first|exact HB.out|apply zG|apply zN|apply zH)|exact HB.out))):w.heap.size≤gb158));have n3_:=Aside0.mk ((by rw [hg];exact (below_size (by repeat (first|(with_reducible first|exact HB.out|apply zG|apply zN|apply zH)|exact HB.out))):w.heap.size≤gb158));clear HB;have HB:=n0_;have BK158:=n1_;have GW158:=n2_;have GE158:=n3_;clear n0_ n1_ n2_ n3_;clear hb hbox hg)|((with_reducible refine gate_callee (f:=86) rfl ?_);refine goesL_ (some 9) rfl rfl Try.func86 (by kernel_rfl) rfl #[.slice A0 l0.length c0,.int .i64 a1,.bool true,.bool true] rfl (by (try simp only [List.map_toArray,List.map_cons,List.map_nil]);first|done|rfl|(simp only [List.length_drop,List.length_take];rfl)) ?_;(with_reducible refine (warpbeamref08_Find.calls k _ _ l0 a1 true true t159 _ ?side1 ?side2 A3.out).mono ?_);(case side1=>repeat (first|exact (Kd.C_below HR0.out HB.out)|(with_reducible refine Kd.C_alloc ?_ _)|(with_reducible refine Kd.C_drewN ?_ _)|(with_reducible refine Kd.C_drew ?_)));(case side2=>exact HC0.out);rintro e w' ⟨rfl,⟨nd,rfl⟩⟩;refine ⟨_,rfl,?_⟩;(try (rw [drewN_self w15];generalize hq_:World.drewN w15 _=w15;have n0_:Aside0 (w15.heap[gb158]?=some (.cells #[.int .i64 0,.int .i64 0] 24 (0,0))):=⟨by rw [← hq_];exact (by (with_reducible repeat (first|refine blk_drewN ?_ _|refine blk_drew ?_|refine blk_alloc ?_ _));exact BK158.out)⟩;have n1_:Aside0 (Below w.heap.size w w15):=⟨by rw [← hq_];exact (by repeat (first|(with_reducible first|exact HB.out|apply zG|apply zN|apply zH|refine below_set ?_ GE158.out)|exact HB.out))⟩;clear BK158 HB hq_;have BK158:=n0_;have HB:=n1_;clear n0_ n1_));have p162:0≤(t159:Int):=of_decide_eq_true (by first|(with_reducible assumption)|assumption);have q162:t159<(l0.length:Int):=of_decide_eq_true (by first|(with_reducible assumption)|assumption);obtain ⟨ad162,e162,hx162_0,hx162_1,hx162_2,hx162_3⟩:=at_T114 HR0.out t159 p162 q162;cases e162;replace hx162_0:=(HB.out.cell (zO w _ hx162_0)).trans hx162_0;replace hx162_1:=(HB.out.cell (zO w _ hx162_1)).trans hx162_1;replace hx162_2:=(HB.out.cell (zO w _ hx162_2)).trans hx162_2;replace hx162_3:=(HB.out.cell (zO w _ hx162_3)).trans hx162_3;replace p162:=eq_true p162;replace q162:=eq_true q162;have hcz16_0:w15.cell? ⟨gb158,0,none⟩=some (.int .i64 0):=(zJ BK158.out 0).trans rfl;have hcz16_1:w15.cell? ⟨gb158,1,none⟩=some (.int .i64 0):=(zJ BK158.out 1).trans rfl;have hfz16_0:=zK BK158.out 0;have hfz16_1:=zK BK158.out 1))
    refine bodyPost_ret (results_ct rfl _ _ gb158 24 #[.int .i64 ((rd_T114 l0 t159).f1.f0),.int .i64 ((rd_T114 l0 t159).f1.f1)] (0,0) _ rfl (by (with_reducible repeat (first|refine blk_drewN ?_ _|refine blk_drew ?_|refine blk_alloc ?_ _));refine blk_put (cs:=#[.int .i64 ((rd_T114 l0 t159).f1.f0),.int .i64 0]) ?_ 1 _ rfl;(with_reducible repeat (first|refine blk_drewN ?_ _|refine blk_drew ?_|refine blk_alloc ?_ _));refine blk_put (cs:=#[.int .i64 0,.int .i64 0]) ?_ 0 _ rfl;(with_reducible repeat (first|refine blk_drewN ?_ _|refine blk_drew ?_|refine blk_alloc ?_ _));exact BK158.out) Try.underlying24 rfl (by kernel_rfl)) rfl ?_
    exact ⟨by first|rfl|(simp [errW_none,errW_some] <;> rfl)|(simp [*,errW_none,errW_some] <;> rfl),by repeat (first|(with_reducible first|exact HB.out|apply zG|apply zN|apply zH|refine below_set ?_ GE158.out)|exact HB.out)⟩
   ·
    rw [if_neg c14] at H
    exact absurd H (by simp)
  ·
   rw [if_neg c13] at H
   exact absurd H (by simp)
def warpbeamref06_Right.f (a0_0:Int) (a0_1:Int):Option (Bool):=if a0_0=0 then (some (a0_1==0)) else (if a0_0=1 then (some true) else (if a0_0=2 then (if a0_1 ≥ 0 then (some (decide (a0_1<64))) else (some false)) else (some false)))
theorem warpbeamref06_Right.calls (a0_0:Int) (a0_1:Int) (r:Bool) (w:World) (h:warpbeamref06_Right.f a0_0 a0_1=some r) :
  Calls Try.prog 25 #[.agg #[.int .i64 a0_0,.int .i64 a0_1]] w fun e w'=>e=.returned (.bool r)∧Below w.heap.size w w':=by
 have hu24:=Try.underlying24
 have HB:=Aside0.mk (Below.refl w.heap.size w)
 have H:(if a0_0=0 then (some (a0_1==0)) else (if a0_0=1 then (some true) else (if a0_0=2 then (if a0_1 ≥ 0 then (some (decide (a0_1<64))) else (some false)) else (some false))))=some r:=h
 clear h
 by_cases c2:a0_0=0
 ·
  rw [if_pos c2] at H
  have c2b0:(a0_0==0)=true:=beq_iff_eq.mpr c2
  have c2b1:(a0_0 != 0)=false:=bne_eq_false_iff_eq.mpr c2
  clear c2
  obtain rfl:=Option.some.inj H
  go_enter Try.func25,Try.ntmps25
  go_wp2_with (first|((with_reducible refine gate_dst (N:=1) rfl ?_);refine box_event ?hg (N:=1) ?hd (cs:=#[.int .i64 a0_0,.int .i64 a0_1]) (t:=24) ?hr ?_;(case hd=>rfl);(case hg=>rfl);(case hr=>first|(go_simp;done)|(go_simp;rfl));intro gb163 hg w3 hbox hb;have n0_:=Aside0.mk (below_step (by repeat (first|(with_reducible first|exact HB.out|apply zG|apply zN|apply zH)|exact HB.out)) hb);have n1_:=Aside0.mk (hbox);have n2_:=Aside0.mk ((by rw [hg];exact (below_size (by repeat (first|(with_reducible first|exact HB.out|apply zG|apply zN|apply zH)|exact HB.out))):w.heap.size≤gb163));have n3_:=Aside0.mk ((by rw [hg];exact (below_size (by repeat (first|(with_reducible first|exact HB.out|apply zG|apply zN|apply zH)|exact HB.out))):w.heap.size≤gb163));clear HB;have HB:=n0_;have BK163:=n1_;have GW163:=n2_;have GE163:=n3_;clear n0_ n1_ n2_ n3_;clear hb hbox hg;have hcz4_0:w3.cell? ⟨gb163,0,none⟩=some (.int .i64 a0_0):=(zJ BK163.out 0).trans rfl;have hcz4_1:w3.cell? ⟨gb163,1,none⟩=some (.int .i64 a0_1):=(zJ BK163.out 1).trans rfl;have hfz4_0:=zK BK163.out 0;have hfz4_1:=zK BK163.out 1))
  go_ret
  exact ⟨by first|rfl|(simp [errW_none,errW_some] <;> rfl)|(simp [*,errW_none,errW_some] <;> rfl),by repeat (first|(with_reducible first|exact HB.out|apply zG|apply zN|apply zH|refine below_set ?_ GE163.out)|exact HB.out)⟩
 ·
  rw [if_neg c2] at H
  have c2b0:(a0_0==0)=false:=beq_eq_false_iff_ne.mpr c2
  have c2b1:(a0_0 != 0)=true:=bne_iff_ne.mpr c2
  by_cases c5:a0_0=1
  ·
   rw [if_pos c5] at H
   have c5b0:(a0_0==1)=true:=beq_iff_eq.mpr c5
   have c5b1:(a0_0 != 1)=false:=bne_eq_false_iff_eq.mpr c5
   clear c5
   obtain rfl:=Option.some.inj H
   go_enter Try.func25,Try.ntmps25
   go_wp2_with (first|((with_reducible refine gate_dst (N:=1) rfl ?_);refine box_event ?hg (N:=1) ?hd (cs:=#[.int .i64 a0_0,.int .i64 a0_1]) (t:=24) ?hr ?_;(case hd=>rfl);(case hg=>rfl);(case hr=>first|(go_simp;done)|(go_simp;rfl));intro gb163 hg w6 hbox hb;have n0_:=Aside0.mk (below_step (by repeat (first|(with_reducible first|exact HB.out|apply zG|apply zN|apply zH)|exact HB.out)) hb);have n1_:=Aside0.mk (hbox);have n2_:=Aside0.mk ((by rw [hg];exact (below_size (by repeat (first|(with_reducible first|exact HB.out|apply zG|apply zN|apply zH)|exact HB.out))):w.heap.size≤gb163));have n3_:=Aside0.mk ((by rw [hg];exact (below_size (by repeat (first|(with_reducible first|exact HB.out|apply zG|apply zN|apply zH)|exact HB.out))):w.heap.size≤gb163));clear HB;have HB:=n0_;have BK163:=n1_;have GW163:=n2_;have GE163:=n3_;clear n0_ n1_ n2_ n3_;clear hb hbox hg;have hcz7_0:w6.cell? ⟨gb163,0,none⟩=some (.int .i64 a0_0):=(zJ BK163.out 0).trans rfl;have hcz7_1:w6.cell? ⟨gb163,1,none⟩=some (.int .i64 a0_1):=(zJ BK163.out 1).trans rfl;have hfz7_0:=zK BK163.out 0;have hfz7_1:=zK BK163.out 1))
   go_ret
   exact ⟨by first|rfl|(simp [errW_none,errW_some] <;> rfl)|(simp [*,errW_none,errW_some] <;> rfl),by repeat (first|(with_reducible first|exact HB.out|apply zG|apply zN|apply zH|refine below_set ?_ GE163.out)|exact HB.out)⟩
  ·
   rw [if_neg c5] at H
   have c5b0:(a0_0==1)=false:=beq_eq_false_iff_ne.mpr c5
   have c5b1:(a0_0 != 1)=true:=bne_iff_ne.mpr c5
   by_cases c8:a0_0=2
   ·
    rw [if_pos c8] at H
    have c8b0:(a0_0==2)=true:=beq_iff_eq.mpr c8
    have c8b1:(a0_0 != 2)=false:=bne_eq_false_iff_eq.mpr c8
    clear c8
    by_cases c9:a0_1 ≥ 0
    ·
     rw [if_pos c9] at H
     have c9b0:decide (0≤a0_1)=true:=decide_eq_true c9
     clear c9
     obtain rfl:=Option.some.inj H
     go_enter Try.func25,Try.ntmps25
     go_wp2_with (first|((with_reducible refine gate_dst (N:=1) rfl ?_);refine box_event ?hg (N:=1) ?hd (cs:=#[.int .i64 a0_0,.int .i64 a0_1]) (t:=24) ?hr ?_;(case hd=>rfl);(case hg=>rfl);(case hr=>first|(go_simp;done)|(go_simp;rfl));intro gb163 hg w10 hbox hb;have n0_:=Aside0.mk (below_step (by repeat (first|(with_reducible first|exact HB.out|apply zG|apply zN|apply zH)|exact HB.out)) hb);have n1_:=Aside0.mk (hbox);have n2_:=Aside0.mk ((by rw [hg];exact (below_size (by repeat (first|(with_reducible first|exact HB.out|apply zG|apply zN|apply zH)|exact HB.out))):w.heap.size≤gb163));have n3_:=Aside0.mk ((by rw [hg];exact (below_size (by repeat (first|(with_reducible first|exact HB.out|apply zG|apply zN|apply zH)|exact HB.out))):w.heap.size≤gb163));clear HB;have HB:=n0_;have BK163:=n1_;have GW163:=n2_;have GE163:=n3_;clear n0_ n1_ n2_ n3_;clear hb hbox hg;have hcz11_0:w10.cell? ⟨gb163,0,none⟩=some (.int .i64 a0_0):=(zJ BK163.out 0).trans rfl;have hcz11_1:w10.cell? ⟨gb163,1,none⟩=some (.int .i64 a0_1):=(zJ BK163.out 1).trans rfl;have hfz11_0:=zK BK163.out 0;have hfz11_1:=zK BK163.out 1))
     go_ret
     exact ⟨by first|rfl|(simp [errW_none,errW_some] <;> rfl)|(simp [*,errW_none,errW_some] <;> rfl),by repeat (first|(with_reducible first|exact HB.out|apply zG|apply zN|apply zH|refine below_set ?_ GE163.out)|exact HB.out)⟩
    ·
     rw [if_neg c9] at H
     have c9b0:decide (0≤a0_1)=false:=decide_eq_false c9
     clear c9
     obtain rfl:=Option.some.inj H
     go_enter Try.func25,Try.ntmps25
     go_wp2_with (first|((with_reducible refine gate_dst (N:=1) rfl ?_);refine box_event ?hg (N:=1) ?hd (cs:=#[.int .i64 a0_0,.int .i64 a0_1]) (t:=24) ?hr ?_;(case hd=>rfl);(case hg=>rfl);(case hr=>first|(go_simp;done)|(go_simp;rfl));intro gb163 hg w12 hbox hb;have n0_:=Aside0.mk (below_step (by repeat (first|(with_reducible first|exact HB.out|apply zG|apply zN|apply zH)|exact HB.out)) hb);have n1_:=Aside0.mk (hbox);have n2_:=Aside0.mk ((by rw [hg];exact (below_size (by repeat (first|(with_reducible first|exact HB.out|apply zG|apply zN|apply zH)|exact HB.out))):w.heap.size≤gb163));have n3_:=Aside0.mk ((by rw [hg];exact (below_size (by repeat (first|(with_reducible first|exact HB.out|apply zG|apply zN|apply zH)|exact HB.out))):w.heap.size≤gb163));clear HB;have HB:=n0_;have BK163:=n1_;have GW163:=n2_;have GE163:=n3_;clear n0_ n1_ n2_ n3_;clear hb hbox hg;have hcz13_0:w12.cell? ⟨gb163,0,none⟩=some (.int .i64 a0_0):=(zJ BK163.out 0).trans rfl;have hcz13_1:w12.cell? ⟨gb163,1,none⟩=some (.int .i64 a0_1):=(zJ BK163.out 1).trans rfl;have hfz13_0:=zK BK163.out 0;have hfz13_1:=zK BK163.out 1))
     go_ret
     exact ⟨by first|rfl|(simp [errW_none,errW_some] <;> rfl)|(simp [*,errW_none,errW_some] <;> rfl),by repeat (first|(with_reducible first|exact HB.out|apply zG|apply zN|apply zH|refine below_set ?_ GE163.out)|exact HB.out)⟩
   ·
    rw [if_neg c8] at H
    have c8b0:(a0_0==2)=false:=beq_eq_false_iff_ne.mpr c8
    have c8b1:(a0_0 != 2)=true:=bne_iff_ne.mpr c8
    obtain rfl:=Option.some.inj H
    go_enter Try.func25,Try.ntmps25
    go_wp2_with (first|((with_reducible refine gate_dst (N:=1) rfl ?_);refine box_event ?hg (N:=1) ?hd (cs:=#[.int .i64 a0_0,.int .i64 a0_1]) (t:=24) ?hr ?_;(case hd=>rfl);(case hg=>rfl);(case hr=>first|(go_simp;done)|(go_simp;rfl));intro gb163 hg w14 hbox hb;have n0_:=Aside0.mk (below_step (by repeat (first|(with_reducible first|exact HB.out|apply zG|apply zN|apply zH)|exact HB.out)) hb);have n1_:=Aside0.mk (hbox);have n2_:=Aside0.mk ((by rw [hg];exact (below_size (by repeat (first|(with_reducible first|exact HB.out|apply zG|apply zN|apply zH)|exact HB.out))):w.heap.size≤gb163));have n3_:=Aside0.mk ((by rw [hg];exact (below_size (by repeat (first|(with_reducible first|exact HB.out|apply zG|apply zN|apply zH)|exact HB.out))):w.heap.size≤gb163));clear HB;have HB:=n0_;have BK163:=n1_;have GW163:=n2_;have GE163:=n3_;clear n0_ n1_ n2_ n3_;clear hb hbox hg;have hcz15_0:w14.cell? ⟨gb163,0,none⟩=some (.int .i64 a0_0):=(zJ BK163.out 0).trans rfl;have hcz15_1:w14.cell? ⟨gb163,1,none⟩=some (.int .i64 a0_1):=(zJ BK163.out 1).trans rfl;have hfz15_0:=zK BK163.out 0;have hfz15_1:=zK BK163.out 1))
    go_ret
    exact ⟨by first|rfl|(simp [errW_none,errW_some] <;> rfl)|(simp [*,errW_none,errW_some] <;> rfl),by repeat (first|(with_reducible first|exact HB.out|apply zG|apply zN|apply zH|refine below_set ?_ GE163.out)|exact HB.out)⟩
end Go.Proofs.Ytgnjkegnddekeaa.Q
