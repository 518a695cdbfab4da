/- Words of the printer that this claim uses, cut to these by a program of its author (not as they were printed). -/
import Derived.Test.YtgnjkegnddekeaaXQ0
namespace Go.Proofs.Ytgnjkegnddekeaa.Q
open Go.RowKit Go.Proofs.YtgnjkegnddekeaaW.PrintWords Go.Proofs.YtgnjkegnddekeaaW.PrintLast Go.Proofs.YtgnjkegnddekeaaW.PrintMore
attribute [local go_sem] max2_int min2_int max_two min_two max_three min_three max_four min_four   -- for this text's walks alone
set_option linter.unusedVariables false
set_option linter.unusedSimpArgs false
def warpbeamref17_number.f (a0:Int):Option (Int × Int):=some (1,a0)
def warpbeamref06_Less.f (a0_0:Int) (a0_1:Int) (a1_0:Int) (a1_1:Int):Option (Bool × Int):=if a0_0=1 then (if a1_0=1 then (some (decide (a0_1 < a1_1),0)) else (some (false,7))) else (some (false,7))
def warpbeamref06_Do.j0:Nat → Int → Bool → Int → Int → Int → Int → Option (Int × Int × Int)
 | 0,_,_,_,_,_,_ => none
 | k + 1,x0,x15,x154000,x154001,x155000,x155001 => if x15=true then (some (0,0,7)) else (if x0=43 then (some (1,wrap64 (x154001 + x155001),0)) else (if x0=45 then (some (1,wrap64 (x154001 - x155001),0)) else (some (1,wrap64 (x154001 * x155001),0))))
def warpbeamref06_Do.f (k:Nat) (a0:Int) (a1_0:Int) (a1_1:Int) (a2_0:Int) (a2_1:Int):Option (Int × Int × Int):=if a1_0=1 then (warpbeamref06_Do.j0 k a0 (a2_0 != 1) a1_0 a1_1 a2_0 a2_1) else (warpbeamref06_Do.j0 k a0 true a1_0 a1_1 a2_0 a2_1)
def warpbeamref08_Find.l0:Nat → List (S114) → Int → Bool → Bool → Int → Int → Option (Int)
 | 0,_,_,_,_,_,_ => none
 | k + 1,x0,x1,x2,x3,x9,x10 => if x10 < (x0.length:Int) then (if 0 ≤ x10 then (if ((rd_T114 x0 x10).f0)=x1 then (if (((rd_T114 x0 x10).f2) == x2)=true then (if x9 < 0 then (warpbeamref08_Find.l0 k x0 x1 x2 x3 x10 (wrap64 (x10 + 1))) else (if x3=true then (warpbeamref08_Find.l0 k x0 x1 x2 x3 x10 (wrap64 (x10 + 1))) else (warpbeamref08_Find.l0 k x0 x1 x2 x3 x9 (wrap64 (x10 + 1))))) else (warpbeamref08_Find.l0 k x0 x1 x2 x3 x9 (wrap64 (x10 + 1)))) else (warpbeamref08_Find.l0 k x0 x1 x2 x3 x9 (wrap64 (x10 + 1)))) else (none)) else (some x9)
def warpbeamref08_Find.f (k:Nat) (l0:List (S114)) (a1:Int) (a2:Bool) (a3:Bool):Option (Int):=warpbeamref08_Find.l0 k l0 a1 a2 a3 (-1) 0
def warpbeamref08_Look.f (k:Nat) (l0:List (S114)) (a1:Int):Option (Int × Int × Bool):=(warpbeamref08_Find.f k l0 a1 true true).bind fun t159 => (if t159 < 0 then ((warpbeamref08_Find.f k l0 a1 false false).bind fun t160 => (if t160 < 0 then (some (0,0,false)) else (if 0 ≤ t160 then (if t160 < (l0.length:Int) then (some ((rd_T114 l0 t160).f1.f0,(rd_T114 l0 t160).f1.f1,true)) else (none)) else (none)))) else (if 0 ≤ t159 then (if t159 < (l0.length:Int) then (some ((rd_T114 l0 t159).f1.f0,(rd_T114 l0 t159).f1.f1,true)) else (none)) else (none)))
def warpbeamref06_Right.f (a0_0:Int) (a0_1:Int):Option (Bool):=if a0_0=0 then (some (a0_1 == 0)) else (if a0_0=1 then (some true) else (if a0_0=2 then (if a0_1 ≥ 0 then (some (decide (a0_1 < 64))) else (some false)) else (some false)))
set_option maxHeartbeats 8000000 in
set_option maxRecDepth 100000 in
theorem warpbeamref06_Right.calls (a0_0:Int) (a0_1:Int) (r:Bool) (w:World) (h:warpbeamref06_Right.f a0_0 a0_1=some r) :
  Calls Try.prog 25 #[.agg #[.int .i64 a0_0,.int .i64 a0_1]] w fun e w' => e=.returned (.bool r)∧Below w.heap.size w w':=by
 have hu24:=Try.underlying24
 have HB:=Aside0.mk (Below.refl w.heap.size w)
 have H:(if a0_0=0 then (some (a0_1 == 0)) else (if a0_0=1 then (some true) else (if a0_0=2 then (if a0_1 ≥ 0 then (some (decide (a0_1 < 64))) else (some false)) else (some false))))=some r:=h
 clear h
 by_cases c2:a0_0=0
 ·
  rw [if_pos c2] at H
  have c2b0:(a0_0 == 0)=true:=beq_iff_eq.mpr c2
  have c2b1:(a0_0 != 0)=false:=bne_eq_false_iff_eq.mpr c2
  clear c2
  obtain rfl:=Option.some.inj H
  go_enter Try.func25,Try.ntmps25
  go_wp2_with (first | ((with_reducible refine gate_dst (N:=1) rfl ?_);refine box_event ?hg (N:=1) ?hd (cs:=#[.int .i64 a0_0,.int .i64 a0_1]) (t:=24) ?hr ?_;(case hd => rfl);(case hg => rfl);(case hr => first | (go_simp;done) | (go_simp;rfl));intro gb163 hg w3 hbox hb;have n0_:=Aside0.mk (below_step (by repeat (first | (with_reducible first | exact HB.out | apply below_alloc | apply zI | apply below_drew1) | exact HB.out)) hb);have n1_:=Aside0.mk (hbox);have n2_:=Aside0.mk ((by rw [hg];exact (below_size (by repeat (first | (with_reducible first | exact HB.out | apply below_alloc | apply zI | apply below_drew1) | exact HB.out))):w.heap.size ≤ gb163));have n3_:=Aside0.mk ((by rw [hg];exact (below_size (by repeat (first | (with_reducible first | exact HB.out | apply below_alloc | apply zI | apply below_drew1) | exact HB.out))):w.heap.size ≤ gb163));clear HB;have HB:=n0_;have BK163:=n1_;have GW163:=n2_;have GE163:=n3_;clear n0_ n1_ n2_ n3_;clear hb hbox hg;have hcz4_0:w3.cell? ⟨gb163,0,none⟩=some (.int .i64 a0_0):=(zG BK163.out 0).trans rfl;have hcz4_1:w3.cell? ⟨gb163,1,none⟩=some (.int .i64 a0_1):=(zG BK163.out 1).trans rfl;have hfz4_0:=zH BK163.out 0;have hfz4_1:=zH BK163.out 1))
  go_ret
  exact ⟨by first | rfl | (simp [errW_none,errW_some] <;> rfl) | (simp [*,errW_none,errW_some] <;> rfl),by repeat (first | (with_reducible first | exact HB.out | apply below_alloc | apply zI | apply below_drew1 | refine below_set ?_ GE163.out) | exact HB.out)⟩
 ·
  rw [if_neg c2] at H
  have c2b0:(a0_0 == 0)=false:=beq_eq_false_iff_ne.mpr c2
  have c2b1:(a0_0 != 0)=true:=bne_iff_ne.mpr c2
  by_cases c5:a0_0=1
  ·
   rw [if_pos c5] at H
   have c5b0:(a0_0 == 1)=true:=beq_iff_eq.mpr c5
   have c5b1:(a0_0 != 1)=false:=bne_eq_false_iff_eq.mpr c5
   clear c5
   obtain rfl:=Option.some.inj H
   go_enter Try.func25,Try.ntmps25
   go_wp2_with (first | ((with_reducible refine gate_dst (N:=1) rfl ?_);refine box_event ?hg (N:=1) ?hd (cs:=#[.int .i64 a0_0,.int .i64 a0_1]) (t:=24) ?hr ?_;(case hd => rfl);(case hg => rfl);(case hr => first | (go_simp;done) | (go_simp;rfl));intro gb163 hg w6 hbox hb;have n0_:=Aside0.mk (below_step (by repeat (first | (with_reducible first | exact HB.out | apply below_alloc | apply zI | apply below_drew1) | exact HB.out)) hb);have n1_:=Aside0.mk (hbox);have n2_:=Aside0.mk ((by rw [hg];exact (below_size (by repeat (first | (with_reducible first | exact HB.out | apply below_alloc | apply zI | apply below_drew1) | exact HB.out))):w.heap.size ≤ gb163));have n3_:=Aside0.mk ((by rw [hg];exact (below_size (by repeat (first | (with_reducible first | exact HB.out | apply below_alloc | apply zI | apply below_drew1) | exact HB.out))):w.heap.size ≤ gb163));clear HB;have HB:=n0_;have BK163:=n1_;have GW163:=n2_;have GE163:=n3_;clear n0_ n1_ n2_ n3_;clear hb hbox hg;have hcz7_0:w6.cell? ⟨gb163,0,none⟩=some (.int .i64 a0_0):=(zG BK163.out 0).trans rfl;have hcz7_1:w6.cell? ⟨gb163,1,none⟩=some (.int .i64 a0_1):=(zG BK163.out 1).trans rfl;have hfz7_0:=zH BK163.out 0;have hfz7_1:=zH BK163.out 1))
   go_ret
   exact ⟨by first | rfl | (simp [errW_none,errW_some] <;> rfl) | (simp [*,errW_none,errW_some] <;> rfl),by repeat (first | (with_reducible first | exact HB.out | apply below_alloc | apply zI | apply below_drew1 | refine below_set ?_ GE163.out) | exact HB.out)⟩
  ·
   rw [if_neg c5] at H
   have c5b0:(a0_0 == 1)=false:=beq_eq_false_iff_ne.mpr c5
   have c5b1:(a0_0 != 1)=true:=bne_iff_ne.mpr c5
   by_cases c8:a0_0=2
   ·
    rw [if_pos c8] at H
    have c8b0:(a0_0 == 2)=true:=beq_iff_eq.mpr c8
    have c8b1:(a0_0 != 2)=false:=bne_eq_false_iff_eq.mpr c8
    clear c8
    by_cases c9:a0_1 ≥ 0
    ·
     rw [if_pos c9] at H
     have c9b0:decide (0 ≤ a0_1)=true:=decide_eq_true c9
     clear c9
     obtain rfl:=Option.some.inj H
     go_enter Try.func25,Try.ntmps25
     go_wp2_with (first | ((with_reducible refine gate_dst (N:=1) rfl ?_);refine box_event ?hg (N:=1) ?hd (cs:=#[.int .i64 a0_0,.int .i64 a0_1]) (t:=24) ?hr ?_;(case hd => rfl);(case hg => rfl);(case hr => first | (go_simp;done) | (go_simp;rfl));intro gb163 hg w10 hbox hb;have n0_:=Aside0.mk (below_step (by repeat (first | (with_reducible first | exact HB.out | apply below_alloc | apply zI | apply below_drew1) | exact HB.out)) hb);have n1_:=Aside0.mk (hbox);have n2_:=Aside0.mk ((by rw [hg];exact (below_size (by repeat (first | (with_reducible first | exact HB.out | apply below_alloc | apply zI | apply below_drew1) | exact HB.out))):w.heap.size ≤ gb163));have n3_:=Aside0.mk ((by rw [hg];exact (below_size (by repeat (first | (with_reducible first | exact HB.out | apply below_alloc | apply zI | apply below_drew1) | exact HB.out))):w.heap.size ≤ gb163));clear HB;have HB:=n0_;have BK163:=n1_;have GW163:=n2_;have GE163:=n3_;clear n0_ n1_ n2_ n3_;clear hb hbox hg;have hcz11_0:w10.cell? ⟨gb163,0,none⟩=some (.int .i64 a0_0):=(zG BK163.out 0).trans rfl;have hcz11_1:w10.cell? ⟨gb163,1,none⟩=some (.int .i64 a0_1):=(zG BK163.out 1).trans rfl;have hfz11_0:=zH BK163.out 0;have hfz11_1:=zH BK163.out 1))
     go_ret
     exact ⟨by first | rfl | (simp [errW_none,errW_some] <;> rfl) | (simp [*,errW_none,errW_some] <;> rfl),by repeat (first | (with_reducible first | exact HB.out | apply below_alloc | apply zI | apply below_drew1 | refine below_set ?_ GE163.out) | exact HB.out)⟩
    ·
     rw [if_neg c9] at H
     have c9b0:decide (0 ≤ a0_1)=false:=decide_eq_false c9
     clear c9
     obtain rfl:=Option.some.inj H
     go_enter Try.func25,Try.ntmps25
     go_wp2_with (first | ((with_reducible refine gate_dst (N:=1) rfl ?_);refine box_event ?hg (N:=1) ?hd (cs:=#[.int .i64 a0_0,.int .i64 a0_1]) (t:=24) ?hr ?_;(case hd => rfl);(case hg => rfl);(case hr => first | (go_simp;done) | (go_simp;rfl));intro gb163 hg w12 hbox hb;have n0_:=Aside0.mk (below_step (by repeat (first | (with_reducible first | exact HB.out | apply below_alloc | apply zI | apply below_drew1) | exact HB.out)) hb);have n1_:=Aside0.mk (hbox);have n2_:=Aside0.mk ((by rw [hg];exact (below_size (by repeat (first | (with_reducible first | exact HB.out | apply below_alloc | apply zI | apply below_drew1) | exact HB.out))):w.heap.size ≤ gb163));have n3_:=Aside0.mk ((by rw [hg];exact (below_size (by repeat (first | (with_reducible first | exact HB.out | apply below_alloc | apply zI | apply below_drew1) | exact HB.out))):w.heap.size ≤ gb163));clear HB;have HB:=n0_;have BK163:=n1_;have GW163:=n2_;have GE163:=n3_;clear n0_ n1_ n2_ n3_;clear hb hbox hg;have hcz13_0:w12.cell? ⟨gb163,0,none⟩=some (.int .i64 a0_0):=(zG BK163.out 0).trans rfl;have hcz13_1:w12.cell? ⟨gb163,1,none⟩=some (.int .i64 a0_1):=(zG BK163.out 1).trans rfl;have hfz13_0:=zH BK163.out 0;have hfz13_1:=zH BK163.out 1))
     go_ret
     exact ⟨by first | rfl | (simp [errW_none,errW_some] <;> rfl) | (simp [*,errW_none,errW_some] <;> rfl),by repeat (first | (with_reducible first | exact HB.out | apply below_alloc | apply zI | apply below_drew1 | refine below_set ?_ GE163.out) | exact HB.out)⟩
   ·
    rw [if_neg c8] at H
    have c8b0:(a0_0 == 2)=false:=beq_eq_false_iff_ne.mpr c8
    have c8b1:(a0_0 != 2)=true:=bne_iff_ne.mpr c8
    obtain rfl:=Option.some.inj H
    go_enter Try.func25,Try.ntmps25
    go_wp2_with (first | ((with_reducible refine gate_dst (N:=1) rfl ?_);refine box_event ?hg (N:=1) ?hd (cs:=#[.int .i64 a0_0,.int .i64 a0_1]) (t:=24) ?hr ?_;(case hd => rfl);(case hg => rfl);(case hr => first | (go_simp;done) | (go_simp;rfl));intro gb163 hg w14 hbox hb;have n0_:=Aside0.mk (below_step (by repeat (first | (with_reducible first | exact HB.out | apply below_alloc | apply zI | apply below_drew1) | exact HB.out)) hb);have n1_:=Aside0.mk (hbox);have n2_:=Aside0.mk ((by rw [hg];exact (below_size (by repeat (first | (with_reducible first | exact HB.out | apply below_alloc | apply zI | apply below_drew1) | exact HB.out))):w.heap.size ≤ gb163));have n3_:=Aside0.mk ((by rw [hg];exact (below_size (by repeat (first | (with_reducible first | exact HB.out | apply below_alloc | apply zI | apply below_drew1) | exact HB.out))):w.heap.size ≤ gb163));clear HB;have HB:=n0_;have BK163:=n1_;have GW163:=n2_;have GE163:=n3_;clear n0_ n1_ n2_ n3_;clear hb hbox hg;have hcz15_0:w14.cell? ⟨gb163,0,none⟩=some (.int .i64 a0_0):=(zG BK163.out 0).trans rfl;have hcz15_1:w14.cell? ⟨gb163,1,none⟩=some (.int .i64 a0_1):=(zG BK163.out 1).trans rfl;have hfz15_0:=zH BK163.out 0;have hfz15_1:=zH BK163.out 1))
    go_ret
    exact ⟨by first | rfl | (simp [errW_none,errW_some] <;> rfl) | (simp [*,errW_none,errW_some] <;> rfl),by repeat (first | (with_reducible first | exact HB.out | apply below_alloc | apply zI | apply below_drew1 | refine below_set ?_ GE163.out) | exact HB.out)⟩
end Go.Proofs.Ytgnjkegnddekeaa.Q
