/- Words of the printer that this claim uses, cut to these by a program of its author (not as they were printed). -/
import Derived.Test.YtgnjkegnddekeaaXQ0
import Derived.Test.YtgnjkegnddekeaaXQ1
namespace Go.Proofs.Ytgnjkegnddekeaa.Q
open Go.RowKit Go.Proofs.YtgnjkegnddekeaaW.PrintWords Go.Proofs.YtgnjkegnddekeaaW.PrintLast Go.Proofs.YtgnjkegnddekeaaW.PrintMore
attribute [local go_sem] max2_int min2_int max_two min_two max_three min_three max_four min_four   -- for this text's walks alone
set_option linter.unusedVariables false
set_option linter.unusedSimpArgs false
attribute [local go_sem high] eqA114
def warpbeamref08_Same.l0:Nat → List (S114) → List (S114) → Int → Option (Bool)
 | 0,_,_,_ => none
 | k + 1,x0,x1,x5 => if x5 < (x0.length:Int) then (if 0 ≤ x5 then (if x5 < (x1.length:Int) then (if (!(((rd_T114 x0 x5).f0) == ((rd_T114 x1 x5).f0)) || ((!(((rd_T114 x0 x5).f1.f0) == ((rd_T114 x1 x5).f1.f0)) || (!(((rd_T114 x0 x5).f1.f1) == ((rd_T114 x1 x5).f1.f1)))) || (!(((rd_T114 x0 x5).f2) == ((rd_T114 x1 x5).f2)))))=true then (some false) else (warpbeamref08_Same.l0 k x0 x1 (wrap64 (x5 + 1)))) else (none)) else (none)) else (some true)
def warpbeamref08_Same.f (k:Nat) (l0:List (S114)) (l1:List (S114)):Option (Bool):=if (l0.length:Int)=(l1.length:Int) then (warpbeamref08_Same.l0 k l0 l1 0) else (some false)
set_option maxHeartbeats 8000000 in
set_option maxRecDepth 100000 in
theorem warpbeamref08_Same.calls (k:Nat) (A0:Option Addr) (c0:Nat) (l0:List (S114)) (A1:Option Addr) (c1:Nat) (l1:List (S114)) (r:Bool) (w:World) (hr0:Kd.C k114 w A0 l0.length l0) (hc0:l0.length ≤ c0) (hr1:Kd.C k114 w A1 l1.length l1) (hc1:l1.length ≤ c1) (h:warpbeamref08_Same.f k l0 l1=some r) :
  Calls Try.prog 23 #[.slice A0 l0.length c0,.slice A1 l1.length c1] w fun e w' => e=.returned (.bool r)∧Drawn0 w w':=by
 have hu114:=Try.underlying114
 have HR0:=Aside0.mk hr0
 have HC0:=Aside0.mk hc0
 clear hr0 hc0
 have HR1:=Aside0.mk hr1
 have HC1:=Aside0.mk hc1
 clear hr1 hc1
 have H:(if (l0.length:Int)=(l1.length:Int) then (warpbeamref08_Same.l0 k l0 l1 0) else (some false))=some r:=h
 clear h
 by_cases c3:(l0.length:Int)=(l1.length:Int)
 ·
  rw [if_pos c3] at H
  have c3b0:((l0.length:Int) == (l1.length:Int))=true:=beq_iff_eq.mpr c3
  have c3b1:((l0.length:Int) != (l1.length:Int))=false:=bne_eq_false_iff_eq.mpr c3
  have c3b2:(l0.length == l1.length)=true:=by first | simpa using c3 | (simp at c3 ⊢;omega)
  clear c3
  have H':=Aside0.mk H
  clear H
  go_enter Try.func23,Try.ntmps23
  go_wp2
  repeat (go_quiet (fail);try go_wp2)
  go_loopg [5] k (fun kq v5 w' => ∃ (x5_1:Int),v5=.int .i64 x5_1∧Aside0 (warpbeamref08_Same.l0 kq l0 l1 x5_1=some r)∧Aside0 (kq ≤ k)∧Drawn0 w w')
  case atStart => exact ⟨(0),(by first | rfl | (simp;done) | (simp [*];done)),H',⟨Nat.le_refl _⟩,by repeat (first | exact Drawn0.refl _ | apply Drawn0.step)⟩
  case round =>
   clear H'
   try clear c1
   try clear c2
   try clear p2
   try clear c3
   try clear c3b0
   try clear c3b1
   try clear c3b2
   obtain ⟨x5_1,rfl,HA,HK1,⟨m1,rfl⟩⟩:=hrel
   cases gk with
   | zero => exact absurd HA.out (by simp [warpbeamref08_Same.l0])
   | succ k1 =>
    have H:=HA.out
    clear HA
    simp only [warpbeamref08_Same.l0] at H
    by_cases c4:x5_1 < (l0.length:Int)
    ·
     rw [if_pos c4] at H
     have c4b0:decide (x5_1 < (l0.length:Int))=true:=decide_eq_true c4
     clear c4
     by_cases c5:0 ≤ x5_1
     ·
      rw [if_pos c5] at H
      have c5b0:decide (0 ≤ x5_1)=true:=decide_eq_true c5
      clear c5
      by_cases c6:x5_1 < (l1.length:Int)
      ·
       rw [if_pos c6] at H
       have c6b0:decide (x5_1 < (l1.length:Int))=true:=decide_eq_true c6
       clear c6
       by_cases c7:(!(((rd_T114 l0 x5_1).f0) == ((rd_T114 l1 x5_1).f0)) || ((!(((rd_T114 l0 x5_1).f1.f0) == ((rd_T114 l1 x5_1).f1.f0)) || (!(((rd_T114 l0 x5_1).f1.f1) == ((rd_T114 l1 x5_1).f1.f1)))) || (!(((rd_T114 l0 x5_1).f2) == ((rd_T114 l1 x5_1).f2)))))=true
       ·
        rw [if_pos c7] at H
        have c7b0:(!(((rd_T114 l0 x5_1).f0) == ((rd_T114 l1 x5_1).f0)) || ((!(((rd_T114 l0 x5_1).f1.f0) == ((rd_T114 l1 x5_1).f1.f0)) || (!(((rd_T114 l0 x5_1).f1.f1) == ((rd_T114 l1 x5_1).f1.f1)))) || (!(((rd_T114 l0 x5_1).f2) == ((rd_T114 l1 x5_1).f2)))))=true:=c7
        clear c7
        obtain rfl:=Option.some.inj H
        have p194:0 ≤ (x5_1:Int):=of_decide_eq_true (by first | (with_reducible assumption) | assumption)
        have q194:x5_1 < (l0.length:Int):=of_decide_eq_true (by first | (with_reducible assumption) | assumption)
        obtain ⟨ad194,e194,hx194_0,hx194_1,hx194_2,hx194_3⟩:=at_T114 HR0.out x5_1 p194 q194
        cases e194
        replace p194:=eq_true p194
        replace q194:=eq_true q194
        have p195:0 ≤ (x5_1:Int):=of_decide_eq_true (by first | (with_reducible assumption) | assumption)
        have q195:x5_1 < (l1.length:Int):=of_decide_eq_true (by first | (with_reducible assumption) | assumption)
        obtain ⟨ad195,e195,hx195_0,hx195_1,hx195_2,hx195_3⟩:=at_T114 HR1.out x5_1 p195 q195
        cases e195
        replace p195:=eq_true p195
        replace q195:=eq_true q195
        go_wp2
        repeat (go_quiet (fail);try go_wp2)
        go_ret
        exact ⟨by first | rfl | (simp;done) | (simp [*];done),by repeat (first | exact Drawn0.refl _ | apply Drawn0.step)⟩
       ·
        rw [if_neg c7] at H
        have c7b0:(!(((rd_T114 l0 x5_1).f0) == ((rd_T114 l1 x5_1).f0)) || ((!(((rd_T114 l0 x5_1).f1.f0) == ((rd_T114 l1 x5_1).f1.f0)) || (!(((rd_T114 l0 x5_1).f1.f1) == ((rd_T114 l1 x5_1).f1.f1)))) || (!(((rd_T114 l0 x5_1).f2) == ((rd_T114 l1 x5_1).f2)))))=false:=by simpa using c7
        clear c7
        have H':=Aside0.mk H
        clear H
        have p194:0 ≤ (x5_1:Int):=of_decide_eq_true (by first | (with_reducible assumption) | assumption)
        have q194:x5_1 < (l0.length:Int):=of_decide_eq_true (by first | (with_reducible assumption) | assumption)
        obtain ⟨ad194,e194,hx194_0,hx194_1,hx194_2,hx194_3⟩:=at_T114 HR0.out x5_1 p194 q194
        cases e194
        replace p194:=eq_true p194
        replace q194:=eq_true q194
        have p195:0 ≤ (x5_1:Int):=of_decide_eq_true (by first | (with_reducible assumption) | assumption)
        have q195:x5_1 < (l1.length:Int):=of_decide_eq_true (by first | (with_reducible assumption) | assumption)
        obtain ⟨ad195,e195,hx195_0,hx195_1,hx195_2,hx195_3⟩:=at_T114 HR1.out x5_1 p195 q195
        cases e195
        replace p195:=eq_true p195
        replace q195:=eq_true q195
        go_wp2
        repeat (go_quiet (fail);try go_wp2)
        go_roundg k1
        case measure => have:=HK1.out;omega
        case rel => exact ⟨(wrap64 (x5_1 + 1)),(by first | rfl | (simp;done) | (simp [*];done)),H',⟨by have:=HK1.out;omega⟩,by repeat (first | exact Drawn0.refl _ | apply Drawn0.step)⟩
      ·
       rw [if_neg c6] at H
       exact absurd H (by simp)
     ·
      rw [if_neg c5] at H
      exact absurd H (by simp)
    ·
     rw [if_neg c4] at H
     have c4b0:decide (x5_1 < (l0.length:Int))=false:=decide_eq_false c4
     clear c4
     obtain rfl:=Option.some.inj H
     go_wp2
     repeat (go_quiet (fail);try go_wp2)
     go_ret
     exact ⟨by first | rfl | (simp;done) | (simp [*];done),by repeat (first | exact Drawn0.refl _ | apply Drawn0.step)⟩
 ·
  rw [if_neg c3] at H
  have c3b0:((l0.length:Int) == (l1.length:Int))=false:=beq_eq_false_iff_ne.mpr c3
  have c3b1:((l0.length:Int) != (l1.length:Int))=true:=bne_iff_ne.mpr c3
  have c3b2:(l0.length == l1.length)=false:=by first | simpa using c3 | (simp at c3 ⊢;omega)
  obtain rfl:=Option.some.inj H
  go_enter Try.func23,Try.ntmps23
  go_wp2
  repeat (go_quiet (fail);try go_wp2)
  go_ret
  exact ⟨by first | rfl | (simp;done) | (simp [*];done),by repeat (first | exact Drawn0.refl _ | apply Drawn0.step)⟩
def warpbeamlaw08_Ours.l0:Nat → List (S114) → List (S80) → Int → Int → Option ((List (S114)))
 | 0,_,_,_,_ => none
 | k + 1,x3,x6,x7,x8 => if x8 < x7 then (if 0 ≤ x8 then (if x8 < (x6.length:Int) then (if x3.length < 4398046511104 then (warpbeamlaw08_Ours.l0 k (x3 ++ [(⟨(rd_T80 x6 x8).f0,(⟨(rd_T80 x6 x8).f1.f0,(rd_T80 x6 x8).f1.f1⟩:S24),(rd_T80 x6 x8).f2⟩:S114)]) x6 x7 (wrap64 (x8 + 1))) else (none)) else (none)) else (none)) else (some x3)
def warpbeamlaw08_Ours.f (k:Nat) (l0:List (S80)):Option ((List (S114))):=warpbeamlaw08_Ours.l0 k ([]:List (S114)) l0 (l0.length:Int) 0
set_option maxHeartbeats 8000000 in
set_option maxRecDepth 100000 in
theorem warpbeamlaw08_Ours.calls (k:Nat) (A0:Option Addr) (c0:Nat) (l0:List (S80)) (r:List (S114)) (w:World) (hr0:Kd.C k80 w A0 l0.length l0) (hc0:l0.length ≤ c0) (h:warpbeamlaw08_Ours.f k l0=some r) :
  Calls Try.prog 24 #[.slice A0 l0.length c0] w fun e w' => ∃ v0_:Value,e=.returned (v0_)∧Kd.R k114 114 w' w.heap.size (fun _ => True) v0_ r∧Below w.heap.size w w':=by
 have hu80:=Try.underlying80
 have hu32:=Try.underlying32
 have hu114:=Try.underlying114
 have HR0:=Aside0.mk hr0
 have HC0:=Aside0.mk hc0
 clear hr0 hc0
 have HB:=Aside0.mk (Below.refl w.heap.size w)
 have H:(warpbeamlaw08_Ours.l0 k ([]:List (S114)) l0 (l0.length:Int) 0)=some r:=h
 clear h
 have H':=Aside0.mk H
 clear H
 go_enter Try.func24,Try.ntmps24
 go_wp2
 go_loopg [3,8] k (fun kq v3 v8 w' => ∃ (x3_1:List (S114)) (x8_1:Int),v8=.int .i64 x8_1∧Aside0 (warpbeamlaw08_Ours.l0 kq x3_1 l0 (l0.length:Int) x8_1=some r)∧Aside0 (kq ≤ k)∧Aside0 (Kd.R k114 114 w' w.heap.size (fun _ => True) v3 x3_1)∧Aside0 (Below w.heap.size w w'))
 case atStart => exact ⟨(([]:List (S114))),(0),(by first | rfl | (simp;done) | (simp [*];done)),H',⟨Nat.le_refl _⟩,⟨by first | exact Kd.R_nil _ _ _ _ _ | exact Kd.N_nil _ _ _ _ _ | exact Kd.V_nil _ _ _ _ _ | exact Kd.Q_nil _ _ _ _ _ | exact Kd.S_nil _ _ _ _ _⟩,⟨by repeat (first | (with_reducible first | exact HB.out | apply below_alloc | apply zI | apply below_drew1) | exact HB.out)⟩⟩
 case round =>
  clear H'
  obtain ⟨x3_1,x8_1,rfl,HA,HK1,HO_3,HB⟩:=hrel
  cases gk with
  | zero => exact absurd HA.out (by simp [warpbeamlaw08_Ours.l0])
  | succ k1 =>
   have H:=HA.out
   clear HA
   simp only [warpbeamlaw08_Ours.l0] at H
   by_cases c2:x8_1 < (l0.length:Int)
   ·
    rw [if_pos c2] at H
    have c2b0:decide (x8_1 < (l0.length:Int))=true:=decide_eq_true c2
    clear c2
    by_cases c3:0 ≤ x8_1
    ·
     rw [if_pos c3] at H
     have c3b0:decide (0 ≤ x8_1)=true:=decide_eq_true c3
     clear c3
     by_cases c4:x8_1 < (l0.length:Int)
     ·
      rw [if_pos c4] at H
      have c4b0:decide (x8_1 < (l0.length:Int))=true:=decide_eq_true c4
      clear c4
      by_cases c5:x3_1.length < 4398046511104
      ·
       rw [if_pos c5] at H
       have LMc5:=Aside0.mk c5
       clear c5
       obtain ⟨y198,hy198⟩:∃ y_:List (S114),y_=(x3_1 ++ [(⟨(rd_T80 l0 x8_1).f0,(⟨(rd_T80 l0 x8_1).f1.f0,(rd_T80 l0 x8_1).f1.f1⟩:S24),(rd_T80 l0 x8_1).f2⟩:S114)]):=⟨_,rfl⟩
       replace H:(warpbeamlaw08_Ours.l0 k1 y198 l0 (l0.length:Int) (wrap64 (x8_1 + 1)))=some r:=by first | (rw [hy198];with_reducible exact H) | (have H2_:=(Option.bind_some _ _).symm.trans H;rw [hy198];with_reducible exact H2_) | (have H2_:=(Option.bind_some _ _).symm.trans H;with_reducible exact H2_) | with_reducible exact H | (rw [hy198];exact H) | exact H
       have Ny198:=Aside0.mk hy198
       clear hy198
       have H':=Aside0.mk H
       clear H
       have p196:0 ≤ (x8_1:Int):=of_decide_eq_true (by first | (with_reducible assumption) | assumption)
       have q196:x8_1 < (l0.length:Int):=of_decide_eq_true (by first | (with_reducible assumption) | assumption)
       obtain ⟨ad196,e196,hx196_0,hx196_1,hx196_2,hx196_3⟩:=at_T80 HR0.out x8_1 p196 q196
       cases e196
       replace hx196_0:=(HB.out.cell (World.block_lt_of_cell? w _ hx196_0)).trans hx196_0
       replace hx196_1:=(HB.out.cell (World.block_lt_of_cell? w _ hx196_1)).trans hx196_1
       replace hx196_2:=(HB.out.cell (World.block_lt_of_cell? w _ hx196_2)).trans hx196_2
       replace hx196_3:=(HB.out.cell (World.block_lt_of_cell? w _ hx196_3)).trans hx196_3
       replace p196:=eq_true p196
       replace q196:=eq_true q196
       go_wp2_with (first | ((with_reducible refine gate_dst (N:=5) rfl ?_);refine box_event ?hg (N:=5) ?hd (cs:=#[.int .i64 0,.int .i64 0,.int .i64 0,.bool false]) (t:=80) ?hr ?_;(case hd => rfl);(case hg => rfl);(case hr => first | (go_simp;done) | (go_simp;rfl));intro gb197 hg w6 hbox hb;have n0_:=Aside0.mk (Kd.R_below (by (with_reducible repeat (first | apply Kd.R_alloc | apply Kd.R_drewN | apply Kd.R_drew));exact HO_3.out) hb);have n1_:=Aside0.mk (below_step (by repeat (first | (with_reducible first | exact HB.out | apply below_alloc | apply zI | apply below_drew1) | exact HB.out)) hb);have n2_:=Aside0.mk (hbox);have n3_:=Aside0.mk ((by rw [hg];exact (below_size (by repeat (first | (with_reducible first | exact HB.out | apply below_alloc | apply zI | apply below_drew1) | exact HB.out))):w.heap.size ≤ gb197));have n4_:=Aside0.mk ((by rw [hg];exact (below_size (by repeat (first | (with_reducible first | exact HB.out | apply below_alloc | apply zI | apply below_drew1) | exact HB.out))):w.heap.size ≤ gb197));clear HO_3;clear HB;have HO_3:=n0_;have HB:=n1_;have BK197:=n2_;have GW197:=n3_;have GE197:=n4_;clear n0_ n1_ n2_ n3_ n4_;clear hb hbox hg;have hcz7_0:w6.cell? ⟨gb197,0,none⟩=some (.int .i64 0):=(zG BK197.out 0).trans rfl;have hcz7_1:w6.cell? ⟨gb197,1,none⟩=some (.int .i64 0):=(zG BK197.out 1).trans rfl;have hcz7_2:w6.cell? ⟨gb197,2,none⟩=some (.int .i64 0):=(zG BK197.out 2).trans rfl;have hcz7_3:w6.cell? ⟨gb197,3,none⟩=some (.bool false):=(zG BK197.out 3).trans rfl;have hfz7_0:=zH BK197.out 0;have hfz7_1:=zH BK197.out 1;have hfz7_2:=zH BK197.out 2;have hfz7_3:=zH BK197.out 3) | ((with_reducible refine gate_builtin (b:=.append) (xs:=#[.tmp 12,.tmp 20]) rfl ?_);at_builtin;refine Kd.R_append k114 (w0:=w) w.heap.size rfl (.tmp 12) (.tmp 20) 64 114 (.agg #[(.int .i64 0),(.int .i64 0),(.int .i64 0),(.bool false)]) 32 rfl Try.underlying64 info114 rfl (by decide) (by omega) u3 x3_1 (⟨(rd_T80 l0 x8_1).f0,(⟨(rd_T80 l0 x8_1).f1.f0,(rd_T80 l0 x8_1).f1.f1⟩:S24),(rd_T80 l0 x8_1).f2⟩:S114) [.int .i64 ((rd_T80 l0 x8_1).f0),.int .i64 ((rd_T80 l0 x8_1).f1.f0),.int .i64 ((rd_T80 l0 x8_1).f1.f1),.bool ((rd_T80 l0 x8_1).f2)] (fun _ => True) (fun _ => False) rfl (by first | (go_simp;done) | (go_simp;rfl)) ?aP (fun _ hk => hk.elim) ?aF ?aO ?aB ?aS ?aL ?_;(case aP => exact k114_mkM _ _ _ (⟨(rd_T80 l0 x8_1).f0,(⟨(rd_T80 l0 x8_1).f1.f0,(rd_T80 l0 x8_1).f1.f1⟩:S24),(rd_T80 l0 x8_1).f2⟩:S114));(case aB => exact (by repeat (first | (with_reducible first | exact HB.out | apply below_alloc | apply zI | apply below_drew1 | refine below_set ?_ GE197.out) | exact HB.out)));(case aF => exact (fun _ _ => trivial));(case aO => exact (by (with_reducible repeat (first | apply Kd.R_alloc | apply Kd.R_drewN | apply Kd.R_drew));exact Kd.R_mono (Kd.R_far (p:=⟨gb197,3,none⟩) (Kd.R_far (p:=⟨gb197,2,none⟩) (Kd.R_far (p:=⟨gb197,1,none⟩) (Kd.R_far (p:=⟨gb197,0,none⟩) (Kd.R_types HO_3.out BK197.out (by decide)) (fun _ hk => hk.2) (.int .i64 ((rd_T80 l0 x8_1).f0))) (fun _ hk => hk.2) (.int .i64 ((rd_T80 l0 x8_1).f1.f0))) (fun _ hk => hk.2) (.int .i64 ((rd_T80 l0 x8_1).f1.f1))) (fun _ hk => hk.2) (.bool ((rd_T80 l0 x8_1).f2))) (fun _ hk => trivial)));(case aS => exact (below_size (by repeat (first | (with_reducible first | exact HB.out | apply below_alloc | apply zI | apply below_drew1 | refine below_set ?_ GE197.out) | exact HB.out))));(case aL => have:=LMc5.out;omega);intro v199 w8 ho hb hg hat;rw [← Ny198.out] at ho;have n0_:=Aside0.mk (blk_grown (g:=gb197) (o:=.cells #[.int .i64 ((rd_T80 l0 x8_1).f0),.int .i64 ((rd_T80 l0 x8_1).f1.f0),.int .i64 ((rd_T80 l0 x8_1).f1.f1),.bool ((rd_T80 l0 x8_1).f2)] 80 (0,0)) (by (with_reducible repeat (first | refine blk_drewN ?_ _ | refine blk_drew ?_ | refine blk_alloc ?_ _));refine blk_put (cs:=#[.int .i64 ((rd_T80 l0 x8_1).f0),.int .i64 ((rd_T80 l0 x8_1).f1.f0),.int .i64 ((rd_T80 l0 x8_1).f1.f1),.bool false]) ?_ 3 _ rfl;(with_reducible repeat (first | refine blk_drewN ?_ _ | refine blk_drew ?_ | refine blk_alloc ?_ _));refine blk_put (cs:=#[.int .i64 ((rd_T80 l0 x8_1).f0),.int .i64 ((rd_T80 l0 x8_1).f1.f0),.int .i64 0,.bool false]) ?_ 2 _ rfl;(with_reducible repeat (first | refine blk_drewN ?_ _ | refine blk_drew ?_ | refine blk_alloc ?_ _));refine blk_put (cs:=#[.int .i64 ((rd_T80 l0 x8_1).f0),.int .i64 0,.int .i64 0,.bool false]) ?_ 1 _ rfl;(with_reducible repeat (first | refine blk_drewN ?_ _ | refine blk_drew ?_ | refine blk_alloc ?_ _));refine blk_put (cs:=#[.int .i64 0,.int .i64 0,.int .i64 0,.bool false]) ?_ 0 _ rfl;(with_reducible repeat (first | refine blk_drewN ?_ _ | refine blk_drew ?_ | refine blk_alloc ?_ _));exact BK197.out) hg (Kd.R_ne HO_3.out BK197.out (by decide)));have n1_:=Aside0.mk (hb);have n2_:=Aside0.mk (ho);clear BK197;clear HB;clear HO_3;have BK197:=n0_;have HB:=n1_;have HO200:=n2_;clear n0_ n1_ n2_;clear ho hb hg hat))
       go_roundg k1
       case measure => have:=HK1.out;omega
       case rel => exact ⟨(y198),(wrap64 (x8_1 + 1)),(by first | rfl | (simp;done) | (simp [*];done)),H',⟨by have:=HK1.out;omega⟩,⟨by (with_reducible repeat (first | apply Kd.R_alloc | apply Kd.R_drewN | apply Kd.R_drew));exact HO200.out⟩,⟨by repeat (first | (with_reducible first | exact HB.out | apply below_alloc | apply zI | apply below_drew1 | refine below_set ?_ GE197.out) | exact HB.out)⟩⟩
      ·
       rw [if_neg c5] at H
       exact absurd H (by simp)
     ·
      rw [if_neg c4] at H
      exact absurd H (by simp)
    ·
     rw [if_neg c3] at H
     exact absurd H (by simp)
   ·
    rw [if_neg c2] at H
    have c2b0:decide (x8_1 < (l0.length:Int))=false:=decide_eq_false c2
    clear c2
    obtain rfl:=Option.some.inj H
    go_wp2
    go_ret
    exact ⟨_,by first | rfl | (simp [errW_none,errW_some] <;> rfl) | (simp [*,errW_none,errW_some] <;> rfl),by (with_reducible repeat (first | apply Kd.R_alloc | apply Kd.R_drewN | apply Kd.R_drew));exact HO_3.out,by repeat (first | (with_reducible first | exact HB.out | apply below_alloc | apply zI | apply below_drew1) | exact HB.out)⟩
end Go.Proofs.Ytgnjkegnddekeaa.Q
