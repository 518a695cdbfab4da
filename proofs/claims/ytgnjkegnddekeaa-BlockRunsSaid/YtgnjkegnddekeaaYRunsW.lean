/- How a block ends is the document's: the walk, by hand. -/
import Derived.Test.YtgnjkegnddekeaaYQ0
import Derived.Test.YtgnjkegnddekeaaYQ1
import Derived.Test.YtgnjkegnddekeaaYFlat2
import Derived.Test.YtgnjkegnddekeaaYRefAns
import Derived.Deep.LoopGhost
import Derived.Test.YtgnjkegnddekeaaYAliveM
import Derived.Test.YtgnjkegnddekeaaRows
import Derived.ProofKit
import Derived.OpenShut
import Derived.SizedLaws
import Derived.WideLaws
set_option maxHeartbeats 8000000
set_option maxRecDepth 100000
open Go.World renaming block_lt_of_cell? → zO
namespace Go.Proofs.Ytgnjkegnddekeaa.Q
open Go.RowKit Go.Proofs.YtgnjkegnddekeaaW.PrintWords Go.Proofs.YtgnjkegnddekeaaW.PrintLast Go.Proofs.YtgnjkegnddekeaaW.PrintMore
attribute [local go_sem] max2_int min2_int max_two min_two max_three min_three max_four min_four   -- for this text's walks alone
set_option linter.unusedVariables false
set_option linter.unusedSimpArgs false
attribute [local go_sem high] eqA114
def warpbeamref08_Same.l0:Nat→List (S114)→List (S114)→Int→Option (Bool)
 | 0,_,_,_=>none
 | k+1,x0,x1,x5=>if x5<(x0.length:Int) then (if 0≤x5 then (if x5<(x1.length:Int) then (if (!(((rd_T114 x0 x5).f0)==((rd_T114 x1 x5).f0)) || ((!(((rd_T114 x0 x5).f1.f0)==((rd_T114 x1 x5).f1.f0)) || (!(((rd_T114 x0 x5).f1.f1)==((rd_T114 x1 x5).f1.f1)))) || (!(((rd_T114 x0 x5).f2)==((rd_T114 x1 x5).f2)))))=true then (some false) else (warpbeamref08_Same.l0 k x0 x1 (wrap64 (x5+1)))) else (none)) else (none)) else (some true)
def warpbeamref08_Same.f (k:Nat) (l0:List (S114)) (l1:List (S114)):Option (Bool):=if (l0.length:Int)=(l1.length:Int) then (warpbeamref08_Same.l0 k l0 l1 0) else (some false)
theorem warpbeamref08_Same.calls (k:Nat) (A0:Option Addr) (c0:Nat) (l0:List (S114)) (A1:Option Addr) (c1:Nat) (l1:List (S114)) (r:Bool) (w:World) (hr0:Kd.C k114 w A0 l0.length l0) (hc0:l0.length≤c0) (hr1:Kd.C k114 w A1 l1.length l1) (hc1:l1.length≤c1) (h:warpbeamref08_Same.f k l0 l1=some r) :
  Calls Try.prog 23 #[.slice A0 l0.length c0,.slice A1 l1.length c1] w fun e w'=>e=.returned (.bool r)∧Drawn0 w w':=by
 have hu114:=Try.underlying114
 have HR0:=Aside0.mk hr0
 have HC0:=Aside0.mk hc0
 clear hr0 hc0
 have HR1:=Aside0.mk hr1
 have HC1:=Aside0.mk hc1
 clear hr1 hc1
 have H:(if (l0.length:Int)=(l1.length:Int) then (warpbeamref08_Same.l0 k l0 l1 0) else (some false))=some r:=h
 clear h
 by_cases c3:(l0.length:Int)=(l1.length:Int)
 ·
  rw [if_pos c3] at H
  have c3b0:((l0.length:Int)==(l1.length:Int))=true:=beq_iff_eq.mpr c3
  have c3b1:((l0.length:Int) != (l1.length:Int))=false:=bne_eq_false_iff_eq.mpr c3
  have c3b2:(l0.length==l1.length)=true:=by first|simpa using c3|(simp at c3 ⊢;omega)
  clear c3
  have H':=Aside0.mk H
  clear H
  go_enter Try.func23,Try.ntmps23
  go_wp2
  repeat (go_quiet (fail);try go_wp2)
  go_loopg [5] k (fun kq v5 w'=>∃ (x5_1:Int),v5=.int .i64 x5_1∧Aside0 (warpbeamref08_Same.l0 kq l0 l1 x5_1=some r)∧Aside0 (kq≤k)∧Drawn0 w w')
  case atStart=>exact ⟨(0),(by first|rfl|(simp;done)|(simp [*];done)),H',⟨Nat.le_refl _⟩,by repeat (first|exact Drawn0.refl _|apply Drawn0.step)⟩
  case round =>
   clear H'
   try clear c1
   try clear c2
   try clear p2
   try clear c3
   try clear c3b0
   try clear c3b1
   try clear c3b2
   obtain ⟨x5_1,rfl,HA,HK1,⟨m1,rfl⟩⟩:=hrel
   cases gk with
   | zero=>exact absurd HA.out (by simp [warpbeamref08_Same.l0])
   | succ k1 =>
    have H:=HA.out
    clear HA
    simp only [warpbeamref08_Same.l0] at H
    by_cases c4:x5_1<(l0.length:Int)
    ·
     rw [if_pos c4] at H
     have c4b0:decide (x5_1<(l0.length:Int))=true:=decide_eq_true c4
     clear c4
     by_cases c5:0≤x5_1
     ·
      rw [if_pos c5] at H
      have c5b0:decide (0≤x5_1)=true:=decide_eq_true c5
      clear c5
      by_cases c6:x5_1<(l1.length:Int)
      ·
       rw [if_pos c6] at H
       have c6b0:decide (x5_1<(l1.length:Int))=true:=decide_eq_true c6
       clear c6
       by_cases c7:(!(((rd_T114 l0 x5_1).f0)==((rd_T114 l1 x5_1).f0)) || ((!(((rd_T114 l0 x5_1).f1.f0)==((rd_T114 l1 x5_1).f1.f0)) || (!(((rd_T114 l0 x5_1).f1.f1)==((rd_T114 l1 x5_1).f1.f1)))) || (!(((rd_T114 l0 x5_1).f2)==((rd_T114 l1 x5_1).f2)))))=true
       ·
        rw [if_pos c7] at H
        have c7b0:(!(((rd_T114 l0 x5_1).f0)==((rd_T114 l1 x5_1).f0)) || ((!(((rd_T114 l0 x5_1).f1.f0)==((rd_T114 l1 x5_1).f1.f0)) || (!(((rd_T114 l0 x5_1).f1.f1)==((rd_T114 l1 x5_1).f1.f1)))) || (!(((rd_T114 l0 x5_1).f2)==((rd_T114 l1 x5_1).f2)))))=true:=c7
        clear c7
        obtain rfl:=Option.some.inj H
        have p194:0≤(x5_1:Int):=of_decide_eq_true (by first|(with_reducible assumption)|assumption)
        have q194:x5_1<(l0.length:Int):=of_decide_eq_true (by first|(with_reducible assumption)|assumption)
        obtain ⟨ad194,e194,hx194_0,hx194_1,hx194_2,hx194_3⟩:=at_T114 HR0.out x5_1 p194 q194
        cases e194
        replace p194:=eq_true p194
        replace q194:=eq_true q194
        have p195:0≤(x5_1:Int):=of_decide_eq_true (by first|(with_reducible assumption)|assumption)
        have q195:x5_1<(l1.length:Int):=of_decide_eq_true (by first|(with_reducible assumption)|assumption)
        obtain ⟨ad195,e195,hx195_0,hx195_1,hx195_2,hx195_3⟩:=at_T114 HR1.out x5_1 p195 q195
        cases e195
        replace p195:=eq_true p195
        replace q195:=eq_true q195
        go_wp2
        repeat (go_quiet (fail);try go_wp2)
        go_ret
        exact ⟨by first|rfl|(simp;done)|(simp [*];done),by repeat (first|exact Drawn0.refl _|apply Drawn0.step)⟩
       ·
        rw [if_neg c7] at H
        have c7b0:(!(((rd_T114 l0 x5_1).f0)==((rd_T114 l1 x5_1).f0)) || ((!(((rd_T114 l0 x5_1).f1.f0)==((rd_T114 l1 x5_1).f1.f0)) || (!(((rd_T114 l0 x5_1).f1.f1)==((rd_T114 l1 x5_1).f1.f1)))) || (!(((rd_T114 l0 x5_1).f2)==((rd_T114 l1 x5_1).f2)))))=false:=by simpa using c7
        clear c7
        have H':=Aside0.mk H
        clear H
        have p194:0≤(x5_1:Int):=of_decide_eq_true (by first|(with_reducible assumption)|assumption)
        have q194:x5_1<(l0.length:Int):=of_decide_eq_true (by first|(with_reducible assumption)|assumption)
        obtain ⟨ad194,e194,hx194_0,hx194_1,hx194_2,hx194_3⟩:=at_T114 HR0.out x5_1 p194 q194
        cases e194
        replace p194:=eq_true p194
        replace q194:=eq_true q194
        have p195:0≤(x5_1:Int):=of_decide_eq_true (by first|(with_reducible assumption)|assumption)
        have q195:x5_1<(l1.length:Int):=of_decide_eq_true (by first|(with_reducible assumption)|assumption)
        obtain ⟨ad195,e195,hx195_0,hx195_1,hx195_2,hx195_3⟩:=at_T114 HR1.out x5_1 p195 q195
        cases e195
        replace p195:=eq_true p195
        replace q195:=eq_true q195
        go_wp2
        repeat (go_quiet (fail);try go_wp2)
        go_roundg k1
        case measure=>have:=HK1.out;omega
        case rel=>exact ⟨(wrap64 (x5_1+1)),(by first|rfl|(simp;done)|(simp [*];done)),H',⟨by have:=HK1.out;omega⟩,by repeat (first|exact Drawn0.refl _|apply Drawn0.step)⟩
      ·
       rw [if_neg c6] at H
       exact absurd H (by simp)
     ·
      rw [if_neg c5] at H
      exact absurd H (by simp)
    ·
     rw [if_neg c4] at H
     have c4b0:decide (x5_1<(l0.length:Int))=false:=decide_eq_false c4
     clear c4
     obtain rfl:=Option.some.inj H
     go_wp2
     repeat (go_quiet (fail);try go_wp2)
     go_ret
     exact ⟨by first|rfl|(simp;done)|(simp [*];done),by repeat (first|exact Drawn0.refl _|apply Drawn0.step)⟩
 ·
  rw [if_neg c3] at H
  have c3b0:((l0.length:Int)==(l1.length:Int))=false:=beq_eq_false_iff_ne.mpr c3
  have c3b1:((l0.length:Int) != (l1.length:Int))=true:=bne_iff_ne.mpr c3
  have c3b2:(l0.length==l1.length)=false:=by first|simpa using c3|(simp at c3 ⊢;omega)
  obtain rfl:=Option.some.inj H
  go_enter Try.func23,Try.ntmps23
  go_wp2
  repeat (go_quiet (fail);try go_wp2)
  go_ret
  exact ⟨by first|rfl|(simp;done)|(simp [*];done),by repeat (first|exact Drawn0.refl _|apply Drawn0.step)⟩
def warpbeamlaw08_Ours.l0:Nat→List (S114)→List (S80)→Int→Int→Option ((List (S114)))
 | 0,_,_,_,_=>none
 | k+1,x3,x6,x7,x8=>if x8<x7 then (if 0≤x8 then (if x8<(x6.length:Int) then (if x3.length<4398046511104 then (warpbeamlaw08_Ours.l0 k (x3++[(⟨(rd_T80 x6 x8).f0,(⟨(rd_T80 x6 x8).f1.f0,(rd_T80 x6 x8).f1.f1⟩:S24),(rd_T80 x6 x8).f2⟩:S114)]) x6 x7 (wrap64 (x8+1))) else (none)) else (none)) else (none)) else (some x3)
def warpbeamlaw08_Ours.f (k:Nat) (l0:List (S80)):Option ((List (S114))):=warpbeamlaw08_Ours.l0 k ([]:List (S114)) l0 (l0.length:Int) 0
theorem warpbeamlaw08_Ours.calls (k:Nat) (A0:Option Addr) (c0:Nat) (l0:List (S80)) (r:List (S114)) (w:World) (hr0:Kd.C k80 w A0 l0.length l0) (hc0:l0.length≤c0) (h:warpbeamlaw08_Ours.f k l0=some r) :
  Calls Try.prog 24 #[.slice A0 l0.length c0] w fun e w'=>∃ v0_:Value,e=.returned (v0_)∧Kd.R k114 114 w' w.heap.size (fun _=>True) v0_ r∧Below w.heap.size w w':=by
 have hu80:=Try.underlying80
 have hu32:=Try.underlying32
 have hu114:=Try.underlying114
 have HR0:=Aside0.mk hr0
 have HC0:=Aside0.mk hc0
 clear hr0 hc0
 have HB:=Aside0.mk (Below.refl w.heap.size w)
 have H:(warpbeamlaw08_Ours.l0 k ([]:List (S114)) l0 (l0.length:Int) 0)=some r:=h
 clear h
 have H':=Aside0.mk H
 clear H
 go_enter Try.func24,Try.ntmps24
 go_wp2
 go_loopg [3,8] k (fun kq v3 v8 w'=>∃ (x3_1:List (S114)) (x8_1:Int),v8=.int .i64 x8_1∧Aside0 (warpbeamlaw08_Ours.l0 kq x3_1 l0 (l0.length:Int) x8_1=some r)∧Aside0 (kq≤k)∧Aside0 (Kd.R k114 114 w' w.heap.size (fun _=>True) v3 x3_1)∧Aside0 (Below w.heap.size w w'))
 case atStart=>exact ⟨(([]:List (S114))),(0),(by first|rfl|(simp;done)|(simp [*];done)),H',⟨Nat.le_refl _⟩,⟨by first|exact Kd.R_nil _ _ _ _ _|exact Kd.N_nil _ _ _ _ _|exact Kd.V_nil _ _ _ _ _|exact Kd.Q_nil _ _ _ _ _|exact Kd.S_nil _ _ _ _ _⟩,⟨by repeat (first|(with_reducible first|exact HB.out|apply zG|apply zN|apply zH)|exact HB.out)⟩⟩
 case round =>
  clear H'
  obtain ⟨x3_1,x8_1,rfl,HA,HK1,HO_3,HB⟩:=hrel
  cases gk with
  | zero=>exact absurd HA.out (by simp [warpbeamlaw08_Ours.l0])
  | succ k1 =>
   have H:=HA.out
   clear HA
   simp only [warpbeamlaw08_Ours.l0] at H
   by_cases c2:x8_1<(l0.length:Int)
   ·
    rw [if_pos c2] at H
    have c2b0:decide (x8_1<(l0.length:Int))=true:=decide_eq_true c2
    clear c2
    by_cases c3:0≤x8_1
    ·
     rw [if_pos c3] at H
     have c3b0:decide (0≤x8_1)=true:=decide_eq_true c3
     clear c3
     by_cases c4:x8_1<(l0.length:Int)
     ·
      rw [if_pos c4] at H
      have c4b0:decide (x8_1<(l0.length:Int))=true:=decide_eq_true c4
      clear c4
      by_cases c5:x3_1.length<4398046511104
      ·
       rw [if_pos c5] at H
       have LMc5:=Aside0.mk c5
       clear c5
       obtain ⟨y198,hy198⟩:∃ y_:List (S114),y_=(x3_1++[(⟨(rd_T80 l0 x8_1).f0,(⟨(rd_T80 l0 x8_1).f1.f0,(rd_T80 l0 x8_1).f1.f1⟩:S24),(rd_T80 l0 x8_1).f2⟩:S114)]):=⟨_,rfl⟩
       replace H:(warpbeamlaw08_Ours.l0 k1 y198 l0 (l0.length:Int) (wrap64 (x8_1+1)))=some r:=by first|(rw [hy198];with_reducible exact H)|(have H2_:=(Option.bind_some _ _).symm.trans H;rw [hy198];with_reducible exact H2_)|(have H2_:=(Option.bind_some _ _).symm.trans H;with_reducible exact H2_)|with_reducible exact H|(rw [hy198];exact H)|exact H
       have Ny198:=Aside0.mk hy198
       clear hy198
       have H':=Aside0.mk H
       clear H
       have p196:0≤(x8_1:Int):=of_decide_eq_true (by first|(with_reducible assumption)|assumption)
       have q196:x8_1<(l0.length:Int):=of_decide_eq_true (by first|(with_reducible assumption)|assumption)
       obtain ⟨ad196,e196,hx196_0,hx196_1,hx196_2,hx196_3⟩:=at_T80 HR0.out x8_1 p196 q196
       cases e196
       replace hx196_0:=(HB.out.cell (zO w _ hx196_0)).trans hx196_0
       replace hx196_1:=(HB.out.cell (zO w _ hx196_1)).trans hx196_1
       replace hx196_2:=(HB.out.cell (zO w _ hx196_2)).trans hx196_2
       replace hx196_3:=(HB.out.cell (zO w _ hx196_3)).trans hx196_3
       replace p196:=eq_true p196
       replace q196:=eq_true q196
       go_wp2_with (first|((with_reducible refine gate_dst (N:=5) rfl ?_);refine box_event ?hg (N:=5) ?hd (cs:=#[.int .i64 0,.int .i64 0,.int .i64 0,.bool false]) (t:=80) ?hr ?_;(case hd=>rfl);(case hg=>rfl);(case hr=>first|(go_simp;done)|(go_simp;rfl));intro gb197 hg w6 hbox hb;have n0_:=Aside0.mk (Kd.R_below (by (with_reducible repeat (first|apply Kd.R_alloc|apply Kd.R_drewN|apply Kd.R_drew));exact HO_3.out) hb);have n1_:=Aside0.mk (below_step (by repeat (first|(with_reducible first|exact HB.out|apply zG|apply zN|apply zH)|exact HB.out)) hb);have n2_:=Aside0.mk (hbox);have n3_:=Aside0.mk ((by rw [hg];exact (below_size (by repeat (first|(with_reducible first|exact HB.out|apply zG|apply zN|apply zH)|exact HB.out))):w.heap.size≤gb197));have n4_:=Aside0.mk ((by rw [hg];exact (below_size (by repeat (first|(with_reducible first|exact HB.out|apply zG|apply zN|apply zH)|exact HB.out))):w.heap.size≤gb197));clear HO_3;clear HB;have HO_3:=n0_;have HB:=n1_;have BK197:=n2_;have GW197:=n3_;have GE197:=n4_;clear n0_ n1_ n2_ n3_ n4_;clear hb hbox hg;have hcz7_0:w6.cell? ⟨gb197,0,none⟩=some (.int .i64 0):=(zJ BK197.out 0).trans rfl;have hcz7_1:w6.cell? ⟨gb197,1,none⟩=some (.int .i64 0):=(zJ BK197.out 1).trans rfl;have hcz7_2:w6.cell? ⟨gb197,2,none⟩=some (.int .i64 0):=(zJ BK197.out 2).trans rfl;have hcz7_3:w6.cell? ⟨gb197,3,none⟩=some (.bool false):=(zJ BK197.out 3).trans rfl;have hfz7_0:=zK BK197.out 0;have hfz7_1:=zK BK197.out 1;have hfz7_2:=zK BK197.out 2;have hfz7_3:=zK BK197.out 3)|((with_reducible refine gate_builtin (b:=.append) (xs:=#[.tmp 12,.tmp 20]) rfl ?_);at_builtin;refine Kd.R_append k114 (w0:=w) w.heap.size rfl (.tmp 12) (.tmp 20) 64 114 (.agg #[(.int .i64 0),(.int .i64 0),(.int .i64 0),(.bool false)]) 32 rfl Try.underlying64 info114 rfl (by decide) (by omega) u3 x3_1 (⟨(rd_T80 l0 x8_1).f0,(⟨(rd_T80 l0 x8_1).f1.f0,(rd_T80 l0 x8_1).f1.f1⟩:S24),(rd_T80 l0 x8_1).f2⟩:S114) [.int .i64 ((rd_T80 l0 x8_1).f0),.int .i64 ((rd_T80 l0 x8_1).f1.f0),.int .i64 ((rd_T80 l0 x8_1).f1.f1),.bool ((rd_T80 l0 x8_1).f2)] (fun _=>True) (fun _=>False) rfl (by first|(go_simp;done)|(go_simp;rfl)) ?aP (fun _ hk=>hk.elim) ?aF ?aO ?aB ?aS ?aL ?_;(case aP=>exact k114_mkM _ _ _ (⟨(rd_T80 l0 x8_1).f0,(⟨(rd_T80 l0 x8_1).f1.f0,(rd_T80 l0 x8_1).f1.f1⟩:S24),(rd_T80 l0 x8_1).f2⟩:S114));(case aB=>exact (by repeat (first|(with_reducible first|exact HB.out|apply zG|apply zN|apply zH|refine below_set ?_ GE197.out)|exact HB.out)));(case aF=>exact (fun _ _=>trivial));(case aO=>exact (by (with_reducible repeat (first|apply Kd.R_alloc|apply Kd.R_drewN|apply Kd.R_drew));exact Kd.R_mono (Kd.R_far (p:=⟨gb197,3,none⟩) (Kd.R_far (p:=⟨gb197,2,none⟩) (Kd.R_far (p:=⟨gb197,1,none⟩) (Kd.R_far (p:=⟨gb197,0,none⟩) (Kd.R_types HO_3.out BK197.out (by decide)) (fun _ hk=>hk.2) (.int .i64 ((rd_T80 l0 x8_1).f0))) (fun _ hk=>hk.2) (.int .i64 ((rd_T80 l0 x8_1).f1.f0))) (fun _ hk=>hk.2) (.int .i64 ((rd_T80 l0 x8_1).f1.f1))) (fun _ hk=>hk.2) (.bool ((rd_T80 l0 x8_1).f2))) (fun _ hk=>trivial)));(case aS=>exact (below_size (by repeat (first|(with_reducible first|exact HB.out|apply zG|apply zN|apply zH|refine below_set ?_ GE197.out)|exact HB.out))));(case aL=>have:=LMc5.out;omega);intro v199 w8 ho hb hg hat;rw [← Ny198.out] at ho;have n0_:=Aside0.mk (blk_grown (g:=gb197) (o:=.cells #[.int .i64 ((rd_T80 l0 x8_1).f0),.int .i64 ((rd_T80 l0 x8_1).f1.f0),.int .i64 ((rd_T80 l0 x8_1).f1.f1),.bool ((rd_T80 l0 x8_1).f2)] 80 (0,0)) (by (with_reducible repeat (first|refine blk_drewN ?_ _|refine blk_drew ?_|refine blk_alloc ?_ _));refine blk_put (cs:=#[.int .i64 ((rd_T80 l0 x8_1).f0),.int .i64 ((rd_T80 l0 x8_1).f1.f0),.int .i64 ((rd_T80 l0 x8_1).f1.f1),.bool false]) ?_ 3 _ rfl;(with_reducible repeat (first|refine blk_drewN ?_ _|refine blk_drew ?_|refine blk_alloc ?_ _));refine blk_put (cs:=#[.int .i64 ((rd_T80 l0 x8_1).f0),.int .i64 ((rd_T80 l0 x8_1).f1.f0),.int .i64 0,.bool false]) ?_ 2 _ rfl;(with_reducible repeat (first|refine blk_drewN ?_ _|refine blk_drew ?_|refine blk_alloc ?_ _));refine blk_put (cs:=#[.int .i64 ((rd_T80 l0 x8_1).f0),.int .i64 0,.int .i64 0,.bool false]) ?_ 1 _ rfl;(with_reducible repeat (first|refine blk_drewN ?_ _|refine blk_drew ?_|refine blk_alloc ?_ _));refine blk_put (cs:=#[.int .i64 0,.int .i64 0,.int .i64 0,.bool false]) ?_ 0 _ rfl;(with_reducible repeat (first|refine blk_drewN ?_ _|refine blk_drew ?_|refine blk_alloc ?_ _));exact BK197.out) hg (Kd.R_ne HO_3.out BK197.out (by decide)));have n1_:=Aside0.mk (hb);have n2_:=Aside0.mk (ho);clear BK197;clear HB;clear HO_3;have BK197:=n0_;have HB:=n1_;have HO200:=n2_;clear n0_ n1_ n2_;clear ho hb hg hat))
       go_roundg k1
       case measure=>have:=HK1.out;omega
       case rel=>exact ⟨(y198),(wrap64 (x8_1+1)),(by first|rfl|(simp;done)|(simp [*];done)),H',⟨by have:=HK1.out;omega⟩,⟨by (with_reducible repeat (first|apply Kd.R_alloc|apply Kd.R_drewN|apply Kd.R_drew));exact HO200.out⟩,⟨by repeat (first|(with_reducible first|exact HB.out|apply zG|apply zN|apply zH|refine below_set ?_ GE197.out)|exact HB.out)⟩⟩
      ·
       rw [if_neg c5] at H
       exact absurd H (by simp)
     ·
      rw [if_neg c4] at H
      exact absurd H (by simp)
    ·
     rw [if_neg c3] at H
     exact absurd H (by simp)
   ·
    rw [if_neg c2] at H
    have c2b0:decide (x8_1<(l0.length:Int))=false:=decide_eq_false c2
    clear c2
    obtain rfl:=Option.some.inj H
    go_wp2
    go_ret
    exact ⟨_,by first|rfl|(simp [errW_none,errW_some] <;> rfl)|(simp [*,errW_none,errW_some] <;> rfl),by (with_reducible repeat (first|apply Kd.R_alloc|apply Kd.R_drewN|apply Kd.R_drew));exact HO_3.out,by repeat (first|(with_reducible first|exact HB.out|apply zG|apply zN|apply zH)|exact HB.out)⟩
end Go.Proofs.Ytgnjkegnddekeaa.Q

namespace Go.Proofs.Ytgnjkegnddekeaa.Q
open Go.WideShapes Go.ChangeShapes Go.RowKit Go.Lib Go.Proofs.Ytgnjkegnddekeaa Go.Proofs.YtgnjkegnddekeaaW.PrintWords Go.Proofs.YtgnjkegnddekeaaW.PrintLast Go.Proofs.YtgnjkegnddekeaaW.PrintMore
set_option linter.unusedVariables false
set_option linter.unusedSimpArgs false
theorem ours_f (l:List S80) (hl:l.length≤1000000) (k:Nat) (hk:l.length<k):warpbeamlaw08_Ours.f k l=some (l.map our80) :=
 conv_all (fun k acc i=>warpbeamlaw08_Ours.l0 k acc l l.length i) our80 z80 l 1000000 hl (fun k acc i hi ha=>by
  show warpbeamlaw08_Ours.l0 (k+1) acc l l.length i=_
  rw [warpbeamlaw08_Ours.l0,if_pos (by omega),if_pos (by omega),if_pos (by omega),if_pos (by omega),wrap_next (by omega)]
  rfl) (fun k acc=>by
  show warpbeamlaw08_Ours.l0 (k+1) acc l l.length l.length=_
  rw [warpbeamlaw08_Ours.l0,if_neg (by omega)]) k hk
theorem same_f (l:List S114) (hl:l.length≤1000000) (k:Nat) (hk:l.length<k):warpbeamref08_Same.f k l l=some true:=by
 unfold warpbeamref08_Same.f
 rw [if_pos rfl]
 exact all_loop (fun k i=>warpbeamref08_Same.l0 k l l i) l.length true (fun k i hi=>by
  show warpbeamref08_Same.l0 (k+1) l l i=_
  rw [warpbeamref08_Same.l0,if_pos (by omega),if_pos (by omega),if_pos (by omega),if_neg (by simp),wrap_next (by omega)]) (fun k=>by
  show warpbeamref08_Same.l0 (k+1) l l l.length=_
  rw [warpbeamref08_Same.l0,if_neg (by omega)]) l.length 0 k (by omega) hk
theorem ours_calls (A:Option Addr) (c:Nat) (l:List S80) (w:World) (h:Kd.C k80 w A l.length l) (hc:l.length≤c) (hl:l.length≤1000000) :
  Calls Try.prog 24 #[.slice A l.length c] w fun e w'=>∃ v,e=.returned v∧Kd.R k114 114 w' w.heap.size (fun _=>True) v (l.map our80)∧Below w.heap.size w w' :=
 warpbeamlaw08_Ours.calls (l.length+1) A c l _ w h hc (ours_f l hl _ (by omega))
theorem run_tl (l:List S74) (now:List S32) (f:Int) (hl:∀ o∈l,R64 o.f2∧R64 o.f4) (hn:∀ v∈now,R64 v.f1) (hf1:f≤1000000000):∀ (n:Nat) (c:CpuD) (t:List S80),InvR c t→(runP l now f n c t).t.length≤200
 | 0,c,t,hI=>hI.tl
 | n+1,c,t,hI=>by
  obtain ⟨h1,h2⟩:=step_inv (vars:=now.length) (fuel:=f) hI.ic hl
  unfold runP
  dsimp only
  split
  ·
   exact hI.tl
  ·
   rename_i hk
   obtain ⟨h3,h4,h5,h6,h7,h8⟩:=h2 hk
   have h9:=answer_inv (a:=(stepP l c now.length f).2) h1 hI.tl hI.tr hn h8
   split
   ·
    exact run_tl l now f hl hn hf1 n _ _ ⟨h9.1,by rw [h9.2.1,h4];have:=hI.u0;unfold wrap64;omega,h9.2.2.1,h9.2.2.2⟩
   ·
    exact h9.2.2.1
theorem inv_first {rs:List S32} (h8:rs.length=8) (hr:∀ v∈rs,R64 v.f1):InvR ⟨0,0,rs,[]⟩ [] :=
 ⟨⟨⟨h8,hr⟩,by simp,by simp⟩,by simp,by simp,by simp⟩
end Go.Proofs.Ytgnjkegnddekeaa.Q

set_option maxHeartbeats 4000000
set_option maxRecDepth 100000
open Go.Value renaming int → zC
open Go.IntKind renaming i64 → zD
open Go.Lib renaming hid → zP
open And renaming intro → zU
namespace Go.Proofs.Ytgnjkegnddekeaa.Q
open Go.RowKit Go.Lib Go.Proofs.Ytgnjkegnddekeaa Go.Proofs.YtgnjkegnddekeaaW.PrintWords Go.Proofs.YtgnjkegnddekeaaW.PrintLast Go.Proofs.YtgnjkegnddekeaaW.PrintMore
set_option linter.unusedVariables false
set_option linter.unusedSimpArgs false
def RRan (W:World) (r:ResD) (x:Ending) (w':World):Prop :=
 ∃ TA tc,x=.returned (.agg (zC zD r.e :: zC zD r.used :: (rc r.rs++[.slice TA (r.t.map our80).length tc])).toArray)∧r.rs.length=8∧Kd.V k114 114 w' 0 (fun k=>W.heap.size<k) (.slice TA (r.t.map our80).length tc) (r.t.map our80)∧Below W.heap.size W w'
theorem sz66:(Try.prog.info? 66).map (·.size)=some 19:=by kernel_rfl
theorem sz26:(Try.prog.info? 26).map (·.size)=some 16:=by kernel_rfl
theorem sz46:(Try.prog.info? 46).map (·.size)=some 7:=by kernel_rfl
def RLoop (W:World) (rb cb:Nat) (L:List S74) (N:List S32) (fuel:Int) (ρ:ResD) (st:CpuD) (t:List S80) (SA:Option Addr) (sc:Nat) (TA:Option Addr) (tc:Nat) (V:World):Prop :=
 InvR st t∧V.heap[cb]?=some (.cells (cpuC st.pc st.used st.rs (.slice SA st.fs.length sc)) 29 (0,0))∧V.heap[rb]?=some (.cells #[zC zD 0,zC zD 0,zC zD 0,zC zD 0,zC zD 0,zC zD 0,zC zD 0,zC zD 0,zC zD 0,zC zD 0,zC zD 0,zC zD 0,zC zD 0,zC zD 0,zC zD 0,zC zD 0,zC zD 0,zC zD 0,.slice none 0 0] 66 (0,0))∧Kd.R kF 99 V W.heap.size (fun _=>True) (.slice SA st.fs.length sc) st.fs ∧
  Kd.V k114 114 V 0 (fun k=>cb<k) (.slice TA (t.map our80).length tc) (t.map our80)∧Below W.heap.size W V∧runP L N fuel ((fuel - st.used).toNat+1) st t=ρ
theorem rrun_core (W:World) (A:Option Addr) (c:Nat) (l:List S97) (NA:Option Addr) (nc:Nat) (now:List S24) (fuel:Int) (a0 b0 a1 b1 a2 b2 a3 b3 a4 b4 a5 b5 a6 b6 a7 b7:Int)
  (hC:Kd.C k97 W A l.length l) (hlc:l.length≤c) (hN:Kd.C k24 W NA now.length now) (hnc:now.length≤nc) (hlr:∀ o∈l.map conv74,R64 o.f2∧R64 o.f4) (hnr:∀ v∈now.map conv32,R64 v.f1) (hrr:RsOK [⟨a0,b0⟩,⟨a1,b1⟩,⟨a2,b2⟩,⟨a3,b3⟩,⟨a4,b4⟩,⟨a5,b5⟩,⟨a6,b6⟩,⟨a7,b7⟩]) (hfu:fuel≤1000000000) (hlen:l.length≤1000000) :
  Calls Try.prog 21 #[.slice A l.length c,.slice NA now.length nc,.agg #[zC zD a0,zC zD b0,zC zD a1,zC zD b1,zC zD a2,zC zD b2,zC zD a3,zC zD b3,zC zD a4,zC zD b4,zC zD a5,zC zD b5,zC zD a6,zC zD b6,zC zD a7,zC zD b7],zC zD fuel] W (RRan W (runP (l.map conv74) (now.map conv32) fuel (fuel.toNat+1) ⟨0,0,[⟨a0,b0⟩,⟨a1,b1⟩,⟨a2,b2⟩,⟨a3,b3⟩,⟨a4,b4⟩,⟨a5,b5⟩,⟨a6,b6⟩,⟨a7,b7⟩],[]⟩ [])):=by
 have hu26:=Try.underlying26
 have hu29:=Try.underlying29
 have hu46:=Try.underlying46
 have hu66:=Try.underlying66
 obtain ⟨ρ,hρ⟩:∃ ρ,runP (l.map conv74) (now.map conv32) fuel (fuel.toNat+1) ⟨0,0,[⟨a0,b0⟩,⟨a1,b1⟩,⟨a2,b2⟩,⟨a3,b3⟩,⟨a4,b4⟩,⟨a5,b5⟩,⟨a6,b6⟩,⟨a7,b7⟩],[]⟩ []=ρ:=⟨_,rfl⟩
 rw [hρ]
 obtain ⟨V1,hV1,KV1,hBV1⟩:=alz W #[zC zD a0,zC zD b0,zC zD a1,zC zD b1,zC zD a2,zC zD b2,zC zD a3,zC zD b3,zC zD a4,zC zD b4,zC zD a5,zC zD b5,zC zD a6,zC zD b6,zC zD a7,zC zD b7] 26
 have ltV1:W.heap.size<V1.heap.size:=zL KV1
 have K_rg:=KV1
 have HB:=hBV1
 clear KV1 hBV1
 obtain ⟨V2,hV2,KV2,hBV2⟩:=alz V1 #[zC zD 0,zC zD 0,zC zD 0,zC zD 0,zC zD 0,zC zD 0,zC zD 0,zC zD 0,zC zD 0,zC zD 0,zC zD 0,zC zD 0,zC zD 0,zC zD 0,zC zD 0,zC zD 0,zC zD 0,zC zD 0,.slice none 0 0] 66
 have ltV2:V1.heap.size<V2.heap.size:=zL KV2
 replace K_rg:=zI K_rg hBV2
 have K_res:=KV2
 replace HB:=zE HB hBV2
 clear KV2 hBV2
 have hL1:=ld_whole (P:=Try.prog) (ty:=26) K_rg Try.underlying26 rfl (by first|rfl|(rw [sz26];rfl)|(rw [sz26];have:=rfl;simp [this])|(rw [sz26,rfl]))
 obtain ⟨V3,hV3,KV3,hBV3⟩:=alz0 V2
 have ltV3:V2.heap.size<V3.heap.size:=zL KV3
 replace K_rg:=zI K_rg hBV3
 replace K_res:=zI K_res hBV3
 have zV:=KV3
 replace HB:=zE HB hBV3
 clear KV3 hBV3
 have hz:=zM (pc:=0) (used:=0) (rs:=[⟨a0,b0⟩,⟨a1,b1⟩,⟨a2,b2⟩,⟨a3,b3⟩,⟨a4,b4⟩,⟨a5,b5⟩,⟨a6,b6⟩,⟨a7,b7⟩]) (stk:=.slice none 0 0) rfl
 obtain ⟨V4,hSV4,KKV4,hOV4⟩:=st_arr (cs:=cpuC 0 0 [⟨a0,b0⟩,⟨a1,b1⟩,⟨a2,b2⟩,⟨a3,b3⟩,⟨a4,b4⟩,⟨a5,b5⟩,⟨a6,b6⟩,⟨a7,b7⟩] (.slice none 0 0)) sz29_ zV (by first|rfl|simp [hz]) (by first|rfl|simp [hz]) (cpuC_one1 _ _ _ rfl)
 clear hz
 replace zV:V4.heap[V2.heap.size]?=some (.cells (cpuC 0 0 [⟨a0,b0⟩,⟨a1,b1⟩,⟨a2,b2⟩,⟨a3,b3⟩,⟨a4,b4⟩,⟨a5,b5⟩,⟨a6,b6⟩,⟨a7,b7⟩] (.slice none 0 0)) 29 (0,0)):=KKV4
 replace K_rg:=hOV4.mid K_rg (by omega) (B:=0)
 replace K_res:=hOV4.mid K_res (by omega) (B:=0)
 have szV4:V3.heap.size≤V4.heap.size:=hOV4.size
 replace HB:=HB.trans (hOV4.below (by omega) HB.size)
 clear hOV4
 clear KKV4
 have R0:RLoop W V1.heap.size V2.heap.size (l.map conv74) (now.map conv32) fuel ρ ⟨0,0,[⟨a0,b0⟩,⟨a1,b1⟩,⟨a2,b2⟩,⟨a3,b3⟩,⟨a4,b4⟩,⟨a5,b5⟩,⟨a6,b6⟩,⟨a7,b7⟩],[]⟩ [] none 0 none 0 V4:=⟨⟨⟨hrr,by simp,by simp⟩,by simp,by simp,by simp⟩,zV,K_res,Kd.R_nil _ _ _ _ _,Kd.V_nil _ _ _ _ _,HB,by show runP _ _ fuel ((fuel - 0).toNat+1) _ _=ρ;rw [Int.sub_zero];exact hρ⟩
 have L0:=zP R0
 have HH:=zP (zU hC (zU hlc (zU hN (zU hnc (zU hlr (zU hnr (zU hfu hlen)))))))
 have HW:=zP HB
 have l1:W.heap.size<V1.heap.size∧V1.heap.size<V2.heap.size:=⟨ltV1,ltV2⟩
 simp only [cpuC,rc,List.cons_append,List.nil_append] at hSV4
 have HL1:=zP l1
 clear hC hlc hN hnc hlr hnr hrr hfu hlen hρ zV K_res K_rg HB R0 l1 ltV1 ltV2 ltV3
 go_enter Try.func21,Try.ntmps21
 go_wp2_with (first|refine wpList_ld rfl rfl hL1 ?_|refine wpList_st rfl rfl hSV4 ?_)
 go_loopg [10,11,12,13,14,15] (fuel.toNat+1) (fun kq v10 v11 v12 v13 v14 v15 Wr=>∃ (st:CpuD) (t:List S80) (SA:Option Addr) (sc:Nat) (TA:Option Addr) (tc:Nat),v10=.slice TA (t.map our80).length tc∧Hid (kq=(fuel - st.used).toNat+1)∧Hid (RLoop W V1.heap.size V2.heap.size (l.map conv74) (now.map conv32) fuel ρ st t SA sc TA tc Wr))
 case atStart=>exact ⟨⟨0,0,[⟨a0,b0⟩,⟨a1,b1⟩,⟨a2,b2⟩,⟨a3,b3⟩,⟨a4,b4⟩,⟨a5,b5⟩,⟨a6,b6⟩,⟨a7,b7⟩],[]⟩,[],none,0,none,0,rfl,zP (by show fuel.toNat+1=(fuel - 0).toNat+1;rw [Int.sub_zero]),L0⟩
 case round =>
  clear L0
  obtain ⟨⟨pc,used,rs,fs⟩,t,SA,sc,TA,tc,rfl,hk,hJ⟩:=hrel
  obtain ⟨hI,zV,K_res,R_st,R_t,HB,hρ⟩:=hJ.out
  clear hJ
  obtain ⟨T,hTT⟩:∃ T,t.map our80=T:=⟨_,rfl⟩
  rw [hTT] at R_t ⊢
  obtain ⟨hC,hlc,hN,hnc,hlr,hnr,hfu,hlen⟩:=HH.out
  dsimp only at zV R_st hρ hk
  have hl8:rs.length=8:=hI.ic.rs.len
  have hfl:fs.length≤16:=hI.ic.fl
  have htl:=hI.tl
  have hu0:0≤used:=hI.u0
  obtain ⟨⟨⟨pc2,used2,rs2,fs2⟩,⟨ak,ax,aa,at',⟨av0,av1⟩,ae⟩⟩,hsp⟩:∃ r,stepP (l.map conv74) ⟨pc,used,rs,fs⟩ (now.length:Int) fuel=r:=⟨_,rfl⟩
  have hSI:=step_inv (l:=l.map conv74) (vars:=(now.length:Int)) (fuel:=fuel) hI.ic hlr
  rw [hsp] at hSI
  have hρ2:(if ak=5 then (⟨ae,used2,rs2,t⟩:ResD) else if (answerP (now.map conv32) ⟨pc2,used2,rs2,fs2⟩ ⟨ak,ax,aa,at',⟨av0,av1⟩,ae⟩ t).2.2=0 then runP (l.map conv74) (now.map conv32) fuel (fuel - used).toNat (answerP (now.map conv32) ⟨pc2,used2,rs2,fs2⟩ ⟨ak,ax,aa,at',⟨av0,av1⟩,ae⟩ t).1 (answerP (now.map conv32) ⟨pc2,used2,rs2,fs2⟩ ⟨ak,ax,aa,at',⟨av0,av1⟩,ae⟩ t).2.1 else ⟨5,(answerP (now.map conv32) ⟨pc2,used2,rs2,fs2⟩ ⟨ak,ax,aa,at',⟨av0,av1⟩,ae⟩ t).1.used,(answerP (now.map conv32) ⟨pc2,used2,rs2,fs2⟩ ⟨ak,ax,aa,at',⟨av0,av1⟩,ae⟩ t).1.rs,(answerP (now.map conv32) ⟨pc2,used2,rs2,fs2⟩ ⟨ak,ax,aa,at',⟨av0,av1⟩,ae⟩ t).2.1⟩)=ρ:=by
   rw [← hρ]
   simp only [runP,List.length_map,hsp]
  clear hρ
  obtain ⟨hI2,hgo⟩:=hSI
  dsimp only at hI2 hgo
  have hr8:rs2.length=8:=hI2.rs.len
  have hfl2:fs2.length≤16:=hI2.fl
  have HF:=rstep_calls A c l pc used rs SA sc fs (now.length:Int) fuel wr (Kd.C_below hC HB) hlc (Kd.R_reads' R_st).2.2 (Kd.R_reads' R_st).2.1 hl8 hlen (by omega)
  rw [hsp] at HF
  replace HF:=zP HF
  have li:=HL1.out
  have lc:=zL zV
  have lW:=HB.size
  have zhL1:=ld_whole (P:=Try.prog) (ty:=29) zV Try.underlying29 rfl (by first|rfl|(rw [sz29_];rfl)|(rw [sz29_];have:=zM (pc:=pc) (used:=used) (rs:=rs) (stk:=.slice SA fs.length sc) hl8;simp [this])|(rw [sz29_,zM (pc:=pc) (used:=used) (rs:=rs) (stk:=.slice SA fs.length sc) hl8]))
  have HXT:=zP R_t
  clear R_t
  have HQ:=zP (zU hρ2 (zU hgo hI2))
  have HI:=zP hI
  clear hρ2 hgo hI2 hI hC hlc hN hnc hlr hnr hfu hlen hsp
  have HXz1:=zP (zU zV (zU K_res (zU R_st (HB))))
  clear HB R_st K_res zV
  go_wp2_with (refine wpList_ld rfl rfl zhL1 ?_)
  refine HF.out.mono ?_
  rintro e w1 ⟨-,SE,sf,rfl,hrow,hB1⟩
  dsimp only [AskD.c] at hrow ⊢
  clear HF
  obtain ⟨zV,K_res,R_st,HB⟩:=HXz1.out
  clear HXz1
  have R_y:Kd.R kF 99 w1 W.heap.size (fun _=>True) (.slice SE fs2.length sf) fs2:=by
   rcases hrow with ⟨rfl,rfl,rfl⟩|h
   ·
    exact Kd.R_below R_st hB1
   ·
    exact Kd.R_lower h (by omega)
  clear R_st hrow
  replace zV:=zI zV hB1
  replace K_res:=zI K_res hB1
  have szw1:wr.heap.size≤w1.heap.size:=hB1.size
  replace HB:=zE HB hB1
  have R_t:Kd.V k114 114 w1 0 (fun k=>V2.heap.size<k∧k<w1.heap.size) (.slice TA T.length tc) T:=Kd.V_bound (Kd.V_below HXT.out hB1)
  clear HXT
  obtain ⟨zV1,hzV1,KzV1,hBzV1⟩:=alz0 w1
  have ltzV1:w1.heap.size<zV1.heap.size:=zL KzV1
  replace zV:=zI zV hBzV1
  replace K_res:=zI K_res hBzV1
  replace R_y:=Kd.R_below R_y hBzV1
  replace R_t:=Kd.V_below R_t hBzV1
  have K_nx:=KzV1
  replace HB:=zE HB hBzV1
  clear KzV1 hBzV1
  obtain ⟨zV2,hzV2,KzV2,hBzV2⟩:=alz1 zV1
  have ltzV2:zV1.heap.size<zV2.heap.size:=zL KzV2
  replace zV:=zI zV hBzV2
  replace K_res:=zI K_res hBzV2
  replace K_nx:=zI K_nx hBzV2
  replace R_y:=Kd.R_below R_y hBzV2
  replace R_t:=Kd.V_below R_t hBzV2
  have K_ak:=KzV2
  replace HB:=zE HB hBzV2
  clear KzV2 hBzV2
  have hz:=zM (pc:=pc2) (used:=used2) (rs:=rs2) (stk:=.slice SE fs2.length sf) hr8
  obtain ⟨zV3,hSzV3,KKzV3,hOzV3⟩:=st_arr (cs:=cpuC pc2 used2 rs2 (.slice SE fs2.length sf)) sz29_ K_nx (by first|rfl|simp [hz]) (by first|rfl|simp [hz]) (cpuC_one1 _ _ _ rfl)
  clear hz
  replace R_y:=R_offs R_y K_nx (by intro q hq;simp [kF] at hq;subst hq;decide) hOzV3
  replace R_t:=Kd.V_step R_t (fun k hk hlt=>hOzV3.block k hlt (by first|omega|(have:=hk.2;omega)|(rcases hk with hk|hk <;> omega)))
  replace K_nx:zV3.heap[w1.heap.size]?=some (.cells (cpuC pc2 used2 rs2 (.slice SE fs2.length sf)) 29 (0,0)):=KKzV3
  replace zV:=hOzV3.mid zV (by omega) (B:=0)
  replace K_res:=hOzV3.mid K_res (by omega) (B:=0)
  replace K_ak:=hOzV3.mid K_ak (by omega) (B:=0)
  have szzV3:zV2.heap.size≤zV3.heap.size:=hOzV3.size
  replace HB:=HB.trans (hOzV3.below (by omega) HB.size)
  clear hOzV3
  clear KKzV3
  obtain ⟨zV4,hSzV4,KKzV4,hOzV4⟩:=st_arr (cs:=askC ak ax aa at' av0 av1 ae) sz46 K_ak (by first|rfl|simp) rfl (by simp [Value.oneCell'])
  replace R_y:=R_offs R_y K_ak (by intro q hq;simp [kF] at hq;subst hq;decide) hOzV4
  replace R_t:=Kd.V_step R_t (fun k hk hlt=>hOzV4.block k hlt (by first|omega|(have:=hk.2;omega)|(rcases hk with hk|hk <;> omega)))
  replace K_ak:zV4.heap[zV1.heap.size]?=some (.cells (askC ak ax aa at' av0 av1 ae) 46 (0,0)):=KKzV4
  replace zV:=hOzV4.mid zV (by omega) (B:=0)
  replace K_res:=hOzV4.mid K_res (by omega) (B:=0)
  replace K_nx:=hOzV4.mid K_nx (by omega) (B:=0)
  have szzV4:zV3.heap.size≤zV4.heap.size:=hOzV4.size
  replace HB:=HB.trans (hOzV4.below (by omega) HB.size)
  clear hOzV4
  clear KKzV4
  have zhL2:=ld_whole (P:=Try.prog) (ty:=29) K_nx Try.underlying29 rfl (by first|rfl|(rw [sz29_];rfl)|(rw [sz29_];have:=zM (pc:=pc2) (used:=used2) (rs:=rs2) (stk:=.slice SE fs2.length sf) hr8;simp [this])|(rw [sz29_,zM (pc:=pc2) (used:=used2) (rs:=rs2) (stk:=.slice SE fs2.length sf) hr8]))
  have hz:=zU (zM (pc:=pc2) (used:=used2) (rs:=rs2) (stk:=.slice SE fs2.length sf) hr8) (zM (pc:=pc) (used:=used) (rs:=rs) (stk:=.slice SA fs.length sc) hl8)
  obtain ⟨zV5,hSzV5,KKzV5,hOzV5⟩:=st_arr (cs:=cpuC pc2 used2 rs2 (.slice SE fs2.length sf)) sz29_ zV (by first|rfl|simp [hz]) (by first|rfl|simp [hz]) (cpuC_one1 _ _ _ rfl)
  clear hz
  replace R_y:=R_offs R_y zV (by intro q hq;simp [kF] at hq;subst hq;decide) hOzV5
  replace R_t:=Kd.V_step R_t (fun k hk hlt=>hOzV5.block k hlt (by first|omega|(have:=hk.2;omega)|(rcases hk with hk|hk <;> omega)))
  replace zV:zV5.heap[V2.heap.size]?=some (.cells (cpuC pc2 used2 rs2 (.slice SE fs2.length sf)) 29 (0,0)):=KKzV5
  replace K_res:=hOzV5.mid K_res (by omega) (B:=0)
  replace K_nx:=hOzV5.mid K_nx (by omega) (B:=0)
  replace K_ak:=hOzV5.mid K_ak (by omega) (B:=0)
  have szzV5:zV4.heap.size≤zV5.heap.size:=hOzV5.size
  replace HB:=HB.trans (hOzV5.below (by omega) HB.size)
  clear hOzV5
  clear KKzV5
  have zc3:zV5.cell? ⟨zV1.heap.size,0,none⟩=some (zC zD ak):=zJ K_ak (0)
  by_cases hak:ak=5
  ·
   subst hak
   obtain ⟨x0,y0,x1,y1,x2,y2,x3,y3,x4,y4,x5,y5,x6,y6,x7,y7,rfl⟩:=eight hr8
   have zc4:zV5.cell? ⟨zV1.heap.size,6,none⟩=some (zC zD ae):=zJ K_ak (6)
   have zc5:zV5.cell? ⟨V2.heap.size,1,none⟩=some (zC zD used2):=zJ zV (1)
   have hR26:(Instr.loadAt 26 (.pointer (some ⟨V2.heap.size,2,none⟩))).run Try.prog zV5=.ok (.agg (#[zC zD x0,zC zD y0,zC zD x1,zC zD y1,zC zD x2,zC zD y2,zC zD x3,zC zD y3,zC zD x4,zC zD y4,zC zD x5,zC zD y5,zC zD x6,zC zD y6,zC zD x7,zC zD y7])) zV5:=ld_range (P:=Try.prog) (ty:=26) (range_of (W:=zV5) (g:=V2.heap.size) (pre:=[zC zD pc2,zC zD used2]) (cs:=[zC zD x0,zC zD y0,zC zD x1,zC zD y1,zC zD x2,zC zD y2,zC zD x3,zC zD y3,zC zD x4,zC zD y4,zC zD x5,zC zD y5,zC zD x6,zC zD y6,zC zD x7,zC zD y7]) (post:=[.slice SE fs2.length sf]) (t:=29) (fr:=(0,0)) (by simpa [cpuC,rc] using zV)) hu26 rfl (by rw [sz26];rfl)
   obtain ⟨zV6,hSzV6,KKzV6,hOzV6⟩:=st_arr (cs:=#[zC zD ae,zC zD used2,zC zD x0,zC zD y0,zC zD x1,zC zD y1,zC zD x2,zC zD y2,zC zD x3,zC zD y3,zC zD x4,zC zD y4,zC zD x5,zC zD y5,zC zD x6,zC zD y6,zC zD x7,zC zD y7,.slice TA T.length tc]) sz66 K_res (by first|rfl|simp) rfl (by simp [Value.oneCell'])
   replace R_y:=R_offs R_y K_res (by intro q hq;simp [kF] at hq;subst hq;decide) hOzV6
   replace R_t:=Kd.V_step R_t (fun k hk hlt=>hOzV6.block k hlt (by first|omega|(have:=hk.2;omega)|(rcases hk with hk|hk <;> omega)))
   replace K_res:zV6.heap[V1.heap.size]?=some (.cells (#[zC zD ae,zC zD used2,zC zD x0,zC zD y0,zC zD x1,zC zD y1,zC zD x2,zC zD y2,zC zD x3,zC zD y3,zC zD x4,zC zD y4,zC zD x5,zC zD y5,zC zD x6,zC zD y6,zC zD x7,zC zD y7,.slice TA T.length tc]) 66 (0,0)):=KKzV6
   replace zV:=hOzV6.mid zV (by omega) (B:=0)
   replace K_nx:=hOzV6.mid K_nx (by omega) (B:=0)
   replace K_ak:=hOzV6.mid K_ak (by omega) (B:=0)
   have szzV6:zV5.heap.size≤zV6.heap.size:=hOzV6.size
   replace HB:=HB.trans (hOzV6.below (by omega) HB.size)
   clear hOzV6
   clear KKzV6
   have hk5:((5:Int)==5)=true:=rfl
   have hq:=HQ.out.1
   rw [if_pos rfl] at hq
   have HXz2:=zP (zU zV (zU K_res (zU K_nx (zU K_ak (zU R_y (zU R_t (HB)))))))
   clear HB R_t R_y K_ak K_nx K_res zV
   go_wp2_with (first|refine wpList_st rfl rfl hSzV3 ?_|refine wpList_st rfl rfl hSzV4 ?_|refine wpList_st rfl rfl hSzV5 ?_|refine wpList_st rfl rfl hSzV6 ?_|refine wpList_ld rfl rfl zhL2 ?_|refine wpList_ld rfl rfl hR26 ?_)
   obtain ⟨zV,K_res,K_nx,K_ak,R_y,R_t,HB⟩:=HXz2.out
   clear HXz2
   subst hq
   exact bodyPost_ret (results_c1 rfl _ rfl K_res hu66 rfl (by rw [sz66];rfl)) rfl ⟨TA,tc,by subst hTT;rfl,rfl,by subst hTT;exact Kd.V_mono R_t (fun k hk=>by have:=hk.1;omega),HB⟩
  ·
   have hgo:=HQ.out.2.1 hak
   obtain ⟨hg1,hg2,hg3,hg4,hg5,hg6⟩:=hgo
   have HG:=zP (zU hg1 (zU hg2 hg6))
   have hok:AskOK (now.map conv32) ⟨pc2,used2,rs2,fs2⟩ ⟨ak,ax,aa,at',⟨av0,av1⟩,ae⟩:=⟨hg3,by rw [List.length_map];exact hg4,hg5⟩
   obtain ⟨⟨⟨pc3,used3,rs3,fs3⟩,t3,er⟩,han⟩:∃ q,answerP (now.map conv32) ⟨pc2,used2,rs2,fs2⟩ ⟨ak,ax,aa,at',⟨av0,av1⟩,ae⟩ t=q:=⟨_,rfl⟩
   have hq:=HQ.out.1
   rw [if_neg hak,han] at hq
   dsimp only at hq
   have hAI:=answer_inv (a:=⟨ak,ax,aa,at',⟨av0,av1⟩,ae⟩) HQ.out.2.2 htl HI.out.tr HH.out.2.2.2.2.2.1 hg6
   rw [han] at hAI
   dsimp only at hAI
   obtain ⟨hI3,hus,ht3,hr3⟩:=hAI
   have hr83:rs3.length=8:=hI3.rs.len
   have HF2:=rans_all pc2 used2 rs2 SE sf fs2 ⟨ak,ax,aa,at',⟨av0,av1⟩,ae⟩ (fun k=>V2.heap.size<k) TA tc t NA nc now zV5 hr8 (by rw [hTT];exact Kd.V_mono R_t (fun k hk=>hk.1)) (by omega) (by omega) (Kd.R_reads' R_y).2.2 (Kd.C_below HH.out.2.2.1 HB) hok
   rw [han,hTT] at HF2
   replace HF2:=zP HF2
   have hakb:(ak==5)=false:=by simpa using hak
   have HQ2:=zP (zU hq (zU hI3 (zU hus (zU ht3 hr3))))
   clear hq hI3 hus ht3 hr3 hok hg1 hg2 hg3 hg4 hg5 hg6 hak
   have zhL4:=ld_whole (P:=Try.prog) (ty:=29) zV Try.underlying29 rfl (by first|rfl|(rw [sz29_];rfl)|(rw [sz29_];have:=zM (pc:=pc2) (used:=used2) (rs:=rs2) (stk:=.slice SE fs2.length sf) hr8;simp [this])|(rw [sz29_,zM (pc:=pc2) (used:=used2) (rs:=rs2) (stk:=.slice SE fs2.length sf) hr8]))
   have zhL5:=ld_whole (P:=Try.prog) (ty:=46) K_ak Try.underlying46 rfl (by first|rfl|(rw [sz46];rfl)|(rw [sz46];have:=rfl;simp [this])|(rw [sz46,rfl]))
   have HXz2:=zP (zU zV (zU K_res (zU K_nx (zU K_ak (zU R_y (zU R_t (HB)))))))
   clear HB R_t R_y K_ak K_nx K_res zV
   go_wp2_with (first|refine wpList_st rfl rfl hSzV3 ?_|refine wpList_st rfl rfl hSzV4 ?_|refine wpList_st rfl rfl hSzV5 ?_|refine wpList_ld rfl rfl zhL2 ?_|refine wpList_ld rfl rfl zhL4 ?_|refine wpList_ld rfl rfl zhL5 ?_)
   refine HF2.out.mono ?_
   rintro e w2 ⟨SG,sg,TB,td,rfl,hrow,hT2,hB2⟩
   dsimp only at hrow hT2 ⊢
   clear HF2
   obtain ⟨T3,hT3⟩:∃ T,t3.map our80=T:=⟨_,rfl⟩
   rw [hT3] at hT2 ⊢
   obtain ⟨zV,K_res,K_nx,K_ak,R_y,R_t,HB⟩:=HXz2.out
   clear HXz2
   have R_z:Kd.R kF 99 w2 W.heap.size (fun _=>True) (.slice SG fs3.length sg) fs3:=by
    rcases hrow with ⟨rfl,rfl,rfl⟩|h
    ·
     exact Kd.R_below R_y hB2
    ·
     exact Kd.R_lower h HB.size
   clear R_y hrow R_t
   have R_u:Kd.V k114 114 w2 0 (fun k=>V2.heap.size<k∧k<w2.heap.size) (.slice TB T3.length td) T3:=Kd.V_bound (Kd.V_mono hT2 (fun k hk=>by have:=zL zV;rcases hk with hk|hk <;> omega))
   clear hT2
   replace zV:=zI zV hB2
   replace K_res:=zI K_res hB2
   replace K_nx:=zI K_nx hB2
   replace K_ak:=zI K_ak hB2
   have szw2:zV5.heap.size≤w2.heap.size:=hB2.size
   replace HB:=zE HB hB2
   obtain ⟨zV6,hzV6,KzV6,hBzV6⟩:=alz0 w2
   have ltzV6:w2.heap.size<zV6.heap.size:=zL KzV6
   replace zV:=zI zV hBzV6
   replace K_res:=zI K_res hBzV6
   replace K_nx:=zI K_nx hBzV6
   replace K_ak:=zI K_ak hBzV6
   replace R_z:=Kd.R_below R_z hBzV6
   replace R_u:=Kd.V_below R_u hBzV6
   have K_d:=KzV6
   replace HB:=zE HB hBzV6
   clear KzV6 hBzV6
   have hz:=zM (pc:=pc3) (used:=used3) (rs:=rs3) (stk:=.slice SG fs3.length sg) hr83
   obtain ⟨zV7,hSzV7,KKzV7,hOzV7⟩:=st_arr (cs:=cpuC pc3 used3 rs3 (.slice SG fs3.length sg)) sz29_ K_d (by first|rfl|simp [hz]) (by first|rfl|simp [hz]) (cpuC_one1 _ _ _ rfl)
   clear hz
   replace R_z:=R_offs R_z K_d (by intro q hq;simp [kF] at hq;subst hq;decide) hOzV7
   replace R_u:=Kd.V_step R_u (fun k hk hlt=>hOzV7.block k hlt (by first|omega|(have:=hk.2;omega)|(rcases hk with hk|hk <;> omega)))
   replace K_d:zV7.heap[w2.heap.size]?=some (.cells (cpuC pc3 used3 rs3 (.slice SG fs3.length sg)) 29 (0,0)):=KKzV7
   replace zV:=hOzV7.mid zV (by omega) (B:=0)
   replace K_res:=hOzV7.mid K_res (by omega) (B:=0)
   replace K_nx:=hOzV7.mid K_nx (by omega) (B:=0)
   replace K_ak:=hOzV7.mid K_ak (by omega) (B:=0)
   have szzV7:zV6.heap.size≤zV7.heap.size:=hOzV7.size
   replace HB:=HB.trans (hOzV7.below (by omega) HB.size)
   clear hOzV7
   clear KKzV7
   have zhL6:=ld_whole (P:=Try.prog) (ty:=29) K_d Try.underlying29 rfl (by first|rfl|(rw [sz29_];rfl)|(rw [sz29_];have:=zM (pc:=pc3) (used:=used3) (rs:=rs3) (stk:=.slice SG fs3.length sg) hr83;simp [this])|(rw [sz29_,zM (pc:=pc3) (used:=used3) (rs:=rs3) (stk:=.slice SG fs3.length sg) hr83]))
   have hz:=zU (zM (pc:=pc3) (used:=used3) (rs:=rs3) (stk:=.slice SG fs3.length sg) hr83) (zM (pc:=pc2) (used:=used2) (rs:=rs2) (stk:=.slice SE fs2.length sf) hr8)
   obtain ⟨zV8,hSzV8,KKzV8,hOzV8⟩:=st_arr (cs:=cpuC pc3 used3 rs3 (.slice SG fs3.length sg)) sz29_ zV (by first|rfl|simp [hz]) (by first|rfl|simp [hz]) (cpuC_one1 _ _ _ rfl)
   clear hz
   replace R_z:=R_offs R_z zV (by intro q hq;simp [kF] at hq;subst hq;decide) hOzV8
   replace R_u:=Kd.V_step R_u (fun k hk hlt=>hOzV8.block k hlt (by first|omega|(have:=hk.2;omega)|(rcases hk with hk|hk <;> omega)))
   replace zV:zV8.heap[V2.heap.size]?=some (.cells (cpuC pc3 used3 rs3 (.slice SG fs3.length sg)) 29 (0,0)):=KKzV8
   replace K_res:=hOzV8.mid K_res (by omega) (B:=0)
   replace K_nx:=hOzV8.mid K_nx (by omega) (B:=0)
   replace K_ak:=hOzV8.mid K_ak (by omega) (B:=0)
   replace K_d:=hOzV8.mid K_d (by omega) (B:=0)
   have szzV8:zV7.heap.size≤zV8.heap.size:=hOzV8.size
   replace HB:=HB.trans (hOzV8.below (by omega) HB.size)
   clear hOzV8
   clear KKzV8
   by_cases her:er=0
   ·
    have herb:(er==0)=true:=by simpa using her
    have HXz3:=zP (zU zV (zU K_res (zU K_nx (zU K_ak (zU K_d (zU R_z (zU R_u (HB))))))))
    clear HB R_u R_z K_d K_ak K_nx K_res zV
    go_wp2_with (first|refine wpList_st rfl rfl hSzV7 ?_|refine wpList_st rfl rfl hSzV8 ?_|refine wpList_ld rfl rfl zhL6 ?_)
    obtain ⟨zV,K_res,K_nx,K_ak,K_d,R_z,R_u,HB⟩:=HXz3.out
    clear HXz3
    obtain ⟨kk,rfl⟩:∃ m,gk=m+1:=⟨gk - 1,by have:=hk.out;omega⟩
    go_roundg kk
    case measure=>omega
    case rel =>
     obtain ⟨hq,hI3,hus,ht3,hr3⟩:=HQ2.out
     obtain ⟨hg1,hg2,-⟩:=HG.out
     rw [if_pos her] at hq
     have hu3:used3=used+1:=by rw [hus,hg2];unfold wrap64;have:=HH.out.2.2.2.2.2.2.1;omega
     have hn:(fuel - used).toNat=(fuel - used3).toNat+1:=by omega
     have hkk:=hk.out
     refine ⟨⟨pc3,used3,rs3,fs3⟩,t3,SG,sg,TB,td,by rw [hT3],zP (by show kk=(fuel - used3).toNat+1;omega),zP ⟨⟨hI3,by show 0≤used3;omega,ht3,hr3⟩,zV,K_res,R_z,by rw [hT3];exact Kd.V_mono R_u (fun k hk=>hk.1),HB,?_⟩⟩
     show runP _ _ fuel ((fuel - used3).toNat+1) _ _=ρ
     rw [← hn]
     exact hq
   ·
    have herb:(er==0)=false:=by simpa using her
    obtain ⟨x0,y0,x1,y1,x2,y2,x3,y3,x4,y4,x5,y5,x6,y6,x7,y7,rfl⟩:=eight hr83
    have zc7:zV8.cell? ⟨V2.heap.size,1,none⟩=some (zC zD used3):=zJ zV (1)
    have hR26:(Instr.loadAt 26 (.pointer (some ⟨V2.heap.size,2,none⟩))).run Try.prog zV8=.ok (.agg (#[zC zD x0,zC zD y0,zC zD x1,zC zD y1,zC zD x2,zC zD y2,zC zD x3,zC zD y3,zC zD x4,zC zD y4,zC zD x5,zC zD y5,zC zD x6,zC zD y6,zC zD x7,zC zD y7])) zV8:=ld_range (P:=Try.prog) (ty:=26) (range_of (W:=zV8) (g:=V2.heap.size) (pre:=[zC zD pc3,zC zD used3]) (cs:=[zC zD x0,zC zD y0,zC zD x1,zC zD y1,zC zD x2,zC zD y2,zC zD x3,zC zD y3,zC zD x4,zC zD y4,zC zD x5,zC zD y5,zC zD x6,zC zD y6,zC zD x7,zC zD y7]) (post:=[.slice SG fs3.length sg]) (t:=29) (fr:=(0,0)) (by simpa [cpuC,rc] using zV)) hu26 rfl (by rw [sz26];rfl)
    obtain ⟨zV9,hSzV9,KKzV9,hOzV9⟩:=st_arr (cs:=#[zC zD 5,zC zD used3,zC zD x0,zC zD y0,zC zD x1,zC zD y1,zC zD x2,zC zD y2,zC zD x3,zC zD y3,zC zD x4,zC zD y4,zC zD x5,zC zD y5,zC zD x6,zC zD y6,zC zD x7,zC zD y7,.slice TB T3.length td]) sz66 K_res (by first|rfl|simp) rfl (by simp [Value.oneCell'])
    replace R_z:=R_offs R_z K_res (by intro q hq;simp [kF] at hq;subst hq;decide) hOzV9
    replace R_u:=Kd.V_step R_u (fun k hk hlt=>hOzV9.block k hlt (by first|omega|(have:=hk.2;omega)|(rcases hk with hk|hk <;> omega)))
    replace K_res:zV9.heap[V1.heap.size]?=some (.cells (#[zC zD 5,zC zD used3,zC zD x0,zC zD y0,zC zD x1,zC zD y1,zC zD x2,zC zD y2,zC zD x3,zC zD y3,zC zD x4,zC zD y4,zC zD x5,zC zD y5,zC zD x6,zC zD y6,zC zD x7,zC zD y7,.slice TB T3.length td]) 66 (0,0)):=KKzV9
    replace zV:=hOzV9.mid zV (by omega) (B:=0)
    replace K_nx:=hOzV9.mid K_nx (by omega) (B:=0)
    replace K_ak:=hOzV9.mid K_ak (by omega) (B:=0)
    replace K_d:=hOzV9.mid K_d (by omega) (B:=0)
    have szzV9:zV8.heap.size≤zV9.heap.size:=hOzV9.size
    replace HB:=HB.trans (hOzV9.below (by omega) HB.size)
    clear hOzV9
    clear KKzV9
    have HXz3:=zP (zU zV (zU K_res (zU K_nx (zU K_ak (zU K_d (zU R_z (zU R_u (HB))))))))
    clear HB R_u R_z K_d K_ak K_nx K_res zV
    go_wp2_with (first|refine wpList_st rfl rfl hSzV7 ?_|refine wpList_st rfl rfl hSzV8 ?_|refine wpList_st rfl rfl hSzV9 ?_|refine wpList_ld rfl rfl zhL6 ?_|refine wpList_ld rfl rfl hR26 ?_)
    obtain ⟨zV,K_res,K_nx,K_ak,K_d,R_z,R_u,HB⟩:=HXz3.out
    clear HXz3
    have hq:=HQ2.out.1
    rw [if_neg her] at hq
    subst hq
    exact bodyPost_ret (results_c1 rfl _ rfl K_res hu66 rfl (by rw [sz66];rfl)) rfl ⟨TB,td,by subst hT3;rfl,rfl,by subst hT3;exact Kd.V_mono R_u (fun k hk=>by have:=hk.1;omega),HB⟩
end Go.Proofs.Ytgnjkegnddekeaa.Q

set_option maxHeartbeats 4000000
set_option maxRecDepth 100000
open Go.Value renaming int → zC
open Go.IntKind renaming i64 → zD
open Go.World renaming block_lt_of_cell? → zO
open List renaming setIfInBounds_toArray → zQ, set_cons_zero → zS, set_cons_succ → zT
open Go.Lib renaming hid → zP
open And renaming intro → zU
namespace Go.Proofs.Ytgnjkegnddekeaa.Q
open Go.RowKit Go.Lib Go.Proofs.Ytgnjkegnddekeaa Go.Proofs.YtgnjkegnddekeaaW.PrintWords Go.Proofs.YtgnjkegnddekeaaW.PrintLast Go.Proofs.YtgnjkegnddekeaaW.PrintMore
set_option linter.unusedVariables false
set_option linter.unusedSimpArgs false
theorem stable_Rr {α:Type} (d:Kd α) (e b0:Nat) (L:List α):GR.Stable RB (fun W v=>Kd.R d e W b0 (fun _=>True) v L):=fun _ _ _ h hb=>Kd.R_below h hb
theorem eqR26r (d:Nat) (w:World) (rs:List S32) (h8:rs.length=8):(Op.equalIn (d+3) 26 (.agg (rc rs).toArray) (.agg (rc rs).toArray)).run Try.prog w=.ok true w:=by
 obtain ⟨a0,b0,a1,b1,a2,b2,a3,b3,a4,b4,a5,b5,a6,b6,a7,b7,rfl⟩:=eight h8
 have hu26:=Try.underlying26
 have hu24:=Try.underlying24
 simp only [rc]
 unfold Op.equalIn
 go_simp
 rw [forIn_ok _ (by
  intro i hi
  have hi8:i<8:=by have:=List.mem_range'.1 hi;omega
  have e0:=fun x y=>eqA24 d w x x y y
  rcases (show i=0∨i=1∨i=2∨i=3∨i=4∨i=5∨i=6∨i=7 by omega) with rfl|rfl|rfl|rfl|rfl|rfl|rfl|rfl <;> (go_simp;done))]
 go_simp
theorem res_tail {e u:Int} {rs:List S32} {x:Value} (h:(rc rs).length=16):(Value.int .i64 e :: Value.int .i64 u :: (rc rs++[x])).toArray[18]?=some x:=by
 simp only [List.getElem?_toArray,List.getElem?_cons_succ]
 rw [List.getElem?_append_right (by omega),h]
 rfl
theorem C_off80 {W W':World} {p:Nat} {cs:Array Value} {ty:TypeId} {fr:Nat × Nat} {A:Option Addr} {n:Nat} {t:List S80} (h:Kd.C k80 W A n t) (hp:W.heap[p]?=some (.cells cs ty fr)) (hcs:∀ (i:Nat) (b:Bool),cs[i]?≠some (.bool b)) (hO:Only p W W'):Kd.C k80 W' A n t:=by
 obtain ⟨h1,h2,h3⟩:=h
 refine ⟨h1,h2,fun hn=>?_⟩
 obtain ⟨ad,hAd,h4⟩:=h3 hn
 refine ⟨ad,hAd,fun j q hj=>?_⟩
 obtain ⟨c,c1,c2,c3⟩:=h4 j q hj
 have hb:∀ k,(ad.add k).block=ad.block:=fun k=>by unfold Addr.add;split <;> simp
 have hne:ad.block≠p:=by
  intro e
  have h5:=c3 3 (.bool q.f2) (by rw [k80_open c2];rfl)
  unfold World.cell? at h5
  rw [hb,e,hp] at h5
  dsimp only at h5
  split at h5
  ·
   cases h5
  ·
   exact hcs _ _ h5
 refine ⟨c,c1,(by rw [k80_open c2];exact k80_mk _ _),fun i u hu=>?_⟩
 have h5:=c3 i u hu
 have hlt:=zO W _ h5
 have e:=hO.block _ hlt (by rw [hb];exact hne)
 unfold World.cell? at h5 ⊢
 rw [e]
 exact h5
theorem no_bool59 (i:Nat) (b:Bool):(#[zC zD 0,zC zD 0,zC zD 0,zC zD 0,zC zD 0,zC zD 0,zC zD 0,zC zD 0,zC zD 0,zC zD 0,zC zD 0,zC zD 0,zC zD 0,zC zD 0,zC zD 0,zC zD 0,zC zD 0,zC zD 0,.slice none 0 0]:Array Value)[i]?≠some (.bool b):=by
 intro h
 have hm:=Array.mem_of_getElem? h
 simp at hm
theorem same_calls2 (A:Option Addr) (c:Nat) (A2:Option Addr) (c2:Nat) (T:List S114) (w:World) (g1:Kd.C k114 w A T.length T) (q1:T.length≤c) (g2:Kd.C k114 w A2 T.length T) (q2:T.length≤c2) (hl:T.length≤1000000) :
  Calls Try.prog 23 #[.slice A T.length c,.slice A2 T.length c2] w fun e w'=>e=.returned (.bool true)∧Below w.heap.size w w' :=
 (warpbeamref08_Same.calls (T.length+1) A c T A2 c2 T true w g1 q1 g2 q2 (same_f T hl _ (by omega))).mono fun e w' h=>⟨h.1,h.2.below⟩
theorem rrun_calls (W:World) (A:Option Addr) (c:Nat) (l:List S97) (NA:Option Addr) (nc:Nat) (now:List S24) (fuel:Int) (rs:List S32)
  (hC:Kd.C k97 W A l.length l) (hlc:l.length≤c) (hN:Kd.C k24 W NA now.length now) (hnc:now.length≤nc) (hlr:∀ o∈l.map conv74,R64 o.f2∧R64 o.f4) (hnr:∀ v∈now.map conv32,R64 v.f1) (hrr:RsOK rs) (hfu:fuel≤1000000000) (hlen:l.length≤1000000) :
  Calls Try.prog 21 #[.slice A l.length c,.slice NA now.length nc,.agg (rc rs).toArray,zC zD fuel] W (RRan W (runP (l.map conv74) (now.map conv32) fuel (fuel.toNat+1) ⟨0,0,rs,[]⟩ [])):=by
 obtain ⟨a0,b0,a1,b1,a2,b2,a3,b3,a4,b4,a5,b5,a6,b6,a7,b7,rfl⟩:=eight hrr.len
 exact rrun_core W A c l NA nc now fuel _ _ _ _ _ _ _ _ _ _ _ _ _ _ _ _ hC hlc hN hnc hlr hnr hrr hfu hlen
def TRun (r:ResD) (W:World) (v:Value):Prop:=∃ TA tc,v=.agg (zC zD r.e :: zC zD r.used :: (rc r.rs++[.slice TA r.t.length tc])).toArray∧r.rs.length=8∧Kd.C k80 W TA r.t.length r.t∧r.t.length≤tc
theorem stable_TRun (r:ResD):GR.Stable RB (TRun r):=by
 rintro W W' v ⟨A,c,rfl,h1,h2,h3⟩ hR
 exact ⟨A,c,rfl,h1,Kd.C_below h2 hR,h3⟩
theorem TRun_at {r:ResD} {W:World} {TA:Option Addr} {tc:Nat} (h:TRun r W (.agg (zC zD r.e :: zC zD r.used :: (rc r.rs++[.slice TA r.t.length tc])).toArray)):Kd.C k80 W TA r.t.length r.t∧r.t.length≤tc:=by
 obtain ⟨A,c,e,h8,h1,h2⟩:=h
 injection e with e
 have l18:(rc r.rs).length=16:=by rw [rc_length,h8]
 have x1:=res_tail (e:=r.e) (u:=r.used) (rs:=r.rs) (x:=.slice TA r.t.length tc) l18
 have x2:=res_tail (e:=r.e) (u:=r.used) (rs:=r.rs) (x:=.slice A r.t.length c) l18
 rw [e,x2] at x1
 injection x1 with x1
 injection x1 with x1 _ x3
 subst x1;subst x3
 exact ⟨h1,h2⟩
theorem C_only114 {W W':World} {p:Nat} {ty:TypeId} {fr:Nat × Nat} {A:Option Addr} {n:Nat} {t:List S114} (h:Kd.C k114 W A n t) (hp:W.heap[p]?=some (.cells #[zC zD 0,zC zD 0,zC zD 0,zC zD 0,zC zD 0,zC zD 0,zC zD 0,zC zD 0,zC zD 0,zC zD 0,zC zD 0,zC zD 0,zC zD 0,zC zD 0,zC zD 0,zC zD 0,zC zD 0,zC zD 0,.slice none 0 0] ty fr)) (hO:Only p W W'):Kd.C k114 W' A n t:=by
 obtain ⟨h1,h2,h3⟩:=h
 refine ⟨h1,h2,fun hn=>?_⟩
 obtain ⟨ad,hAd,h4⟩:=h3 hn
 refine ⟨ad,hAd,fun j q hj=>?_⟩
 obtain ⟨c,c1,c2,c3⟩:=h4 j q hj
 have hb:∀ k,(ad.add k).block=ad.block:=fun k=>by unfold Addr.add;split <;> simp
 have hne:ad.block≠p:=by
  intro e
  have h5:=c3 3 (.bool q.f2) (by rw [k114_open c2];rfl)
  unfold World.cell? at h5
  rw [hb,e,hp] at h5
  dsimp only at h5
  split at h5
  ·
   cases h5
  ·
   exact no_bool59 _ _ h5
 refine ⟨c,c1,(by rw [k114_open c2];exact k114_mk _ _),fun i u hu=>?_⟩
 have h5:=c3 i u hu
 have hlt:=zO W _ h5
 have e:=hO.block _ hlt (by rw [hb];exact hne)
 unfold World.cell? at h5 ⊢
 rw [e]
 exact h5
theorem runs_core (l:List S97) (A:Option Addr) (c:Nat) (NA:Option Addr) (nc:Nat) (now:List S24) (rs:List S32) (fuel:Int) (W:World) (hC:Kd.C k97 W A l.length l) (hlc:l.length≤c) (hN:Kd.C k24 W NA now.length now) (hnc:now.length≤nc)
  (hgo:∀ x∈l,goodOp x) (hgv:∀ v∈now,goodVal v) (h8:rs.length=8) (hrr:∀ v∈rs,R64 v.f1) (hfu:R64 fuel) :
  Calls Try.prog 4 #[.slice A l.length c,.agg (worC (.slice NA now.length nc) rs fuel)] W fun e w'=>e=.returned (.bool true)∧Below W.heap.size W w':=by
 have hu54:=Try.underlying54
 have hu26:=Try.underlying26
 have hu34:=Try.underlying34
 have hu59:=Try.underlying59
 have size54:(Try.prog.info? 54).map (·.size)=some 18:=by kernel_rfl
 have size26:(Try.prog.info? 26).map (·.size)=some 16:=by kernel_rfl
 have hwl:(worC (.slice NA now.length nc) rs fuel).size=18:=by have:=rc_length rs;simp [worC,this,h8]
 obtain ⟨W1,hW1,KW1,hBW1⟩:=alz W (worC (.slice NA now.length nc) rs fuel) 54
 have HA:=zP (alive_calls W1)
 have HH:=zP (zU hC (zU hN (zU hBW1 KW1)))
 clear hC hN hBW1 KW1
 by_cases hh:heavyP l.length now.length fuel=true
 ·
  go_enter Try.func4,Try.ntmps4
  go_wp2_with fail
  refine HA.out.mono ?_
  rintro e w2 ⟨rfl,hB2⟩
  have hL:=ld_whole (P:=Try.prog) (ty:=54) (zI HH.out.2.2.2 hB2) hu54 rfl (by rw [size54,hwl])
  have HB:=zP (zE HH.out.2.2.1 hB2)
  have hv:=heavy_calls w2 A NA l.length c now.length nc rs fuel h8
  rw [hh] at hv
  have HV:=zP hv
  clear hv hB2 HH HA
  go_wp2_with (refine wpList_ld rfl rfl hL ?_)
  refine HV.out.mono ?_
  rintro e w3 ⟨rfl,hB3⟩
  have HE:=zP (zE HB.out hB3)
  clear hB3 HB HV
  go_wp2_with fail
  go_ret
  exact ⟨rfl,HE.out⟩
 have hhf:heavyP l.length now.length fuel=false:=by simpa using hh
 have hb3:l.length≤220∧now.length≤100∧fuel≤3000:=by
  unfold heavyP at hhf
  simp only [Bool.or_eq_false_iff,decide_eq_false_iff_not] at hhf
  omega
 obtain ⟨hb1,hb2,hb3⟩:=hb3
 obtain ⟨L,hLd⟩:∃ L,l.map conv74=L:=⟨_,rfl⟩
 obtain ⟨N,hNd⟩:∃ N,now.map conv32=N:=⟨_,rfl⟩
 have hlL:∀ o∈L,R64 o.f2∧R64 o.f4:=by
  intro o ho
  rw [← hLd] at ho
  obtain ⟨x,hx,rfl⟩:=List.mem_map.1 ho
  exact ⟨(hgo x hx).2.2.1,(hgo x hx).2.2.2.2⟩
 have hnN:∀ v∈N,R64 v.f1:=by
  intro v hv
  rw [← hNd] at hv
  obtain ⟨x,hx,rfl⟩:=List.mem_map.1 hv
  exact (hgv x hx).2
 have hTH:warpbeamlaw16_Theirs.f l=some L:=by unfold warpbeamlaw16_Theirs.f;rw [if_pos (by omega),hLd]
 have hTN:warpbeamlaw10_Theirs.f now=some N:=by unfold warpbeamlaw10_Theirs.f;rw [if_pos (by omega),hNd]
 have hT1:=run_tl L N fuel hlL hnN (by omega) (fuel.toNat+1) ⟨0,0,rs,[]⟩ [] (inv_first h8 hrr)
 obtain ⟨r,hr⟩:∃ r,runP L N fuel (fuel.toNat+1) ⟨0,0,rs,[]⟩ []=r:=⟨_,rfl⟩
 rw [hr] at hT1
 have HP:=zP (zU hlL (zU hnN (zU hTH (zU hTN (zU hr hT1)))))
 have HLN:=zP (zU hLd hNd)
 have size34':(Try.prog.info? 34).map (·.size)=some 16:=by kernel_rfl
 clear hlL hnN hTH hTN hr hT1 hLd hNd hgo hgv hh
 go_enter Try.func4,Try.ntmps4
 go_wp2_with fail
 refine HA.out.mono ?_
 rintro e w2 ⟨rfl,hB2⟩
 have hL:=ld_whole (P:=Try.prog) (ty:=54) (zI HH.out.2.2.2 hB2) hu54 rfl (by rw [size54,hwl])
 have HB:=zP hB2
 have hv:=heavy_calls w2 A NA l.length c now.length nc rs fuel h8
 rw [hhf] at hv
 have HV:=zP hv
 clear hv hB2 HA
 go_wp2_with (refine wpList_ld rfl rfl hL ?_)
 refine HV.out.mono ?_
 rintro e w3 ⟨rfl,hB3⟩
 have hW3:=zE HB.out hB3
 have n0:∀ W',Below w3.heap.size w3 W'→W'.cell? ⟨W.heap.size,0,none⟩=some (.slice NA now.length nc):=fun W' hB=>zJ (zI HH.out.2.2.2 (zE hW3 hB)) 0
 have n4:∀ W',Below w3.heap.size w3 W'→W'.cell? ⟨W.heap.size,17,none⟩=some (zC zD fuel):=fun W' hB=>(zJ (zI HH.out.2.2.2 (zE hW3 hB)) 17).trans (worC_fuel h8)
 have n1:∀ W',Below w3.heap.size w3 W'→(Instr.loadAt 26 (.pointer (some ⟨W.heap.size,1,none⟩))).run Try.prog W'=.ok (.agg (rc rs).toArray) W':=fun W' hB =>
  ld_range (P:=Try.prog) (ty:=26) (range_of (W:=W') (g:=W.heap.size) (pre:=[.slice NA now.length nc]) (cs:=rc rs) (post:=[zC zD fuel]) (t:=54) (fr:=(0,0)) (by simpa [worC] using zI HH.out.2.2.2 (zE hW3 hB))) hu26 rfl (by rw [size26,rc_length,h8])
 have n2:∀ W',Below w3.heap.size w3 W'→Kd.C k97 W' A l.length l:=fun W' hB=>Kd.C_below HH.out.1 (zE HH.out.2.2.1 (zE hW3 hB))
 have n3:∀ W',Below w3.heap.size w3 W'→Kd.C k24 W' NA now.length now:=fun W' hB=>Kd.C_below HH.out.2.1 (zE HH.out.2.2.1 (zE hW3 hB))
 have N2:=zP n2
 have N3:=zP n3
 have HW3:=zP hW3
 clear hB3 hW3 hL HB HV n2 n3
 go_wp2_with fail
 apply GR.wp_region_grow (R:=RB) 12 (by kernel_rfl) (by kernel_rfl) (by kernel_rfl)
 ·
  intro c a d v w h;cases d <;> exact h
 simp only [List.take_succ_cons,List.take_zero,List.drop_succ_cons,List.drop_zero]
 apply GR.gw_val (by rfl)
 ·
  (intro W' hB hD;go_simp;first|done|rfl)
 simp only [Act.put,zQ,zS,zT]
 apply GR.gw_callR (stable_Rr k74 74 w3.heap.size L) (by rfl)
 ·
  (intro W' hB hD;go_simp;first|done|rfl|exact ⟨rfl,rfl⟩)
 ·
  (intro W' hB hD; exact (warpbeamlaw16_Theirs.calls A c l L W' (N2.out W' hB) hlc HP.out.2.2.1).mono fun e w' hh => by
    obtain ⟨v,he,hv,hb⟩:=hh
    exact ⟨v,he,hb,Kd.R_lower hv hB.size⟩)
 rintro v ⟨Wv,hv⟩
 obtain ⟨B,d,rfl⟩:=Kd.R_slice hv
 clear hv Wv
 simp only [Act.put,zQ,zS,zT]
 apply GR.gw_val (by rfl)
 ·
  (intro W' hB hD;have e0:=n0 W' hB;have e4:=n4 W' hB;go_simp;first|done|rfl)
 simp only [Act.put,zQ,zS,zT]
 apply GR.gw_val (by rfl)
 ·
  (intro W' hB hD;have e0:=n0 W' hB;have e4:=n4 W' hB;go_simp;first|done|rfl)
 simp only [Act.put,zQ,zS,zT]
 apply GR.gw_callR (stable_Rr k32 32 w3.heap.size N) (by rfl)
 ·
  (intro W' hB hD;go_simp;first|done|rfl|exact ⟨rfl,rfl⟩)
 ·
  (intro W' hB hD; exact (warpbeamlaw10_Theirs.calls NA nc now N W' (N3.out W' hB) hnc HP.out.2.2.2.1).mono fun e w' hh => by
    obtain ⟨v,he,hv,hb⟩:=hh
    exact ⟨v,he,hb,Kd.R_lower hv hB.size⟩)
 rintro v ⟨Wv,hv⟩
 obtain ⟨B2,d2,rfl⟩:=Kd.R_slice hv
 clear hv Wv
 simp only [Act.put,zQ,zS,zT]
 apply GR.gw_val (by rfl)
 ·
  (intro W' hB hD;have e0:=n0 W' hB;have e4:=n4 W' hB;go_simp;first|done|rfl)
 simp only [Act.put,zQ,zS,zT]
 apply GR.gw_val (by rfl)
 ·
  (intro W' hB hD;exact exec_ld rfl (n1 W' hB))
 simp only [Act.put,zQ,zS,zT]
 apply GR.gw_call (c:=.agg (rc rs).toArray) (by rfl)
 ·
  (intro W' hB hD;go_simp;first|done|rfl|exact ⟨rfl,rfl⟩)
 ·
  (intro W' hB hD;exact regs_calls W' rs h8)
 simp only [Act.put,zQ,zS,zT]
 apply GR.gw_val (by rfl)
 ·
  (intro W' hB hD;have e0:=n0 W' hB;have e4:=n4 W' hB;go_simp;first|done|rfl)
 simp only [Act.put,zQ,zS,zT]
 apply GR.gw_val (by rfl)
 ·
  (intro W' hB hD;have e0:=n0 W' hB;have e4:=n4 W' hB;go_simp;first|done|rfl)
 simp only [Act.put,zQ,zS,zT]
 apply GR.gw_callR (stable_TRun r) (by rfl)
 ·
  (intro W' hB hD;go_simp;first|done|rfl|exact ⟨rfl,rfl⟩)
 ·
  intro W' hB hD
  simp [GR.depFacts,Region.binds] at hD
  have hD1:Kd.R k74 74 W' w3.heap.size (fun _=>True) (.slice B L.length d) L:=by first|exact hD.1|exact hD.2.1|exact hD.2
  have hD2:Kd.R k32 32 W' w3.heap.size (fun _=>True) (.slice B2 N.length d2) N:=by first|exact hD.2|exact hD.2.1|exact hD.1|exact hD.2.2.1
  have hR:=run_calls W' B d L B2 d2 N fuel rs (Kd.R_reads' hD1).2.2 (Kd.R_reads' hD1).2.1 (Kd.R_reads' hD2).2.2 (Kd.R_reads' hD2).2.1 HP.out.1 HP.out.2.1 ⟨h8,hrr⟩ (by omega)
  rw [HP.out.2.2.2.2.1] at hR
  exact hR.mono fun e w' hh=>by
   obtain ⟨TA,tc,he,h1,h2,h3,h4⟩:=hh
   exact ⟨_,he,h4,TA,tc,rfl,h1,h2,h3⟩
 rintro v ⟨Wv,TA,tc,rfl,hl1,hv⟩
 clear hv Wv
 simp only [Act.put,zQ,zS,zT]
 apply GR.gw_rel (stable_TZ w3.heap.size (.cells #[zC zD 0,zC zD 0,zC zD 0,zC zD 0,zC zD 0,zC zD 0,zC zD 0,zC zD 0,zC zD 0,zC zD 0,zC zD 0,zC zD 0,zC zD 0,zC zD 0,zC zD 0,zC zD 0,zC zD 0,zC zD 0,.slice none 0 0] 59)) (by rfl)
 ·
  intro W' hB hD
  refine ⟨_,_,?_,bOne (.cells #[zC zD 0,zC zD 0,zC zD 0,zC zD 0,zC zD 0,zC zD 0,zC zD 0,zC zD 0,zC zD 0,zC zD 0,zC zD 0,zC zD 0,zC zD 0,zC zD 0,zC zD 0,zC zD 0,zC zD 0,zC zD 0,.slice none 0 0] 59),W'.heap.size,rfl,hB.size,heap_alloc_new _ _⟩
  go_simp
  first|done|rfl
 rintro v ⟨-,p1,rfl,-,-⟩
 simp only [Act.put,zQ,zS,zT]
 apply GR.gw_nil
 intro Va hVa hF hP
 have hT:=TRun_at (hF (fun W=>TRun r W (.agg (zC zD r.e :: zC zD r.used :: (rc r.rs++[.slice TA r.t.length tc])).toArray)) (by simp))
 have hx:=hF (fun W=>TZ w3.heap.size (.cells #[zC zD 0,zC zD 0,zC zD 0,zC zD 0,zC zD 0,zC zD 0,zC zD 0,zC zD 0,zC zD 0,zC zD 0,zC zD 0,zC zD 0,zC zD 0,zC zD 0,zC zD 0,zC zD 0,zC zD 0,zC zD 0,.slice none 0 0] 59) W (ptr p1)) (by simp)
 rw [TZ_ptr] at hx
 clear hF hP
 obtain ⟨hp1,f3⟩:=hx
 obtain ⟨Vb,hSb,Kb,hOb⟩:=st_whole (P:=Try.prog) (ty:=59) (vs:=zC zD r.e :: zC zD r.used :: (rc r.rs++[.slice TA r.t.length tc])) f3 (by have:=rc_length r.rs;simp [this,hl1]) (by have:=rc_length r.rs;rw [size59];simp [this,hl1]) (by
  intro v hv
  simp only [List.mem_cons,List.mem_append,List.not_mem_nil,or_false] at hv
  rcases hv with rfl|rfl|hv|rfl
  ·
   rfl
  ·
   rfl
  ·
   exact rc_one _ v hv
  ·
   rfl)
 have hT9:=C_off80 hT.1 f3 no_bool59 hOb
 have hVb:Below w3.heap.size w3 Vb:=Below.trans hVa (hOb.below hp1 (Below.size hVa))
 have kc:=n4 Vb hVb
 have k0:=n0 Vb hVb
 have kr:=n1 Vb hVb
 have hR:=rrun_calls Vb A c l NA nc now fuel rs (N2.out Vb hVb) hlc (N3.out Vb hVb) hnc (by rw [HLN.out.1];exact HP.out.1) (by rw [HLN.out.2];exact HP.out.2.1) ⟨h8,hrr⟩ (by omega) (by omega)
 rw [HLN.out.1,HLN.out.2,HP.out.2.2.2.2.1] at hR
 have HR:=zP hR
 have HG:=zP (zU hT9 (zU hT.2 (zU Kb hVb)))
 clear hT hT9 f3 Kb hVa hOb hR n0 n1 n4 N2 N3 hVb
 go_wp2_with (first|refine wpList_st rfl rfl hSb ?_|refine wpList_ld rfl rfl kr ?_)
 refine HR.out.mono ?_
 rintro e w5 ⟨TB,td,rfl,-,hV,hB5⟩
 clear HR kc k0 kr
 obtain ⟨T,hTT⟩:∃ T,r.t.map our80=T:=⟨_,rfl⟩
 rw [hTT] at hV ⊢
 have hVV:=Kd.V_reads' hV
 clear hV
 obtain ⟨Vc,hVc,KVc,hBVc⟩:=alz w5 #[zC zD 0,zC zD 0,zC zD 0,zC zD 0,zC zD 0,zC zD 0,zC zD 0,zC zD 0,zC zD 0,zC zD 0,zC zD 0,zC zD 0,zC zD 0,zC zD 0,zC zD 0,zC zD 0,zC zD 0,zC zD 0,.slice none 0 0] 66
 obtain ⟨V6,hSV6,KKV6,hOV6⟩:=st_whole (P:=Try.prog) (ty:=66) (vs:=zC zD r.e :: zC zD r.used :: (rc r.rs++[.slice TB T.length td])) KVc (by have:=rc_length r.rs;simp [this,hl1]) (by have:=rc_length r.rs;rw [sz66];simp [this,hl1]) (by
  intro v hv
  simp only [List.mem_cons,List.mem_append,List.not_mem_nil,or_false] at hv
  rcases hv with rfl|rfl|hv|rfl
  ·
   rfl
  ·
   rfl
  ·
   exact rc_one _ v hv
  ·
   rfl)
 have hV6:Below w5.heap.size w5 V6:=hBVc.trans (hOV6.below (Nat.le_refl _) hBVc.size)
 have k6:=zI HG.out.2.2.1 (zE hB5 hV6)
 have l18:(rc r.rs).length=16:=by rw [rc_length,hl1]
 have c0:∀ W',Below V6.heap.size V6 W'→W'.cell? ⟨p1,0,none⟩=some (zC zD r.e):=fun W' hB=>zJ (zI k6 hB) 0
 have c1:∀ W',Below V6.heap.size V6 W'→W'.cell? ⟨p1,1,none⟩=some (zC zD r.used):=fun W' hB=>zJ (zI k6 hB) 1
 have c2:∀ W',Below V6.heap.size V6 W'→W'.cell? ⟨w5.heap.size,0,none⟩=some (zC zD r.e):=fun W' hB=>zJ (zI KKV6 hB) 0
 have c3:∀ W',Below V6.heap.size V6 W'→W'.cell? ⟨w5.heap.size,1,none⟩=some (zC zD r.used):=fun W' hB=>zJ (zI KKV6 hB) 1
 have c4:∀ W',Below V6.heap.size V6 W'→W'.cell? ⟨p1,18,none⟩=some (.slice TA r.t.length tc):=fun W' hB=>(zJ (zI k6 hB) 18).trans (res_tail l18)
 have c5:∀ W',Below V6.heap.size V6 W'→W'.cell? ⟨w5.heap.size,18,none⟩=some (.slice TB T.length td):=fun W' hB=>(zJ (zI KKV6 hB) 18).trans (res_tail l18)
 have c6:∀ W',Below V6.heap.size V6 W'→(Instr.loadAt 34 (.pointer (some ⟨p1,2,none⟩))).run Try.prog W'=.ok (.agg (rc r.rs).toArray) W':=fun W' hB =>
  ld_range (P:=Try.prog) (ty:=34) (range_of (W:=W') (g:=p1) (pre:=[zC zD r.e,zC zD r.used]) (cs:=rc r.rs) (post:=[.slice TA r.t.length tc]) (t:=59) (fr:=(0,0)) (by simpa using zI k6 hB)) hu34 rfl (by rw [size34',l18])
 have c7:∀ W',Below V6.heap.size V6 W'→(Instr.loadAt 26 (.pointer (some ⟨w5.heap.size,2,none⟩))).run Try.prog W'=.ok (.agg (rc r.rs).toArray) W':=fun W' hB =>
  ld_range (P:=Try.prog) (ty:=26) (range_of (W:=W') (g:=w5.heap.size) (pre:=[zC zD r.e,zC zD r.used]) (cs:=rc r.rs) (post:=[.slice TB T.length td]) (t:=66) (fr:=(0,0)) (by simpa using zI KKV6 hB)) hu26 rfl (by rw [size26,l18])
 have c8:∀ W',Below V6.heap.size V6 W'→Kd.C k80 W' TA r.t.length r.t:=fun W' hB=>Kd.C_below HG.out.1 (zE hB5 (zE hV6 hB))
 have hg:Kd.C k114 V6 TB T.length T:=Kd.C_below (C_only114 (Kd.C_below hVV.2.2 hBVc) KVc hOV6) (Below.refl _ _)
 have HC8:=zP (zU c8 (zU hg (zU HG.out.2.1 hVV.2.1)))
 have HTT:=zP (zU hTT (show T.length≤1000000 by rw [← hTT,List.length_map];have:=HP.out.2.2.2.2.2;omega))
 have HE:=zP (zE HW3.out (zE HG.out.2.2.2 (zE hB5 hV6)))
 clear k6 KKV6 c8 hg hVV hTT hOV6 hBVc KVc hB5 hV6 HG
 go_wp2_with (refine wpList_st rfl rfl hSV6 ?_)
 apply GR.wp_region_grows (R:=RB) (by kernel_rfl) (by kernel_rfl)
 ·
  intro c a d v w h;cases d <;> exact h
 apply GR.gw_val (by rfl)
 ·
  (intro W' hB hD;have e0:=c0 W' hB;have e1:=c1 W' hB;have e2:=c2 W' hB;have e3:=c3 W' hB;have e4:=c4 W' hB;have e5:=c5 W' hB;go_simp;first|done|rfl)
 simp only [Act.put,zQ,zS,zT]
 apply GR.gw_val (by rfl)
 ·
  (intro W' hB hD;have e0:=c0 W' hB;have e1:=c1 W' hB;have e2:=c2 W' hB;have e3:=c3 W' hB;have e4:=c4 W' hB;have e5:=c5 W' hB;go_simp;first|done|rfl)
 simp only [Act.put,zQ,zS,zT]
 apply GR.gw_val (by rfl)
 ·
  (intro W' hB hD;have e0:=c0 W' hB;have e1:=c1 W' hB;have e2:=c2 W' hB;have e3:=c3 W' hB;have e4:=c4 W' hB;have e5:=c5 W' hB;go_simp;first|done|rfl)
 simp only [Act.put,zQ,zS,zT]
 apply GR.gw_val (by rfl)
 ·
  (intro W' hB hD;have e0:=c0 W' hB;have e1:=c1 W' hB;have e2:=c2 W' hB;have e3:=c3 W' hB;have e4:=c4 W' hB;have e5:=c5 W' hB;go_simp;first|done|rfl)
 simp only [Act.put,zQ,zS,zT]
 apply GR.gw_val (c:=.bool true) (by rfl)
 ·
  (intro W' hB hD;have e0:=c0 W' hB;have e1:=c1 W' hB;have e2:=c2 W' hB;have e3:=c3 W' hB;have e4:=c4 W' hB;have e5:=c5 W' hB;go_simp;first|done|rfl)
 simp only [Act.put,zQ,zS,zT]
 apply GR.gw_val (c:=.bool true) (by rfl)
 ·
  (intro W' hB hD;have e0:=c0 W' hB;have e1:=c1 W' hB;have e2:=c2 W' hB;have e3:=c3 W' hB;have e4:=c4 W' hB;have e5:=c5 W' hB;go_simp;first|done|rfl)
 simp only [Act.put,zQ,zS,zT]
 apply GR.gw_val (by rfl)
 ·
  (intro W' hB hD;have e0:=c0 W' hB;have e1:=c1 W' hB;have e2:=c2 W' hB;have e3:=c3 W' hB;have e4:=c4 W' hB;have e5:=c5 W' hB;go_simp;first|done|rfl)
 simp only [Act.put,zQ,zS,zT]
 apply GR.gw_val (by rfl)
 ·
  (intro W' hB hD;have e0:=c0 W' hB;have e1:=c1 W' hB;have e2:=c2 W' hB;have e3:=c3 W' hB;have e4:=c4 W' hB;have e5:=c5 W' hB;go_simp;first|done|rfl)
 simp only [Act.put,zQ,zS,zT]
 apply GR.gw_val (by rfl)
 ·
  (intro W' hB hD;have e0:=c0 W' hB;have e1:=c1 W' hB;have e2:=c2 W' hB;have e3:=c3 W' hB;have e4:=c4 W' hB;have e5:=c5 W' hB;go_simp;first|done|rfl)
 simp only [Act.put,zQ,zS,zT]
 apply GR.gw_val (by rfl)
 ·
  (intro W' hB hD;have e0:=c0 W' hB;have e1:=c1 W' hB;have e2:=c2 W' hB;have e3:=c3 W' hB;have e4:=c4 W' hB;have e5:=c5 W' hB;go_simp;first|done|rfl)
 simp only [Act.put,zQ,zS,zT]
 apply GR.gw_val (c:=.bool true) (by rfl)
 ·
  (intro W' hB hD;have e0:=c0 W' hB;have e1:=c1 W' hB;have e2:=c2 W' hB;have e3:=c3 W' hB;have e4:=c4 W' hB;have e5:=c5 W' hB;go_simp;first|done|rfl)
 simp only [Act.put,zQ,zS,zT]
 apply GR.gw_val (c:=.bool true) (by rfl)
 ·
  (intro W' hB hD;have e0:=c0 W' hB;have e1:=c1 W' hB;have e2:=c2 W' hB;have e3:=c3 W' hB;have e4:=c4 W' hB;have e5:=c5 W' hB;go_simp;first|done|rfl)
 simp only [Act.put,zQ,zS,zT]
 apply GR.gw_val (c:=.bool true) (by rfl)
 ·
  (intro W' hB hD;have e0:=c0 W' hB;have e1:=c1 W' hB;have e2:=c2 W' hB;have e3:=c3 W' hB;have e4:=c4 W' hB;have e5:=c5 W' hB;go_simp;first|done|rfl)
 simp only [Act.put,zQ,zS,zT]
 apply GR.gw_val (by rfl)
 ·
  (intro W' hB hD;have e0:=c0 W' hB;have e1:=c1 W' hB;have e2:=c2 W' hB;have e3:=c3 W' hB;have e4:=c4 W' hB;have e5:=c5 W' hB;go_simp;first|done|rfl)
 simp only [Act.put,zQ,zS,zT]
 apply GR.gw_val (by rfl)
 ·
  (intro W' hB hD;exact exec_ld rfl (c6 W' hB))
 simp only [Act.put,zQ,zS,zT]
 apply GR.gw_call (c:=.agg (rc r.rs).toArray) (by rfl)
 ·
  (intro W' hB hD;go_simp;first|done|rfl|exact ⟨rfl,rfl⟩)
 ·
  (intro W' hB hD;exact ours_regs W' r.rs hl1)
 simp only [Act.put,zQ,zS,zT]
 apply GR.gw_val (by rfl)
 ·
  (intro W' hB hD;have e0:=c0 W' hB;have e1:=c1 W' hB;have e2:=c2 W' hB;have e3:=c3 W' hB;have e4:=c4 W' hB;have e5:=c5 W' hB;go_simp;first|done|rfl)
 simp only [Act.put,zQ,zS,zT]
 apply GR.gw_val (by rfl)
 ·
  (intro W' hB hD;exact exec_ld rfl (c7 W' hB))
 simp only [Act.put,zQ,zS,zT]
 apply GR.gw_val (c:=.bool true) (by rfl)
 ·
  (intro W' hB hD;clear c0 c1 c2 c3 c4 c5 c6 c7;have eR:(Op.equalIn 10000 26 (.agg (rc r.rs).toArray) (.agg (rc r.rs).toArray)).run Try.prog W'=.ok true W':=eqR26r 9997 W' r.rs hl1;go_simp;first|done|rfl)
 simp only [Act.put,zQ,zS,zT]
 apply GR.gw_val (c:=.bool true) (by rfl)
 ·
  (intro W' hB hD;have e0:=c0 W' hB;have e1:=c1 W' hB;have e2:=c2 W' hB;have e3:=c3 W' hB;have e4:=c4 W' hB;have e5:=c5 W' hB;go_simp;first|done|rfl)
 simp only [Act.put,zQ,zS,zT]
 apply GR.gw_val (c:=.bool true) (by rfl)
 ·
  (intro W' hB hD;have e0:=c0 W' hB;have e1:=c1 W' hB;have e2:=c2 W' hB;have e3:=c3 W' hB;have e4:=c4 W' hB;have e5:=c5 W' hB;go_simp;first|done|rfl)
 simp only [Act.put,zQ,zS,zT]
 apply GR.gw_val (by rfl)
 ·
  (intro W' hB hD;have e0:=c0 W' hB;have e1:=c1 W' hB;have e2:=c2 W' hB;have e3:=c3 W' hB;have e4:=c4 W' hB;have e5:=c5 W' hB;go_simp;first|done|rfl)
 simp only [Act.put,zQ,zS,zT]
 apply GR.gw_val (by rfl)
 ·
  (intro W' hB hD;have e0:=c0 W' hB;have e1:=c1 W' hB;have e2:=c2 W' hB;have e3:=c3 W' hB;have e4:=c4 W' hB;have e5:=c5 W' hB;go_simp;first|done|rfl)
 simp only [Act.put,zQ,zS,zT]
 apply GR.gw_callR (stable_Rr k114 114 V6.heap.size T) (by rfl)
 ·
  (intro W' hB hD;go_simp;first|done|rfl|exact ⟨rfl,rfl⟩)
 ·
  (intro W' hB hD; exact (ours_calls TA tc r.t W' (HC8.out.1 W' hB) HC8.out.2.2.1 (by have := HP.out.2.2.2.2.2; omega)).mono fun e w' hh => by
    obtain ⟨v,he,hv,hb⟩:=hh
    rw [HTT.out.1] at hv
    exact ⟨v,he,hb,Kd.R_lower hv hB.size⟩)
 rintro v ⟨Wv,hv⟩
 obtain ⟨X1,y1,rfl⟩:=Kd.R_slice hv
 clear hv Wv
 simp only [Act.put,zQ,zS,zT]
 apply GR.gw_val (by rfl)
 ·
  (intro W' hB hD;have e0:=c0 W' hB;have e1:=c1 W' hB;have e2:=c2 W' hB;have e3:=c3 W' hB;have e4:=c4 W' hB;have e5:=c5 W' hB;go_simp;first|done|rfl)
 simp only [Act.put,zQ,zS,zT]
 apply GR.gw_val (by rfl)
 ·
  (intro W' hB hD;have e0:=c0 W' hB;have e1:=c1 W' hB;have e2:=c2 W' hB;have e3:=c3 W' hB;have e4:=c4 W' hB;have e5:=c5 W' hB;go_simp;first|done|rfl)
 simp only [Act.put,zQ,zS,zT]
 apply GR.gw_call (c:=.bool true) (by rfl)
 ·
  (intro W' hB hD;go_simp;first|done|rfl|exact ⟨rfl,rfl⟩)
 ·
  intro W' hB hD
  have hT:Kd.R k114 114 W' V6.heap.size (fun _=>True) (.slice X1 T.length y1) T:=by simp [GR.depFacts,Region.binds] at hD;exact hD
  exact same_calls2 X1 y1 TB td T W' (Kd.R_reads' hT).2.2 (Kd.R_reads' hT).2.1 (Kd.C_below HC8.out.2.1 hB) HC8.out.2.2.2 HTT.out.2
 simp only [Act.put,zQ,zS,zT]
 apply GR.gw_val (c:=.bool true) (by rfl)
 ·
  (intro W' hB hD;have e0:=c0 W' hB;have e1:=c1 W' hB;have e2:=c2 W' hB;have e3:=c3 W' hB;have e4:=c4 W' hB;have e5:=c5 W' hB;go_simp;first|done|rfl)
 simp only [Act.put,zQ,zS,zT]
 apply GR.gw_val (c:=.bool true) (by rfl)
 ·
  (intro W' hB hD;have e0:=c0 W' hB;have e1:=c1 W' hB;have e2:=c2 W' hB;have e3:=c3 W' hB;have e4:=c4 W' hB;have e5:=c5 W' hB;go_simp;first|done|rfl)
 simp only [Act.put,zQ,zS,zT]
 apply GR.gw_nil
 intro Wz hBz hF hP
 clear hF hP
 have HZ:=zP (zE HH.out.2.2.1 (zE HE.out hBz))
 clear hBz c0 c1 c2 c3 c4 c5 c6 c7
 go_wp2_with fail
 go_ret
 exact ⟨rfl,HZ.out⟩
end Go.Proofs.Ytgnjkegnddekeaa.Q
namespace Go.Proofs.Ytgnjkegnddekeaa
open Go.ChangeShapes Go.WideShapes Go.ChangeAt Go.RowKit Go.Proofs.Ytgnjkegnddekeaa.Q Go.Proofs.YtgnjkegnddekeaaW.PrintWords Go.Proofs.YtgnjkegnddekeaaW.PrintLast Go.Proofs.YtgnjkegnddekeaaW.PrintMore
theorem walk_BlockRuns {H:Type} {enc:TypeId × Value→H} (W:World) (base:Nat) (v0:Value) (d0:DataW H) (p0:List MemPlace) (o0:Value.okWide Try.prog W .any base 22 v0) (h0:DataW.Trod enc Try.prog W 0 (fun _=>true) true 22 v0 d0 p0) (v1:Value) (d1:DataW H) (p1:List MemPlace) (o1:Value.okWide Try.prog W .any base 54 v1) (h1:DataW.Trod enc Try.prog W 0 (fun _=>true) true 54 v1 d1 p1) (_hsz:(DataW.weightsEach Try.prog (Try.f4.params.toList++Rows.blockRunsSpec.plain.varTypes Try.prog) ([d0,d1]++[])).all (·≤reachBytes)=true) :
  Calls Try.prog 4 #[v0,v1] W fun e w'=>e=.returned (.bool true)∧Below W.heap.size W w':=by
 obtain ⟨A,c,l,rfl,q1,q2,q3⟩:=ops_of o0 h0
 obtain ⟨NA,nc,now,rs,fuel,rfl,g1,g2,g3,g4,g5,g6⟩:=world_of o1 h1
 exact runs_core l A c NA nc now rs fuel W q2 q1 g3 g2 q3 g4 g1 g5 g6
end Go.Proofs.Ytgnjkegnddekeaa
