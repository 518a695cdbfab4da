/- Words of the printer that this claim uses, cut to these by a program of its author (not as they were printed). -/
import Derived.Test.YtgnjkegnddekeaaYQ0
import Derived.Test.YtgnjkegnddekeaaYQ4
open Bool renaming true → zA, false → zB
set_option maxHeartbeats 8000000
set_option maxRecDepth 100000
open List renaming setIfInBounds_toArray → zQ, set_cons_zero → zS, set_cons_succ → zT
namespace Go.Proofs.Ytgnjkegnddekeaa.Q
open Go.RowKit Go.Proofs.YtgnjkegnddekeaaW.PrintWords Go.Proofs.YtgnjkegnddekeaaW.PrintLast Go.Proofs.YtgnjkegnddekeaaW.PrintMore
attribute [local go_sem] max2_int min2_int max_two min_two max_three min_three max_four min_four   -- for this text's walks alone
set_option linter.unusedVariables false
set_option linter.unusedSimpArgs false
def warpbeamref08_Add.j0:Nat→List (S114)→Bool→Int→Int→Int→Bool→Option ((List (S114)) × Int)
 | 0,_,_,_,_,_,_=>none
 | k+1,x0,x19,x165000,x165001,x165002,x165003=>if x19=true then (some (x0,2)) else (if (x0.length:Int) ≥ 200 then (some (x0,4)) else ((some (([]:List (S114)):List (S114))).bind fun y166=>(if y166.length+x0.length<4398046511104 then ((some (y166++x0:List (S114))).bind fun y169=>((some (([(⟨x165000,(⟨x165001,x165002⟩:S24),x165003⟩:S114)]:List (S114)):List (S114))).bind fun y172=>(if y169.length+y172.length<4398046511104 then (some ((y169++y172),0)) else (none)))) else (none))))
def warpbeamref08_Add.f (k:Nat) (l0:List (S114)) (a1_0:Int) (a1_1:Int) (a1_2:Int) (a1_3:Bool):Option ((List (S114)) × Int):=if a1_0<0 then (warpbeamref08_Add.j0 k l0 true a1_0 a1_1 a1_2 a1_3) else (if a1_0 ≥ 64 then (warpbeamref08_Add.j0 k l0 true a1_0 a1_1 a1_2 a1_3) else ((warpbeamref06_Right.f a1_1 a1_2).bind fun t165=>(warpbeamref08_Add.j0 k l0 (!t165) a1_0 a1_1 a1_2 a1_3)))
def warpbeamref08_Add.T5:Bool × List (List Nat × List Nat):=(true,[([],[]),([],[]),([0,1],[0,1]),([],[]),([3],[3]),([2,4,2],[2,4]),([5,5,0,1,2,3,4,5],[5]),([6,0,1,2,3,4,5,6],[])])
def warpbeamref08_Add.B5:List Nat:=[0,0,3,0,8,31,63,127]
theorem warpbeamref08_Add.tab5:rtab .any (opsOf Try.f64 5)=warpbeamref08_Add.T5:=by kernel_rfl
theorem warpbeamref08_Add.bits5:waitsOk warpbeamref08_Add.T5.2 warpbeamref08_Add.B5=true:=by kernel_rfl
theorem warpbeamref08_Add.calls (k:Nat) (P0_:Nat→Prop) (A0:Option Addr) (c0:Nat) (l0:List (S114)) (a1_0:Int) (a1_1:Int) (a1_2:Int) (a1_3:Bool) (r1:List (S114)) (r2:Int) (w:World) (hs0:Kd.V k114 114 w w.heap.size (fun k_=>P0_ k_) (.slice A0 l0.length c0) l0) (h:warpbeamref08_Add.f k l0 a1_0 a1_1 a1_2 a1_3=some (r1,r2)) :
  Calls Try.prog 64 #[.slice A0 l0.length c0,.agg #[.int .i64 a1_0,.int .i64 a1_1,.int .i64 a1_2,.bool a1_3]] w fun e w'=>∃ v0_:Value,e=.returned (.tuple #[v0_,.int .i64 r2])∧Kd.V k114 114 w' w.heap.size (fun k_=>(P0_ k_∨w.heap.size≤k_)) v0_ r1∧Below w.heap.size w w':=by
 have hu114:=Try.underlying114
 have hu24:=Try.underlying24
 have HO0:=Aside0.mk (show Kd.V k114 114 w w.heap.size (fun k_=>(P0_ k_∨w.heap.size≤k_)) (.slice A0 l0.length c0) l0 from Kd.V_mono hs0 (fun k_ hk=>.inl hk))
 have HB:=Aside0.mk (Below.refl w.heap.size w)
 have H:(if a1_0<0 then (warpbeamref08_Add.j0 k l0 true a1_0 a1_1 a1_2 a1_3) else (if a1_0 ≥ 64 then (warpbeamref08_Add.j0 k l0 true a1_0 a1_1 a1_2 a1_3) else ((warpbeamref06_Right.f a1_1 a1_2).bind fun t165=>(warpbeamref08_Add.j0 k l0 (!t165) a1_0 a1_1 a1_2 a1_3))))=some (r1,r2):=h
 clear h
 have HC3:=Aside0.mk H
 clear H
 go_enter Try.func64,Try.ntmps64
 go_upto_region 1 with (first|((with_reducible refine gate_dst (N:=3) rfl ?_);refine box_event ?hg (N:=3) ?hd (cs:=#[.int .i64 a1_0,.int .i64 a1_1,.int .i64 a1_2,.bool a1_3]) (t:=114) ?hr ?_;(case hd=>rfl);(case hg=>rfl);(case hr=>first|(go_simp;done)|(go_simp;rfl));intro gb164 hg w4 hbox hb;have n0_:=Aside0.mk (Kd.V_below (Kd.V_elderB (by (with_reducible repeat (first|apply Kd.V_alloc|apply Kd.V_drewN|apply Kd.V_drew));exact HO0.out) gb164 (Nat.le_of_eq hg.symm)) hb);have n1_:=Aside0.mk (below_step (by repeat (first|(with_reducible first|exact HB.out|apply zG|apply zN|apply zH)|exact HB.out)) hb);have n2_:=Aside0.mk (hbox);have n3_:=Aside0.mk ((by rw [hg];exact (below_size (by repeat (first|(with_reducible first|exact HB.out|apply zG|apply zN|apply zH)|exact HB.out))):w.heap.size≤gb164));have n4_:=Aside0.mk ((by rw [hg];exact (below_size (by repeat (first|(with_reducible first|exact HB.out|apply zG|apply zN|apply zH)|exact HB.out))):w.heap.size≤gb164));clear HO0;clear HB;have HO0:=n0_;have HB:=n1_;have BK164:=n2_;have GW164:=n3_;have GE164:=n4_;clear n0_ n1_ n2_ n3_ n4_;clear hb hbox hg))
 (try simp only [Act.put,zQ,zS,zT])
 go_cut [19] (fun v19 wc=>∃ (kq:Nat) (x19_2:Bool),v19=.bool x19_2∧Aside0 (warpbeamref08_Add.j0 kq l0 x19_2 a1_0 a1_1 a1_2 a1_3=some (r1,r2))∧Aside0 (kq≤k)∧Aside0 (Kd.V k114 114 wc w.heap.size (fun k_=>(P0_ k_∨w.heap.size≤k_)∧k_≠gb164) (.slice A0 l0.length c0) l0)∧Aside0 (wc.heap[gb164]?=some (.cells #[.int .i64 a1_0,.int .i64 a1_1,.int .i64 a1_2,.bool a1_3] 114 (0,0)))∧Aside0 (Below w.heap.size w wc))
 case first =>
  have H:=HC3.out
  clear HC3
  by_cases c5:a1_0<0
  ·
   rw [if_pos c5] at H
   have c5b0:decide (a1_0<0)=true:=decide_eq_true c5
   clear c5
   (first|rw [c5b0]|(simp only [i64_w,i32_w];rw [c5b0])|skip)
   have H':=Aside0.mk H
   clear H
   have hcz6_0:w4.cell? ⟨gb164,0,none⟩=some (.int .i64 a1_0):=(zJ BK164.out 0).trans rfl
   have hcz6_1:w4.cell? ⟨gb164,1,none⟩=some (.int .i64 a1_1):=(zJ BK164.out 1).trans rfl
   have hcz6_2:w4.cell? ⟨gb164,2,none⟩=some (.int .i64 a1_2):=(zJ BK164.out 2).trans rfl
   have hcz6_3:w4.cell? ⟨gb164,3,none⟩=some (.bool a1_3):=(zJ BK164.out 3).trans rfl
   have hfz6_0:=zK BK164.out 0
   have hfz6_1:=zK BK164.out 1
   have hfz6_2:=zK BK164.out 2
   have hfz6_3:=zK BK164.out 3
   go_wp2
   go_meet
   case rel=>exact ⟨_,(true),(by first|rfl|(simp;done)|(simp [*];done)),H',⟨by first|omega|exact Nat.le_refl _⟩,⟨by (with_reducible repeat (first|apply Kd.V_alloc|apply Kd.V_drewN|apply Kd.V_drew));exact HO0.out⟩,⟨by (with_reducible repeat (first|refine blk_drewN ?_ _|refine blk_drew ?_|refine blk_alloc ?_ _));exact BK164.out⟩,⟨by repeat (first|(with_reducible first|exact HB.out|apply zG|apply zN|apply zH|refine below_set ?_ GE164.out)|exact HB.out)⟩⟩
  ·
   rw [if_neg c5] at H
   have c5b0:decide (a1_0<0)=false:=decide_eq_false c5
   clear c5
   (first|rw [c5b0]|(simp only [i64_w,i32_w];rw [c5b0])|skip)
   by_cases c7:a1_0 ≥ 64
   ·
    rw [if_pos c7] at H
    have c7b0:decide (64≤a1_0)=true:=decide_eq_true c7
    clear c7
    have H':=Aside0.mk H
    clear H
    have hcz8_0:w4.cell? ⟨gb164,0,none⟩=some (.int .i64 a1_0):=(zJ BK164.out 0).trans rfl
    have hcz8_1:w4.cell? ⟨gb164,1,none⟩=some (.int .i64 a1_1):=(zJ BK164.out 1).trans rfl
    have hcz8_2:w4.cell? ⟨gb164,2,none⟩=some (.int .i64 a1_2):=(zJ BK164.out 2).trans rfl
    have hcz8_3:w4.cell? ⟨gb164,3,none⟩=some (.bool a1_3):=(zJ BK164.out 3).trans rfl
    have hfz8_0:=zK BK164.out 0
    have hfz8_1:=zK BK164.out 1
    have hfz8_2:=zK BK164.out 2
    have hfz8_3:=zK BK164.out 3
    go_wp2
    go_meet
    case rel=>exact ⟨_,(true),(by first|rfl|(simp;done)|(simp [*];done)),H',⟨by first|omega|exact Nat.le_refl _⟩,⟨by (with_reducible repeat (first|apply Kd.V_alloc|apply Kd.V_drewN|apply Kd.V_drew));exact HO0.out⟩,⟨by (with_reducible repeat (first|refine blk_drewN ?_ _|refine blk_drew ?_|refine blk_alloc ?_ _));exact BK164.out⟩,⟨by repeat (first|(with_reducible first|exact HB.out|apply zG|apply zN|apply zH|refine below_set ?_ GE164.out)|exact HB.out)⟩⟩
   ·
    rw [if_neg c7] at H
    have c7b0:decide (64≤a1_0)=false:=decide_eq_false c7
    clear c7
    replace H:=Option.bind_eq_some_iff.mp H
    obtain ⟨t165,A90,H⟩:=H
    replace H:(warpbeamref08_Add.j0 k l0 (!t165) a1_0 a1_1 a1_2 a1_3)=some (r1,r2):=H
    have A9:=Aside0.mk A90
    clear A90
    have H':=Aside0.mk H
    clear H
    have hcz10_0:w4.cell? ⟨gb164,0,none⟩=some (.int .i64 a1_0):=(zJ BK164.out 0).trans rfl
    have hcz10_1:w4.cell? ⟨gb164,1,none⟩=some (.int .i64 a1_1):=(zJ BK164.out 1).trans rfl
    have hcz10_2:w4.cell? ⟨gb164,2,none⟩=some (.int .i64 a1_2):=(zJ BK164.out 2).trans rfl
    have hcz10_3:w4.cell? ⟨gb164,3,none⟩=some (.bool a1_3):=(zJ BK164.out 3).trans rfl
    have hfz10_0:=zK BK164.out 0
    have hfz10_1:=zK BK164.out 1
    have hfz10_2:=zK BK164.out 2
    have hfz10_3:=zK BK164.out 3
    go_wp2_with (first|(go_at_call 25;(with_reducible refine (warpbeamref06_Right.calls a1_1 a1_2 t165 _ A9.out).mono ?_);rintro e w11 ⟨rfl,hb⟩;have n0_:=Aside0.mk (Kd.V_below (by (with_reducible repeat (first|apply Kd.V_alloc|apply Kd.V_drewN|apply Kd.V_drew));exact HO0.out) hb);have n1_:=Aside0.mk (zI (g:=gb164) (o:=.cells #[.int .i64 a1_0,.int .i64 a1_1,.int .i64 a1_2,.bool a1_3] 114 (0,0)) (by (with_reducible repeat (first|refine blk_drewN ?_ _|refine blk_drew ?_|refine blk_alloc ?_ _));exact BK164.out) hb);have n2_:=Aside0.mk (below_step (by repeat (first|(with_reducible first|exact HB.out|apply zG|apply zN|apply zH|refine below_set ?_ GE164.out)|exact HB.out)) hb);clear HO0;clear BK164;clear HB;have HO0:=n0_;have BK164:=n1_;have HB:=n2_;clear n0_ n1_ n2_;(try clear hb);(try clear hb2);(try clear hk);(try clear hi)))
    go_meet
    case rel=>exact ⟨_,(!t165),(by first|rfl|(simp;done)|(simp [*];done)),H',⟨by first|omega|exact Nat.le_refl _⟩,⟨by (with_reducible repeat (first|apply Kd.V_alloc|apply Kd.V_drewN|apply Kd.V_drew));exact HO0.out⟩,⟨by (with_reducible repeat (first|refine blk_drewN ?_ _|refine blk_drew ?_|refine blk_alloc ?_ _));exact BK164.out⟩,⟨by repeat (first|(with_reducible first|exact HB.out|apply zG|apply zN|apply zH|refine below_set ?_ GE164.out)|exact HB.out)⟩⟩
 case rest =>
  clear HC3
  try clear p2
  try clear c5
  try clear c5b0
  try clear c6
  try clear c7
  try clear c7b0
  try clear hcz10_0
  try clear hcz10_1
  try clear hcz10_2
  try clear hcz10_3
  try clear hcz6_0
  try clear hcz6_1
  try clear hcz6_2
  try clear hcz6_3
  try clear hcz8_0
  try clear hcz8_1
  try clear hcz8_2
  try clear hcz8_3
  try clear hfz10_0
  try clear hfz10_1
  try clear hfz10_2
  try clear hfz10_3
  try clear hfz6_0
  try clear hfz6_1
  try clear hfz6_2
  try clear hfz6_3
  try clear hfz8_0
  try clear hfz8_1
  try clear hfz8_2
  try clear hfz8_3
  obtain ⟨kq,x19_2,rfl,HA,HJ2,HO_0,BK164,HB⟩:=hcut
  cases kq with
  | zero=>exact absurd HA.out (by simp [warpbeamref08_Add.j0])
  | succ kj2 =>
   have H:=HA.out
   clear HA
   simp only [warpbeamref08_Add.j0] at H
   by_cases c12:x19_2=true
   ·
    subst c12
    have H1:(some (l0,2))=some (r1,r2):=by rw [if_pos rfl] at H;exact H
    clear H
    have H:=H1
    clear H1
    simp only [Option.some.injEq,Prod.mk.injEq] at H
    obtain ⟨rfl,rfl⟩:=H
    go_wp2
    go_ret2
    exact ⟨_,by first|rfl|(simp [errW_none,errW_some] <;> rfl)|(simp [*,errW_none,errW_some] <;> rfl),by (with_reducible repeat (first|apply Kd.V_alloc|apply Kd.V_drewN|apply Kd.V_drew));exact Kd.V_mono HO_0.out (fun _ hk=>hk.1),by repeat (first|(with_reducible first|exact HB.out|apply zG|apply zN|apply zH|refine below_set ?_ GE164.out)|exact HB.out)⟩
   ·
    replace c12:=Bool.eq_false_iff.mpr c12
    subst c12
    have H1:(if (l0.length:Int) ≥ 200 then (some (l0,4)) else ((some (([]:List (S114)):List (S114))).bind fun y166=>(if y166.length+l0.length<4398046511104 then ((some (y166++l0:List (S114))).bind fun y169=>((some (([(⟨a1_0,(⟨a1_1,a1_2⟩:S24),a1_3⟩:S114)]:List (S114)):List (S114))).bind fun y172=>(if y169.length+y172.length<4398046511104 then (some ((y169++y172),0)) else (none)))) else (none))))=some (r1,r2):=by rw [if_neg (show ¬ (false=true) by decide)] at H;exact H
    clear H
    have H:=H1
    clear H1
    by_cases c13:(l0.length:Int) ≥ 200
    ·
     rw [if_pos c13] at H
     have c13b0:decide (200≤(l0.length:Int))=true:=decide_eq_true c13
     have c13b1:decide (200≤l0.length)=true:=decide_eq_true (by omega)
     clear c13
     simp only [Option.some.injEq,Prod.mk.injEq] at H
     obtain ⟨rfl,rfl⟩:=H
     go_wp2
     go_ret2
     exact ⟨_,by first|rfl|(simp [errW_none,errW_some] <;> rfl)|(simp [*,errW_none,errW_some] <;> rfl),by (with_reducible repeat (first|apply Kd.V_alloc|apply Kd.V_drewN|apply Kd.V_drew));exact Kd.V_mono HO_0.out (fun _ hk=>hk.1),by repeat (first|(with_reducible first|exact HB.out|apply zG|apply zN|apply zH|refine below_set ?_ GE164.out)|exact HB.out)⟩
    ·
     rw [if_neg c13] at H
     have c13b0:decide (200≤(l0.length:Int))=false:=decide_eq_false c13
     have c13b1:decide (200≤l0.length)=false:=decide_eq_false (by omega)
     clear c13
     obtain ⟨y166,hy166⟩:∃ y_:List (S114),y_=(([]:List (S114))):=⟨_,rfl⟩
     replace H:(if y166.length+l0.length<4398046511104 then ((some (y166++l0:List (S114))).bind fun y169=>((some (([(⟨a1_0,(⟨a1_1,a1_2⟩:S24),a1_3⟩:S114)]:List (S114)):List (S114))).bind fun y172=>(if y169.length+y172.length<4398046511104 then (some ((y169++y172),0)) else (none)))) else (none))=some (r1,r2):=by first|(rw [hy166];with_reducible exact H)|(have H2_:=(Option.bind_some _ _).symm.trans H;rw [hy166];with_reducible exact H2_)|(have H2_:=(Option.bind_some _ _).symm.trans H;with_reducible exact H2_)|with_reducible exact H|(rw [hy166];exact H)|exact H
     have Ny166:=Aside0.mk hy166
     clear hy166
     by_cases c14:y166.length+l0.length<4398046511104
     ·
      rw [if_pos c14] at H
      have LMc14:=Aside0.mk c14
      clear c14
      obtain ⟨y169,hy169⟩:∃ y_:List (S114),y_=(y166++l0):=⟨_,rfl⟩
      replace H:((some (([(⟨a1_0,(⟨a1_1,a1_2⟩:S24),a1_3⟩:S114)]:List (S114)):List (S114))).bind fun y172=>(if y169.length+y172.length<4398046511104 then (some ((y169++y172),0)) else (none)))=some (r1,r2):=by first|(rw [hy169];with_reducible exact H)|(have H2_:=(Option.bind_some _ _).symm.trans H;rw [hy169];with_reducible exact H2_)|(have H2_:=(Option.bind_some _ _).symm.trans H;with_reducible exact H2_)|with_reducible exact H|(rw [hy169];exact H)|exact H
      have Ny169:=Aside0.mk hy169
      clear hy169
      obtain ⟨y172,hy172⟩:∃ y_:List (S114),y_=(([(⟨a1_0,(⟨a1_1,a1_2⟩:S24),a1_3⟩:S114)]:List (S114))):=⟨_,rfl⟩
      replace H:(if y169.length+y172.length<4398046511104 then (some ((y169++y172),0)) else (none))=some (r1,r2):=by first|(rw [hy172];with_reducible exact H)|(have H2_:=(Option.bind_some _ _).symm.trans H;rw [hy172];with_reducible exact H2_)|(have H2_:=(Option.bind_some _ _).symm.trans H;with_reducible exact H2_)|with_reducible exact H|(rw [hy172];exact H)|exact H
      have Ny172:=Aside0.mk hy172
      clear hy172
      by_cases c15:y169.length+y172.length<4398046511104
      ·
       rw [if_pos c15] at H
       have LMc15:=Aside0.mk c15
       clear c15
       obtain ⟨y175,hy175⟩:∃ y_:List (S114),y_=(y169++y172):=⟨_,rfl⟩
       replace H:(some (y175,0))=some (r1,r2):=by first|(rw [hy175];with_reducible exact H)|(have H2_:=(Option.bind_some _ _).symm.trans H;rw [hy175];with_reducible exact H2_)|(have H2_:=(Option.bind_some _ _).symm.trans H;with_reducible exact H2_)|with_reducible exact H|(rw [hy175];exact H)|exact H
       have Ny175:=Aside0.mk hy175
       clear hy175
       simp only [Option.some.injEq,Prod.mk.injEq] at H
       obtain ⟨rfl,rfl⟩:=H
       try go_wp2
       have n0_:=Aside0.mk (Kd.V_drew HO_0.out)
       have n1_:=Aside0.mk (blk_drew BK164.out)
       have n2_:=Aside0.mk (zH HB.out)
       clear HO_0
       clear BK164
       clear HB
       have HO_0:=n0_
       have BK164:=n1_
       have HB:=n2_
       clear n0_ n1_ n2_
       refine start_ (n:=8) (S:=fun w'=>w'.cell? ⟨gb164,0,none⟩=some (.int .i64 a1_0)∧w'.cell? ⟨gb164,1,none⟩=some (.int .i64 a1_1)∧w'.cell? ⟨gb164,2,none⟩=some (.int .i64 a1_2)∧w'.cell? ⟨gb164,3,none⟩=some (.bool a1_3)) (ds:=[]) #[zB,zB,zB,zB,zB,zB,zB,zB] (by kernel_rfl) rfl rfl ⟨(zJ BK164.out 0).trans rfl,(zJ BK164.out 1).trans rfl,(zJ BK164.out 2).trans rfl,(zJ BK164.out 3).trans rfl⟩ (fun hHeld=>?_);refine with_tabW warpbeamref08_Add.tab5 warpbeamref08_Add.bits5 (fun HT_ HW_=>?_)
       generalize wc.drew=w16 at HO_0 BK164 HB hHeld ⊢
       refine pure_ (i:=1) (N:=some 26) (v:=?_) (a':=?_) #[zB,zA,zB,zB,zB,zB,zB,zB] rfl rfl (any_of HT_.out (by kernel_rfl)) (fun _ _ _ h=>h) (Or.inl ⟨by rfl,?_⟩) ?_ ?_
       rotate_left
       ·
        intro w'
        go_simp
        with_reducible rfl
       rotate_left
       ·
        simp only [Act.put,zQ,zS,zT,i64_w,i32_w]
        rfl
       refine take_ (i:=3) (N:=some 28) (v:=?_) (a':=?_) #[zB,zA,zB,zA,zB,zB,zB,zB] rfl rfl (take_ofW HT_.out HW_.out (by kernel_rfl)) (fun _ _ _ h=>h) (Or.inl ⟨by rfl,?_⟩) hHeld ?_ ?_
       rotate_left
       ·
        rintro w' ⟨s0,s1,s2,s3⟩
        go_simp
        with_reducible rfl
       rotate_left
       ·
        simp only [Act.put,zQ,zS,zT,i64_w,i32_w]
        rfl
       refine join_ (σ:=Value × Value × Value) 3 #[zA,zA,zA,zA,zA,zB,zB,zB] (fun s_=>[(25,s_.1),(27,s_.2.1),(29,s_.2.2)]) (fun s_ w'=>(w'.cell? ⟨gb164,0,none⟩=some (.int .i64 a1_0)∧w'.cell? ⟨gb164,1,none⟩=some (.int .i64 a1_1)∧w'.cell? ⟨gb164,2,none⟩=some (.int .i64 a1_2)∧w'.cell? ⟨gb164,3,none⟩=some (.bool a1_3))∧(Kd.R k114 114 w' w.heap.size (fun k_=>(w.heap.size≤k_)∧some k_≠(s_.2.2:Value).ownBlock∧k_≠gb164) s_.2.1 y169)∧(Kd.R k114 114 w' w.heap.size (fun k_=>(w.heap.size≤k_)∧some k_≠(s_.2.1:Value).ownBlock∧k_≠gb164) s_.2.2 y172)∧(Kd.V k114 114 w' w.heap.size (fun k_=>(P0_ k_∨w.heap.size≤k_)∧some k_≠(s_.2.1:Value).ownBlock∧some k_≠(s_.2.2:Value).ownBlock∧k_≠gb164) (.slice A0 l0.length c0) l0)∧(w'.heap[gb164]?=some (.cells #[.int .i64 a1_0,.int .i64 a1_1,.int .i64 a1_2,.bool a1_3] 114 (0,0)))∧(Below w.heap.size w w')) ?_ ?_
       rotate_left
       ·
        intro hCont
        refine two_ (i:=0) (j:=4) (Ni:=some 25) (Nj:=some 29) #[zA,zA,zB,zA,zB,zB,zB,zB] #[zB,zA,zB,zA,zA,zB,zB,zB] rfl rfl rfl rfl (two_of HT_.out (by kernel_rfl)) (by decide) (by decide) (fun K hK=>?_) (fun K hK=>?_)
        ·
         skip
         refine Kd.R_lit_step k114 _ 114 ?hg (N:=25) ?hd (xs:=([]:List (S114))) (inner:=[]) (ok:=fun _=>True) (okp:=fun _=>True) ?hr ?hp (fun _ hk=>hk) trivial (Below.refl _ _) (Nat.le_refl _) (by simp) ?_;(case hd=>rfl);(case hg=>rfl);(case hr=>first|(go_simp;done)|(go_simp;rfl));(case hp=>exact (Reps.none _ _))
         intro v167 w17 ho18 hb hg_ hnew_
         clear hg_ hnew_
         (first|rw [← Ny166.out] at ho18|(simp only [Int.reduceToNat] at ho18;rw [← Ny166.out] at ho18))
         have n0_:=Aside0.mk (Kd.V_elder' (by (with_reducible repeat (first|apply Kd.V_alloc|apply Kd.V_drewN|apply Kd.V_drew));exact HO_0.out) (Kd.R_base ho18) hb)
         have n1_:=Aside0.mk (Kd.R_lower (Kd.R_newB (Kd.R_newM (M:=fun k_=>(w.heap.size≤k_)) ho18 (below_size (by repeat (first|(with_reducible first|exact HB.out|apply zG|apply zN|apply zH|refine below_set ?_ GE164.out)|exact HB.out))) (fun k_ h_=>h_)) (g:=gb164) (o:=.cells #[.int .i64 a1_0,.int .i64 a1_1,.int .i64 a1_2,.bool a1_3] 114 (0,0)) (by (with_reducible repeat (first|refine blk_drewN ?_ _|refine blk_drew ?_|refine blk_alloc ?_ _));exact BK164.out)) (below_size (by repeat (first|(with_reducible first|exact HB.out|apply zG|apply zN|apply zH|refine below_set ?_ GE164.out)|exact HB.out))))
         have n2_:=Aside0.mk (zI (g:=gb164) (o:=.cells #[.int .i64 a1_0,.int .i64 a1_1,.int .i64 a1_2,.bool a1_3] 114 (0,0)) (by (with_reducible repeat (first|refine blk_drewN ?_ _|refine blk_drew ?_|refine blk_alloc ?_ _));exact BK164.out) hb)
         have n3_:=Aside0.mk (below_step (by repeat (first|(with_reducible first|exact HB.out|apply zG|apply zN|apply zH|refine below_set ?_ GE164.out)|exact HB.out)) hb)
         clear HO_0
         clear BK164
         clear HB
         have HO_0:=n0_
         have HO168:=n1_
         have BK164:=n2_
         have HB:=n3_
         clear n0_ n1_ n2_ n3_
         clear hb ho18
         refine hK.out _ _ ⟨(zJ BK164.out 0).trans rfl,(zJ BK164.out 1).trans rfl,(zJ BK164.out 2).trans rfl,(zJ BK164.out 3).trans rfl⟩ (fun hHeld=>?_)
         clear hK K
         refine norm_ (a':=?_) ?_ ?_
         rotate_left
         ·
          show Act.put _ (some 25) _=_
          simp only [Act.put,zQ,zS,zT,i64_w,i32_w]
          rfl
         refine two_ (i:=2) (j:=4) (Ni:=some 27) (Nj:=some 29) #[zA,zA,zA,zA,zB,zB,zB,zB] #[zA,zA,zB,zA,zA,zB,zB,zB] rfl rfl rfl rfl (two_of HT_.out (by kernel_rfl)) (by decide) (by decide) (fun K hK=>?_) (fun K hK=>?_)
         ·
          skip
          refine Kd.R_append_rows_step k114 (w0:=w) w.heap.size (by rfl) (.tmp 25) (.tmp 26) 64 114 (.agg #[(.int .i64 0),(.int .i64 0),(.int .i64 0),(.bool false)]) 32 rfl Try.underlying64 info114 rfl (by decide) (by omega) v167 y166 l0 _ _ _ (fun k_=>(w.heap.size≤k_)∧k_≠gb164) (fun _=>False) rfl rfl ?aO ?aR (fun _ _ h=>h) (fun _ h=>h.elim) ?aF ?aB ?aS ?aL ?_
          (case aR=>repeat (first|exact (Kd.V_reads' HO_0.out).2.2|(with_reducible refine Kd.C_alloc ?_ _)|(with_reducible refine Kd.C_drewN ?_ _)|(with_reducible refine Kd.C_drew ?_)))
          (case aB=>exact (by repeat (first|(with_reducible first|exact HB.out|apply zG|apply zN|apply zH|refine below_set ?_ GE164.out)|exact HB.out)))
          (case aF=>exact (fun k_ hk=>⟨(Nat.le_trans (below_size (by repeat (first|(with_reducible first|exact HB.out|apply zG|apply zN|apply zH|refine below_set ?_ GE164.out)|exact HB.out))) hk),Kd.freshB (g:=gb164) (o:=.cells #[.int .i64 a1_0,.int .i64 a1_1,.int .i64 a1_2,.bool a1_3] 114 (0,0)) (by (with_reducible repeat (first|refine blk_drewN ?_ _|refine blk_drew ?_|refine blk_alloc ?_ _));exact BK164.out) k_ hk⟩))
          (case aO=>exact (by (with_reducible repeat (first|apply Kd.R_alloc|apply Kd.R_drewN|apply Kd.R_drew));exact Kd.R_mono HO168.out (fun _ hk=>⟨hk.1.1,hk.2⟩)))
          (case aS=>exact (below_size (by repeat (first|(with_reducible first|exact HB.out|apply zG|apply zN|apply zH|refine below_set ?_ GE164.out)|exact HB.out))))
          (case aL=>have:=LMc14.out;omega)
          intro v170 w19 ho hb hg hat
          rw [← Ny169.out] at ho
          have n0_:=Aside0.mk (Kd.V_afterv (ok:=(fun k_=>(P0_ k_∨w.heap.size≤k_)∧k_≠gb164)) (by (with_reducible repeat (first|apply Kd.V_alloc|apply Kd.V_drewN|apply Kd.V_drew));exact HO_0.out) hg hat)
          have n1_:=Aside0.mk (blk_grown (g:=gb164) (o:=.cells #[.int .i64 a1_0,.int .i64 a1_1,.int .i64 a1_2,.bool a1_3] 114 (0,0)) (by (with_reducible repeat (first|refine blk_drewN ?_ _|refine blk_drew ?_|refine blk_alloc ?_ _));exact BK164.out) hg (Kd.R_away HO168.out (fun _ hk=>hk.2)))
          have n2_:=Aside0.mk (hb)
          have n3_:=Aside0.mk (ho)
          clear HO_0
          clear BK164
          clear HB
          clear HO168
          have HO_0:=n0_
          have BK164:=n1_
          have HB:=n2_
          have HO171:=n3_
          clear n0_ n1_ n2_ n3_
          clear ho hb hg hat
          refine hK.out _ _ ⟨(zJ BK164.out 0).trans rfl,(zJ BK164.out 1).trans rfl,(zJ BK164.out 2).trans rfl,(zJ BK164.out 3).trans rfl⟩ (fun hHeld=>?_)
          clear hK K
          refine norm_ (a':=?_) ?_ ?_
          rotate_left
          ·
           show Act.put _ (some 27) _=_
           simp only [Act.put,zQ,zS,zT,i64_w,i32_w]
           rfl
          refine one_ (i:=4) (N:=some 29) #[zA,zA,zA,zA,zA,zB,zB,zB] rfl rfl (one_of HT_.out (by kernel_rfl)) (by decide) (fun K hK=>?_)
          refine Kd.R_lit_step k114 _ 114 ?hg (N:=29) ?hd (xs:=([(⟨a1_0,(⟨a1_1,a1_2⟩:S24),a1_3⟩:S114)]:List (S114))) (inner:=[.int .i64 a1_0,.int .i64 a1_1,.int .i64 a1_2,.bool a1_3]) (ok:=fun _=>True) (okp:=fun _=>True) ?hr ?hp (fun _ hk=>hk) trivial (Below.refl _ _) (Nat.le_refl _) (by simp) ?_;(case hd=>rfl);(case hg=>rfl);(case hr=>first|(go_simp;done)|(go_simp;rfl));(case hp=>exact (Reps.c4 (show Kd.M k114 _ _ _ (⟨a1_0,(⟨a1_1,a1_2⟩:S24),a1_3⟩:S114) [.int .i64 a1_0,.int .i64 a1_1,.int .i64 a1_2,.bool a1_3] from (k114_mkM _ _ _ (⟨a1_0,(⟨a1_1,a1_2⟩:S24),a1_3⟩:S114) )) (Reps.none _ _)))
          intro v173 w20 ho21 hb hg_ hnew_
          clear hg_ hnew_
          (first|rw [← Ny172.out] at ho21|(simp only [Int.reduceToNat] at ho21;rw [← Ny172.out] at ho21))
          have n0_:=Aside0.mk (Kd.V_elder' (by (with_reducible repeat (first|apply Kd.V_alloc|apply Kd.V_drewN|apply Kd.V_drew));exact HO_0.out) (Kd.R_base ho21) hb)
          have n1_:=Aside0.mk (Kd.R_elder' (by (with_reducible repeat (first|apply Kd.R_alloc|apply Kd.R_drewN|apply Kd.R_drew));exact HO171.out) (Kd.R_base ho21) hb)
          have n2_:=Aside0.mk (Kd.R_lower (Kd.R_newB (Kd.R_new' (Kd.R_newM (M:=fun k_=>(w.heap.size≤k_)) ho21 (below_size (by repeat (first|(with_reducible first|exact HB.out|apply zG|apply zN|apply zH|refine below_set ?_ GE164.out)|exact HB.out))) (fun k_ h_=>h_)) (Kd.R_lt (by (with_reducible repeat (first|apply Kd.R_alloc|apply Kd.R_drewN|apply Kd.R_drew));exact HO171.out))) (g:=gb164) (o:=.cells #[.int .i64 a1_0,.int .i64 a1_1,.int .i64 a1_2,.bool a1_3] 114 (0,0)) (by (with_reducible repeat (first|refine blk_drewN ?_ _|refine blk_drew ?_|refine blk_alloc ?_ _));exact BK164.out)) (below_size (by repeat (first|(with_reducible first|exact HB.out|apply zG|apply zN|apply zH|refine below_set ?_ GE164.out)|exact HB.out))))
          have n3_:=Aside0.mk (zI (g:=gb164) (o:=.cells #[.int .i64 a1_0,.int .i64 a1_1,.int .i64 a1_2,.bool a1_3] 114 (0,0)) (by (with_reducible repeat (first|refine blk_drewN ?_ _|refine blk_drew ?_|refine blk_alloc ?_ _));exact BK164.out) hb)
          have n4_:=Aside0.mk (below_step (by repeat (first|(with_reducible first|exact HB.out|apply zG|apply zN|apply zH|refine below_set ?_ GE164.out)|exact HB.out)) hb)
          clear HO_0
          clear HO171
          clear BK164
          clear HB
          have HO_0:=n0_
          have HO171:=n1_
          have HO174:=n2_
          have BK164:=n3_
          have HB:=n4_
          clear n0_ n1_ n2_ n3_ n4_
          clear hb ho21
          refine hK.out _ _ ⟨(zJ BK164.out 0).trans rfl,(zJ BK164.out 1).trans rfl,(zJ BK164.out 2).trans rfl,(zJ BK164.out 3).trans rfl⟩ (fun hHeld=>?_)
          clear hK K
          refine norm_ (a':=?_) ?_ ?_
          rotate_left
          ·
           show Act.put _ (some 29) _=_
           simp only [Act.put,zQ,zS,zT,i64_w,i32_w]
           rfl
          exact norm_ (by simp only [putAll,Act.put,zQ,zS,zT]) (hCont (v167,v170,v173) _ ⟨hHeld,(by (with_reducible repeat (first|apply Kd.R_alloc|apply Kd.R_drewN|apply Kd.R_drew));exact Kd.R_mono HO171.out (fun _ hk=>⟨hk.1.1,⟨hk.2,hk.1.2⟩⟩)),(by (with_reducible repeat (first|apply Kd.R_alloc|apply Kd.R_drewN|apply Kd.R_drew));exact Kd.R_mono HO174.out (fun _ hk=>⟨hk.1.1.1,⟨hk.1.2,hk.2⟩⟩)),(by (with_reducible repeat (first|apply Kd.V_alloc|apply Kd.V_drewN|apply Kd.V_drew));exact Kd.V_mono HO_0.out (fun _ hk=>⟨hk.1.1.1,⟨hk.1.2,⟨hk.2,hk.1.1.2⟩⟩⟩)),(by (with_reducible repeat (first|refine blk_drewN ?_ _|refine blk_drew ?_|refine blk_alloc ?_ _));exact BK164.out),(by repeat (first|(with_reducible first|exact HB.out|apply zG|apply zN|apply zH|refine below_set ?_ GE164.out)|exact HB.out))⟩)
         ·
          skip
          refine Kd.R_lit_step k114 _ 114 ?hg (N:=29) ?hd (xs:=([(⟨a1_0,(⟨a1_1,a1_2⟩:S24),a1_3⟩:S114)]:List (S114))) (inner:=[.int .i64 a1_0,.int .i64 a1_1,.int .i64 a1_2,.bool a1_3]) (ok:=fun _=>True) (okp:=fun _=>True) ?hr ?hp (fun _ hk=>hk) trivial (Below.refl _ _) (Nat.le_refl _) (by simp) ?_;(case hd=>rfl);(case hg=>rfl);(case hr=>first|(go_simp;done)|(go_simp;rfl));(case hp=>exact (Reps.c4 (show Kd.M k114 _ _ _ (⟨a1_0,(⟨a1_1,a1_2⟩:S24),a1_3⟩:S114) [.int .i64 a1_0,.int .i64 a1_1,.int .i64 a1_2,.bool a1_3] from (k114_mkM _ _ _ (⟨a1_0,(⟨a1_1,a1_2⟩:S24),a1_3⟩:S114) )) (Reps.none _ _)))
          intro v173 w19 ho20 hb hg_ hnew_
          clear hg_ hnew_
          (first|rw [← Ny172.out] at ho20|(simp only [Int.reduceToNat] at ho20;rw [← Ny172.out] at ho20))
          have n0_:=Aside0.mk (Kd.V_elder' (by (with_reducible repeat (first|apply Kd.V_alloc|apply Kd.V_drewN|apply Kd.V_drew));exact HO_0.out) (Kd.R_base ho20) hb)
          have n1_:=Aside0.mk (Kd.R_elder' (by (with_reducible repeat (first|apply Kd.R_alloc|apply Kd.R_drewN|apply Kd.R_drew));exact HO168.out) (Kd.R_base ho20) hb)
          have n2_:=Aside0.mk (Kd.R_lower (Kd.R_newB (Kd.R_new' (Kd.R_newM (M:=fun k_=>(w.heap.size≤k_)) ho20 (below_size (by repeat (first|(with_reducible first|exact HB.out|apply zG|apply zN|apply zH|refine below_set ?_ GE164.out)|exact HB.out))) (fun k_ h_=>h_)) (Kd.R_lt (by (with_reducible repeat (first|apply Kd.R_alloc|apply Kd.R_drewN|apply Kd.R_drew));exact HO168.out))) (g:=gb164) (o:=.cells #[.int .i64 a1_0,.int .i64 a1_1,.int .i64 a1_2,.bool a1_3] 114 (0,0)) (by (with_reducible repeat (first|refine blk_drewN ?_ _|refine blk_drew ?_|refine blk_alloc ?_ _));exact BK164.out)) (below_size (by repeat (first|(with_reducible first|exact HB.out|apply zG|apply zN|apply zH|refine below_set ?_ GE164.out)|exact HB.out))))
          have n3_:=Aside0.mk (zI (g:=gb164) (o:=.cells #[.int .i64 a1_0,.int .i64 a1_1,.int .i64 a1_2,.bool a1_3] 114 (0,0)) (by (with_reducible repeat (first|refine blk_drewN ?_ _|refine blk_drew ?_|refine blk_alloc ?_ _));exact BK164.out) hb)
          have n4_:=Aside0.mk (below_step (by repeat (first|(with_reducible first|exact HB.out|apply zG|apply zN|apply zH|refine below_set ?_ GE164.out)|exact HB.out)) hb)
          clear HO_0
          clear HO168
          clear BK164
          clear HB
          have HO_0:=n0_
          have HO168:=n1_
          have HO174:=n2_
          have BK164:=n3_
          have HB:=n4_
          clear n0_ n1_ n2_ n3_ n4_
          clear hb ho20
          refine hK.out _ _ ⟨(zJ BK164.out 0).trans rfl,(zJ BK164.out 1).trans rfl,(zJ BK164.out 2).trans rfl,(zJ BK164.out 3).trans rfl⟩ (fun hHeld=>?_)
          clear hK K
          refine norm_ (a':=?_) ?_ ?_
          rotate_left
          ·
           show Act.put _ (some 29) _=_
           simp only [Act.put,zQ,zS,zT,i64_w,i32_w]
           rfl
          refine one_ (i:=2) (N:=some 27) #[zA,zA,zA,zA,zA,zB,zB,zB] rfl rfl (one_of HT_.out (by kernel_rfl)) (by decide) (fun K hK=>?_)
          refine Kd.R_append_rows_step k114 (w0:=w) w.heap.size (by rfl) (.tmp 25) (.tmp 26) 64 114 (.agg #[(.int .i64 0),(.int .i64 0),(.int .i64 0),(.bool false)]) 32 rfl Try.underlying64 info114 rfl (by decide) (by omega) v167 y166 l0 _ _ _ (fun k_=>(w.heap.size≤k_)∧some k_≠(v173:Value).ownBlock∧k_≠gb164) (fun _=>False) rfl rfl ?aO ?aR (fun _ _ h=>h) (fun _ h=>h.elim) ?aF ?aB ?aS ?aL ?_
          (case aR=>repeat (first|exact (Kd.V_reads' HO_0.out).2.2|(with_reducible refine Kd.C_alloc ?_ _)|(with_reducible refine Kd.C_drewN ?_ _)|(with_reducible refine Kd.C_drew ?_)))
          (case aB=>exact (by repeat (first|(with_reducible first|exact HB.out|apply zG|apply zN|apply zH|refine below_set ?_ GE164.out)|exact HB.out)))
          (case aF=>exact (fun k_ hk=>⟨(Nat.le_trans (below_size (by repeat (first|(with_reducible first|exact HB.out|apply zG|apply zN|apply zH|refine below_set ?_ GE164.out)|exact HB.out))) hk),Kd.fresh' (Kd.R_lt (by (with_reducible repeat (first|apply Kd.R_alloc|apply Kd.R_drewN|apply Kd.R_drew));exact HO174.out)) k_ hk,Kd.freshB (g:=gb164) (o:=.cells #[.int .i64 a1_0,.int .i64 a1_1,.int .i64 a1_2,.bool a1_3] 114 (0,0)) (by (with_reducible repeat (first|refine blk_drewN ?_ _|refine blk_drew ?_|refine blk_alloc ?_ _));exact BK164.out) k_ hk⟩))
          (case aO=>exact (by (with_reducible repeat (first|apply Kd.R_alloc|apply Kd.R_drewN|apply Kd.R_drew));exact Kd.R_mono HO168.out (fun _ hk=>⟨hk.1.1.1,⟨hk.2,hk.1.2⟩⟩)))
          (case aS=>exact (below_size (by repeat (first|(with_reducible first|exact HB.out|apply zG|apply zN|apply zH|refine below_set ?_ GE164.out)|exact HB.out))))
          (case aL=>have:=LMc14.out;omega)
          intro v170 w21 ho hb hg hat
          rw [← Ny169.out] at ho
          have n0_:=Aside0.mk (Kd.V_afterv (ok:=(fun k_=>(P0_ k_∨w.heap.size≤k_)∧some k_≠(v173:Value).ownBlock∧k_≠gb164)) (by (with_reducible repeat (first|apply Kd.V_alloc|apply Kd.V_drewN|apply Kd.V_drew));exact Kd.V_mono HO_0.out (fun _ hk=>⟨⟨hk.1.1.1,⟨hk.2,hk.1.1.2⟩⟩,hk.1.2⟩)) hg hat)
          have n1_:=Aside0.mk (blk_grown (g:=gb164) (o:=.cells #[.int .i64 a1_0,.int .i64 a1_1,.int .i64 a1_2,.bool a1_3] 114 (0,0)) (by (with_reducible repeat (first|refine blk_drewN ?_ _|refine blk_drew ?_|refine blk_alloc ?_ _));exact BK164.out) hg (Kd.R_away HO168.out (fun _ hk=>hk.1.2)))
          have n2_:=Aside0.mk (Kd.R_after (ok:=(fun k_=>(w.heap.size≤k_)∧k_≠gb164)) (by (with_reducible repeat (first|apply Kd.R_alloc|apply Kd.R_drewN|apply Kd.R_drew));exact Kd.R_mono HO174.out (fun _ hk=>⟨⟨hk.1.1.1,hk.2⟩,hk.1.2⟩)) hg hat)
          have n3_:=Aside0.mk (hb)
          have n4_:=Aside0.mk (ho)
          clear HO_0
          clear BK164
          clear HO174
          clear HB
          clear HO168
          have HO_0:=n0_
          have BK164:=n1_
          have HO174:=n2_
          have HB:=n3_
          have HO171:=n4_
          clear n0_ n1_ n2_ n3_ n4_
          clear ho hb hg hat
          refine hK.out _ _ ⟨(zJ BK164.out 0).trans rfl,(zJ BK164.out 1).trans rfl,(zJ BK164.out 2).trans rfl,(zJ BK164.out 3).trans rfl⟩ (fun hHeld=>?_)
          clear hK K
          refine norm_ (a':=?_) ?_ ?_
          rotate_left
          ·
           show Act.put _ (some 27) _=_
           simp only [Act.put,zQ,zS,zT,i64_w,i32_w]
           rfl
          exact norm_ (by simp only [putAll,Act.put,zQ,zS,zT]) (hCont (v167,v170,v173) _ ⟨hHeld,(by (with_reducible repeat (first|apply Kd.R_alloc|apply Kd.R_drewN|apply Kd.R_drew));exact HO171.out),(by (with_reducible repeat (first|apply Kd.R_alloc|apply Kd.R_drewN|apply Kd.R_drew));exact Kd.R_mono HO174.out (fun _ hk=>⟨hk.1.1,⟨hk.2,hk.1.2⟩⟩)),(by (with_reducible repeat (first|apply Kd.V_alloc|apply Kd.V_drewN|apply Kd.V_drew));exact Kd.V_mono HO_0.out (fun _ hk=>⟨hk.1.1,⟨hk.2,⟨hk.1.2.1,hk.1.2.2⟩⟩⟩)),(by (with_reducible repeat (first|refine blk_drewN ?_ _|refine blk_drew ?_|refine blk_alloc ?_ _));exact BK164.out),(by repeat (first|(with_reducible first|exact HB.out|apply zG|apply zN|apply zH|refine below_set ?_ GE164.out)|exact HB.out))⟩)
        ·
         skip
         refine Kd.R_lit_step k114 _ 114 ?hg (N:=29) ?hd (xs:=([(⟨a1_0,(⟨a1_1,a1_2⟩:S24),a1_3⟩:S114)]:List (S114))) (inner:=[.int .i64 a1_0,.int .i64 a1_1,.int .i64 a1_2,.bool a1_3]) (ok:=fun _=>True) (okp:=fun _=>True) ?hr ?hp (fun _ hk=>hk) trivial (Below.refl _ _) (Nat.le_refl _) (by simp) ?_;(case hd=>rfl);(case hg=>rfl);(case hr=>first|(go_simp;done)|(go_simp;rfl));(case hp=>exact (Reps.c4 (show Kd.M k114 _ _ _ (⟨a1_0,(⟨a1_1,a1_2⟩:S24),a1_3⟩:S114) [.int .i64 a1_0,.int .i64 a1_1,.int .i64 a1_2,.bool a1_3] from (k114_mkM _ _ _ (⟨a1_0,(⟨a1_1,a1_2⟩:S24),a1_3⟩:S114) )) (Reps.none _ _)))
         intro v173 w17 ho18 hb hg_ hnew_
         clear hg_ hnew_
         (first|rw [← Ny172.out] at ho18|(simp only [Int.reduceToNat] at ho18;rw [← Ny172.out] at ho18))
         have n0_:=Aside0.mk (Kd.V_elder' (by (with_reducible repeat (first|apply Kd.V_alloc|apply Kd.V_drewN|apply Kd.V_drew));exact HO_0.out) (Kd.R_base ho18) hb)
         have n1_:=Aside0.mk (Kd.R_lower (Kd.R_newB (Kd.R_newM (M:=fun k_=>(w.heap.size≤k_)) ho18 (below_size (by repeat (first|(with_reducible first|exact HB.out|apply zG|apply zN|apply zH|refine below_set ?_ GE164.out)|exact HB.out))) (fun k_ h_=>h_)) (g:=gb164) (o:=.cells #[.int .i64 a1_0,.int .i64 a1_1,.int .i64 a1_2,.bool a1_3] 114 (0,0)) (by (with_reducible repeat (first|refine blk_drewN ?_ _|refine blk_drew ?_|refine blk_alloc ?_ _));exact BK164.out)) (below_size (by repeat (first|(with_reducible first|exact HB.out|apply zG|apply zN|apply zH|refine below_set ?_ GE164.out)|exact HB.out))))
         have n2_:=Aside0.mk (zI (g:=gb164) (o:=.cells #[.int .i64 a1_0,.int .i64 a1_1,.int .i64 a1_2,.bool a1_3] 114 (0,0)) (by (with_reducible repeat (first|refine blk_drewN ?_ _|refine blk_drew ?_|refine blk_alloc ?_ _));exact BK164.out) hb)
         have n3_:=Aside0.mk (below_step (by repeat (first|(with_reducible first|exact HB.out|apply zG|apply zN|apply zH|refine below_set ?_ GE164.out)|exact HB.out)) hb)
         clear HO_0
         clear BK164
         clear HB
         have HO_0:=n0_
         have HO174:=n1_
         have BK164:=n2_
         have HB:=n3_
         clear n0_ n1_ n2_ n3_
         clear hb ho18
         refine hK.out _ _ ⟨(zJ BK164.out 0).trans rfl,(zJ BK164.out 1).trans rfl,(zJ BK164.out 2).trans rfl,(zJ BK164.out 3).trans rfl⟩ (fun hHeld=>?_)
         clear hK K
         refine norm_ (a':=?_) ?_ ?_
         rotate_left
         ·
          show Act.put _ (some 29) _=_
          simp only [Act.put,zQ,zS,zT,i64_w,i32_w]
          rfl
         refine one_ (i:=0) (N:=some 25) #[zA,zA,zB,zA,zA,zB,zB,zB] rfl rfl (one_of HT_.out (by kernel_rfl)) (by decide) (fun K hK=>?_)
         refine Kd.R_lit_step k114 _ 114 ?hg (N:=25) ?hd (xs:=([]:List (S114))) (inner:=[]) (ok:=fun _=>True) (okp:=fun _=>True) ?hr ?hp (fun _ hk=>hk) trivial (Below.refl _ _) (Nat.le_refl _) (by simp) ?_;(case hd=>rfl);(case hg=>rfl);(case hr=>first|(go_simp;done)|(go_simp;rfl));(case hp=>exact (Reps.none _ _))
         intro v167 w19 ho20 hb hg_ hnew_
         clear hg_ hnew_
         (first|rw [← Ny166.out] at ho20|(simp only [Int.reduceToNat] at ho20;rw [← Ny166.out] at ho20))
         have n0_:=Aside0.mk (Kd.V_elder' (by (with_reducible repeat (first|apply Kd.V_alloc|apply Kd.V_drewN|apply Kd.V_drew));exact HO_0.out) (Kd.R_base ho20) hb)
         have n1_:=Aside0.mk (Kd.R_elder' (by (with_reducible repeat (first|apply Kd.R_alloc|apply Kd.R_drewN|apply Kd.R_drew));exact HO174.out) (Kd.R_base ho20) hb)
         have n2_:=Aside0.mk (Kd.R_lower (Kd.R_newB (Kd.R_new' (Kd.R_newM (M:=fun k_=>(w.heap.size≤k_)) ho20 (below_size (by repeat (first|(with_reducible first|exact HB.out|apply zG|apply zN|apply zH|refine below_set ?_ GE164.out)|exact HB.out))) (fun k_ h_=>h_)) (Kd.R_lt (by (with_reducible repeat (first|apply Kd.R_alloc|apply Kd.R_drewN|apply Kd.R_drew));exact HO174.out))) (g:=gb164) (o:=.cells #[.int .i64 a1_0,.int .i64 a1_1,.int .i64 a1_2,.bool a1_3] 114 (0,0)) (by (with_reducible repeat (first|refine blk_drewN ?_ _|refine blk_drew ?_|refine blk_alloc ?_ _));exact BK164.out)) (below_size (by repeat (first|(with_reducible first|exact HB.out|apply zG|apply zN|apply zH|refine below_set ?_ GE164.out)|exact HB.out))))
         have n3_:=Aside0.mk (zI (g:=gb164) (o:=.cells #[.int .i64 a1_0,.int .i64 a1_1,.int .i64 a1_2,.bool a1_3] 114 (0,0)) (by (with_reducible repeat (first|refine blk_drewN ?_ _|refine blk_drew ?_|refine blk_alloc ?_ _));exact BK164.out) hb)
         have n4_:=Aside0.mk (below_step (by repeat (first|(with_reducible first|exact HB.out|apply zG|apply zN|apply zH|refine below_set ?_ GE164.out)|exact HB.out)) hb)
         clear HO_0
         clear HO174
         clear BK164
         clear HB
         have HO_0:=n0_
         have HO174:=n1_
         have HO168:=n2_
         have BK164:=n3_
         have HB:=n4_
         clear n0_ n1_ n2_ n3_ n4_
         clear hb ho20
         refine hK.out _ _ ⟨(zJ BK164.out 0).trans rfl,(zJ BK164.out 1).trans rfl,(zJ BK164.out 2).trans rfl,(zJ BK164.out 3).trans rfl⟩ (fun hHeld=>?_)
         clear hK K
         refine norm_ (a':=?_) ?_ ?_
         rotate_left
         ·
          show Act.put _ (some 25) _=_
          simp only [Act.put,zQ,zS,zT,i64_w,i32_w]
          rfl
         refine one_ (i:=2) (N:=some 27) #[zA,zA,zA,zA,zA,zB,zB,zB] rfl rfl (one_of HT_.out (by kernel_rfl)) (by decide) (fun K hK=>?_)
         refine Kd.R_append_rows_step k114 (w0:=w) w.heap.size (by rfl) (.tmp 25) (.tmp 26) 64 114 (.agg #[(.int .i64 0),(.int .i64 0),(.int .i64 0),(.bool false)]) 32 rfl Try.underlying64 info114 rfl (by decide) (by omega) v167 y166 l0 _ _ _ (fun k_=>(w.heap.size≤k_)∧some k_≠(v173:Value).ownBlock∧k_≠gb164) (fun _=>False) rfl rfl ?aO ?aR (fun _ _ h=>h) (fun _ h=>h.elim) ?aF ?aB ?aS ?aL ?_
         (case aR=>repeat (first|exact (Kd.V_reads' HO_0.out).2.2|(with_reducible refine Kd.C_alloc ?_ _)|(with_reducible refine Kd.C_drewN ?_ _)|(with_reducible refine Kd.C_drew ?_)))
         (case aB=>exact (by repeat (first|(with_reducible first|exact HB.out|apply zG|apply zN|apply zH|refine below_set ?_ GE164.out)|exact HB.out)))
         (case aF=>exact (fun k_ hk=>⟨(Nat.le_trans (below_size (by repeat (first|(with_reducible first|exact HB.out|apply zG|apply zN|apply zH|refine below_set ?_ GE164.out)|exact HB.out))) hk),Kd.fresh' (Kd.R_lt (by (with_reducible repeat (first|apply Kd.R_alloc|apply Kd.R_drewN|apply Kd.R_drew));exact HO174.out)) k_ hk,Kd.freshB (g:=gb164) (o:=.cells #[.int .i64 a1_0,.int .i64 a1_1,.int .i64 a1_2,.bool a1_3] 114 (0,0)) (by (with_reducible repeat (first|refine blk_drewN ?_ _|refine blk_drew ?_|refine blk_alloc ?_ _));exact BK164.out) k_ hk⟩))
         (case aO=>exact (by (with_reducible repeat (first|apply Kd.R_alloc|apply Kd.R_drewN|apply Kd.R_drew));exact Kd.R_mono HO168.out (fun _ hk=>⟨hk.1.1.1,⟨hk.1.2,hk.2⟩⟩)))
         (case aS=>exact (below_size (by repeat (first|(with_reducible first|exact HB.out|apply zG|apply zN|apply zH|refine below_set ?_ GE164.out)|exact HB.out))))
         (case aL=>have:=LMc14.out;omega)
         intro v170 w21 ho hb hg hat
         rw [← Ny169.out] at ho
         have n0_:=Aside0.mk (Kd.V_afterv (ok:=(fun k_=>(P0_ k_∨w.heap.size≤k_)∧some k_≠(v173:Value).ownBlock∧k_≠gb164)) (by (with_reducible repeat (first|apply Kd.V_alloc|apply Kd.V_drewN|apply Kd.V_drew));exact Kd.V_mono HO_0.out (fun _ hk=>⟨⟨hk.1.1.1,⟨hk.1.2,hk.1.1.2⟩⟩,hk.2⟩)) hg hat)
         have n1_:=Aside0.mk (blk_grown (g:=gb164) (o:=.cells #[.int .i64 a1_0,.int .i64 a1_1,.int .i64 a1_2,.bool a1_3] 114 (0,0)) (by (with_reducible repeat (first|refine blk_drewN ?_ _|refine blk_drew ?_|refine blk_alloc ?_ _));exact BK164.out) hg (Kd.R_away HO168.out (fun _ hk=>hk.2)))
         have n2_:=Aside0.mk (Kd.R_after (ok:=(fun k_=>(w.heap.size≤k_)∧k_≠gb164)) (by (with_reducible repeat (first|apply Kd.R_alloc|apply Kd.R_drewN|apply Kd.R_drew));exact Kd.R_mono HO174.out (fun _ hk=>⟨⟨hk.1.1.1,hk.1.2⟩,hk.2⟩)) hg hat)
         have n3_:=Aside0.mk (hb)
         have n4_:=Aside0.mk (ho)
         clear HO_0
         clear BK164
         clear HO174
         clear HB
         clear HO168
         have HO_0:=n0_
         have BK164:=n1_
         have HO174:=n2_
         have HB:=n3_
         have HO171:=n4_
         clear n0_ n1_ n2_ n3_ n4_
         clear ho hb hg hat
         refine hK.out _ _ ⟨(zJ BK164.out 0).trans rfl,(zJ BK164.out 1).trans rfl,(zJ BK164.out 2).trans rfl,(zJ BK164.out 3).trans rfl⟩ (fun hHeld=>?_)
         clear hK K
         refine norm_ (a':=?_) ?_ ?_
         rotate_left
         ·
          show Act.put _ (some 27) _=_
          simp only [Act.put,zQ,zS,zT,i64_w,i32_w]
          rfl
         exact norm_ (by simp only [putAll,Act.put,zQ,zS,zT]) (hCont (v167,v170,v173) _ ⟨hHeld,(by (with_reducible repeat (first|apply Kd.R_alloc|apply Kd.R_drewN|apply Kd.R_drew));exact HO171.out),(by (with_reducible repeat (first|apply Kd.R_alloc|apply Kd.R_drewN|apply Kd.R_drew));exact Kd.R_mono HO174.out (fun _ hk=>⟨hk.1.1,⟨hk.2,hk.1.2⟩⟩)),(by (with_reducible repeat (first|apply Kd.V_alloc|apply Kd.V_drewN|apply Kd.V_drew));exact Kd.V_mono HO_0.out (fun _ hk=>⟨hk.1.1,⟨hk.2,⟨hk.1.2.1,hk.1.2.2⟩⟩⟩)),(by (with_reducible repeat (first|refine blk_drewN ?_ _|refine blk_drew ?_|refine blk_alloc ?_ _));exact BK164.out),(by repeat (first|(with_reducible first|exact HB.out|apply zG|apply zN|apply zH|refine below_set ?_ GE164.out)|exact HB.out))⟩)
       rintro ⟨v167,v170,v173⟩ w22 ⟨hS_,h0_,h1_,h2_,h3_,h4_⟩
       have n0_:Aside0 (Kd.R k114 114 w22 w.heap.size (fun k_=>(w.heap.size≤k_)∧some k_≠(v173:Value).ownBlock∧k_≠gb164) v170 y169):=⟨h0_⟩
       have n1_:Aside0 (Kd.R k114 114 w22 w.heap.size (fun k_=>(w.heap.size≤k_)∧some k_≠(v170:Value).ownBlock∧k_≠gb164) v173 y172):=⟨h1_⟩
       have n2_:Aside0 (Kd.V k114 114 w22 w.heap.size (fun k_=>(P0_ k_∨w.heap.size≤k_)∧some k_≠(v170:Value).ownBlock∧some k_≠(v173:Value).ownBlock∧k_≠gb164) (.slice A0 l0.length c0) l0):=⟨h2_⟩
       have n3_:Aside0 (w22.heap[gb164]?=some (.cells #[.int .i64 a1_0,.int .i64 a1_1,.int .i64 a1_2,.bool a1_3] 114 (0,0))):=⟨h3_⟩
       have n4_:Aside0 (Below w.heap.size w w22):=⟨h4_⟩
       clear HO_0
       clear BK164
       clear HB
       clear h0_ h1_ h2_ h3_ h4_
       have HO171:=n0_
       have HO174:=n1_
       have HO_0:=n2_
       have BK164:=n3_
       have HB:=n4_
       clear n0_ n1_ n2_ n3_ n4_
       have hHeld:w22.cell? ⟨gb164,0,none⟩=some (.int .i64 a1_0)∧w22.cell? ⟨gb164,1,none⟩=some (.int .i64 a1_1)∧w22.cell? ⟨gb164,2,none⟩=some (.int .i64 a1_2)∧w22.cell? ⟨gb164,3,none⟩=some (.bool a1_3):=hS_
       obtain ⟨Ao24,co24,eo24⟩:=Kd.R_slice HO174.out
       (first|subst eo24|(injection eo24 with f1_ f2_ f3_;have f4_:=f1_.symm;have f5_:=f3_.symm;clear f1_ f2_ f3_;subst f4_;subst f5_))
       refine norm_ (a':=?_) ?_ ?_
       rotate_left
       ·
        simp only [putAll,Act.put,zQ,zS,zT]
        rfl
       refine one_ (i:=5) (N:=some 30) #[zA,zA,zA,zA,zA,zA,zB,zB] rfl rfl (one_of HT_.out (by kernel_rfl)) (by decide) (fun K hK=>?_)
       refine Kd.R_append_rows_step k114 (w0:=w) w.heap.size (by rfl) (.tmp 27) (.tmp 29) 64 114 (.agg #[(.int .i64 0),(.int .i64 0),(.int .i64 0),(.bool false)]) 32 rfl Try.underlying64 info114 rfl (by decide) (by omega) v170 y169 y172 _ _ _ (fun k_=>(w.heap.size≤k_)∧some k_≠(.slice Ao24 y172.length co24:Value).ownBlock∧k_≠gb164) (fun _=>False) rfl rfl ?aO ?aR (fun _ _ h=>h) (fun _ h=>h.elim) ?aF ?aB ?aS ?aL ?_
       (case aR=>repeat (first|exact (Kd.R_reads' HO174.out).2.2|(with_reducible refine Kd.C_alloc ?_ _)|(with_reducible refine Kd.C_drewN ?_ _)|(with_reducible refine Kd.C_drew ?_)))
       (case aB=>exact (by repeat (first|(with_reducible first|exact HB.out|apply zG|apply zN|apply zH|refine below_set ?_ GE164.out)|exact HB.out)))
       (case aF=>exact (fun k_ hk=>⟨(Nat.le_trans (below_size (by repeat (first|(with_reducible first|exact HB.out|apply zG|apply zN|apply zH|refine below_set ?_ GE164.out)|exact HB.out))) hk),Kd.fresh' (Kd.R_lt (by (with_reducible repeat (first|apply Kd.R_alloc|apply Kd.R_drewN|apply Kd.R_drew));exact HO174.out)) k_ hk,Kd.freshB (g:=gb164) (o:=.cells #[.int .i64 a1_0,.int .i64 a1_1,.int .i64 a1_2,.bool a1_3] 114 (0,0)) (by (with_reducible repeat (first|refine blk_drewN ?_ _|refine blk_drew ?_|refine blk_alloc ?_ _));exact BK164.out) k_ hk⟩))
       (case aO=>exact (by (with_reducible repeat (first|apply Kd.R_alloc|apply Kd.R_drewN|apply Kd.R_drew));exact HO171.out))
       (case aS=>exact (below_size (by repeat (first|(with_reducible first|exact HB.out|apply zG|apply zN|apply zH|refine below_set ?_ GE164.out)|exact HB.out))))
       (case aL=>have:=LMc15.out;omega)
       intro v176 w23 ho hb hg hat
       rw [← Ny175.out] at ho
       have n0_:=Aside0.mk (Kd.V_afterv (ok:=(fun k_=>(P0_ k_∨w.heap.size≤k_)∧some k_≠(.slice Ao24 y172.length co24:Value).ownBlock∧k_≠gb164)) (by (with_reducible repeat (first|apply Kd.V_alloc|apply Kd.V_drewN|apply Kd.V_drew));exact Kd.V_mono HO_0.out (fun _ hk=>⟨⟨hk.1,⟨hk.2.2.1,hk.2.2.2⟩⟩,hk.2.1⟩)) hg hat)
       have n1_:=Aside0.mk (blk_grown (g:=gb164) (o:=.cells #[.int .i64 a1_0,.int .i64 a1_1,.int .i64 a1_2,.bool a1_3] 114 (0,0)) (by (with_reducible repeat (first|refine blk_drewN ?_ _|refine blk_drew ?_|refine blk_alloc ?_ _));exact BK164.out) hg (Kd.R_away HO171.out (fun _ hk=>hk.2.2)))
       have n2_:=Aside0.mk (Kd.R_after (ok:=(fun k_=>(w.heap.size≤k_)∧k_≠gb164)) (by (with_reducible repeat (first|apply Kd.R_alloc|apply Kd.R_drewN|apply Kd.R_drew));exact Kd.R_mono HO174.out (fun _ hk=>⟨⟨hk.1,hk.2.2⟩,hk.2.1⟩)) hg hat)
       have n3_:=Aside0.mk (hb)
       have n4_:=Aside0.mk (ho)
       clear HO_0
       clear BK164
       clear HO174
       clear HB
       clear HO171
       have HO_0:=n0_
       have BK164:=n1_
       have HO174:=n2_
       have HB:=n3_
       have HO177:=n4_
       clear n0_ n1_ n2_ n3_ n4_
       clear ho hb hg hat
       refine hK.out _ _ ⟨(zJ BK164.out 0).trans rfl,(zJ BK164.out 1).trans rfl,(zJ BK164.out 2).trans rfl,(zJ BK164.out 3).trans rfl⟩ (fun hHeld=>?_)
       clear hK K
       refine norm_ (a':=?_) ?_ ?_
       rotate_left
       ·
        show Act.put _ (some 30) _=_
        simp only [Act.put,zQ,zS,zT,i64_w,i32_w]
        rfl
       refine pure_ (i:=6) (N:=some 4) (v:=?_) (a':=?_) #[zA,zA,zA,zA,zA,zA,zA,zB] rfl rfl (any_of HT_.out (by kernel_rfl)) (fun _ _ _ h=>h) (Or.inl ⟨by rfl,?_⟩) ?_ ?_
       rotate_left
       ·
        intro w'
        go_simp
        with_reducible rfl
       rotate_left
       ·
        simp only [Act.put,zQ,zS,zT,i64_w,i32_w]
        rfl
       refine pure_ (i:=7) (N:=some 5) (v:=?_) (a':=?_) #[zA,zA,zA,zA,zA,zA,zA,zA] rfl rfl (any_of HT_.out (by kernel_rfl)) (fun _ _ _ h=>h) (Or.inl ⟨by rfl,?_⟩) ?_ ?_
       rotate_left
       ·
        intro w'
        go_simp
        with_reducible rfl
       rotate_left
       ·
        simp only [Act.put,zQ,zS,zT,i64_w,i32_w]
        rfl
       refine done_ (done_of HT_.out (by kernel_rfl)) ?_
       try go_wp2
       go_ret2
       exact ⟨_,by first|rfl|(simp [errW_none,errW_some] <;> rfl)|(simp [*,errW_none,errW_some] <;> rfl),Kd.V_mono (Kd.R_V (by (with_reducible repeat (first|apply Kd.R_alloc|apply Kd.R_drewN|apply Kd.R_drew));exact Kd.R_mono HO177.out (fun _ hk=>hk.1))) (fun k_ hk=>by first|exact ⟨(.inr (hk.1)),hk.2⟩|exact (.inr (hk))),by repeat (first|(with_reducible first|exact HB.out|apply zG|apply zN|apply zH|refine below_set ?_ GE164.out)|exact HB.out)⟩
      ·
       rw [if_neg c15] at H
       exact absurd H (by simp)
     ·
      rw [if_neg c14] at H
      exact absurd H (by simp)
mutual
def warpbeamref08_Back.j0:Nat→List (S114)→Int→Bool→Option ((List (S114)) × Int)
 | 0,_,_,_=>none
 | k+1,x0,x1,x15=>if x15=true then (some (x0,2)) else ((some (([]:List (S114)):List (S114))).bind fun y178=>(if 0≤x1 then (if x1≤(x0.length:Int) then ((some (x0.take (x1:Int).toNat:List (S114))).bind fun y181=>(if y178.length+y181.length<4398046511104 then (warpbeamref08_Back.l0 k x0 (y178++y181) x1) else (none))) else (none)) else (none)))
def warpbeamref08_Back.l0:Nat→List (S114)→List (S114)→Int→Option ((List (S114)) × Int)
 | 0,_,_,_=>none
 | k+1,x0,x6,x7=>if x7<(x0.length:Int) then (if 0≤x7 then (if ((rd_T114 x0 x7).f2=true) then (warpbeamref08_Back.l0 k x0 x6 (wrap64 (x7+1))) else (if x6.length<4398046511104 then (warpbeamref08_Back.l0 k x0 (x6++[(⟨(rd_T114 x0 x7).f0,(⟨(rd_T114 x0 x7).f1.f0,(rd_T114 x0 x7).f1.f1⟩:S24),(rd_T114 x0 x7).f2⟩:S114)]) (wrap64 (x7+1))) else (none))) else (none)) else (some (x6,0))
end
def warpbeamref08_Back.f (k:Nat) (l0:List (S114)) (a1:Int):Option ((List (S114)) × Int):=if a1<0 then (warpbeamref08_Back.j0 k l0 a1 true) else (warpbeamref08_Back.j0 k l0 a1 (decide (a1 > (l0.length:Int))))
theorem warpbeamref08_Back.calls (k:Nat) (P0_:Nat→Prop) (A0:Option Addr) (c0:Nat) (l0:List (S114)) (a1:Int) (r1:List (S114)) (r2:Int) (w:World) (hs0:Kd.V k114 114 w w.heap.size (fun k_=>P0_ k_) (.slice A0 l0.length c0) l0) (h:warpbeamref08_Back.f k l0 a1=some (r1,r2)) :
  Calls Try.prog 65 #[.slice A0 l0.length c0,.int .i64 a1] w fun e w'=>∃ v0_:Value,e=.returned (.tuple #[v0_,.int .i64 r2])∧Kd.V k114 114 w' w.heap.size (fun k_=>(P0_ k_∨w.heap.size≤k_)) v0_ r1∧Below w.heap.size w w':=by
 have hu114:=Try.underlying114
 have HO0:=Aside0.mk (show Kd.V k114 114 w w.heap.size (fun k_=>(P0_ k_∨w.heap.size≤k_)) (.slice A0 l0.length c0) l0 from Kd.V_mono hs0 (fun k_ hk=>.inl hk))
 have HB:=Aside0.mk (Below.refl w.heap.size w)
 have H:(if a1<0 then (warpbeamref08_Back.j0 k l0 a1 true) else (warpbeamref08_Back.j0 k l0 a1 (decide (a1 > (l0.length:Int)))))=some (r1,r2):=h
 clear h
 have HC3:=Aside0.mk H
 clear H
 go_enter Try.func65,Try.ntmps65
 go_upto_region 1 with (fail)
 go_cut [15] (fun v15 wc=>∃ (kq:Nat) (x15_2:Bool),v15=.bool x15_2∧Aside0 (warpbeamref08_Back.j0 kq l0 a1 x15_2=some (r1,r2))∧Aside0 (kq≤k)∧Aside0 (Kd.V k114 114 wc w.heap.size (fun k_=>(P0_ k_∨w.heap.size≤k_)) (.slice A0 l0.length c0) l0)∧Aside0 (Below w.heap.size w wc))
 case first =>
  have H:=HC3.out
  clear HC3
  by_cases c4:a1<0
  ·
   rw [if_pos c4] at H
   have c4b0:decide (a1<0)=true:=decide_eq_true c4
   clear c4
   (first|rw [c4b0]|(simp only [i64_w,i32_w];rw [c4b0])|skip)
   have H':=Aside0.mk H
   clear H
   go_wp2
   go_meet
   case rel=>exact ⟨_,(true),(by first|rfl|(simp;done)|(simp [*];done)),H',⟨by first|omega|exact Nat.le_refl _⟩,⟨by (with_reducible repeat (first|apply Kd.V_alloc|apply Kd.V_drewN|apply Kd.V_drew));exact HO0.out⟩,⟨by repeat (first|(with_reducible first|exact HB.out|apply zG|apply zN|apply zH)|exact HB.out)⟩⟩
  ·
   rw [if_neg c4] at H
   have c4b0:decide (a1<0)=false:=decide_eq_false c4
   clear c4
   (first|rw [c4b0]|(simp only [i64_w,i32_w];rw [c4b0])|skip)
   have H':=Aside0.mk H
   clear H
   go_wp2
   go_meet
   case rel=>exact ⟨_,(decide (a1 > (l0.length:Int))),(by first|rfl|(simp;done)|(simp [*];done)),H',⟨by first|omega|exact Nat.le_refl _⟩,⟨by (with_reducible repeat (first|apply Kd.V_alloc|apply Kd.V_drewN|apply Kd.V_drew));exact HO0.out⟩,⟨by repeat (first|(with_reducible first|exact HB.out|apply zG|apply zN|apply zH)|exact HB.out)⟩⟩
 case rest =>
  clear HC3
  try clear p2
  try clear c4
  try clear c4b0
  obtain ⟨kq,x15_2,rfl,HA,HJ2,HO_0,HB⟩:=hcut
  cases kq with
  | zero=>exact absurd HA.out (by simp [warpbeamref08_Back.j0])
  | succ kj2 =>
   have H:=HA.out
   clear HA
   simp only [warpbeamref08_Back.j0] at H
   by_cases c5:x15_2=true
   ·
    subst c5
    have H1:(some (l0,2))=some (r1,r2):=by rw [if_pos rfl] at H;exact H
    clear H
    have H:=H1
    clear H1
    simp only [Option.some.injEq,Prod.mk.injEq] at H
    obtain ⟨rfl,rfl⟩:=H
    go_wp2
    go_ret2
    exact ⟨_,by first|rfl|(simp [errW_none,errW_some] <;> rfl)|(simp [*,errW_none,errW_some] <;> rfl),by (with_reducible repeat (first|apply Kd.V_alloc|apply Kd.V_drewN|apply Kd.V_drew));exact HO_0.out,by repeat (first|(with_reducible first|exact HB.out|apply zG|apply zN|apply zH)|exact HB.out)⟩
   ·
    replace c5:=Bool.eq_false_iff.mpr c5
    subst c5
    have H1:((some (([]:List (S114)):List (S114))).bind fun y178=>(if 0≤a1 then (if a1≤(l0.length:Int) then ((some (l0.take (a1:Int).toNat:List (S114))).bind fun y181=>(if y178.length+y181.length<4398046511104 then (warpbeamref08_Back.l0 kj2 l0 (y178++y181) a1) else (none))) else (none)) else (none)))=some (r1,r2):=by rw [if_neg (show ¬ (false=true) by decide)] at H;exact H
    clear H
    have H:=H1
    clear H1
    obtain ⟨y178,hy178⟩:∃ y_:List (S114),y_=(([]:List (S114))):=⟨_,rfl⟩
    replace H:(if 0≤a1 then (if a1≤(l0.length:Int) then ((some (l0.take (a1:Int).toNat:List (S114))).bind fun y181=>(if y178.length+y181.length<4398046511104 then (warpbeamref08_Back.l0 kj2 l0 (y178++y181) a1) else (none))) else (none)) else (none))=some (r1,r2):=by first|(rw [hy178];with_reducible exact H)|(have H2_:=(Option.bind_some _ _).symm.trans H;rw [hy178];with_reducible exact H2_)|(have H2_:=(Option.bind_some _ _).symm.trans H;with_reducible exact H2_)|with_reducible exact H|(rw [hy178];exact H)|exact H
    have Ny178:=Aside0.mk hy178
    clear hy178
    by_cases c6:0≤a1
    ·
     rw [if_pos c6] at H
     have c6b0:=eq_true c6
     have c6b1:decide (0≤a1)=true:=decide_eq_true c6
     clear c6
     by_cases c7:a1≤(l0.length:Int)
     ·
      rw [if_pos c7] at H
      have c7b0:=eq_true c7
      have c7b1:decide (a1≤(l0.length:Int))=true:=decide_eq_true c7
      clear c7
      obtain ⟨y181,hy181⟩:∃ y_:List (S114),y_=(l0.take (a1:Int).toNat):=⟨_,rfl⟩
      replace H:(if y178.length+y181.length<4398046511104 then (warpbeamref08_Back.l0 kj2 l0 (y178++y181) a1) else (none))=some (r1,r2):=by first|(rw [hy181];with_reducible exact H)|(have H2_:=(Option.bind_some _ _).symm.trans H;rw [hy181];with_reducible exact H2_)|(have H2_:=(Option.bind_some _ _).symm.trans H;with_reducible exact H2_)|with_reducible exact H|(rw [hy181];exact H)|exact H
      have Ny181:=Aside0.mk hy181
      clear hy181
      by_cases c8:y178.length+y181.length<4398046511104
      ·
       rw [if_pos c8] at H
       have LMc8:=Aside0.mk c8
       clear c8
       obtain ⟨y186,hy186⟩:∃ y_:List (S114),y_=(y178++y181):=⟨_,rfl⟩
       replace H:(warpbeamref08_Back.l0 kj2 l0 y186 a1)=some (r1,r2):=by first|(rw [hy186];with_reducible exact H)|(have H2_:=(Option.bind_some _ _).symm.trans H;rw [hy186];with_reducible exact H2_)|(have H2_:=(Option.bind_some _ _).symm.trans H;with_reducible exact H2_)|with_reducible exact H|(rw [hy186];exact H)|exact H
       have Ny186:=Aside0.mk hy186
       clear hy186
       have H':=Aside0.mk H
       clear H
       go_wp2_with (first|((with_reducible refine gate_dst (N:=17) rfl ?_);(try (refine gate_guard (by rfl) ?_;dsimp only));refine Kd.R_lit k114 _ 114 ?hg (N:=17) ?hd (xs:=([]:List (S114))) (inner:=[]) (ok:=fun _=>True) (okp:=fun _=>True) ?hr ?hp (fun _ hk=>hk) trivial (Below.refl _ _) (Nat.le_refl _) (by simp) ?_;(case hd=>rfl);(case hg=>rfl);(case hr=>first|(go_simp;done)|(go_simp;rfl));(case hp=>exact (Reps.none _ _));intro v179 w9 ho10 hb hg_ hnew_;clear hg_ hnew_;(first|rw [← Ny178.out] at ho10|(simp only [Int.reduceToNat] at ho10;rw [← Ny178.out] at ho10));have n0_:=Aside0.mk (Kd.V_elder' (by (with_reducible repeat (first|apply Kd.V_alloc|apply Kd.V_drewN|apply Kd.V_drew));exact HO_0.out) (Kd.R_base ho10) hb);have n1_:=Aside0.mk (Kd.R_lower (Kd.R_newM (M:=fun k_=>(w.heap.size≤k_)) ho10 (below_size (by repeat (first|(with_reducible first|exact HB.out|apply zG|apply zN|apply zH)|exact HB.out))) (fun k_ h_=>h_)) (below_size (by repeat (first|(with_reducible first|exact HB.out|apply zG|apply zN|apply zH)|exact HB.out))));have n2_:=Aside0.mk (below_step (by repeat (first|(with_reducible first|exact HB.out|apply zG|apply zN|apply zH)|exact HB.out)) hb);clear HO_0;clear HB;have HO_0:=n0_;have HO180:=n1_;have HB:=n2_;clear n0_ n1_ n2_;clear hb ho10;have q11:(a1:Int)≤((l0.length:Int):Int):=of_decide_eq_true (by first|(with_reducible assumption)|assumption);obtain ⟨i011,hi011,_,hsz11,_⟩:=info_parts info114;have hroom11:l0.length≤c0:=(Kd.V_reads' HO_0.out).2.1;have hC11:Kd.F k114 _ _ A0 l0.length l0:=(Kd.V_at (base:=w.heap.size) HO_0.out).2.2;have hcut11:=cut_to (P:=Try.prog) 64 114 .i64 Try.underlying64 hi011 A0 l0.length c0 a1 (of_decide_eq_true (by first|(with_reducible assumption)|assumption)) q11 hroom11;have hr11:=Kd.F_take (m:=(a1:Int).toNat) hC11 (by omega);have hy11:y181.length=(a1:Int).toNat:=(by rw [Ny181.out,List.length_take];omega);rw [← Ny181.out] at hr11;rw [← hy11] at hcut11;have HO185:=Aside0.mk (show Kd.V k114 114 _ w.heap.size _ (.slice A0 y181.length c0) y181 from Kd.V_mk (by omega) hr11);have HC185:=Aside0.mk (show y181.length≤c0 from by omega);clear hr11 hC11 hroom11 hi011 hsz11;have KY11:=Aside0.mk hy11;clear hy11;replace q11:=eq_true q11)|((with_reducible refine gate_builtin (b:=.append) (xs:=#[.tmp 17,.tmp 20]) rfl ?_);(try (refine gate_guard (by rfl) ?_;dsimp only));at_builtin;refine Kd.R_append_rows k114 (w0:=w) w.heap.size rfl (.tmp 17) (.tmp 20) 64 114 (.agg #[(.int .i64 0),(.int .i64 0),(.int .i64 0),(.bool false)]) 32 rfl Try.underlying64 info114 rfl (by decide) (by omega) v179 y178 y181 _ _ _ (fun k_=>(w.heap.size≤k_)) (fun _=>False) rfl rfl ?aO ?aR (fun _ _ h=>h) (fun _ h=>h.elim) ?aF ?aB ?aS ?aL ?_;(case aR=>repeat (first|exact (Kd.V_reads' HO185.out).2.2|(with_reducible refine Kd.C_alloc ?_ _)|(with_reducible refine Kd.C_drewN ?_ _)|(with_reducible refine Kd.C_drew ?_)));(case aB=>exact (by repeat (first|(with_reducible first|exact HB.out|apply zG|apply zN|apply zH)|exact HB.out)));(case aF=>exact (fun k_ hk=>(Nat.le_trans (below_size (by repeat (first|(with_reducible first|exact HB.out|apply zG|apply zN|apply zH)|exact HB.out))) hk)));(case aO=>exact (by (with_reducible repeat (first|apply Kd.R_alloc|apply Kd.R_drewN|apply Kd.R_drew));exact Kd.R_mono HO180.out (fun _ hk=>hk.1)));(case aS=>exact (below_size (by repeat (first|(with_reducible first|exact HB.out|apply zG|apply zN|apply zH)|exact HB.out))));(case aL=>have:=LMc8.out;omega);intro v187 w12 ho hb hg hat;rw [← Ny186.out] at ho;have n0_:=Aside0.mk (Kd.V_afterv (ok:=(fun k_=>(P0_ k_∨w.heap.size≤k_))) (by (with_reducible repeat (first|apply Kd.V_alloc|apply Kd.V_drewN|apply Kd.V_drew));exact HO_0.out) hg hat);have n1_:=Aside0.mk (Kd.V_afterv (ok:=(fun k_=>(P0_ k_∨w.heap.size≤k_))) (by (with_reducible repeat (first|apply Kd.V_alloc|apply Kd.V_drewN|apply Kd.V_drew));exact HO185.out) hg hat);have n2_:=Aside0.mk (hb);have n3_:=Aside0.mk (ho);clear HO_0;clear HO185;clear HB;clear HO180;have HO_0:=n0_;have HO185:=n1_;have HB:=n2_;have HO188:=n3_;clear n0_ n1_ n2_ n3_;clear ho hb hg hat))
       go_loopg [6,7] kj2 (fun kq v6 v7 w'=>∃ (x6_2:List (S114)) (x7_2:Int),v7=.int .i64 x7_2∧Aside0 (warpbeamref08_Back.l0 kq l0 x6_2 x7_2=some (r1,r2))∧Aside0 (kq≤kj2)∧Aside0 (Kd.V k114 114 w' w.heap.size (fun k_=>(P0_ k_∨w.heap.size≤k_)∧some k_≠(v6:Value).ownBlock) (.slice A0 l0.length c0) l0)∧Aside0 (Kd.R k114 114 w' w.heap.size (fun k_=>(w.heap.size≤k_)) v6 x6_2)∧Aside0 (Below w.heap.size w w'))
       case atStart=>exact ⟨(y186),(a1),(by first|rfl|(simp;done)|(simp [*];done)),H',⟨Nat.le_refl _⟩,⟨by (with_reducible repeat (first|apply Kd.V_alloc|apply Kd.V_drewN|apply Kd.V_drew));exact HO_0.out⟩,⟨by (with_reducible repeat (first|apply Kd.R_alloc|apply Kd.R_drewN|apply Kd.R_drew));exact HO188.out⟩,⟨by repeat (first|(with_reducible first|exact HB.out|apply zG|apply zN|apply zH)|exact HB.out)⟩⟩
       case round =>
        clear H'
        try clear q1
        try clear p2
        try clear c4
        try clear c4b0
        try clear c5
        try clear c6
        try clear c6b0
        try clear c6b1
        try clear c7
        try clear c7b0
        try clear c7b1
        try clear c8
        try clear q11
        try clear p2
        try clear q11
        obtain ⟨x6_2,x7_2,rfl,HA,HK2,HO_0,HO_6,HB⟩:=hrel
        cases gk with
        | zero=>exact absurd HA.out (by simp [warpbeamref08_Back.l0])
        | succ k2 =>
         have H:=HA.out
         clear HA
         simp only [warpbeamref08_Back.l0] at H
         by_cases c13:x7_2<(l0.length:Int)
         ·
          rw [if_pos c13] at H
          have c13b0:decide (x7_2<(l0.length:Int))=true:=decide_eq_true c13
          clear c13
          by_cases c14:0≤x7_2
          ·
           rw [if_pos c14] at H
           have c14b0:decide (0≤x7_2)=true:=decide_eq_true c14
           clear c14
           obtain ⟨bq15,hbq15⟩:∃ b_:Bool,b_=((rd_T114 l0 x7_2).f2):=⟨_,rfl⟩
           replace H:(if (bq15=true) then (warpbeamref08_Back.l0 k2 l0 x6_2 (wrap64 (x7_2+1))) else (if x6_2.length<4398046511104 then (warpbeamref08_Back.l0 k2 l0 (x6_2++[(⟨(rd_T114 l0 x7_2).f0,(⟨(rd_T114 l0 x7_2).f1.f0,(rd_T114 l0 x7_2).f1.f1⟩:S24),bq15⟩:S114)]) (wrap64 (x7_2+1))) else (none)))=some (r1,r2):=by rw [← hbq15] at H;exact H
           have Nbq15:=Aside0.mk hbq15
           clear hbq15
           by_cases c16:(bq15=true)
           ·
            subst c16
            have H1:(warpbeamref08_Back.l0 k2 l0 x6_2 (wrap64 (x7_2+1)))=some (r1,r2):=by rw [if_pos rfl] at H;exact H
            clear H
            have H:=H1
            clear H1
            have H':=Aside0.mk H
            clear H
            have p189:0≤(x7_2:Int):=of_decide_eq_true (by first|(with_reducible assumption)|assumption)
            have q189:x7_2<(l0.length:Int):=of_decide_eq_true (by first|(with_reducible assumption)|assumption)
            obtain ⟨ad189,e189,hx189_0,hx189_1,hx189_2,hx189_3⟩:=at_T114 (Kd.V_reads' HO_0.out).2.2 x7_2 p189 q189
            (try rw [← Nbq15.out] at hx189_3)
            cases e189
            replace p189:=eq_true p189
            replace q189:=eq_true q189
            go_wp2
            go_roundg k2
            case measure=>have:=HJ2.out;have:=HK2.out;omega
            case rel=>exact ⟨(x6_2),(wrap64 (x7_2+1)),(by first|rfl|(simp;done)|(simp [*];done)),H',⟨by have:=HJ2.out;have:=HK2.out;omega⟩,⟨by (with_reducible repeat (first|apply Kd.V_alloc|apply Kd.V_drewN|apply Kd.V_drew));exact HO_0.out⟩,⟨by (with_reducible repeat (first|apply Kd.R_alloc|apply Kd.R_drewN|apply Kd.R_drew));exact HO_6.out⟩,⟨by repeat (first|(with_reducible first|exact HB.out|apply zG|apply zN|apply zH)|exact HB.out)⟩⟩
           ·
            replace c16:=Bool.eq_false_iff.mpr c16
            subst c16
            have H1:(if x6_2.length<4398046511104 then (warpbeamref08_Back.l0 k2 l0 (x6_2++[(⟨(rd_T114 l0 x7_2).f0,(⟨(rd_T114 l0 x7_2).f1.f0,(rd_T114 l0 x7_2).f1.f1⟩:S24),false⟩:S114)]) (wrap64 (x7_2+1))) else (none))=some (r1,r2):=by rw [if_neg (show ¬ (false=true) by decide)] at H;exact H
            clear H
            have H:=H1
            clear H1
            by_cases c17:x6_2.length<4398046511104
            ·
             rw [if_pos c17] at H
             have LMc17:=Aside0.mk c17
             clear c17
             obtain ⟨y191,hy191⟩:∃ y_:List (S114),y_=(x6_2++[(⟨(rd_T114 l0 x7_2).f0,(⟨(rd_T114 l0 x7_2).f1.f0,(rd_T114 l0 x7_2).f1.f1⟩:S24),false⟩:S114)]):=⟨_,rfl⟩
             replace H:(warpbeamref08_Back.l0 k2 l0 y191 (wrap64 (x7_2+1)))=some (r1,r2):=by first|(rw [hy191];with_reducible exact H)|(have H2_:=(Option.bind_some _ _).symm.trans H;rw [hy191];with_reducible exact H2_)|(have H2_:=(Option.bind_some _ _).symm.trans H;with_reducible exact H2_)|with_reducible exact H|(rw [hy191];exact H)|exact H
             have Ny191:=Aside0.mk hy191
             clear hy191
             have H':=Aside0.mk H
             clear H
             have p189:0≤(x7_2:Int):=of_decide_eq_true (by first|(with_reducible assumption)|assumption)
             have q189:x7_2<(l0.length:Int):=of_decide_eq_true (by first|(with_reducible assumption)|assumption)
             obtain ⟨ad189,e189,hx189_0,hx189_1,hx189_2,hx189_3⟩:=at_T114 (Kd.V_reads' HO_0.out).2.2 x7_2 p189 q189
             (try rw [← Nbq15.out] at hx189_3)
             cases e189
             replace p189:=eq_true p189
             replace q189:=eq_true q189
             have p190:0≤(x7_2:Int):=of_decide_eq_true (by first|(with_reducible assumption)|assumption)
             have q190:x7_2<(l0.length:Int):=of_decide_eq_true (by first|(with_reducible assumption)|assumption)
             obtain ⟨ad190,e190,hx190_0,hx190_1,hx190_2,hx190_3⟩:=at_T114 (Kd.V_reads' HO_0.out).2.2 x7_2 p190 q190
             (try rw [← Nbq15.out] at hx190_3)
             obtain rfl:ad189=ad190:=(by injection e190)
             replace p190:=eq_true p190
             replace q190:=eq_true q190
             go_wp2_with (first|((with_reducible refine gate_builtin (b:=.append) (xs:=#[.tmp 35,.tmp 40]) rfl ?_);(try (refine gate_guard (by rfl) ?_;dsimp only));at_builtin;refine Kd.R_append k114 (w0:=w) w.heap.size rfl (.tmp 35) (.tmp 40) 64 114 (.agg #[(.int .i64 0),(.int .i64 0),(.int .i64 0),(.bool false)]) 32 rfl Try.underlying64 info114 rfl (by decide) (by omega) u6 x6_2 (⟨(rd_T114 l0 x7_2).f0,(⟨(rd_T114 l0 x7_2).f1.f0,(rd_T114 l0 x7_2).f1.f1⟩:S24),false⟩:S114) [.int .i64 ((rd_T114 l0 x7_2).f0),.int .i64 ((rd_T114 l0 x7_2).f1.f0),.int .i64 ((rd_T114 l0 x7_2).f1.f1),.bool false] (fun k_=>(w.heap.size≤k_)) (fun _=>False) rfl rfl ?aP (fun _ hk=>hk.elim) ?aF ?aO ?aB ?aS ?aL ?_;(case aP=>exact k114_mkM _ _ _ (⟨(rd_T114 l0 x7_2).f0,(⟨(rd_T114 l0 x7_2).f1.f0,(rd_T114 l0 x7_2).f1.f1⟩:S24),false⟩:S114));(case aB=>exact (by repeat (first|(with_reducible first|exact HB.out|apply zG|apply zN|apply zH)|exact HB.out)));(case aF=>exact (fun k_ hk=>(Nat.le_trans (below_size (by repeat (first|(with_reducible first|exact HB.out|apply zG|apply zN|apply zH)|exact HB.out))) hk)));(case aO=>exact (by (with_reducible repeat (first|apply Kd.R_alloc|apply Kd.R_drewN|apply Kd.R_drew));exact HO_6.out));(case aS=>exact (below_size (by repeat (first|(with_reducible first|exact HB.out|apply zG|apply zN|apply zH)|exact HB.out))));(case aL=>have:=LMc17.out;omega);intro v192 w18 ho hb hg hat;rw [← Ny191.out] at ho;have n0_:=Aside0.mk (Kd.V_afterv (ok:=(fun k_=>(P0_ k_∨w.heap.size≤k_))) (by (with_reducible repeat (first|apply Kd.V_alloc|apply Kd.V_drewN|apply Kd.V_drew));exact HO_0.out) hg hat);have n1_:=Aside0.mk (hb);have n2_:=Aside0.mk (ho);clear HO_0;clear HB;clear HO_6;have HO_0:=n0_;have HB:=n1_;have HO193:=n2_;clear n0_ n1_ n2_;clear ho hb hg hat))
             go_roundg k2
             case measure=>have:=HJ2.out;have:=HK2.out;omega
             case rel=>exact ⟨(y191),(wrap64 (x7_2+1)),(by first|rfl|(simp;done)|(simp [*];done)),H',⟨by have:=HJ2.out;have:=HK2.out;omega⟩,⟨by (with_reducible repeat (first|apply Kd.V_alloc|apply Kd.V_drewN|apply Kd.V_drew));exact HO_0.out⟩,⟨by (with_reducible repeat (first|apply Kd.R_alloc|apply Kd.R_drewN|apply Kd.R_drew));exact HO193.out⟩,⟨by repeat (first|(with_reducible first|exact HB.out|apply zG|apply zN|apply zH)|exact HB.out)⟩⟩
            ·
             rw [if_neg c17] at H
             exact absurd H (by simp)
          ·
           rw [if_neg c14] at H
           exact absurd H (by simp)
         ·
          rw [if_neg c13] at H
          have c13b0:decide (x7_2<(l0.length:Int))=false:=decide_eq_false c13
          clear c13
          simp only [Option.some.injEq,Prod.mk.injEq] at H
          obtain ⟨rfl,rfl⟩:=H
          go_wp2
          go_ret2
          exact ⟨_,by first|rfl|(simp [errW_none,errW_some] <;> rfl)|(simp [*,errW_none,errW_some] <;> rfl),Kd.V_mono (Kd.R_V (by (with_reducible repeat (first|apply Kd.R_alloc|apply Kd.R_drewN|apply Kd.R_drew));exact HO_6.out)) (fun k_ hk=>by first|exact ⟨(.inr (hk.1)),hk.2⟩|exact (.inr (hk))),by repeat (first|(with_reducible first|exact HB.out|apply zG|apply zN|apply zH)|exact HB.out)⟩
      ·
       rw [if_neg c8] at H
       exact absurd H (by simp)
     ·
      rw [if_neg c7] at H
      exact absurd H (by simp)
    ·
     rw [if_neg c6] at H
     exact absurd H (by simp)
end Go.Proofs.Ytgnjkegnddekeaa.Q
