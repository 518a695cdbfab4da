/- Words of the printer that this claim uses, cut to these by a program of its author (not as they were printed). -/
import Derived.Test.YtgnjkegnddekeaaYQ0
import Derived.Test.YtgnjkegnddekeaaYQ2
open Bool renaming true → zA, false → zB
set_option maxHeartbeats 8000000
set_option maxRecDepth 100000
open Go.World renaming block_lt_of_cell? → zO
open List renaming setIfInBounds_toArray → zQ, set_cons_zero → zS, set_cons_succ → zT
namespace Go.Proofs.Ytgnjkegnddekeaa.Q
open Go.RowKit Go.Proofs.YtgnjkegnddekeaaW.PrintWords Go.Proofs.YtgnjkegnddekeaaW.PrintLast Go.Proofs.YtgnjkegnddekeaaW.PrintMore
attribute [local go_sem] max2_int min2_int max_two min_two max_three min_three max_four min_four   -- for this text's walks alone
set_option linter.unusedVariables false
set_option linter.unusedSimpArgs false
mutual
def warpbeamref16_Right.l0:Nat→List (S97)→Int→Option (Bool)
 | 0,_,_=>none
 | k+1,x0,x3=>if x3<(x0.length:Int) then (if 0≤x3 then ((warpbeamref16_Fields.f ((rd_T97 x0 x3).f0)).bind fun t142=>(if t142.toList=([]:List UInt8) then (warpbeamref16_Right.j1 k x0 x3 t142 true) else (if 0<(t142.size:Int) then ((warpbeamref16_field.f (bt t142 0) ((rd_T97 x0 x3).f1) (x0.length:Int)).bind fun t144=>(if t144=true then (if 1<(t142.size:Int) then ((warpbeamref16_field.f (bt t142 1) ((rd_T97 x0 x3).f2) (x0.length:Int)).bind fun t146=>(if t146=true then (if 2<(t142.size:Int) then ((warpbeamref16_field.f (bt t142 2) ((rd_T97 x0 x3).f3) (x0.length:Int)).bind fun t148=>(warpbeamref16_Right.j1 k x0 x3 t142 (!t148))) else (none)) else (warpbeamref16_Right.j1 k x0 x3 t142 true))) else (none)) else (warpbeamref16_Right.j1 k x0 x3 t142 true))) else (none)))) else (none)) else (if (x0.length:Int) ≥ 1 then (some (decide ((x0.length:Int)≤200))) else (some false))
def warpbeamref16_Right.j1:Nat→List (S97)→Int→ByteArray→Bool→Option (Bool)
 | 0,_,_,_,_=>none
 | k+1,x0,x3,x4,x57=>if x57=true then (some false) else (if 3<(x4.size:Int) then (if (bt x4 3)=45 then (if 0≤x3 then (if x3<(x0.length:Int) then (if ((rd_T97 x0 x3).f4)=0 then (warpbeamref16_Right.l0 k x0 (wrap64 (x3+1))) else (some false)) else (none)) else (none)) else (warpbeamref16_Right.l0 k x0 (wrap64 (x3+1)))) else (none))
end
def warpbeamref16_Right.f (k:Nat) (l0:List (S97)):Option (Bool):=warpbeamref16_Right.l0 k l0 0
def warpbeamref16_Right.T5:Bool × List (List Nat × List Nat):=(true,[([],[]),([0],[0]),([1],[1]),([2],[2]),([3,2],[2,3]),([2],[2]),([2],[2]),([5,6,2],[2,5,6]),([7,2],[2,7]),([8,2],[2,8]),([2],[2]),([10,2],[2,10]),([4,9,11,2,2],[2,4,9,11]),([12,2],[2,12]),([2,13],[2,13]),([14,12],[14]),([15],[15]),([16,15],[15,16]),([15],[15]),([15],[15]),([18,19,15],[15,18,19]),([20,15],[15,20]),([21,15],[15,21]),([15],[15]),([23,15],[15,23]),([17,22,24,15,15],[15,17,22,24]),([25,15],[15,25]),([15,26],[15,26]),([27,25],[27]),([28],[28]),([29,28],[28,29]),([28],[28]),([28],[28]),([31,32,28],[28,31,32]),([33,28],[28,33]),([34,28],[28,34]),([28],[28]),([36,28],[28,36]),([30,35,37,28,28],[28,30,35,37]),([38,28],[28,38]),([28,39],[28,39])])
def warpbeamref16_Right.B5:List Nat:=[0,1,3,7,15,7,7,103,231,487,7,1031,4095,8191,16383,32767,65535,131071,65535,65535,851967,1900543,3997695,65535,8454143,33554431,67108863,134217727,268435455,536870911,1073741823,536870911,536870911,6979321855,15569256447,32749125631,536870911,69256347647,274877906943,549755813887,1099511627775]
theorem warpbeamref16_Right.tab5:rtab .any (opsOf Try.f33 5)=warpbeamref16_Right.T5:=by kernel_rfl
theorem warpbeamref16_Right.bits5:waitsOk warpbeamref16_Right.T5.2 warpbeamref16_Right.B5=true:=by kernel_rfl
theorem warpbeamref16_Right.calls (k:Nat) (A0:Option Addr) (c0:Nat) (l0:List (S97)) (r:Bool) (w:World) (hr0:Kd.C k97 w A0 l0.length l0) (hc0:l0.length≤c0) (h:warpbeamref16_Right.f k l0=some r) :
  Calls Try.prog 33 #[.slice A0 l0.length c0] w fun e w'=>e=.returned (.bool r)∧Below w.heap.size w w':=by
 have HR0:=Aside0.mk hr0
 have HC0:=Aside0.mk hc0
 clear hr0 hc0
 have HB:=Aside0.mk (Below.refl w.heap.size w)
 have H:(warpbeamref16_Right.l0 k l0 0)=some r:=h
 clear h
 have H':=Aside0.mk H
 clear H
 go_enter Try.func33,Try.ntmps33
 go_wp2
 go_loopg [3] k (fun kq v3 w'=>∃ (x3_1:Int),v3=.int .i64 x3_1∧Aside0 (warpbeamref16_Right.l0 kq l0 x3_1=some r)∧Aside0 (kq≤k)∧Aside0 (Below w.heap.size w w'))
 case atStart=>exact ⟨(0),(by first|rfl|(simp;done)|(simp [*];done)),H',⟨Nat.le_refl _⟩,⟨by repeat (first|(with_reducible first|exact HB.out|apply zG|apply zN|apply zH)|exact HB.out)⟩⟩
 case round =>
  clear H'
  obtain ⟨x3_1,rfl,HA,HK1,HB⟩:=hrel
  cases gk with
  | zero=>exact absurd HA.out (by simp [warpbeamref16_Right.l0])
  | succ k1 =>
   have H:=HA.out
   clear HA
   simp only [warpbeamref16_Right.l0] at H
   by_cases c2:x3_1<(l0.length:Int)
   ·
    rw [if_pos c2] at H
    have c2b0:decide (x3_1<(l0.length:Int))=true:=decide_eq_true c2
    clear c2
    by_cases c3:0≤x3_1
    ·
     rw [if_pos c3] at H
     have c3b0:decide (0≤x3_1)=true:=decide_eq_true c3
     clear c3
     replace H:=Option.bind_eq_some_iff.mp H
     obtain ⟨t142,A40,H⟩:=H
     replace H:(if t142.toList=([]:List UInt8) then (warpbeamref16_Right.j1 k1 l0 x3_1 t142 true) else (if 0<(t142.size:Int) then ((warpbeamref16_field.f (bt t142 0) ((rd_T97 l0 x3_1).f1) (l0.length:Int)).bind fun t144=>(if t144=true then (if 1<(t142.size:Int) then ((warpbeamref16_field.f (bt t142 1) ((rd_T97 l0 x3_1).f2) (l0.length:Int)).bind fun t146=>(if t146=true then (if 2<(t142.size:Int) then ((warpbeamref16_field.f (bt t142 2) ((rd_T97 l0 x3_1).f3) (l0.length:Int)).bind fun t148=>(warpbeamref16_Right.j1 k1 l0 x3_1 t142 (!t148))) else (none)) else (warpbeamref16_Right.j1 k1 l0 x3_1 t142 true))) else (none)) else (warpbeamref16_Right.j1 k1 l0 x3_1 t142 true))) else (none)))=some r:=H
     have A4:=Aside0.mk A40
     clear A40
     have HC5:=Aside0.mk H
     clear H
     have p141:0≤(x3_1:Int):=of_decide_eq_true (by first|(with_reducible assumption)|assumption)
     have q141:x3_1<(l0.length:Int):=of_decide_eq_true (by first|(with_reducible assumption)|assumption)
     obtain ⟨ad141,e141,hx141_0,hx141_1,hx141_2,hx141_3,hx141_4⟩:=at_T97 HR0.out x3_1 p141 q141
     cases e141
     replace hx141_0:=(HB.out.cell (zO w _ hx141_0)).trans hx141_0
     replace hx141_1:=(HB.out.cell (zO w _ hx141_1)).trans hx141_1
     replace hx141_2:=(HB.out.cell (zO w _ hx141_2)).trans hx141_2
     replace hx141_3:=(HB.out.cell (zO w _ hx141_3)).trans hx141_3
     replace hx141_4:=(HB.out.cell (zO w _ hx141_4)).trans hx141_4
     replace p141:=eq_true p141
     replace q141:=eq_true q141
     go_upto_region 5 with (first|((with_reducible refine gate_callee (f:=55) rfl ?_);refine goesL_ (some 16) rfl rfl Try.func55 (by kernel_rfl) rfl #[.int .i64 ((rd_T97 l0 x3_1).f0)] rfl (by (try simp only [List.map_toArray,List.map_cons,List.map_nil]);first|done|rfl|(simp only [List.length_drop,List.length_take];rfl)) ?_;(with_reducible refine (warpbeamref16_Fields.calls ((rd_T97 l0 x3_1).f0) t142 _ A4.out).mono ?_);rintro e w6 ⟨rfl,hb⟩;refine ⟨_,rfl,?_⟩;have n0_:=Aside0.mk (below_step (by repeat (first|(with_reducible first|exact HB.out|apply zG|apply zN|apply zH)|exact HB.out)) hb);clear HB;have HB:=n0_;clear n0_;(try clear hb);(try clear hb2);(try clear hk);(try clear hi)))
     (try simp only [Act.put,zQ,zS,zT])
     go_cut [57] (fun v57 wc=>∃ (kq:Nat) (x57_4:Bool),v57=.bool x57_4∧Aside0 (warpbeamref16_Right.j1 kq l0 x3_1 t142 x57_4=some r)∧Aside0 (kq≤k1)∧Aside0 (Below w.heap.size w wc))
     case first =>
      have H:=HC5.out
      clear HC5
      by_cases c7:t142.toList=([]:List UInt8)
      ·
       rw [if_pos c7] at H
       have c7b0:(t142.toList==([]:List UInt8))=true:=beq_iff_eq.mpr c7
       have c7b1:(t142.toList != ([]:List UInt8))=false:=bne_eq_false_iff_eq.mpr c7
       clear c7
       (first|rw [c7b0]|(simp only [i64_w,i32_w];rw [c7b0])|skip)
       have H':=Aside0.mk H
       clear H
       try go_wp2
       have n0_:=Aside0.mk (zH HB.out)
       clear HB
       have HB:=n0_
       clear n0_
       refine start_ (n:=41) (S:=fun w'=>True) (ds:=[]) #[zB,zB,zB,zB,zB,zB,zB,zB,zB,zB,zB,zB,zB,zB,zB,zB,zB,zB,zB,zB,zB,zB,zB,zB,zB,zB,zB,zB,zB,zB,zB,zB,zB,zB,zB,zB,zB,zB,zB,zB,zB] (by kernel_rfl) rfl rfl trivial (fun hHeld=>?_);refine with_tabW warpbeamref16_Right.tab5 warpbeamref16_Right.bits5 (fun HT_ HW_=>?_)
       generalize w6.drew=w8 at HB hHeld ⊢
       refine pure_ (i:=0) (N:=some 17) (v:=?_) (a':=?_) #[zA,zB,zB,zB,zB,zB,zB,zB,zB,zB,zB,zB,zB,zB,zB,zB,zB,zB,zB,zB,zB,zB,zB,zB,zB,zB,zB,zB,zB,zB,zB,zB,zB,zB,zB,zB,zB,zB,zB,zB,zB] rfl rfl (any_of HT_.out (by kernel_rfl)) (fun _ _ _ h=>h) (Or.inl ⟨by rfl,?_⟩) ?_ ?_
       rotate_left
       ·
        intro w'
        go_simp
        with_reducible rfl
       rotate_left
       ·
        simp only [Act.put,zQ,zS,zT,i64_w,i32_w]
        rfl
       refine pure_ (i:=1) (N:=some 18) (v:=?_) (a':=?_) #[zA,zA,zB,zB,zB,zB,zB,zB,zB,zB,zB,zB,zB,zB,zB,zB,zB,zB,zB,zB,zB,zB,zB,zB,zB,zB,zB,zB,zB,zB,zB,zB,zB,zB,zB,zB,zB,zB,zB,zB,zB] rfl rfl (any_of HT_.out (by kernel_rfl)) (fun _ _ _ h=>h) (Or.inl ⟨by rfl,?_⟩) ?_ ?_
       rotate_left
       ·
        intro w'
        go_simp
        with_reducible rfl
       rotate_left
       ·
        simp only [Act.put,zQ,zS,zT,i64_w,i32_w]
        rfl
       refine pure_ (i:=2) (N:=some 19) (v:=?_) (a':=?_) #[zA,zA,zA,zB,zB,zB,zB,zB,zB,zB,zB,zB,zB,zB,zB,zB,zB,zB,zB,zB,zB,zB,zB,zB,zB,zB,zB,zB,zB,zB,zB,zB,zB,zB,zB,zB,zB,zB,zB,zB,zB] rfl rfl (any_of HT_.out (by kernel_rfl)) (fun _ _ _ h=>h) (Or.inl ⟨by rfl,?_⟩) ?_ ?_
       rotate_left
       ·
        intro w'
        go_simp
        with_reducible rfl
       rotate_left
       ·
        simp only [Act.put,zQ,zS,zT,i64_w,i32_w]
        rfl
       refine pure_ (i:=3) (N:=some 20) (v:=undef) (a':=?_) #[zA,zA,zA,zA,zB,zB,zB,zB,zB,zB,zB,zB,zB,zB,zB,zB,zB,zB,zB,zB,zB,zB,zB,zB,zB,zB,zB,zB,zB,zB,zB,zB,zB,zB,zB,zB,zB,zB,zB,zB,zB] rfl rfl (any_of HT_.out (by kernel_rfl)) (fun _ _ _ h=>h) (Or.inr ⟨by rfl,rfl⟩) ?_ ?_
       rotate_left
       ·
        simp only [Act.put,zQ,zS,zT,i64_w,i32_w]
        rfl
       refine pure_ (i:=4) (N:=some 21) (v:=undef) (a':=?_) #[zA,zA,zA,zA,zA,zB,zB,zB,zB,zB,zB,zB,zB,zB,zB,zB,zB,zB,zB,zB,zB,zB,zB,zB,zB,zB,zB,zB,zB,zB,zB,zB,zB,zB,zB,zB,zB,zB,zB,zB,zB] rfl rfl (any_of HT_.out (by kernel_rfl)) (fun _ _ _ h=>h) (Or.inr ⟨by rfl,rfl⟩) ?_ ?_
       rotate_left
       ·
        simp only [Act.put,zQ,zS,zT,i64_w,i32_w]
        rfl
       refine pure_ (i:=5) (N:=some 22) (v:=undef) (a':=?_) #[zA,zA,zA,zA,zA,zA,zB,zB,zB,zB,zB,zB,zB,zB,zB,zB,zB,zB,zB,zB,zB,zB,zB,zB,zB,zB,zB,zB,zB,zB,zB,zB,zB,zB,zB,zB,zB,zB,zB,zB,zB] rfl rfl (any_of HT_.out (by kernel_rfl)) (fun _ _ _ h=>h) (Or.inr ⟨by rfl,rfl⟩) ?_ ?_
       rotate_left
       ·
        simp only [Act.put,zQ,zS,zT,i64_w,i32_w]
        rfl
       refine pure_ (i:=6) (N:=some 23) (v:=undef) (a':=?_) #[zA,zA,zA,zA,zA,zA,zA,zB,zB,zB,zB,zB,zB,zB,zB,zB,zB,zB,zB,zB,zB,zB,zB,zB,zB,zB,zB,zB,zB,zB,zB,zB,zB,zB,zB,zB,zB,zB,zB,zB,zB] rfl rfl (any_of HT_.out (by kernel_rfl)) (fun _ _ _ h=>h) (Or.inr ⟨by rfl,rfl⟩) ?_ ?_
       rotate_left
       ·
        simp only [Act.put,zQ,zS,zT,i64_w,i32_w]
        rfl
       refine pure_ (i:=7) (N:=some 24) (v:=undef) (a':=?_) #[zA,zA,zA,zA,zA,zA,zA,zA,zB,zB,zB,zB,zB,zB,zB,zB,zB,zB,zB,zB,zB,zB,zB,zB,zB,zB,zB,zB,zB,zB,zB,zB,zB,zB,zB,zB,zB,zB,zB,zB,zB] rfl rfl (any_of HT_.out (by kernel_rfl)) (fun _ _ _ h=>h) (Or.inr ⟨by rfl,rfl⟩) ?_ ?_
       rotate_left
       ·
        simp only [Act.put,zQ,zS,zT,i64_w,i32_w]
        rfl
       refine pure_ (i:=8) (N:=some 25) (v:=undef) (a':=?_) #[zA,zA,zA,zA,zA,zA,zA,zA,zA,zB,zB,zB,zB,zB,zB,zB,zB,zB,zB,zB,zB,zB,zB,zB,zB,zB,zB,zB,zB,zB,zB,zB,zB,zB,zB,zB,zB,zB,zB,zB,zB] rfl rfl (any_of HT_.out (by kernel_rfl)) (fun _ _ _ h=>h) (Or.inr ⟨by rfl,rfl⟩) ?_ ?_
       rotate_left
       ·
        simp only [Act.put,zQ,zS,zT,i64_w,i32_w]
        rfl
       refine pure_ (i:=9) (N:=some 26) (v:=undef) (a':=?_) #[zA,zA,zA,zA,zA,zA,zA,zA,zA,zA,zB,zB,zB,zB,zB,zB,zB,zB,zB,zB,zB,zB,zB,zB,zB,zB,zB,zB,zB,zB,zB,zB,zB,zB,zB,zB,zB,zB,zB,zB,zB] rfl rfl (any_of HT_.out (by kernel_rfl)) (fun _ _ _ h=>h) (Or.inr ⟨by rfl,rfl⟩) ?_ ?_
       rotate_left
       ·
        simp only [Act.put,zQ,zS,zT,i64_w,i32_w]
        rfl
       refine pure_ (i:=10) (N:=some 27) (v:=undef) (a':=?_) #[zA,zA,zA,zA,zA,zA,zA,zA,zA,zA,zA,zB,zB,zB,zB,zB,zB,zB,zB,zB,zB,zB,zB,zB,zB,zB,zB,zB,zB,zB,zB,zB,zB,zB,zB,zB,zB,zB,zB,zB,zB] rfl rfl (any_of HT_.out (by kernel_rfl)) (fun _ _ _ h=>h) (Or.inr ⟨by rfl,rfl⟩) ?_ ?_
       rotate_left
       ·
        simp only [Act.put,zQ,zS,zT,i64_w,i32_w]
        rfl
       refine pure_ (i:=11) (N:=some 28) (v:=undef) (a':=?_) #[zA,zA,zA,zA,zA,zA,zA,zA,zA,zA,zA,zA,zB,zB,zB,zB,zB,zB,zB,zB,zB,zB,zB,zB,zB,zB,zB,zB,zB,zB,zB,zB,zB,zB,zB,zB,zB,zB,zB,zB,zB] rfl rfl (any_of HT_.out (by kernel_rfl)) (fun _ _ _ h=>h) (Or.inr ⟨by rfl,rfl⟩) ?_ ?_
       rotate_left
       ·
        simp only [Act.put,zQ,zS,zT,i64_w,i32_w]
        rfl
       refine pure_ (i:=12) (N:=some 29) (v:=undef) (a':=?_) #[zA,zA,zA,zA,zA,zA,zA,zA,zA,zA,zA,zA,zA,zB,zB,zB,zB,zB,zB,zB,zB,zB,zB,zB,zB,zB,zB,zB,zB,zB,zB,zB,zB,zB,zB,zB,zB,zB,zB,zB,zB] rfl rfl (any_of HT_.out (by kernel_rfl)) (fun _ _ _ h=>h) (Or.inr ⟨by rfl,rfl⟩) ?_ ?_
       rotate_left
       ·
        simp only [Act.put,zQ,zS,zT,i64_w,i32_w]
        rfl
       refine pure_ (i:=13) (N:=some 30) (v:=undef) (a':=?_) #[zA,zA,zA,zA,zA,zA,zA,zA,zA,zA,zA,zA,zA,zA,zB,zB,zB,zB,zB,zB,zB,zB,zB,zB,zB,zB,zB,zB,zB,zB,zB,zB,zB,zB,zB,zB,zB,zB,zB,zB,zB] rfl rfl (any_of HT_.out (by kernel_rfl)) (fun _ _ _ h=>h) (Or.inr ⟨by rfl,rfl⟩) ?_ ?_
       rotate_left
       ·
        simp only [Act.put,zQ,zS,zT,i64_w,i32_w]
        rfl
       refine pure_ (i:=14) (N:=some 31) (v:=?_) (a':=?_) #[zA,zA,zA,zA,zA,zA,zA,zA,zA,zA,zA,zA,zA,zA,zA,zB,zB,zB,zB,zB,zB,zB,zB,zB,zB,zB,zB,zB,zB,zB,zB,zB,zB,zB,zB,zB,zB,zB,zB,zB,zB] rfl rfl (any_of HT_.out (by kernel_rfl)) (fun _ _ _ h=>h) (Or.inl ⟨by rfl,?_⟩) ?_ ?_
       rotate_left
       ·
        intro w'
        go_simp
        with_reducible rfl
       rotate_left
       ·
        simp only [Act.put,zQ,zS,zT,i64_w,i32_w]
        rfl
       refine pure_ (i:=15) (N:=some 32) (v:=?_) (a':=?_) #[zA,zA,zA,zA,zA,zA,zA,zA,zA,zA,zA,zA,zA,zA,zA,zA,zB,zB,zB,zB,zB,zB,zB,zB,zB,zB,zB,zB,zB,zB,zB,zB,zB,zB,zB,zB,zB,zB,zB,zB,zB] rfl rfl (any_of HT_.out (by kernel_rfl)) (fun _ _ _ h=>h) (Or.inl ⟨by rfl,?_⟩) ?_ ?_
       rotate_left
       ·
        intro w'
        go_simp
        with_reducible rfl
       rotate_left
       ·
        simp only [Act.put,zQ,zS,zT,i64_w,i32_w]
        rfl
       refine pure_ (i:=16) (N:=some 33) (v:=undef) (a':=?_) #[zA,zA,zA,zA,zA,zA,zA,zA,zA,zA,zA,zA,zA,zA,zA,zA,zA,zB,zB,zB,zB,zB,zB,zB,zB,zB,zB,zB,zB,zB,zB,zB,zB,zB,zB,zB,zB,zB,zB,zB,zB] rfl rfl (any_of HT_.out (by kernel_rfl)) (fun _ _ _ h=>h) (Or.inr ⟨by rfl,rfl⟩) ?_ ?_
       rotate_left
       ·
        simp only [Act.put,zQ,zS,zT,i64_w,i32_w]
        rfl
       refine pure_ (i:=17) (N:=some 34) (v:=undef) (a':=?_) #[zA,zA,zA,zA,zA,zA,zA,zA,zA,zA,zA,zA,zA,zA,zA,zA,zA,zA,zB,zB,zB,zB,zB,zB,zB,zB,zB,zB,zB,zB,zB,zB,zB,zB,zB,zB,zB,zB,zB,zB,zB] rfl rfl (any_of HT_.out (by kernel_rfl)) (fun _ _ _ h=>h) (Or.inr ⟨by rfl,rfl⟩) ?_ ?_
       rotate_left
       ·
        simp only [Act.put,zQ,zS,zT,i64_w,i32_w]
        rfl
       refine pure_ (i:=18) (N:=some 35) (v:=undef) (a':=?_) #[zA,zA,zA,zA,zA,zA,zA,zA,zA,zA,zA,zA,zA,zA,zA,zA,zA,zA,zA,zB,zB,zB,zB,zB,zB,zB,zB,zB,zB,zB,zB,zB,zB,zB,zB,zB,zB,zB,zB,zB,zB] rfl rfl (any_of HT_.out (by kernel_rfl)) (fun _ _ _ h=>h) (Or.inr ⟨by rfl,rfl⟩) ?_ ?_
       rotate_left
       ·
        simp only [Act.put,zQ,zS,zT,i64_w,i32_w]
        rfl
       refine pure_ (i:=19) (N:=some 36) (v:=undef) (a':=?_) #[zA,zA,zA,zA,zA,zA,zA,zA,zA,zA,zA,zA,zA,zA,zA,zA,zA,zA,zA,zA,zB,zB,zB,zB,zB,zB,zB,zB,zB,zB,zB,zB,zB,zB,zB,zB,zB,zB,zB,zB,zB] rfl rfl (any_of HT_.out (by kernel_rfl)) (fun _ _ _ h=>h) (Or.inr ⟨by rfl,rfl⟩) ?_ ?_
       rotate_left
       ·
        simp only [Act.put,zQ,zS,zT,i64_w,i32_w]
        rfl
       refine pure_ (i:=20) (N:=some 37) (v:=undef) (a':=?_) #[zA,zA,zA,zA,zA,zA,zA,zA,zA,zA,zA,zA,zA,zA,zA,zA,zA,zA,zA,zA,zA,zB,zB,zB,zB,zB,zB,zB,zB,zB,zB,zB,zB,zB,zB,zB,zB,zB,zB,zB,zB] rfl rfl (any_of HT_.out (by kernel_rfl)) (fun _ _ _ h=>h) (Or.inr ⟨by rfl,rfl⟩) ?_ ?_
       rotate_left
       ·
        simp only [Act.put,zQ,zS,zT,i64_w,i32_w]
        rfl
       refine pure_ (i:=21) (N:=some 38) (v:=undef) (a':=?_) #[zA,zA,zA,zA,zA,zA,zA,zA,zA,zA,zA,zA,zA,zA,zA,zA,zA,zA,zA,zA,zA,zA,zB,zB,zB,zB,zB,zB,zB,zB,zB,zB,zB,zB,zB,zB,zB,zB,zB,zB,zB] rfl rfl (any_of HT_.out (by kernel_rfl)) (fun _ _ _ h=>h) (Or.inr ⟨by rfl,rfl⟩) ?_ ?_
       rotate_left
       ·
        simp only [Act.put,zQ,zS,zT,i64_w,i32_w]
        rfl
       refine pure_ (i:=22) (N:=some 39) (v:=undef) (a':=?_) #[zA,zA,zA,zA,zA,zA,zA,zA,zA,zA,zA,zA,zA,zA,zA,zA,zA,zA,zA,zA,zA,zA,zA,zB,zB,zB,zB,zB,zB,zB,zB,zB,zB,zB,zB,zB,zB,zB,zB,zB,zB] rfl rfl (any_of HT_.out (by kernel_rfl)) (fun _ _ _ h=>h) (Or.inr ⟨by rfl,rfl⟩) ?_ ?_
       rotate_left
       ·
        simp only [Act.put,zQ,zS,zT,i64_w,i32_w]
        rfl
       refine pure_ (i:=23) (N:=some 40) (v:=undef) (a':=?_) #[zA,zA,zA,zA,zA,zA,zA,zA,zA,zA,zA,zA,zA,zA,zA,zA,zA,zA,zA,zA,zA,zA,zA,zA,zB,zB,zB,zB,zB,zB,zB,zB,zB,zB,zB,zB,zB,zB,zB,zB,zB] rfl rfl (any_of HT_.out (by kernel_rfl)) (fun _ _ _ h=>h) (Or.inr ⟨by rfl,rfl⟩) ?_ ?_
       rotate_left
       ·
        simp only [Act.put,zQ,zS,zT,i64_w,i32_w]
        rfl
       refine pure_ (i:=24) (N:=some 41) (v:=undef) (a':=?_) #[zA,zA,zA,zA,zA,zA,zA,zA,zA,zA,zA,zA,zA,zA,zA,zA,zA,zA,zA,zA,zA,zA,zA,zA,zA,zB,zB,zB,zB,zB,zB,zB,zB,zB,zB,zB,zB,zB,zB,zB,zB] rfl rfl (any_of HT_.out (by kernel_rfl)) (fun _ _ _ h=>h) (Or.inr ⟨by rfl,rfl⟩) ?_ ?_
       rotate_left
       ·
        simp only [Act.put,zQ,zS,zT,i64_w,i32_w]
        rfl
       refine pure_ (i:=25) (N:=some 42) (v:=undef) (a':=?_) #[zA,zA,zA,zA,zA,zA,zA,zA,zA,zA,zA,zA,zA,zA,zA,zA,zA,zA,zA,zA,zA,zA,zA,zA,zA,zA,zB,zB,zB,zB,zB,zB,zB,zB,zB,zB,zB,zB,zB,zB,zB] rfl rfl (any_of HT_.out (by kernel_rfl)) (fun _ _ _ h=>h) (Or.inr ⟨by rfl,rfl⟩) ?_ ?_
       rotate_left
       ·
        simp only [Act.put,zQ,zS,zT,i64_w,i32_w]
        rfl
       refine pure_ (i:=26) (N:=some 43) (v:=undef) (a':=?_) #[zA,zA,zA,zA,zA,zA,zA,zA,zA,zA,zA,zA,zA,zA,zA,zA,zA,zA,zA,zA,zA,zA,zA,zA,zA,zA,zA,zB,zB,zB,zB,zB,zB,zB,zB,zB,zB,zB,zB,zB,zB] rfl rfl (any_of HT_.out (by kernel_rfl)) (fun _ _ _ h=>h) (Or.inr ⟨by rfl,rfl⟩) ?_ ?_
       rotate_left
       ·
        simp only [Act.put,zQ,zS,zT,i64_w,i32_w]
        rfl
       refine pure_ (i:=27) (N:=some 44) (v:=?_) (a':=?_) #[zA,zA,zA,zA,zA,zA,zA,zA,zA,zA,zA,zA,zA,zA,zA,zA,zA,zA,zA,zA,zA,zA,zA,zA,zA,zA,zA,zA,zB,zB,zB,zB,zB,zB,zB,zB,zB,zB,zB,zB,zB] rfl rfl (any_of HT_.out (by kernel_rfl)) (fun _ _ _ h=>h) (Or.inl ⟨by rfl,?_⟩) ?_ ?_
       rotate_left
       ·
        intro w'
        go_simp
        with_reducible rfl
       rotate_left
       ·
        simp only [Act.put,zQ,zS,zT,i64_w,i32_w]
        rfl
       refine pure_ (i:=28) (N:=some 45) (v:=?_) (a':=?_) #[zA,zA,zA,zA,zA,zA,zA,zA,zA,zA,zA,zA,zA,zA,zA,zA,zA,zA,zA,zA,zA,zA,zA,zA,zA,zA,zA,zA,zA,zB,zB,zB,zB,zB,zB,zB,zB,zB,zB,zB,zB] rfl rfl (any_of HT_.out (by kernel_rfl)) (fun _ _ _ h=>h) (Or.inl ⟨by rfl,?_⟩) ?_ ?_
       rotate_left
       ·
        intro w'
        go_simp
        with_reducible rfl
       rotate_left
       ·
        simp only [Act.put,zQ,zS,zT,i64_w,i32_w]
        rfl
       refine pure_ (i:=29) (N:=some 46) (v:=undef) (a':=?_) #[zA,zA,zA,zA,zA,zA,zA,zA,zA,zA,zA,zA,zA,zA,zA,zA,zA,zA,zA,zA,zA,zA,zA,zA,zA,zA,zA,zA,zA,zA,zB,zB,zB,zB,zB,zB,zB,zB,zB,zB,zB] rfl rfl (any_of HT_.out (by kernel_rfl)) (fun _ _ _ h=>h) (Or.inr ⟨by rfl,rfl⟩) ?_ ?_
       rotate_left
       ·
        simp only [Act.put,zQ,zS,zT,i64_w,i32_w]
        rfl
       refine pure_ (i:=30) (N:=some 47) (v:=undef) (a':=?_) #[zA,zA,zA,zA,zA,zA,zA,zA,zA,zA,zA,zA,zA,zA,zA,zA,zA,zA,zA,zA,zA,zA,zA,zA,zA,zA,zA,zA,zA,zA,zA,zB,zB,zB,zB,zB,zB,zB,zB,zB,zB] rfl rfl (any_of HT_.out (by kernel_rfl)) (fun _ _ _ h=>h) (Or.inr ⟨by rfl,rfl⟩) ?_ ?_
       rotate_left
       ·
        simp only [Act.put,zQ,zS,zT,i64_w,i32_w]
        rfl
       refine pure_ (i:=31) (N:=some 48) (v:=undef) (a':=?_) #[zA,zA,zA,zA,zA,zA,zA,zA,zA,zA,zA,zA,zA,zA,zA,zA,zA,zA,zA,zA,zA,zA,zA,zA,zA,zA,zA,zA,zA,zA,zA,zA,zB,zB,zB,zB,zB,zB,zB,zB,zB] rfl rfl (any_of HT_.out (by kernel_rfl)) (fun _ _ _ h=>h) (Or.inr ⟨by rfl,rfl⟩) ?_ ?_
       rotate_left
       ·
        simp only [Act.put,zQ,zS,zT,i64_w,i32_w]
        rfl
       refine pure_ (i:=32) (N:=some 49) (v:=undef) (a':=?_) #[zA,zA,zA,zA,zA,zA,zA,zA,zA,zA,zA,zA,zA,zA,zA,zA,zA,zA,zA,zA,zA,zA,zA,zA,zA,zA,zA,zA,zA,zA,zA,zA,zA,zB,zB,zB,zB,zB,zB,zB,zB] rfl rfl (any_of HT_.out (by kernel_rfl)) (fun _ _ _ h=>h) (Or.inr ⟨by rfl,rfl⟩) ?_ ?_
       rotate_left
       ·
        simp only [Act.put,zQ,zS,zT,i64_w,i32_w]
        rfl
       refine pure_ (i:=33) (N:=some 50) (v:=undef) (a':=?_) #[zA,zA,zA,zA,zA,zA,zA,zA,zA,zA,zA,zA,zA,zA,zA,zA,zA,zA,zA,zA,zA,zA,zA,zA,zA,zA,zA,zA,zA,zA,zA,zA,zA,zA,zB,zB,zB,zB,zB,zB,zB] rfl rfl (any_of HT_.out (by kernel_rfl)) (fun _ _ _ h=>h) (Or.inr ⟨by rfl,rfl⟩) ?_ ?_
       rotate_left
       ·
        simp only [Act.put,zQ,zS,zT,i64_w,i32_w]
        rfl
       refine pure_ (i:=34) (N:=some 51) (v:=undef) (a':=?_) #[zA,zA,zA,zA,zA,zA,zA,zA,zA,zA,zA,zA,zA,zA,zA,zA,zA,zA,zA,zA,zA,zA,zA,zA,zA,zA,zA,zA,zA,zA,zA,zA,zA,zA,zA,zB,zB,zB,zB,zB,zB] rfl rfl (any_of HT_.out (by kernel_rfl)) (fun _ _ _ h=>h) (Or.inr ⟨by rfl,rfl⟩) ?_ ?_
       rotate_left
       ·
        simp only [Act.put,zQ,zS,zT,i64_w,i32_w]
        rfl
       refine pure_ (i:=35) (N:=some 52) (v:=undef) (a':=?_) #[zA,zA,zA,zA,zA,zA,zA,zA,zA,zA,zA,zA,zA,zA,zA,zA,zA,zA,zA,zA,zA,zA,zA,zA,zA,zA,zA,zA,zA,zA,zA,zA,zA,zA,zA,zA,zB,zB,zB,zB,zB] rfl rfl (any_of HT_.out (by kernel_rfl)) (fun _ _ _ h=>h) (Or.inr ⟨by rfl,rfl⟩) ?_ ?_
       rotate_left
       ·
        simp only [Act.put,zQ,zS,zT,i64_w,i32_w]
        rfl
       refine pure_ (i:=36) (N:=some 53) (v:=undef) (a':=?_) #[zA,zA,zA,zA,zA,zA,zA,zA,zA,zA,zA,zA,zA,zA,zA,zA,zA,zA,zA,zA,zA,zA,zA,zA,zA,zA,zA,zA,zA,zA,zA,zA,zA,zA,zA,zA,zA,zB,zB,zB,zB] rfl rfl (any_of HT_.out (by kernel_rfl)) (fun _ _ _ h=>h) (Or.inr ⟨by rfl,rfl⟩) ?_ ?_
       rotate_left
       ·
        simp only [Act.put,zQ,zS,zT,i64_w,i32_w]
        rfl
       refine pure_ (i:=37) (N:=some 54) (v:=undef) (a':=?_) #[zA,zA,zA,zA,zA,zA,zA,zA,zA,zA,zA,zA,zA,zA,zA,zA,zA,zA,zA,zA,zA,zA,zA,zA,zA,zA,zA,zA,zA,zA,zA,zA,zA,zA,zA,zA,zA,zA,zB,zB,zB] rfl rfl (any_of HT_.out (by kernel_rfl)) (fun _ _ _ h=>h) (Or.inr ⟨by rfl,rfl⟩) ?_ ?_
       rotate_left
       ·
        simp only [Act.put,zQ,zS,zT,i64_w,i32_w]
        rfl
       refine pure_ (i:=38) (N:=some 55) (v:=undef) (a':=?_) #[zA,zA,zA,zA,zA,zA,zA,zA,zA,zA,zA,zA,zA,zA,zA,zA,zA,zA,zA,zA,zA,zA,zA,zA,zA,zA,zA,zA,zA,zA,zA,zA,zA,zA,zA,zA,zA,zA,zA,zB,zB] rfl rfl (any_of HT_.out (by kernel_rfl)) (fun _ _ _ h=>h) (Or.inr ⟨by rfl,rfl⟩) ?_ ?_
       rotate_left
       ·
        simp only [Act.put,zQ,zS,zT,i64_w,i32_w]
        rfl
       refine pure_ (i:=39) (N:=some 56) (v:=undef) (a':=?_) #[zA,zA,zA,zA,zA,zA,zA,zA,zA,zA,zA,zA,zA,zA,zA,zA,zA,zA,zA,zA,zA,zA,zA,zA,zA,zA,zA,zA,zA,zA,zA,zA,zA,zA,zA,zA,zA,zA,zA,zA,zB] rfl rfl (any_of HT_.out (by kernel_rfl)) (fun _ _ _ h=>h) (Or.inr ⟨by rfl,rfl⟩) ?_ ?_
       rotate_left
       ·
        simp only [Act.put,zQ,zS,zT,i64_w,i32_w]
        rfl
       refine pure_ (i:=40) (N:=some 57) (v:=?_) (a':=?_) #[zA,zA,zA,zA,zA,zA,zA,zA,zA,zA,zA,zA,zA,zA,zA,zA,zA,zA,zA,zA,zA,zA,zA,zA,zA,zA,zA,zA,zA,zA,zA,zA,zA,zA,zA,zA,zA,zA,zA,zA,zA] rfl rfl (any_of HT_.out (by kernel_rfl)) (fun _ _ _ h=>h) (Or.inl ⟨by rfl,?_⟩) ?_ ?_
       rotate_left
       ·
        intro w'
        go_simp
        with_reducible rfl
       rotate_left
       ·
        simp only [Act.put,zQ,zS,zT,i64_w,i32_w]
        rfl
       refine done_ (done_of HT_.out (by kernel_rfl)) ?_
       try go_wp2
       go_meet
       case rel=>exact ⟨_,(true),(by first|rfl|(simp;done)|(simp [*];done)),H',⟨by have:=HK1.out;first|omega|exact Nat.le_refl _⟩,⟨by repeat (first|(with_reducible first|exact HB.out|apply zG|apply zN|apply zH)|exact HB.out)⟩⟩
      ·
       rw [if_neg c7] at H
       have c7b0:(t142.toList==([]:List UInt8))=false:=beq_eq_false_iff_ne.mpr c7
       have c7b1:(t142.toList != ([]:List UInt8))=true:=bne_iff_ne.mpr c7
       (first|rw [c7b0]|(simp only [i64_w,i32_w];rw [c7b0])|skip)
       by_cases c9:0<(t142.size:Int)
       ·
        rw [if_pos c9] at H
        have c9b0:decide (0<(t142.size:Int))=true:=decide_eq_true c9
        have c9b1:decide (0<t142.size)=true:=decide_eq_true (by omega)
        clear c9
        replace H:=Option.bind_eq_some_iff.mp H
        obtain ⟨t144,A110,H⟩:=H
        replace H:(if t144=true then (if 1<(t142.size:Int) then ((warpbeamref16_field.f (bt t142 1) ((rd_T97 l0 x3_1).f2) (l0.length:Int)).bind fun t146=>(if t146=true then (if 2<(t142.size:Int) then ((warpbeamref16_field.f (bt t142 2) ((rd_T97 l0 x3_1).f3) (l0.length:Int)).bind fun t148=>(warpbeamref16_Right.j1 k1 l0 x3_1 t142 (!t148))) else (none)) else (warpbeamref16_Right.j1 k1 l0 x3_1 t142 true))) else (none)) else (warpbeamref16_Right.j1 k1 l0 x3_1 t142 true))=some r:=H
        have A11:=Aside0.mk A110
        clear A110
        by_cases c12:t144=true
        ·
         subst c12
         have H1:(if 1<(t142.size:Int) then ((warpbeamref16_field.f (bt t142 1) ((rd_T97 l0 x3_1).f2) (l0.length:Int)).bind fun t146=>(if t146=true then (if 2<(t142.size:Int) then ((warpbeamref16_field.f (bt t142 2) ((rd_T97 l0 x3_1).f3) (l0.length:Int)).bind fun t148=>(warpbeamref16_Right.j1 k1 l0 x3_1 t142 (!t148))) else (none)) else (warpbeamref16_Right.j1 k1 l0 x3_1 t142 true))) else (none))=some r:=by rw [if_pos rfl] at H;exact H
         clear H
         have H:=H1
         clear H1
         by_cases c13:1<(t142.size:Int)
         ·
          rw [if_pos c13] at H
          have c13b0:decide (1<(t142.size:Int))=true:=decide_eq_true c13
          have c13b1:decide (1<t142.size)=true:=decide_eq_true (by omega)
          clear c13
          replace H:=Option.bind_eq_some_iff.mp H
          obtain ⟨t146,A150,H⟩:=H
          replace H:(if t146=true then (if 2<(t142.size:Int) then ((warpbeamref16_field.f (bt t142 2) ((rd_T97 l0 x3_1).f3) (l0.length:Int)).bind fun t148=>(warpbeamref16_Right.j1 k1 l0 x3_1 t142 (!t148))) else (none)) else (warpbeamref16_Right.j1 k1 l0 x3_1 t142 true))=some r:=H
          have A15:=Aside0.mk A150
          clear A150
          by_cases c16:t146=true
          ·
           subst c16
           have H1:(if 2<(t142.size:Int) then ((warpbeamref16_field.f (bt t142 2) ((rd_T97 l0 x3_1).f3) (l0.length:Int)).bind fun t148=>(warpbeamref16_Right.j1 k1 l0 x3_1 t142 (!t148))) else (none))=some r:=by rw [if_pos rfl] at H;exact H
           clear H
           have H:=H1
           clear H1
           by_cases c17:2<(t142.size:Int)
           ·
            rw [if_pos c17] at H
            have c17b0:decide (2<(t142.size:Int))=true:=decide_eq_true c17
            have c17b1:decide (2<t142.size)=true:=decide_eq_true (by omega)
            clear c17
            replace H:=Option.bind_eq_some_iff.mp H
            obtain ⟨t148,A190,H⟩:=H
            replace H:(warpbeamref16_Right.j1 k1 l0 x3_1 t142 (!t148))=some r:=H
            have A19:=Aside0.mk A190
            clear A190
            have H':=Aside0.mk H
            clear H
            try go_wp2
            have n0_:=Aside0.mk (zH HB.out)
            clear HB
            have HB:=n0_
            clear n0_
            have p10:0≤(0:Int):=(by omega)
            have q10:0<t142.size:=(by have:(0:Int)<(t142.size:Int):=of_decide_eq_true (by first|(with_reducible assumption)|assumption);omega)
            have hx10:∀ h:0<t142.size,((t142[0]'h).toNat:Int)=bt t142 0:=bt_at t142 0
            clear p10
            have qi10:(0<(t142.size:Int))=True:=eq_true (of_decide_eq_true (by first|(with_reducible assumption)|assumption))
            replace q10:=eq_true q10
            have p143:0≤(x3_1:Int):=of_decide_eq_true (by first|(with_reducible assumption)|assumption)
            have q143:x3_1<(l0.length:Int):=of_decide_eq_true (by first|(with_reducible assumption)|assumption)
            obtain ⟨ad143,e143,hx143_0,hx143_1,hx143_2,hx143_3,hx143_4⟩:=at_T97 HR0.out x3_1 p143 q143
            have hw143_4:=hx143_4
            have hw143_3:=hx143_3
            have hw143_2:=hx143_2
            have hw143_1:=hx143_1
            have hw143_0:=hx143_0
            obtain rfl:ad141=ad143:=(by injection e143)
            replace hx143_0:=(HB.out.cell (zO w _ hx143_0)).trans hx143_0
            replace hx143_1:=(HB.out.cell (zO w _ hx143_1)).trans hx143_1
            replace hx143_2:=(HB.out.cell (zO w _ hx143_2)).trans hx143_2
            replace hx143_3:=(HB.out.cell (zO w _ hx143_3)).trans hx143_3
            replace hx143_4:=(HB.out.cell (zO w _ hx143_4)).trans hx143_4
            replace p143:=eq_true p143
            replace q143:=eq_true q143
            have p145:0≤(x3_1:Int):=of_decide_eq_true (by first|(with_reducible assumption)|assumption)
            have q145:x3_1<(l0.length:Int):=of_decide_eq_true (by first|(with_reducible assumption)|assumption)
            obtain ⟨ad145,e145,hx145_0,hx145_1,hx145_2,hx145_3,hx145_4⟩:=at_T97 HR0.out x3_1 p145 q145
            have hw145_4:=hx145_4
            have hw145_3:=hx145_3
            have hw145_2:=hx145_2
            have hw145_1:=hx145_1
            have hw145_0:=hx145_0
            obtain rfl:ad141=ad145:=(by injection e145)
            replace hx145_0:=(HB.out.cell (zO w _ hx145_0)).trans hx145_0
            replace hx145_1:=(HB.out.cell (zO w _ hx145_1)).trans hx145_1
            replace hx145_2:=(HB.out.cell (zO w _ hx145_2)).trans hx145_2
            replace hx145_3:=(HB.out.cell (zO w _ hx145_3)).trans hx145_3
            replace hx145_4:=(HB.out.cell (zO w _ hx145_4)).trans hx145_4
            replace p145:=eq_true p145
            replace q145:=eq_true q145
            have p147:0≤(x3_1:Int):=of_decide_eq_true (by first|(with_reducible assumption)|assumption)
            have q147:x3_1<(l0.length:Int):=of_decide_eq_true (by first|(with_reducible assumption)|assumption)
            obtain ⟨ad147,e147,hx147_0,hx147_1,hx147_2,hx147_3,hx147_4⟩:=at_T97 HR0.out x3_1 p147 q147
            have hw147_4:=hx147_4
            have hw147_3:=hx147_3
            have hw147_2:=hx147_2
            have hw147_1:=hx147_1
            have hw147_0:=hx147_0
            obtain rfl:ad141=ad147:=(by injection e147)
            replace hx147_0:=(HB.out.cell (zO w _ hx147_0)).trans hx147_0
            replace hx147_1:=(HB.out.cell (zO w _ hx147_1)).trans hx147_1
            replace hx147_2:=(HB.out.cell (zO w _ hx147_2)).trans hx147_2
            replace hx147_3:=(HB.out.cell (zO w _ hx147_3)).trans hx147_3
            replace hx147_4:=(HB.out.cell (zO w _ hx147_4)).trans hx147_4
            replace p147:=eq_true p147
            replace q147:=eq_true q147
            refine start_ (n:=41) (S:=fun w'=>w'.cell? (ad141.add ((x3_1).toNat * 5))=some (.int .i64 ((rd_T97 l0 x3_1).f0))∧w'.cell? ⟨(ad141.add ((x3_1).toNat * 5)).block,(ad141.add ((x3_1).toNat * 5)).off+1,none⟩=some (.int .i64 ((rd_T97 l0 x3_1).f1))∧w'.cell? ⟨(ad141.add ((x3_1).toNat * 5)).block,(ad141.add ((x3_1).toNat * 5)).off+2,none⟩=some (.int .i64 ((rd_T97 l0 x3_1).f2))∧w'.cell? ⟨(ad141.add ((x3_1).toNat * 5)).block,(ad141.add ((x3_1).toNat * 5)).off+3,none⟩=some (.int .i64 ((rd_T97 l0 x3_1).f3))∧w'.cell? ⟨(ad141.add ((x3_1).toNat * 5)).block,(ad141.add ((x3_1).toNat * 5)).off+4,none⟩=some (.int .i64 ((rd_T97 l0 x3_1).f4))∧w'.cell? (ad141.add ((x3_1).toNat * 5))=some (.int .i64 ((rd_T97 l0 x3_1).f0))∧w'.cell? ⟨(ad141.add ((x3_1).toNat * 5)).block,(ad141.add ((x3_1).toNat * 5)).off+1,none⟩=some (.int .i64 ((rd_T97 l0 x3_1).f1))∧w'.cell? ⟨(ad141.add ((x3_1).toNat * 5)).block,(ad141.add ((x3_1).toNat * 5)).off+2,none⟩=some (.int .i64 ((rd_T97 l0 x3_1).f2))∧w'.cell? ⟨(ad141.add ((x3_1).toNat * 5)).block,(ad141.add ((x3_1).toNat * 5)).off+3,none⟩=some (.int .i64 ((rd_T97 l0 x3_1).f3))∧w'.cell? ⟨(ad141.add ((x3_1).toNat * 5)).block,(ad141.add ((x3_1).toNat * 5)).off+4,none⟩=some (.int .i64 ((rd_T97 l0 x3_1).f4))∧w'.cell? (ad141.add ((x3_1).toNat * 5))=some (.int .i64 ((rd_T97 l0 x3_1).f0))∧w'.cell? ⟨(ad141.add ((x3_1).toNat * 5)).block,(ad141.add ((x3_1).toNat * 5)).off+1,none⟩=some (.int .i64 ((rd_T97 l0 x3_1).f1))∧w'.cell? ⟨(ad141.add ((x3_1).toNat * 5)).block,(ad141.add ((x3_1).toNat * 5)).off+2,none⟩=some (.int .i64 ((rd_T97 l0 x3_1).f2))∧w'.cell? ⟨(ad141.add ((x3_1).toNat * 5)).block,(ad141.add ((x3_1).toNat * 5)).off+3,none⟩=some (.int .i64 ((rd_T97 l0 x3_1).f3))∧w'.cell? ⟨(ad141.add ((x3_1).toNat * 5)).block,(ad141.add ((x3_1).toNat * 5)).off+4,none⟩=some (.int .i64 ((rd_T97 l0 x3_1).f4))) (ds:=[]) #[zB,zB,zB,zB,zB,zB,zB,zB,zB,zB,zB,zB,zB,zB,zB,zB,zB,zB,zB,zB,zB,zB,zB,zB,zB,zB,zB,zB,zB,zB,zB,zB,zB,zB,zB,zB,zB,zB,zB,zB,zB] (by kernel_rfl) rfl rfl ⟨((HB.out.cell (zO w _ hw143_0)).trans hw143_0),((HB.out.cell (zO w _ hw143_1)).trans hw143_1),((HB.out.cell (zO w _ hw143_2)).trans hw143_2),((HB.out.cell (zO w _ hw143_3)).trans hw143_3),((HB.out.cell (zO w _ hw143_4)).trans hw143_4),((HB.out.cell (zO w _ hw145_0)).trans hw145_0),((HB.out.cell (zO w _ hw145_1)).trans hw145_1),((HB.out.cell (zO w _ hw145_2)).trans hw145_2),((HB.out.cell (zO w _ hw145_3)).trans hw145_3),((HB.out.cell (zO w _ hw145_4)).trans hw145_4),((HB.out.cell (zO w _ hw147_0)).trans hw147_0),((HB.out.cell (zO w _ hw147_1)).trans hw147_1),((HB.out.cell (zO w _ hw147_2)).trans hw147_2),((HB.out.cell (zO w _ hw147_3)).trans hw147_3),((HB.out.cell (zO w _ hw147_4)).trans hw147_4)⟩ (fun hHeld=>?_);refine with_tabW warpbeamref16_Right.tab5 warpbeamref16_Right.bits5 (fun HT_ HW_=>?_)
            generalize w6.drew=w20 at HB hx143_0 hx143_1 hx143_2 hx143_3 hx143_4 hx145_0 hx145_1 hx145_2 hx145_3 hx145_4 hx147_0 hx147_1 hx147_2 hx147_3 hx147_4 hHeld ⊢
            refine pure_ (i:=0) (N:=some 17) (v:=?_) (a':=?_) #[zA,zB,zB,zB,zB,zB,zB,zB,zB,zB,zB,zB,zB,zB,zB,zB,zB,zB,zB,zB,zB,zB,zB,zB,zB,zB,zB,zB,zB,zB,zB,zB,zB,zB,zB,zB,zB,zB,zB,zB,zB] rfl rfl (any_of HT_.out (by kernel_rfl)) (fun _ _ _ h=>h) (Or.inl ⟨by rfl,?_⟩) ?_ ?_
            rotate_left
            ·
             intro w'
             go_simp
             with_reducible rfl
            rotate_left
            ·
             simp only [Act.put,zQ,zS,zT,i64_w,i32_w]
             rfl
            refine pure_ (i:=1) (N:=some 18) (v:=?_) (a':=?_) #[zA,zA,zB,zB,zB,zB,zB,zB,zB,zB,zB,zB,zB,zB,zB,zB,zB,zB,zB,zB,zB,zB,zB,zB,zB,zB,zB,zB,zB,zB,zB,zB,zB,zB,zB,zB,zB,zB,zB,zB,zB] rfl rfl (any_of HT_.out (by kernel_rfl)) (fun _ _ _ h=>h) (Or.inl ⟨by rfl,?_⟩) ?_ ?_
            rotate_left
            ·
             intro w'
             go_simp
             with_reducible rfl
            rotate_left
            ·
             simp only [Act.put,zQ,zS,zT,i64_w,i32_w]
             rfl
            refine pure_ (i:=2) (N:=some 19) (v:=?_) (a':=?_) #[zA,zA,zA,zB,zB,zB,zB,zB,zB,zB,zB,zB,zB,zB,zB,zB,zB,zB,zB,zB,zB,zB,zB,zB,zB,zB,zB,zB,zB,zB,zB,zB,zB,zB,zB,zB,zB,zB,zB,zB,zB] rfl rfl (any_of HT_.out (by kernel_rfl)) (fun _ _ _ h=>h) (Or.inl ⟨by rfl,?_⟩) ?_ ?_
            rotate_left
            ·
             intro w'
             go_simp
             with_reducible rfl
            rotate_left
            ·
             simp only [Act.put,zQ,zS,zT,i64_w,i32_w]
             rfl
            refine pure_ (i:=3) (N:=some 20) (v:=?_) (a':=?_) #[zA,zA,zA,zA,zB,zB,zB,zB,zB,zB,zB,zB,zB,zB,zB,zB,zB,zB,zB,zB,zB,zB,zB,zB,zB,zB,zB,zB,zB,zB,zB,zB,zB,zB,zB,zB,zB,zB,zB,zB,zB] rfl rfl (any_of HT_.out (by kernel_rfl)) (fun _ _ _ h=>h) (Or.inl ⟨by rfl,?_⟩) ?_ ?_
            rotate_left
            ·
             intro w'
             go_simp
             with_reducible rfl
            rotate_left
            ·
             simp only [Act.put,zQ,zS,zT,i64_w,i32_w]
             rfl
            refine pure_ (i:=5) (N:=some 22) (v:=?_) (a':=?_) #[zA,zA,zA,zA,zB,zA,zB,zB,zB,zB,zB,zB,zB,zB,zB,zB,zB,zB,zB,zB,zB,zB,zB,zB,zB,zB,zB,zB,zB,zB,zB,zB,zB,zB,zB,zB,zB,zB,zB,zB,zB] rfl rfl (any_of HT_.out (by kernel_rfl)) (fun _ _ _ h=>h) (Or.inl ⟨by rfl,?_⟩) ?_ ?_
            rotate_left
            ·
             intro w'
             go_simp
             with_reducible rfl
            rotate_left
            ·
             simp only [Act.put,zQ,zS,zT,i64_w,i32_w]
             rfl
            refine pure_ (i:=6) (N:=some 23) (v:=?_) (a':=?_) #[zA,zA,zA,zA,zB,zA,zA,zB,zB,zB,zB,zB,zB,zB,zB,zB,zB,zB,zB,zB,zB,zB,zB,zB,zB,zB,zB,zB,zB,zB,zB,zB,zB,zB,zB,zB,zB,zB,zB,zB,zB] rfl rfl (any_of HT_.out (by kernel_rfl)) (fun _ _ _ h=>h) (Or.inl ⟨by rfl,?_⟩) ?_ ?_
            rotate_left
            ·
             intro w'
             go_simp
             with_reducible rfl
            rotate_left
            ·
             simp only [Act.put,zQ,zS,zT,i64_w,i32_w]
             rfl
            refine pure_ (i:=7) (N:=some 24) (v:=?_) (a':=?_) #[zA,zA,zA,zA,zB,zA,zA,zA,zB,zB,zB,zB,zB,zB,zB,zB,zB,zB,zB,zB,zB,zB,zB,zB,zB,zB,zB,zB,zB,zB,zB,zB,zB,zB,zB,zB,zB,zB,zB,zB,zB] rfl rfl (any_of HT_.out (by kernel_rfl)) (fun _ _ _ h=>h) (Or.inl ⟨by rfl,?_⟩) ?_ ?_
            rotate_left
            ·
             intro w'
             go_simp
             with_reducible rfl
            rotate_left
            ·
             simp only [Act.put,zQ,zS,zT,i64_w,i32_w]
             rfl
            refine pure_ (i:=8) (N:=some 25) (v:=?_) (a':=?_) #[zA,zA,zA,zA,zB,zA,zA,zA,zA,zB,zB,zB,zB,zB,zB,zB,zB,zB,zB,zB,zB,zB,zB,zB,zB,zB,zB,zB,zB,zB,zB,zB,zB,zB,zB,zB,zB,zB,zB,zB,zB] rfl rfl (any_of HT_.out (by kernel_rfl)) (fun _ _ _ h=>h) (Or.inl ⟨by rfl,?_⟩) ?_ ?_
            rotate_left
            ·
             intro w'
             go_simp
             with_reducible rfl
            rotate_left
            ·
             simp only [Act.put,zQ,zS,zT,i64_w,i32_w]
             rfl
            refine pure_ (i:=10) (N:=some 27) (v:=?_) (a':=?_) #[zA,zA,zA,zA,zB,zA,zA,zA,zA,zB,zA,zB,zB,zB,zB,zB,zB,zB,zB,zB,zB,zB,zB,zB,zB,zB,zB,zB,zB,zB,zB,zB,zB,zB,zB,zB,zB,zB,zB,zB,zB] rfl rfl (any_of HT_.out (by kernel_rfl)) (fun _ _ _ h=>h) (Or.inl ⟨by rfl,?_⟩) ?_ ?_
            rotate_left
            ·
             intro w'
             go_simp
             with_reducible rfl
            rotate_left
            ·
             simp only [Act.put,zQ,zS,zT,i64_w,i32_w]
             rfl
            refine pure_ (i:=11) (N:=some 28) (v:=?_) (a':=?_) #[zA,zA,zA,zA,zB,zA,zA,zA,zA,zB,zA,zA,zB,zB,zB,zB,zB,zB,zB,zB,zB,zB,zB,zB,zB,zB,zB,zB,zB,zB,zB,zB,zB,zB,zB,zB,zB,zB,zB,zB,zB] rfl rfl (any_of HT_.out (by kernel_rfl)) (fun _ _ _ h=>h) (Or.inl ⟨by rfl,?_⟩) ?_ ?_
            rotate_left
            ·
             intro w'
             go_simp
             with_reducible rfl
            rotate_left
            ·
             simp only [Act.put,zQ,zS,zT,i64_w,i32_w]
             rfl
            refine take_ (i:=4) (N:=some 21) (v:=?_) (a':=?_) #[zA,zA,zA,zA,zA,zA,zA,zA,zA,zB,zA,zA,zB,zB,zB,zB,zB,zB,zB,zB,zB,zB,zB,zB,zB,zB,zB,zB,zB,zB,zB,zB,zB,zB,zB,zB,zB,zB,zB,zB,zB] rfl rfl (take_ofW HT_.out HW_.out (by kernel_rfl)) (fun _ _ _ h=>h) (Or.inl ⟨by rfl,?_⟩) hHeld ?_ ?_
            rotate_left
            ·
             rintro w' ⟨s0,s1,s2,s3,s4,s5,s6,s7,s8,s9,s10,s11,s12,s13,s14⟩
             go_simp
             with_reducible rfl
            rotate_left
            ·
             simp only [Act.put,zQ,zS,zT,i64_w,i32_w]
             rfl
            refine take_ (i:=9) (N:=some 26) (v:=?_) (a':=?_) #[zA,zA,zA,zA,zA,zA,zA,zA,zA,zA,zA,zA,zB,zB,zB,zB,zB,zB,zB,zB,zB,zB,zB,zB,zB,zB,zB,zB,zB,zB,zB,zB,zB,zB,zB,zB,zB,zB,zB,zB,zB] rfl rfl (take_ofW HT_.out HW_.out (by kernel_rfl)) (fun _ _ _ h=>h) (Or.inl ⟨by rfl,?_⟩) hHeld ?_ ?_
            rotate_left
            ·
             rintro w' ⟨s0,s1,s2,s3,s4,s5,s6,s7,s8,s9,s10,s11,s12,s13,s14⟩
             go_simp
             with_reducible rfl
            rotate_left
            ·
             simp only [Act.put,zQ,zS,zT,i64_w,i32_w]
             rfl
            refine one_ (i:=12) (N:=some 29) #[zA,zA,zA,zA,zA,zA,zA,zA,zA,zA,zA,zA,zA,zB,zB,zB,zB,zB,zB,zB,zB,zB,zB,zB,zB,zB,zB,zB,zB,zB,zB,zB,zB,zB,zB,zB,zB,zB,zB,zB,zB] rfl rfl (one_of HT_.out (by kernel_rfl)) (by decide) (fun K hK=>?_)
            refine goes_ Try.func56 (by kernel_rfl) rfl #[.int .u8 (bt t142 0),.int .i64 ((rd_T97 l0 x3_1).f1),.int .i64 (l0.length:Int)] (by rfl) rfl rfl (by (try simp only [List.map_toArray,List.map_cons,List.map_nil]);first|done|rfl|(simp only [List.length_drop,List.length_take];rfl)) ?_
            with_reducible refine (warpbeamref16_field.calls (bt t142 0) ((rd_T97 l0 x3_1).f1) (l0.length:Int) true _ A11.out).mono ?_
            rintro e w' ⟨rfl,⟨nd,rfl⟩⟩
            refine ⟨_,rfl,?_⟩
            have p14:0≤(1:Int):=(by omega)
            have q14:1<t142.size:=(by have:(1:Int)<(t142.size:Int):=of_decide_eq_true (by first|(with_reducible assumption)|assumption);omega)
            have hx14:∀ h:1<t142.size,((t142[1]'h).toNat:Int)=bt t142 1:=bt_at t142 1
            clear p14
            have qi14:(1<(t142.size:Int))=True:=eq_true (of_decide_eq_true (by first|(with_reducible assumption)|assumption))
            replace q14:=eq_true q14
            refine hK.out _ _ ⟨((HB.out.cell (zO w _ hw143_0)).trans hw143_0),((HB.out.cell (zO w _ hw143_1)).trans hw143_1),((HB.out.cell (zO w _ hw143_2)).trans hw143_2),((HB.out.cell (zO w _ hw143_3)).trans hw143_3),((HB.out.cell (zO w _ hw143_4)).trans hw143_4),((HB.out.cell (zO w _ hw145_0)).trans hw145_0),((HB.out.cell (zO w _ hw145_1)).trans hw145_1),((HB.out.cell (zO w _ hw145_2)).trans hw145_2),((HB.out.cell (zO w _ hw145_3)).trans hw145_3),((HB.out.cell (zO w _ hw145_4)).trans hw145_4),((HB.out.cell (zO w _ hw147_0)).trans hw147_0),((HB.out.cell (zO w _ hw147_1)).trans hw147_1),((HB.out.cell (zO w _ hw147_2)).trans hw147_2),((HB.out.cell (zO w _ hw147_3)).trans hw147_3),((HB.out.cell (zO w _ hw147_4)).trans hw147_4)⟩ (fun hHeld=>?_)
            clear hK K
            refine norm_ (a':=?_) ?_ ?_
            rotate_left
            ·
             show Act.put _ (some 29) _=_
             simp only [Act.put,zQ,zS,zT,i64_w,i32_w]
             rfl
            refine pure_ (i:=13) (N:=some 30) (v:=?_) (a':=?_) #[zA,zA,zA,zA,zA,zA,zA,zA,zA,zA,zA,zA,zA,zA,zB,zB,zB,zB,zB,zB,zB,zB,zB,zB,zB,zB,zB,zB,zB,zB,zB,zB,zB,zB,zB,zB,zB,zB,zB,zB,zB] rfl rfl (any_of HT_.out (by kernel_rfl)) (fun _ _ _ h=>h) (Or.inl ⟨by rfl,?_⟩) ?_ ?_
            rotate_left
            ·
             intro w'
             go_simp
             with_reducible rfl
            rotate_left
            ·
             simp only [Act.put,zQ,zS,zT,i64_w,i32_w]
             rfl
            refine pure_ (i:=14) (N:=some 31) (v:=?_) (a':=?_) #[zA,zA,zA,zA,zA,zA,zA,zA,zA,zA,zA,zA,zA,zA,zA,zB,zB,zB,zB,zB,zB,zB,zB,zB,zB,zB,zB,zB,zB,zB,zB,zB,zB,zB,zB,zB,zB,zB,zB,zB,zB] rfl rfl (any_of HT_.out (by kernel_rfl)) (fun _ _ _ h=>h) (Or.inl ⟨by rfl,?_⟩) ?_ ?_
            rotate_left
            ·
             intro w'
             go_simp
             with_reducible rfl
            rotate_left
            ·
             simp only [Act.put,zQ,zS,zT,i64_w,i32_w]
             rfl
            refine pure_ (i:=15) (N:=some 32) (v:=?_) (a':=?_) #[zA,zA,zA,zA,zA,zA,zA,zA,zA,zA,zA,zA,zA,zA,zA,zA,zB,zB,zB,zB,zB,zB,zB,zB,zB,zB,zB,zB,zB,zB,zB,zB,zB,zB,zB,zB,zB,zB,zB,zB,zB] rfl rfl (any_of HT_.out (by kernel_rfl)) (fun _ _ _ h=>h) (Or.inl ⟨by rfl,?_⟩) ?_ ?_
            rotate_left
            ·
             intro w'
             go_simp
             with_reducible rfl
            rotate_left
            ·
             simp only [Act.put,zQ,zS,zT,i64_w,i32_w]
             rfl
            refine pure_ (i:=16) (N:=some 33) (v:=?_) (a':=?_) #[zA,zA,zA,zA,zA,zA,zA,zA,zA,zA,zA,zA,zA,zA,zA,zA,zA,zB,zB,zB,zB,zB,zB,zB,zB,zB,zB,zB,zB,zB,zB,zB,zB,zB,zB,zB,zB,zB,zB,zB,zB] rfl rfl (any_of HT_.out (by kernel_rfl)) (fun _ _ _ h=>h) (Or.inl ⟨by rfl,?_⟩) ?_ ?_
            rotate_left
            ·
             intro w'
             go_simp
             with_reducible rfl
            rotate_left
            ·
             simp only [Act.put,zQ,zS,zT,i64_w,i32_w]
             rfl
            refine pure_ (i:=18) (N:=some 35) (v:=?_) (a':=?_) #[zA,zA,zA,zA,zA,zA,zA,zA,zA,zA,zA,zA,zA,zA,zA,zA,zA,zB,zA,zB,zB,zB,zB,zB,zB,zB,zB,zB,zB,zB,zB,zB,zB,zB,zB,zB,zB,zB,zB,zB,zB] rfl rfl (any_of HT_.out (by kernel_rfl)) (fun _ _ _ h=>h) (Or.inl ⟨by rfl,?_⟩) ?_ ?_
            rotate_left
            ·
             intro w'
             go_simp
             with_reducible rfl
            rotate_left
            ·
             simp only [Act.put,zQ,zS,zT,i64_w,i32_w]
             rfl
            refine pure_ (i:=19) (N:=some 36) (v:=?_) (a':=?_) #[zA,zA,zA,zA,zA,zA,zA,zA,zA,zA,zA,zA,zA,zA,zA,zA,zA,zB,zA,zA,zB,zB,zB,zB,zB,zB,zB,zB,zB,zB,zB,zB,zB,zB,zB,zB,zB,zB,zB,zB,zB] rfl rfl (any_of HT_.out (by kernel_rfl)) (fun _ _ _ h=>h) (Or.inl ⟨by rfl,?_⟩) ?_ ?_
            rotate_left
            ·
             intro w'
             go_simp
             with_reducible rfl
            rotate_left
            ·
             simp only [Act.put,zQ,zS,zT,i64_w,i32_w]
             rfl
            refine pure_ (i:=20) (N:=some 37) (v:=?_) (a':=?_) #[zA,zA,zA,zA,zA,zA,zA,zA,zA,zA,zA,zA,zA,zA,zA,zA,zA,zB,zA,zA,zA,zB,zB,zB,zB,zB,zB,zB,zB,zB,zB,zB,zB,zB,zB,zB,zB,zB,zB,zB,zB] rfl rfl (any_of HT_.out (by kernel_rfl)) (fun _ _ _ h=>h) (Or.inl ⟨by rfl,?_⟩) ?_ ?_
            rotate_left
            ·
             intro w'
             go_simp
             with_reducible rfl
            rotate_left
            ·
             simp only [Act.put,zQ,zS,zT,i64_w,i32_w]
             rfl
            refine pure_ (i:=21) (N:=some 38) (v:=?_) (a':=?_) #[zA,zA,zA,zA,zA,zA,zA,zA,zA,zA,zA,zA,zA,zA,zA,zA,zA,zB,zA,zA,zA,zA,zB,zB,zB,zB,zB,zB,zB,zB,zB,zB,zB,zB,zB,zB,zB,zB,zB,zB,zB] rfl rfl (any_of HT_.out (by kernel_rfl)) (fun _ _ _ h=>h) (Or.inl ⟨by rfl,?_⟩) ?_ ?_
            rotate_left
            ·
             intro w'
             go_simp
             with_reducible rfl
            rotate_left
            ·
             simp only [Act.put,zQ,zS,zT,i64_w,i32_w]
             rfl
            refine pure_ (i:=23) (N:=some 40) (v:=?_) (a':=?_) #[zA,zA,zA,zA,zA,zA,zA,zA,zA,zA,zA,zA,zA,zA,zA,zA,zA,zB,zA,zA,zA,zA,zB,zA,zB,zB,zB,zB,zB,zB,zB,zB,zB,zB,zB,zB,zB,zB,zB,zB,zB] rfl rfl (any_of HT_.out (by kernel_rfl)) (fun _ _ _ h=>h) (Or.inl ⟨by rfl,?_⟩) ?_ ?_
            rotate_left
            ·
             intro w'
             go_simp
             with_reducible rfl
            rotate_left
            ·
             simp only [Act.put,zQ,zS,zT,i64_w,i32_w]
             rfl
            refine pure_ (i:=24) (N:=some 41) (v:=?_) (a':=?_) #[zA,zA,zA,zA,zA,zA,zA,zA,zA,zA,zA,zA,zA,zA,zA,zA,zA,zB,zA,zA,zA,zA,zB,zA,zA,zB,zB,zB,zB,zB,zB,zB,zB,zB,zB,zB,zB,zB,zB,zB,zB] rfl rfl (any_of HT_.out (by kernel_rfl)) (fun _ _ _ h=>h) (Or.inl ⟨by rfl,?_⟩) ?_ ?_
            rotate_left
            ·
             intro w'
             go_simp
             with_reducible rfl
            rotate_left
            ·
             simp only [Act.put,zQ,zS,zT,i64_w,i32_w]
             rfl
            refine take_ (i:=17) (N:=some 34) (v:=?_) (a':=?_) #[zA,zA,zA,zA,zA,zA,zA,zA,zA,zA,zA,zA,zA,zA,zA,zA,zA,zA,zA,zA,zA,zA,zB,zA,zA,zB,zB,zB,zB,zB,zB,zB,zB,zB,zB,zB,zB,zB,zB,zB,zB] rfl rfl (take_ofW HT_.out HW_.out (by kernel_rfl)) (fun _ _ _ h=>h) (Or.inl ⟨by rfl,?_⟩) hHeld ?_ ?_
            rotate_left
            ·
             rintro w' ⟨s0,s1,s2,s3,s4,s5,s6,s7,s8,s9,s10,s11,s12,s13,s14⟩
             go_simp
             with_reducible rfl
            rotate_left
            ·
             simp only [Act.put,zQ,zS,zT,i64_w,i32_w]
             rfl
            refine take_ (i:=22) (N:=some 39) (v:=?_) (a':=?_) #[zA,zA,zA,zA,zA,zA,zA,zA,zA,zA,zA,zA,zA,zA,zA,zA,zA,zA,zA,zA,zA,zA,zA,zA,zA,zB,zB,zB,zB,zB,zB,zB,zB,zB,zB,zB,zB,zB,zB,zB,zB] rfl rfl (take_ofW HT_.out HW_.out (by kernel_rfl)) (fun _ _ _ h=>h) (Or.inl ⟨by rfl,?_⟩) hHeld ?_ ?_
            rotate_left
            ·
             rintro w' ⟨s0,s1,s2,s3,s4,s5,s6,s7,s8,s9,s10,s11,s12,s13,s14⟩
             go_simp
             with_reducible rfl
            rotate_left
            ·
             simp only [Act.put,zQ,zS,zT,i64_w,i32_w]
             rfl
            refine one_ (i:=25) (N:=some 42) #[zA,zA,zA,zA,zA,zA,zA,zA,zA,zA,zA,zA,zA,zA,zA,zA,zA,zA,zA,zA,zA,zA,zA,zA,zA,zA,zB,zB,zB,zB,zB,zB,zB,zB,zB,zB,zB,zB,zB,zB,zB] rfl rfl (one_of HT_.out (by kernel_rfl)) (by decide) (fun K hK=>?_)
            refine goes_ Try.func56 (by kernel_rfl) rfl #[.int .u8 (bt t142 1),.int .i64 ((rd_T97 l0 x3_1).f2),.int .i64 (l0.length:Int)] (by rfl) rfl rfl (by (try simp only [List.map_toArray,List.map_cons,List.map_nil]);first|done|rfl|(simp only [List.length_drop,List.length_take];rfl)) ?_
            with_reducible refine (warpbeamref16_field.calls (bt t142 1) ((rd_T97 l0 x3_1).f2) (l0.length:Int) true _ A15.out).mono ?_
            rintro e w' ⟨rfl,⟨nd,rfl⟩⟩
            refine ⟨_,rfl,?_⟩
            have p18:0≤(2:Int):=(by omega)
            have q18:2<t142.size:=(by have:(2:Int)<(t142.size:Int):=of_decide_eq_true (by first|(with_reducible assumption)|assumption);omega)
            have hx18:∀ h:2<t142.size,((t142[2]'h).toNat:Int)=bt t142 2:=bt_at t142 2
            clear p18
            have qi18:(2<(t142.size:Int))=True:=eq_true (of_decide_eq_true (by first|(with_reducible assumption)|assumption))
            replace q18:=eq_true q18
            refine hK.out _ _ ⟨((HB.out.cell (zO w _ hw143_0)).trans hw143_0),((HB.out.cell (zO w _ hw143_1)).trans hw143_1),((HB.out.cell (zO w _ hw143_2)).trans hw143_2),((HB.out.cell (zO w _ hw143_3)).trans hw143_3),((HB.out.cell (zO w _ hw143_4)).trans hw143_4),((HB.out.cell (zO w _ hw145_0)).trans hw145_0),((HB.out.cell (zO w _ hw145_1)).trans hw145_1),((HB.out.cell (zO w _ hw145_2)).trans hw145_2),((HB.out.cell (zO w _ hw145_3)).trans hw145_3),((HB.out.cell (zO w _ hw145_4)).trans hw145_4),((HB.out.cell (zO w _ hw147_0)).trans hw147_0),((HB.out.cell (zO w _ hw147_1)).trans hw147_1),((HB.out.cell (zO w _ hw147_2)).trans hw147_2),((HB.out.cell (zO w _ hw147_3)).trans hw147_3),((HB.out.cell (zO w _ hw147_4)).trans hw147_4)⟩ (fun hHeld=>?_)
            clear hK K
            refine norm_ (a':=?_) ?_ ?_
            rotate_left
            ·
             show Act.put _ (some 42) _=_
             simp only [Act.put,zQ,zS,zT,i64_w,i32_w]
             rfl
            refine pure_ (i:=26) (N:=some 43) (v:=?_) (a':=?_) #[zA,zA,zA,zA,zA,zA,zA,zA,zA,zA,zA,zA,zA,zA,zA,zA,zA,zA,zA,zA,zA,zA,zA,zA,zA,zA,zA,zB,zB,zB,zB,zB,zB,zB,zB,zB,zB,zB,zB,zB,zB] rfl rfl (any_of HT_.out (by kernel_rfl)) (fun _ _ _ h=>h) (Or.inl ⟨by rfl,?_⟩) ?_ ?_
            rotate_left
            ·
             intro w'
             go_simp
             with_reducible rfl
            rotate_left
            ·
             simp only [Act.put,zQ,zS,zT,i64_w,i32_w]
             rfl
            refine pure_ (i:=27) (N:=some 44) (v:=?_) (a':=?_) #[zA,zA,zA,zA,zA,zA,zA,zA,zA,zA,zA,zA,zA,zA,zA,zA,zA,zA,zA,zA,zA,zA,zA,zA,zA,zA,zA,zA,zB,zB,zB,zB,zB,zB,zB,zB,zB,zB,zB,zB,zB] rfl rfl (any_of HT_.out (by kernel_rfl)) (fun _ _ _ h=>h) (Or.inl ⟨by rfl,?_⟩) ?_ ?_
            rotate_left
            ·
             intro w'
             go_simp
             with_reducible rfl
            rotate_left
            ·
             simp only [Act.put,zQ,zS,zT,i64_w,i32_w]
             rfl
            refine pure_ (i:=28) (N:=some 45) (v:=?_) (a':=?_) #[zA,zA,zA,zA,zA,zA,zA,zA,zA,zA,zA,zA,zA,zA,zA,zA,zA,zA,zA,zA,zA,zA,zA,zA,zA,zA,zA,zA,zA,zB,zB,zB,zB,zB,zB,zB,zB,zB,zB,zB,zB] rfl rfl (any_of HT_.out (by kernel_rfl)) (fun _ _ _ h=>h) (Or.inl ⟨by rfl,?_⟩) ?_ ?_
            rotate_left
            ·
             intro w'
             go_simp
             with_reducible rfl
            rotate_left
            ·
             simp only [Act.put,zQ,zS,zT,i64_w,i32_w]
             rfl
            refine pure_ (i:=29) (N:=some 46) (v:=?_) (a':=?_) #[zA,zA,zA,zA,zA,zA,zA,zA,zA,zA,zA,zA,zA,zA,zA,zA,zA,zA,zA,zA,zA,zA,zA,zA,zA,zA,zA,zA,zA,zA,zB,zB,zB,zB,zB,zB,zB,zB,zB,zB,zB] rfl rfl (any_of HT_.out (by kernel_rfl)) (fun _ _ _ h=>h) (Or.inl ⟨by rfl,?_⟩) ?_ ?_
            rotate_left
            ·
             intro w'
             go_simp
             with_reducible rfl
            rotate_left
            ·
             simp only [Act.put,zQ,zS,zT,i64_w,i32_w]
             rfl
            refine pure_ (i:=31) (N:=some 48) (v:=?_) (a':=?_) #[zA,zA,zA,zA,zA,zA,zA,zA,zA,zA,zA,zA,zA,zA,zA,zA,zA,zA,zA,zA,zA,zA,zA,zA,zA,zA,zA,zA,zA,zA,zB,zA,zB,zB,zB,zB,zB,zB,zB,zB,zB] rfl rfl (any_of HT_.out (by kernel_rfl)) (fun _ _ _ h=>h) (Or.inl ⟨by rfl,?_⟩) ?_ ?_
            rotate_left
            ·
             intro w'
             go_simp
             with_reducible rfl
            rotate_left
            ·
             simp only [Act.put,zQ,zS,zT,i64_w,i32_w]
             rfl
            refine pure_ (i:=32) (N:=some 49) (v:=?_) (a':=?_) #[zA,zA,zA,zA,zA,zA,zA,zA,zA,zA,zA,zA,zA,zA,zA,zA,zA,zA,zA,zA,zA,zA,zA,zA,zA,zA,zA,zA,zA,zA,zB,zA,zA,zB,zB,zB,zB,zB,zB,zB,zB] rfl rfl (any_of HT_.out (by kernel_rfl)) (fun _ _ _ h=>h) (Or.inl ⟨by rfl,?_⟩) ?_ ?_
            rotate_left
            ·
             intro w'
             go_simp
             with_reducible rfl
            rotate_left
            ·
             simp only [Act.put,zQ,zS,zT,i64_w,i32_w]
             rfl
            refine pure_ (i:=33) (N:=some 50) (v:=?_) (a':=?_) #[zA,zA,zA,zA,zA,zA,zA,zA,zA,zA,zA,zA,zA,zA,zA,zA,zA,zA,zA,zA,zA,zA,zA,zA,zA,zA,zA,zA,zA,zA,zB,zA,zA,zA,zB,zB,zB,zB,zB,zB,zB] rfl rfl (any_of HT_.out (by kernel_rfl)) (fun _ _ _ h=>h) (Or.inl ⟨by rfl,?_⟩) ?_ ?_
            rotate_left
            ·
             intro w'
             go_simp
             with_reducible rfl
            rotate_left
            ·
             simp only [Act.put,zQ,zS,zT,i64_w,i32_w]
             rfl
            refine pure_ (i:=34) (N:=some 51) (v:=?_) (a':=?_) #[zA,zA,zA,zA,zA,zA,zA,zA,zA,zA,zA,zA,zA,zA,zA,zA,zA,zA,zA,zA,zA,zA,zA,zA,zA,zA,zA,zA,zA,zA,zB,zA,zA,zA,zA,zB,zB,zB,zB,zB,zB] rfl rfl (any_of HT_.out (by kernel_rfl)) (fun _ _ _ h=>h) (Or.inl ⟨by rfl,?_⟩) ?_ ?_
            rotate_left
            ·
             intro w'
             go_simp
             with_reducible rfl
            rotate_left
            ·
             simp only [Act.put,zQ,zS,zT,i64_w,i32_w]
             rfl
            refine pure_ (i:=36) (N:=some 53) (v:=?_) (a':=?_) #[zA,zA,zA,zA,zA,zA,zA,zA,zA,zA,zA,zA,zA,zA,zA,zA,zA,zA,zA,zA,zA,zA,zA,zA,zA,zA,zA,zA,zA,zA,zB,zA,zA,zA,zA,zB,zA,zB,zB,zB,zB] rfl rfl (any_of HT_.out (by kernel_rfl)) (fun _ _ _ h=>h) (Or.inl ⟨by rfl,?_⟩) ?_ ?_
            rotate_left
            ·
             intro w'
             go_simp
             with_reducible rfl
            rotate_left
            ·
             simp only [Act.put,zQ,zS,zT,i64_w,i32_w]
             rfl
            refine pure_ (i:=37) (N:=some 54) (v:=?_) (a':=?_) #[zA,zA,zA,zA,zA,zA,zA,zA,zA,zA,zA,zA,zA,zA,zA,zA,zA,zA,zA,zA,zA,zA,zA,zA,zA,zA,zA,zA,zA,zA,zB,zA,zA,zA,zA,zB,zA,zA,zB,zB,zB] rfl rfl (any_of HT_.out (by kernel_rfl)) (fun _ _ _ h=>h) (Or.inl ⟨by rfl,?_⟩) ?_ ?_
            rotate_left
            ·
             intro w'
             go_simp
             with_reducible rfl
            rotate_left
            ·
             simp only [Act.put,zQ,zS,zT,i64_w,i32_w]
             rfl
            refine take_ (i:=30) (N:=some 47) (v:=?_) (a':=?_) #[zA,zA,zA,zA,zA,zA,zA,zA,zA,zA,zA,zA,zA,zA,zA,zA,zA,zA,zA,zA,zA,zA,zA,zA,zA,zA,zA,zA,zA,zA,zA,zA,zA,zA,zA,zB,zA,zA,zB,zB,zB] rfl rfl (take_ofW HT_.out HW_.out (by kernel_rfl)) (fun _ _ _ h=>h) (Or.inl ⟨by rfl,?_⟩) hHeld ?_ ?_
            rotate_left
            ·
             rintro w' ⟨s0,s1,s2,s3,s4,s5,s6,s7,s8,s9,s10,s11,s12,s13,s14⟩
             go_simp
             with_reducible rfl
            rotate_left
            ·
             simp only [Act.put,zQ,zS,zT,i64_w,i32_w]
             rfl
            refine take_ (i:=35) (N:=some 52) (v:=?_) (a':=?_) #[zA,zA,zA,zA,zA,zA,zA,zA,zA,zA,zA,zA,zA,zA,zA,zA,zA,zA,zA,zA,zA,zA,zA,zA,zA,zA,zA,zA,zA,zA,zA,zA,zA,zA,zA,zA,zA,zA,zB,zB,zB] rfl rfl (take_ofW HT_.out HW_.out (by kernel_rfl)) (fun _ _ _ h=>h) (Or.inl ⟨by rfl,?_⟩) hHeld ?_ ?_
            rotate_left
            ·
             rintro w' ⟨s0,s1,s2,s3,s4,s5,s6,s7,s8,s9,s10,s11,s12,s13,s14⟩
             go_simp
             with_reducible rfl
            rotate_left
            ·
             simp only [Act.put,zQ,zS,zT,i64_w,i32_w]
             rfl
            refine one_ (i:=38) (N:=some 55) #[zA,zA,zA,zA,zA,zA,zA,zA,zA,zA,zA,zA,zA,zA,zA,zA,zA,zA,zA,zA,zA,zA,zA,zA,zA,zA,zA,zA,zA,zA,zA,zA,zA,zA,zA,zA,zA,zA,zA,zB,zB] rfl rfl (one_of HT_.out (by kernel_rfl)) (by decide) (fun K hK=>?_)
            refine goes_ Try.func56 (by kernel_rfl) rfl #[.int .u8 (bt t142 2),.int .i64 ((rd_T97 l0 x3_1).f3),.int .i64 (l0.length:Int)] (by rfl) rfl rfl (by (try simp only [List.map_toArray,List.map_cons,List.map_nil]);first|done|rfl|(simp only [List.length_drop,List.length_take];rfl)) ?_
            with_reducible refine (warpbeamref16_field.calls (bt t142 2) ((rd_T97 l0 x3_1).f3) (l0.length:Int) t148 _ A19.out).mono ?_
            rintro e w' ⟨rfl,⟨nd,rfl⟩⟩
            refine ⟨_,rfl,?_⟩
            refine hK.out _ _ ⟨((HB.out.cell (zO w _ hw143_0)).trans hw143_0),((HB.out.cell (zO w _ hw143_1)).trans hw143_1),((HB.out.cell (zO w _ hw143_2)).trans hw143_2),((HB.out.cell (zO w _ hw143_3)).trans hw143_3),((HB.out.cell (zO w _ hw143_4)).trans hw143_4),((HB.out.cell (zO w _ hw145_0)).trans hw145_0),((HB.out.cell (zO w _ hw145_1)).trans hw145_1),((HB.out.cell (zO w _ hw145_2)).trans hw145_2),((HB.out.cell (zO w _ hw145_3)).trans hw145_3),((HB.out.cell (zO w _ hw145_4)).trans hw145_4),((HB.out.cell (zO w _ hw147_0)).trans hw147_0),((HB.out.cell (zO w _ hw147_1)).trans hw147_1),((HB.out.cell (zO w _ hw147_2)).trans hw147_2),((HB.out.cell (zO w _ hw147_3)).trans hw147_3),((HB.out.cell (zO w _ hw147_4)).trans hw147_4)⟩ (fun hHeld=>?_)
            clear hK K
            refine norm_ (a':=?_) ?_ ?_
            rotate_left
            ·
             show Act.put _ (some 55) _=_
             simp only [Act.put,zQ,zS,zT,i64_w,i32_w]
             rfl
            refine pure_ (i:=39) (N:=some 56) (v:=?_) (a':=?_) #[zA,zA,zA,zA,zA,zA,zA,zA,zA,zA,zA,zA,zA,zA,zA,zA,zA,zA,zA,zA,zA,zA,zA,zA,zA,zA,zA,zA,zA,zA,zA,zA,zA,zA,zA,zA,zA,zA,zA,zA,zB] rfl rfl (any_of HT_.out (by kernel_rfl)) (fun _ _ _ h=>h) (Or.inl ⟨by rfl,?_⟩) ?_ ?_
            rotate_left
            ·
             intro w'
             go_simp
             with_reducible rfl
            rotate_left
            ·
             simp only [Act.put,zQ,zS,zT,i64_w,i32_w]
             rfl
            refine pure_ (i:=40) (N:=some 57) (v:=?_) (a':=?_) #[zA,zA,zA,zA,zA,zA,zA,zA,zA,zA,zA,zA,zA,zA,zA,zA,zA,zA,zA,zA,zA,zA,zA,zA,zA,zA,zA,zA,zA,zA,zA,zA,zA,zA,zA,zA,zA,zA,zA,zA,zA] rfl rfl (any_of HT_.out (by kernel_rfl)) (fun _ _ _ h=>h) (Or.inl ⟨by rfl,?_⟩) ?_ ?_
            rotate_left
            ·
             intro w'
             go_simp
             with_reducible rfl
            rotate_left
            ·
             simp only [Act.put,zQ,zS,zT,i64_w,i32_w]
             rfl
            refine done_ (done_of HT_.out (by kernel_rfl)) ?_
            try go_wp2
            go_meet
            case rel=>exact ⟨_,(!t148),(by first|rfl|(simp;done)|(simp [*];done)),H',⟨by have:=HK1.out;first|omega|exact Nat.le_refl _⟩,⟨by repeat (first|(with_reducible first|exact HB.out|apply zG|apply zN|apply zH)|exact HB.out)⟩⟩
           ·
            rw [if_neg c17] at H
            exact absurd H (by simp)
          ·
           replace c16:=Bool.eq_false_iff.mpr c16
           subst c16
           have H1:(warpbeamref16_Right.j1 k1 l0 x3_1 t142 true)=some r:=by rw [if_neg (show ¬ (false=true) by decide)] at H;exact H
           clear H
           have H:=H1
           clear H1
           have H':=Aside0.mk H
           clear H
           try go_wp2
           have n0_:=Aside0.mk (zH HB.out)
           clear HB
           have HB:=n0_
           clear n0_
           have p10:0≤(0:Int):=(by omega)
           have q10:0<t142.size:=(by have:(0:Int)<(t142.size:Int):=of_decide_eq_true (by first|(with_reducible assumption)|assumption);omega)
           have hx10:∀ h:0<t142.size,((t142[0]'h).toNat:Int)=bt t142 0:=bt_at t142 0
           clear p10
           have qi10:(0<(t142.size:Int))=True:=eq_true (of_decide_eq_true (by first|(with_reducible assumption)|assumption))
           replace q10:=eq_true q10
           have p143:0≤(x3_1:Int):=of_decide_eq_true (by first|(with_reducible assumption)|assumption)
           have q143:x3_1<(l0.length:Int):=of_decide_eq_true (by first|(with_reducible assumption)|assumption)
           obtain ⟨ad143,e143,hx143_0,hx143_1,hx143_2,hx143_3,hx143_4⟩:=at_T97 HR0.out x3_1 p143 q143
           have hw143_4:=hx143_4
           have hw143_3:=hx143_3
           have hw143_2:=hx143_2
           have hw143_1:=hx143_1
           have hw143_0:=hx143_0
           obtain rfl:ad141=ad143:=(by injection e143)
           replace hx143_0:=(HB.out.cell (zO w _ hx143_0)).trans hx143_0
           replace hx143_1:=(HB.out.cell (zO w _ hx143_1)).trans hx143_1
           replace hx143_2:=(HB.out.cell (zO w _ hx143_2)).trans hx143_2
           replace hx143_3:=(HB.out.cell (zO w _ hx143_3)).trans hx143_3
           replace hx143_4:=(HB.out.cell (zO w _ hx143_4)).trans hx143_4
           replace p143:=eq_true p143
           replace q143:=eq_true q143
           have p145:0≤(x3_1:Int):=of_decide_eq_true (by first|(with_reducible assumption)|assumption)
           have q145:x3_1<(l0.length:Int):=of_decide_eq_true (by first|(with_reducible assumption)|assumption)
           obtain ⟨ad145,e145,hx145_0,hx145_1,hx145_2,hx145_3,hx145_4⟩:=at_T97 HR0.out x3_1 p145 q145
           have hw145_4:=hx145_4
           have hw145_3:=hx145_3
           have hw145_2:=hx145_2
           have hw145_1:=hx145_1
           have hw145_0:=hx145_0
           obtain rfl:ad141=ad145:=(by injection e145)
           replace hx145_0:=(HB.out.cell (zO w _ hx145_0)).trans hx145_0
           replace hx145_1:=(HB.out.cell (zO w _ hx145_1)).trans hx145_1
           replace hx145_2:=(HB.out.cell (zO w _ hx145_2)).trans hx145_2
           replace hx145_3:=(HB.out.cell (zO w _ hx145_3)).trans hx145_3
           replace hx145_4:=(HB.out.cell (zO w _ hx145_4)).trans hx145_4
           replace p145:=eq_true p145
           replace q145:=eq_true q145
           refine start_ (n:=41) (S:=fun w'=>w'.cell? (ad141.add ((x3_1).toNat * 5))=some (.int .i64 ((rd_T97 l0 x3_1).f0))∧w'.cell? ⟨(ad141.add ((x3_1).toNat * 5)).block,(ad141.add ((x3_1).toNat * 5)).off+1,none⟩=some (.int .i64 ((rd_T97 l0 x3_1).f1))∧w'.cell? ⟨(ad141.add ((x3_1).toNat * 5)).block,(ad141.add ((x3_1).toNat * 5)).off+2,none⟩=some (.int .i64 ((rd_T97 l0 x3_1).f2))∧w'.cell? ⟨(ad141.add ((x3_1).toNat * 5)).block,(ad141.add ((x3_1).toNat * 5)).off+3,none⟩=some (.int .i64 ((rd_T97 l0 x3_1).f3))∧w'.cell? ⟨(ad141.add ((x3_1).toNat * 5)).block,(ad141.add ((x3_1).toNat * 5)).off+4,none⟩=some (.int .i64 ((rd_T97 l0 x3_1).f4))∧w'.cell? (ad141.add ((x3_1).toNat * 5))=some (.int .i64 ((rd_T97 l0 x3_1).f0))∧w'.cell? ⟨(ad141.add ((x3_1).toNat * 5)).block,(ad141.add ((x3_1).toNat * 5)).off+1,none⟩=some (.int .i64 ((rd_T97 l0 x3_1).f1))∧w'.cell? ⟨(ad141.add ((x3_1).toNat * 5)).block,(ad141.add ((x3_1).toNat * 5)).off+2,none⟩=some (.int .i64 ((rd_T97 l0 x3_1).f2))∧w'.cell? ⟨(ad141.add ((x3_1).toNat * 5)).block,(ad141.add ((x3_1).toNat * 5)).off+3,none⟩=some (.int .i64 ((rd_T97 l0 x3_1).f3))∧w'.cell? ⟨(ad141.add ((x3_1).toNat * 5)).block,(ad141.add ((x3_1).toNat * 5)).off+4,none⟩=some (.int .i64 ((rd_T97 l0 x3_1).f4))) (ds:=[]) #[zB,zB,zB,zB,zB,zB,zB,zB,zB,zB,zB,zB,zB,zB,zB,zB,zB,zB,zB,zB,zB,zB,zB,zB,zB,zB,zB,zB,zB,zB,zB,zB,zB,zB,zB,zB,zB,zB,zB,zB,zB] (by kernel_rfl) rfl rfl ⟨((HB.out.cell (zO w _ hw143_0)).trans hw143_0),((HB.out.cell (zO w _ hw143_1)).trans hw143_1),((HB.out.cell (zO w _ hw143_2)).trans hw143_2),((HB.out.cell (zO w _ hw143_3)).trans hw143_3),((HB.out.cell (zO w _ hw143_4)).trans hw143_4),((HB.out.cell (zO w _ hw145_0)).trans hw145_0),((HB.out.cell (zO w _ hw145_1)).trans hw145_1),((HB.out.cell (zO w _ hw145_2)).trans hw145_2),((HB.out.cell (zO w _ hw145_3)).trans hw145_3),((HB.out.cell (zO w _ hw145_4)).trans hw145_4)⟩ (fun hHeld=>?_);refine with_tabW warpbeamref16_Right.tab5 warpbeamref16_Right.bits5 (fun HT_ HW_=>?_)
           generalize w6.drew=w21 at HB hx143_0 hx143_1 hx143_2 hx143_3 hx143_4 hx145_0 hx145_1 hx145_2 hx145_3 hx145_4 hHeld ⊢
           refine pure_ (i:=0) (N:=some 17) (v:=?_) (a':=?_) #[zA,zB,zB,zB,zB,zB,zB,zB,zB,zB,zB,zB,zB,zB,zB,zB,zB,zB,zB,zB,zB,zB,zB,zB,zB,zB,zB,zB,zB,zB,zB,zB,zB,zB,zB,zB,zB,zB,zB,zB,zB] rfl rfl (any_of HT_.out (by kernel_rfl)) (fun _ _ _ h=>h) (Or.inl ⟨by rfl,?_⟩) ?_ ?_
           rotate_left
           ·
            intro w'
            go_simp
            with_reducible rfl
           rotate_left
           ·
            simp only [Act.put,zQ,zS,zT,i64_w,i32_w]
            rfl
           refine pure_ (i:=1) (N:=some 18) (v:=?_) (a':=?_) #[zA,zA,zB,zB,zB,zB,zB,zB,zB,zB,zB,zB,zB,zB,zB,zB,zB,zB,zB,zB,zB,zB,zB,zB,zB,zB,zB,zB,zB,zB,zB,zB,zB,zB,zB,zB,zB,zB,zB,zB,zB] rfl rfl (any_of HT_.out (by kernel_rfl)) (fun _ _ _ h=>h) (Or.inl ⟨by rfl,?_⟩) ?_ ?_
           rotate_left
           ·
            intro w'
            go_simp
            with_reducible rfl
           rotate_left
           ·
            simp only [Act.put,zQ,zS,zT,i64_w,i32_w]
            rfl
           refine pure_ (i:=2) (N:=some 19) (v:=?_) (a':=?_) #[zA,zA,zA,zB,zB,zB,zB,zB,zB,zB,zB,zB,zB,zB,zB,zB,zB,zB,zB,zB,zB,zB,zB,zB,zB,zB,zB,zB,zB,zB,zB,zB,zB,zB,zB,zB,zB,zB,zB,zB,zB] rfl rfl (any_of HT_.out (by kernel_rfl)) (fun _ _ _ h=>h) (Or.inl ⟨by rfl,?_⟩) ?_ ?_
           rotate_left
           ·
            intro w'
            go_simp
            with_reducible rfl
           rotate_left
           ·
            simp only [Act.put,zQ,zS,zT,i64_w,i32_w]
            rfl
           refine pure_ (i:=3) (N:=some 20) (v:=?_) (a':=?_) #[zA,zA,zA,zA,zB,zB,zB,zB,zB,zB,zB,zB,zB,zB,zB,zB,zB,zB,zB,zB,zB,zB,zB,zB,zB,zB,zB,zB,zB,zB,zB,zB,zB,zB,zB,zB,zB,zB,zB,zB,zB] rfl rfl (any_of HT_.out (by kernel_rfl)) (fun _ _ _ h=>h) (Or.inl ⟨by rfl,?_⟩) ?_ ?_
           rotate_left
           ·
            intro w'
            go_simp
            with_reducible rfl
           rotate_left
           ·
            simp only [Act.put,zQ,zS,zT,i64_w,i32_w]
            rfl
           refine pure_ (i:=5) (N:=some 22) (v:=?_) (a':=?_) #[zA,zA,zA,zA,zB,zA,zB,zB,zB,zB,zB,zB,zB,zB,zB,zB,zB,zB,zB,zB,zB,zB,zB,zB,zB,zB,zB,zB,zB,zB,zB,zB,zB,zB,zB,zB,zB,zB,zB,zB,zB] rfl rfl (any_of HT_.out (by kernel_rfl)) (fun _ _ _ h=>h) (Or.inl ⟨by rfl,?_⟩) ?_ ?_
           rotate_left
           ·
            intro w'
            go_simp
            with_reducible rfl
           rotate_left
           ·
            simp only [Act.put,zQ,zS,zT,i64_w,i32_w]
            rfl
           refine pure_ (i:=6) (N:=some 23) (v:=?_) (a':=?_) #[zA,zA,zA,zA,zB,zA,zA,zB,zB,zB,zB,zB,zB,zB,zB,zB,zB,zB,zB,zB,zB,zB,zB,zB,zB,zB,zB,zB,zB,zB,zB,zB,zB,zB,zB,zB,zB,zB,zB,zB,zB] rfl rfl (any_of HT_.out (by kernel_rfl)) (fun _ _ _ h=>h) (Or.inl ⟨by rfl,?_⟩) ?_ ?_
           rotate_left
           ·
            intro w'
            go_simp
            with_reducible rfl
           rotate_left
           ·
            simp only [Act.put,zQ,zS,zT,i64_w,i32_w]
            rfl
           refine pure_ (i:=7) (N:=some 24) (v:=?_) (a':=?_) #[zA,zA,zA,zA,zB,zA,zA,zA,zB,zB,zB,zB,zB,zB,zB,zB,zB,zB,zB,zB,zB,zB,zB,zB,zB,zB,zB,zB,zB,zB,zB,zB,zB,zB,zB,zB,zB,zB,zB,zB,zB] rfl rfl (any_of HT_.out (by kernel_rfl)) (fun _ _ _ h=>h) (Or.inl ⟨by rfl,?_⟩) ?_ ?_
           rotate_left
           ·
            intro w'
            go_simp
            with_reducible rfl
           rotate_left
           ·
            simp only [Act.put,zQ,zS,zT,i64_w,i32_w]
            rfl
           refine pure_ (i:=8) (N:=some 25) (v:=?_) (a':=?_) #[zA,zA,zA,zA,zB,zA,zA,zA,zA,zB,zB,zB,zB,zB,zB,zB,zB,zB,zB,zB,zB,zB,zB,zB,zB,zB,zB,zB,zB,zB,zB,zB,zB,zB,zB,zB,zB,zB,zB,zB,zB] rfl rfl (any_of HT_.out (by kernel_rfl)) (fun _ _ _ h=>h) (Or.inl ⟨by rfl,?_⟩) ?_ ?_
           rotate_left
           ·
            intro w'
            go_simp
            with_reducible rfl
           rotate_left
           ·
            simp only [Act.put,zQ,zS,zT,i64_w,i32_w]
            rfl
           refine pure_ (i:=10) (N:=some 27) (v:=?_) (a':=?_) #[zA,zA,zA,zA,zB,zA,zA,zA,zA,zB,zA,zB,zB,zB,zB,zB,zB,zB,zB,zB,zB,zB,zB,zB,zB,zB,zB,zB,zB,zB,zB,zB,zB,zB,zB,zB,zB,zB,zB,zB,zB] rfl rfl (any_of HT_.out (by kernel_rfl)) (fun _ _ _ h=>h) (Or.inl ⟨by rfl,?_⟩) ?_ ?_
           rotate_left
           ·
            intro w'
            go_simp
            with_reducible rfl
           rotate_left
           ·
            simp only [Act.put,zQ,zS,zT,i64_w,i32_w]
            rfl
           refine pure_ (i:=11) (N:=some 28) (v:=?_) (a':=?_) #[zA,zA,zA,zA,zB,zA,zA,zA,zA,zB,zA,zA,zB,zB,zB,zB,zB,zB,zB,zB,zB,zB,zB,zB,zB,zB,zB,zB,zB,zB,zB,zB,zB,zB,zB,zB,zB,zB,zB,zB,zB] rfl rfl (any_of HT_.out (by kernel_rfl)) (fun _ _ _ h=>h) (Or.inl ⟨by rfl,?_⟩) ?_ ?_
           rotate_left
           ·
            intro w'
            go_simp
            with_reducible rfl
           rotate_left
           ·
            simp only [Act.put,zQ,zS,zT,i64_w,i32_w]
            rfl
           refine take_ (i:=4) (N:=some 21) (v:=?_) (a':=?_) #[zA,zA,zA,zA,zA,zA,zA,zA,zA,zB,zA,zA,zB,zB,zB,zB,zB,zB,zB,zB,zB,zB,zB,zB,zB,zB,zB,zB,zB,zB,zB,zB,zB,zB,zB,zB,zB,zB,zB,zB,zB] rfl rfl (take_ofW HT_.out HW_.out (by kernel_rfl)) (fun _ _ _ h=>h) (Or.inl ⟨by rfl,?_⟩) hHeld ?_ ?_
           rotate_left
           ·
            rintro w' ⟨s0,s1,s2,s3,s4,s5,s6,s7,s8,s9⟩
            go_simp
            with_reducible rfl
           rotate_left
           ·
            simp only [Act.put,zQ,zS,zT,i64_w,i32_w]
            rfl
           refine take_ (i:=9) (N:=some 26) (v:=?_) (a':=?_) #[zA,zA,zA,zA,zA,zA,zA,zA,zA,zA,zA,zA,zB,zB,zB,zB,zB,zB,zB,zB,zB,zB,zB,zB,zB,zB,zB,zB,zB,zB,zB,zB,zB,zB,zB,zB,zB,zB,zB,zB,zB] rfl rfl (take_ofW HT_.out HW_.out (by kernel_rfl)) (fun _ _ _ h=>h) (Or.inl ⟨by rfl,?_⟩) hHeld ?_ ?_
           rotate_left
           ·
            rintro w' ⟨s0,s1,s2,s3,s4,s5,s6,s7,s8,s9⟩
            go_simp
            with_reducible rfl
           rotate_left
           ·
            simp only [Act.put,zQ,zS,zT,i64_w,i32_w]
            rfl
           refine one_ (i:=12) (N:=some 29) #[zA,zA,zA,zA,zA,zA,zA,zA,zA,zA,zA,zA,zA,zB,zB,zB,zB,zB,zB,zB,zB,zB,zB,zB,zB,zB,zB,zB,zB,zB,zB,zB,zB,zB,zB,zB,zB,zB,zB,zB,zB] rfl rfl (one_of HT_.out (by kernel_rfl)) (by decide) (fun K hK=>?_)
           refine goes_ Try.func56 (by kernel_rfl) rfl #[.int .u8 (bt t142 0),.int .i64 ((rd_T97 l0 x3_1).f1),.int .i64 (l0.length:Int)] (by rfl) rfl rfl (by (try simp only [List.map_toArray,List.map_cons,List.map_nil]);first|done|rfl|(simp only [List.length_drop,List.length_take];rfl)) ?_
           with_reducible refine (warpbeamref16_field.calls (bt t142 0) ((rd_T97 l0 x3_1).f1) (l0.length:Int) true _ A11.out).mono ?_
           rintro e w' ⟨rfl,⟨nd,rfl⟩⟩
           refine ⟨_,rfl,?_⟩
           have p14:0≤(1:Int):=(by omega)
           have q14:1<t142.size:=(by have:(1:Int)<(t142.size:Int):=of_decide_eq_true (by first|(with_reducible assumption)|assumption);omega)
           have hx14:∀ h:1<t142.size,((t142[1]'h).toNat:Int)=bt t142 1:=bt_at t142 1
           clear p14
           have qi14:(1<(t142.size:Int))=True:=eq_true (of_decide_eq_true (by first|(with_reducible assumption)|assumption))
           replace q14:=eq_true q14
           refine hK.out _ _ ⟨((HB.out.cell (zO w _ hw143_0)).trans hw143_0),((HB.out.cell (zO w _ hw143_1)).trans hw143_1),((HB.out.cell (zO w _ hw143_2)).trans hw143_2),((HB.out.cell (zO w _ hw143_3)).trans hw143_3),((HB.out.cell (zO w _ hw143_4)).trans hw143_4),((HB.out.cell (zO w _ hw145_0)).trans hw145_0),((HB.out.cell (zO w _ hw145_1)).trans hw145_1),((HB.out.cell (zO w _ hw145_2)).trans hw145_2),((HB.out.cell (zO w _ hw145_3)).trans hw145_3),((HB.out.cell (zO w _ hw145_4)).trans hw145_4)⟩ (fun hHeld=>?_)
           clear hK K
           refine norm_ (a':=?_) ?_ ?_
           rotate_left
           ·
            show Act.put _ (some 29) _=_
            simp only [Act.put,zQ,zS,zT,i64_w,i32_w]
            rfl
           refine pure_ (i:=13) (N:=some 30) (v:=?_) (a':=?_) #[zA,zA,zA,zA,zA,zA,zA,zA,zA,zA,zA,zA,zA,zA,zB,zB,zB,zB,zB,zB,zB,zB,zB,zB,zB,zB,zB,zB,zB,zB,zB,zB,zB,zB,zB,zB,zB,zB,zB,zB,zB] rfl rfl (any_of HT_.out (by kernel_rfl)) (fun _ _ _ h=>h) (Or.inl ⟨by rfl,?_⟩) ?_ ?_
           rotate_left
           ·
            intro w'
            go_simp
            with_reducible rfl
           rotate_left
           ·
            simp only [Act.put,zQ,zS,zT,i64_w,i32_w]
            rfl
           refine pure_ (i:=14) (N:=some 31) (v:=?_) (a':=?_) #[zA,zA,zA,zA,zA,zA,zA,zA,zA,zA,zA,zA,zA,zA,zA,zB,zB,zB,zB,zB,zB,zB,zB,zB,zB,zB,zB,zB,zB,zB,zB,zB,zB,zB,zB,zB,zB,zB,zB,zB,zB] rfl rfl (any_of HT_.out (by kernel_rfl)) (fun _ _ _ h=>h) (Or.inl ⟨by rfl,?_⟩) ?_ ?_
           rotate_left
           ·
            intro w'
            go_simp
            with_reducible rfl
           rotate_left
           ·
            simp only [Act.put,zQ,zS,zT,i64_w,i32_w]
            rfl
           refine pure_ (i:=15) (N:=some 32) (v:=?_) (a':=?_) #[zA,zA,zA,zA,zA,zA,zA,zA,zA,zA,zA,zA,zA,zA,zA,zA,zB,zB,zB,zB,zB,zB,zB,zB,zB,zB,zB,zB,zB,zB,zB,zB,zB,zB,zB,zB,zB,zB,zB,zB,zB] rfl rfl (any_of HT_.out (by kernel_rfl)) (fun _ _ _ h=>h) (Or.inl ⟨by rfl,?_⟩) ?_ ?_
           rotate_left
           ·
            intro w'
            go_simp
            with_reducible rfl
           rotate_left
           ·
            simp only [Act.put,zQ,zS,zT,i64_w,i32_w]
            rfl
           refine pure_ (i:=16) (N:=some 33) (v:=?_) (a':=?_) #[zA,zA,zA,zA,zA,zA,zA,zA,zA,zA,zA,zA,zA,zA,zA,zA,zA,zB,zB,zB,zB,zB,zB,zB,zB,zB,zB,zB,zB,zB,zB,zB,zB,zB,zB,zB,zB,zB,zB,zB,zB] rfl rfl (any_of HT_.out (by kernel_rfl)) (fun _ _ _ h=>h) (Or.inl ⟨by rfl,?_⟩) ?_ ?_
           rotate_left
           ·
            intro w'
            go_simp
            with_reducible rfl
           rotate_left
           ·
            simp only [Act.put,zQ,zS,zT,i64_w,i32_w]
            rfl
           refine pure_ (i:=18) (N:=some 35) (v:=?_) (a':=?_) #[zA,zA,zA,zA,zA,zA,zA,zA,zA,zA,zA,zA,zA,zA,zA,zA,zA,zB,zA,zB,zB,zB,zB,zB,zB,zB,zB,zB,zB,zB,zB,zB,zB,zB,zB,zB,zB,zB,zB,zB,zB] rfl rfl (any_of HT_.out (by kernel_rfl)) (fun _ _ _ h=>h) (Or.inl ⟨by rfl,?_⟩) ?_ ?_
           rotate_left
           ·
            intro w'
            go_simp
            with_reducible rfl
           rotate_left
           ·
            simp only [Act.put,zQ,zS,zT,i64_w,i32_w]
            rfl
           refine pure_ (i:=19) (N:=some 36) (v:=?_) (a':=?_) #[zA,zA,zA,zA,zA,zA,zA,zA,zA,zA,zA,zA,zA,zA,zA,zA,zA,zB,zA,zA,zB,zB,zB,zB,zB,zB,zB,zB,zB,zB,zB,zB,zB,zB,zB,zB,zB,zB,zB,zB,zB] rfl rfl (any_of HT_.out (by kernel_rfl)) (fun _ _ _ h=>h) (Or.inl ⟨by rfl,?_⟩) ?_ ?_
           rotate_left
           ·
            intro w'
            go_simp
            with_reducible rfl
           rotate_left
           ·
            simp only [Act.put,zQ,zS,zT,i64_w,i32_w]
            rfl
           refine pure_ (i:=20) (N:=some 37) (v:=?_) (a':=?_) #[zA,zA,zA,zA,zA,zA,zA,zA,zA,zA,zA,zA,zA,zA,zA,zA,zA,zB,zA,zA,zA,zB,zB,zB,zB,zB,zB,zB,zB,zB,zB,zB,zB,zB,zB,zB,zB,zB,zB,zB,zB] rfl rfl (any_of HT_.out (by kernel_rfl)) (fun _ _ _ h=>h) (Or.inl ⟨by rfl,?_⟩) ?_ ?_
           rotate_left
           ·
            intro w'
            go_simp
            with_reducible rfl
           rotate_left
           ·
            simp only [Act.put,zQ,zS,zT,i64_w,i32_w]
            rfl
           refine pure_ (i:=21) (N:=some 38) (v:=?_) (a':=?_) #[zA,zA,zA,zA,zA,zA,zA,zA,zA,zA,zA,zA,zA,zA,zA,zA,zA,zB,zA,zA,zA,zA,zB,zB,zB,zB,zB,zB,zB,zB,zB,zB,zB,zB,zB,zB,zB,zB,zB,zB,zB] rfl rfl (any_of HT_.out (by kernel_rfl)) (fun _ _ _ h=>h) (Or.inl ⟨by rfl,?_⟩) ?_ ?_
           rotate_left
           ·
            intro w'
            go_simp
            with_reducible rfl
           rotate_left
           ·
            simp only [Act.put,zQ,zS,zT,i64_w,i32_w]
            rfl
           refine pure_ (i:=23) (N:=some 40) (v:=?_) (a':=?_) #[zA,zA,zA,zA,zA,zA,zA,zA,zA,zA,zA,zA,zA,zA,zA,zA,zA,zB,zA,zA,zA,zA,zB,zA,zB,zB,zB,zB,zB,zB,zB,zB,zB,zB,zB,zB,zB,zB,zB,zB,zB] rfl rfl (any_of HT_.out (by kernel_rfl)) (fun _ _ _ h=>h) (Or.inl ⟨by rfl,?_⟩) ?_ ?_
           rotate_left
           ·
            intro w'
            go_simp
            with_reducible rfl
           rotate_left
           ·
            simp only [Act.put,zQ,zS,zT,i64_w,i32_w]
            rfl
           refine pure_ (i:=24) (N:=some 41) (v:=?_) (a':=?_) #[zA,zA,zA,zA,zA,zA,zA,zA,zA,zA,zA,zA,zA,zA,zA,zA,zA,zB,zA,zA,zA,zA,zB,zA,zA,zB,zB,zB,zB,zB,zB,zB,zB,zB,zB,zB,zB,zB,zB,zB,zB] rfl rfl (any_of HT_.out (by kernel_rfl)) (fun _ _ _ h=>h) (Or.inl ⟨by rfl,?_⟩) ?_ ?_
           rotate_left
           ·
            intro w'
            go_simp
            with_reducible rfl
           rotate_left
           ·
            simp only [Act.put,zQ,zS,zT,i64_w,i32_w]
            rfl
           refine take_ (i:=17) (N:=some 34) (v:=?_) (a':=?_) #[zA,zA,zA,zA,zA,zA,zA,zA,zA,zA,zA,zA,zA,zA,zA,zA,zA,zA,zA,zA,zA,zA,zB,zA,zA,zB,zB,zB,zB,zB,zB,zB,zB,zB,zB,zB,zB,zB,zB,zB,zB] rfl rfl (take_ofW HT_.out HW_.out (by kernel_rfl)) (fun _ _ _ h=>h) (Or.inl ⟨by rfl,?_⟩) hHeld ?_ ?_
           rotate_left
           ·
            rintro w' ⟨s0,s1,s2,s3,s4,s5,s6,s7,s8,s9⟩
            go_simp
            with_reducible rfl
           rotate_left
           ·
            simp only [Act.put,zQ,zS,zT,i64_w,i32_w]
            rfl
           refine take_ (i:=22) (N:=some 39) (v:=?_) (a':=?_) #[zA,zA,zA,zA,zA,zA,zA,zA,zA,zA,zA,zA,zA,zA,zA,zA,zA,zA,zA,zA,zA,zA,zA,zA,zA,zB,zB,zB,zB,zB,zB,zB,zB,zB,zB,zB,zB,zB,zB,zB,zB] rfl rfl (take_ofW HT_.out HW_.out (by kernel_rfl)) (fun _ _ _ h=>h) (Or.inl ⟨by rfl,?_⟩) hHeld ?_ ?_
           rotate_left
           ·
            rintro w' ⟨s0,s1,s2,s3,s4,s5,s6,s7,s8,s9⟩
            go_simp
            with_reducible rfl
           rotate_left
           ·
            simp only [Act.put,zQ,zS,zT,i64_w,i32_w]
            rfl
           refine one_ (i:=25) (N:=some 42) #[zA,zA,zA,zA,zA,zA,zA,zA,zA,zA,zA,zA,zA,zA,zA,zA,zA,zA,zA,zA,zA,zA,zA,zA,zA,zA,zB,zB,zB,zB,zB,zB,zB,zB,zB,zB,zB,zB,zB,zB,zB] rfl rfl (one_of HT_.out (by kernel_rfl)) (by decide) (fun K hK=>?_)
           refine goes_ Try.func56 (by kernel_rfl) rfl #[.int .u8 (bt t142 1),.int .i64 ((rd_T97 l0 x3_1).f2),.int .i64 (l0.length:Int)] (by rfl) rfl rfl (by (try simp only [List.map_toArray,List.map_cons,List.map_nil]);first|done|rfl|(simp only [List.length_drop,List.length_take];rfl)) ?_
           with_reducible refine (warpbeamref16_field.calls (bt t142 1) ((rd_T97 l0 x3_1).f2) (l0.length:Int) false _ A15.out).mono ?_
           rintro e w' ⟨rfl,⟨nd,rfl⟩⟩
           refine ⟨_,rfl,?_⟩
           refine hK.out _ _ ⟨((HB.out.cell (zO w _ hw143_0)).trans hw143_0),((HB.out.cell (zO w _ hw143_1)).trans hw143_1),((HB.out.cell (zO w _ hw143_2)).trans hw143_2),((HB.out.cell (zO w _ hw143_3)).trans hw143_3),((HB.out.cell (zO w _ hw143_4)).trans hw143_4),((HB.out.cell (zO w _ hw145_0)).trans hw145_0),((HB.out.cell (zO w _ hw145_1)).trans hw145_1),((HB.out.cell (zO w _ hw145_2)).trans hw145_2),((HB.out.cell (zO w _ hw145_3)).trans hw145_3),((HB.out.cell (zO w _ hw145_4)).trans hw145_4)⟩ (fun hHeld=>?_)
           clear hK K
           refine norm_ (a':=?_) ?_ ?_
           rotate_left
           ·
            show Act.put _ (some 42) _=_
            simp only [Act.put,zQ,zS,zT,i64_w,i32_w]
            rfl
           refine pure_ (i:=26) (N:=some 43) (v:=?_) (a':=?_) #[zA,zA,zA,zA,zA,zA,zA,zA,zA,zA,zA,zA,zA,zA,zA,zA,zA,zA,zA,zA,zA,zA,zA,zA,zA,zA,zA,zB,zB,zB,zB,zB,zB,zB,zB,zB,zB,zB,zB,zB,zB] rfl rfl (any_of HT_.out (by kernel_rfl)) (fun _ _ _ h=>h) (Or.inl ⟨by rfl,?_⟩) ?_ ?_
           rotate_left
           ·
            intro w'
            go_simp
            with_reducible rfl
           rotate_left
           ·
            simp only [Act.put,zQ,zS,zT,i64_w,i32_w]
            rfl
           refine pure_ (i:=27) (N:=some 44) (v:=?_) (a':=?_) #[zA,zA,zA,zA,zA,zA,zA,zA,zA,zA,zA,zA,zA,zA,zA,zA,zA,zA,zA,zA,zA,zA,zA,zA,zA,zA,zA,zA,zB,zB,zB,zB,zB,zB,zB,zB,zB,zB,zB,zB,zB] rfl rfl (any_of HT_.out (by kernel_rfl)) (fun _ _ _ h=>h) (Or.inl ⟨by rfl,?_⟩) ?_ ?_
           rotate_left
           ·
            intro w'
            go_simp
            with_reducible rfl
           rotate_left
           ·
            simp only [Act.put,zQ,zS,zT,i64_w,i32_w]
            rfl
           refine pure_ (i:=28) (N:=some 45) (v:=?_) (a':=?_) #[zA,zA,zA,zA,zA,zA,zA,zA,zA,zA,zA,zA,zA,zA,zA,zA,zA,zA,zA,zA,zA,zA,zA,zA,zA,zA,zA,zA,zA,zB,zB,zB,zB,zB,zB,zB,zB,zB,zB,zB,zB] rfl rfl (any_of HT_.out (by kernel_rfl)) (fun _ _ _ h=>h) (Or.inl ⟨by rfl,?_⟩) ?_ ?_
           rotate_left
           ·
            intro w'
            go_simp
            with_reducible rfl
           rotate_left
           ·
            simp only [Act.put,zQ,zS,zT,i64_w,i32_w]
            rfl
           refine pure_ (i:=29) (N:=some 46) (v:=undef) (a':=?_) #[zA,zA,zA,zA,zA,zA,zA,zA,zA,zA,zA,zA,zA,zA,zA,zA,zA,zA,zA,zA,zA,zA,zA,zA,zA,zA,zA,zA,zA,zA,zB,zB,zB,zB,zB,zB,zB,zB,zB,zB,zB] rfl rfl (any_of HT_.out (by kernel_rfl)) (fun _ _ _ h=>h) (Or.inr ⟨by rfl,rfl⟩) ?_ ?_
           rotate_left
           ·
            simp only [Act.put,zQ,zS,zT,i64_w,i32_w]
            rfl
           refine pure_ (i:=30) (N:=some 47) (v:=undef) (a':=?_) #[zA,zA,zA,zA,zA,zA,zA,zA,zA,zA,zA,zA,zA,zA,zA,zA,zA,zA,zA,zA,zA,zA,zA,zA,zA,zA,zA,zA,zA,zA,zA,zB,zB,zB,zB,zB,zB,zB,zB,zB,zB] rfl rfl (any_of HT_.out (by kernel_rfl)) (fun _ _ _ h=>h) (Or.inr ⟨by rfl,rfl⟩) ?_ ?_
           rotate_left
           ·
            simp only [Act.put,zQ,zS,zT,i64_w,i32_w]
            rfl
           refine pure_ (i:=31) (N:=some 48) (v:=undef) (a':=?_) #[zA,zA,zA,zA,zA,zA,zA,zA,zA,zA,zA,zA,zA,zA,zA,zA,zA,zA,zA,zA,zA,zA,zA,zA,zA,zA,zA,zA,zA,zA,zA,zA,zB,zB,zB,zB,zB,zB,zB,zB,zB] rfl rfl (any_of HT_.out (by kernel_rfl)) (fun _ _ _ h=>h) (Or.inr ⟨by rfl,rfl⟩) ?_ ?_
           rotate_left
           ·
            simp only [Act.put,zQ,zS,zT,i64_w,i32_w]
            rfl
           refine pure_ (i:=32) (N:=some 49) (v:=undef) (a':=?_) #[zA,zA,zA,zA,zA,zA,zA,zA,zA,zA,zA,zA,zA,zA,zA,zA,zA,zA,zA,zA,zA,zA,zA,zA,zA,zA,zA,zA,zA,zA,zA,zA,zA,zB,zB,zB,zB,zB,zB,zB,zB] rfl rfl (any_of HT_.out (by kernel_rfl)) (fun _ _ _ h=>h) (Or.inr ⟨by rfl,rfl⟩) ?_ ?_
           rotate_left
           ·
            simp only [Act.put,zQ,zS,zT,i64_w,i32_w]
            rfl
           refine pure_ (i:=33) (N:=some 50) (v:=undef) (a':=?_) #[zA,zA,zA,zA,zA,zA,zA,zA,zA,zA,zA,zA,zA,zA,zA,zA,zA,zA,zA,zA,zA,zA,zA,zA,zA,zA,zA,zA,zA,zA,zA,zA,zA,zA,zB,zB,zB,zB,zB,zB,zB] rfl rfl (any_of HT_.out (by kernel_rfl)) (fun _ _ _ h=>h) (Or.inr ⟨by rfl,rfl⟩) ?_ ?_
           rotate_left
           ·
            simp only [Act.put,zQ,zS,zT,i64_w,i32_w]
            rfl
           refine pure_ (i:=34) (N:=some 51) (v:=undef) (a':=?_) #[zA,zA,zA,zA,zA,zA,zA,zA,zA,zA,zA,zA,zA,zA,zA,zA,zA,zA,zA,zA,zA,zA,zA,zA,zA,zA,zA,zA,zA,zA,zA,zA,zA,zA,zA,zB,zB,zB,zB,zB,zB] rfl rfl (any_of HT_.out (by kernel_rfl)) (fun _ _ _ h=>h) (Or.inr ⟨by rfl,rfl⟩) ?_ ?_
           rotate_left
           ·
            simp only [Act.put,zQ,zS,zT,i64_w,i32_w]
            rfl
           refine pure_ (i:=35) (N:=some 52) (v:=undef) (a':=?_) #[zA,zA,zA,zA,zA,zA,zA,zA,zA,zA,zA,zA,zA,zA,zA,zA,zA,zA,zA,zA,zA,zA,zA,zA,zA,zA,zA,zA,zA,zA,zA,zA,zA,zA,zA,zA,zB,zB,zB,zB,zB] rfl rfl (any_of HT_.out (by kernel_rfl)) (fun _ _ _ h=>h) (Or.inr ⟨by rfl,rfl⟩) ?_ ?_
           rotate_left
           ·
            simp only [Act.put,zQ,zS,zT,i64_w,i32_w]
            rfl
           refine pure_ (i:=36) (N:=some 53) (v:=undef) (a':=?_) #[zA,zA,zA,zA,zA,zA,zA,zA,zA,zA,zA,zA,zA,zA,zA,zA,zA,zA,zA,zA,zA,zA,zA,zA,zA,zA,zA,zA,zA,zA,zA,zA,zA,zA,zA,zA,zA,zB,zB,zB,zB] rfl rfl (any_of HT_.out (by kernel_rfl)) (fun _ _ _ h=>h) (Or.inr ⟨by rfl,rfl⟩) ?_ ?_
           rotate_left
           ·
            simp only [Act.put,zQ,zS,zT,i64_w,i32_w]
            rfl
           refine pure_ (i:=37) (N:=some 54) (v:=undef) (a':=?_) #[zA,zA,zA,zA,zA,zA,zA,zA,zA,zA,zA,zA,zA,zA,zA,zA,zA,zA,zA,zA,zA,zA,zA,zA,zA,zA,zA,zA,zA,zA,zA,zA,zA,zA,zA,zA,zA,zA,zB,zB,zB] rfl rfl (any_of HT_.out (by kernel_rfl)) (fun _ _ _ h=>h) (Or.inr ⟨by rfl,rfl⟩) ?_ ?_
           rotate_left
           ·
            simp only [Act.put,zQ,zS,zT,i64_w,i32_w]
            rfl
           refine pure_ (i:=38) (N:=some 55) (v:=undef) (a':=?_) #[zA,zA,zA,zA,zA,zA,zA,zA,zA,zA,zA,zA,zA,zA,zA,zA,zA,zA,zA,zA,zA,zA,zA,zA,zA,zA,zA,zA,zA,zA,zA,zA,zA,zA,zA,zA,zA,zA,zA,zB,zB] rfl rfl (any_of HT_.out (by kernel_rfl)) (fun _ _ _ h=>h) (Or.inr ⟨by rfl,rfl⟩) ?_ ?_
           rotate_left
           ·
            simp only [Act.put,zQ,zS,zT,i64_w,i32_w]
            rfl
           refine pure_ (i:=39) (N:=some 56) (v:=undef) (a':=?_) #[zA,zA,zA,zA,zA,zA,zA,zA,zA,zA,zA,zA,zA,zA,zA,zA,zA,zA,zA,zA,zA,zA,zA,zA,zA,zA,zA,zA,zA,zA,zA,zA,zA,zA,zA,zA,zA,zA,zA,zA,zB] rfl rfl (any_of HT_.out (by kernel_rfl)) (fun _ _ _ h=>h) (Or.inr ⟨by rfl,rfl⟩) ?_ ?_
           rotate_left
           ·
            simp only [Act.put,zQ,zS,zT,i64_w,i32_w]
            rfl
           refine pure_ (i:=40) (N:=some 57) (v:=?_) (a':=?_) #[zA,zA,zA,zA,zA,zA,zA,zA,zA,zA,zA,zA,zA,zA,zA,zA,zA,zA,zA,zA,zA,zA,zA,zA,zA,zA,zA,zA,zA,zA,zA,zA,zA,zA,zA,zA,zA,zA,zA,zA,zA] rfl rfl (any_of HT_.out (by kernel_rfl)) (fun _ _ _ h=>h) (Or.inl ⟨by rfl,?_⟩) ?_ ?_
           rotate_left
           ·
            intro w'
            go_simp
            with_reducible rfl
           rotate_left
           ·
            simp only [Act.put,zQ,zS,zT,i64_w,i32_w]
            rfl
           refine done_ (done_of HT_.out (by kernel_rfl)) ?_
           try go_wp2
           go_meet
           case rel=>exact ⟨_,(true),(by first|rfl|(simp;done)|(simp [*];done)),H',⟨by have:=HK1.out;first|omega|exact Nat.le_refl _⟩,⟨by repeat (first|(with_reducible first|exact HB.out|apply zG|apply zN|apply zH)|exact HB.out)⟩⟩
         ·
          rw [if_neg c13] at H
          exact absurd H (by simp)
        ·
         replace c12:=Bool.eq_false_iff.mpr c12
         subst c12
         have H1:(warpbeamref16_Right.j1 k1 l0 x3_1 t142 true)=some r:=by rw [if_neg (show ¬ (false=true) by decide)] at H;exact H
         clear H
         have H:=H1
         clear H1
         have H':=Aside0.mk H
         clear H
         try go_wp2
         have n0_:=Aside0.mk (zH HB.out)
         clear HB
         have HB:=n0_
         clear n0_
         have p10:0≤(0:Int):=(by omega)
         have q10:0<t142.size:=(by have:(0:Int)<(t142.size:Int):=of_decide_eq_true (by first|(with_reducible assumption)|assumption);omega)
         have hx10:∀ h:0<t142.size,((t142[0]'h).toNat:Int)=bt t142 0:=bt_at t142 0
         clear p10
         have qi10:(0<(t142.size:Int))=True:=eq_true (of_decide_eq_true (by first|(with_reducible assumption)|assumption))
         replace q10:=eq_true q10
         have p143:0≤(x3_1:Int):=of_decide_eq_true (by first|(with_reducible assumption)|assumption)
         have q143:x3_1<(l0.length:Int):=of_decide_eq_true (by first|(with_reducible assumption)|assumption)
         obtain ⟨ad143,e143,hx143_0,hx143_1,hx143_2,hx143_3,hx143_4⟩:=at_T97 HR0.out x3_1 p143 q143
         have hw143_4:=hx143_4
         have hw143_3:=hx143_3
         have hw143_2:=hx143_2
         have hw143_1:=hx143_1
         have hw143_0:=hx143_0
         obtain rfl:ad141=ad143:=(by injection e143)
         replace hx143_0:=(HB.out.cell (zO w _ hx143_0)).trans hx143_0
         replace hx143_1:=(HB.out.cell (zO w _ hx143_1)).trans hx143_1
         replace hx143_2:=(HB.out.cell (zO w _ hx143_2)).trans hx143_2
         replace hx143_3:=(HB.out.cell (zO w _ hx143_3)).trans hx143_3
         replace hx143_4:=(HB.out.cell (zO w _ hx143_4)).trans hx143_4
         replace p143:=eq_true p143
         replace q143:=eq_true q143
         refine start_ (n:=41) (S:=fun w'=>w'.cell? (ad141.add ((x3_1).toNat * 5))=some (.int .i64 ((rd_T97 l0 x3_1).f0))∧w'.cell? ⟨(ad141.add ((x3_1).toNat * 5)).block,(ad141.add ((x3_1).toNat * 5)).off+1,none⟩=some (.int .i64 ((rd_T97 l0 x3_1).f1))∧w'.cell? ⟨(ad141.add ((x3_1).toNat * 5)).block,(ad141.add ((x3_1).toNat * 5)).off+2,none⟩=some (.int .i64 ((rd_T97 l0 x3_1).f2))∧w'.cell? ⟨(ad141.add ((x3_1).toNat * 5)).block,(ad141.add ((x3_1).toNat * 5)).off+3,none⟩=some (.int .i64 ((rd_T97 l0 x3_1).f3))∧w'.cell? ⟨(ad141.add ((x3_1).toNat * 5)).block,(ad141.add ((x3_1).toNat * 5)).off+4,none⟩=some (.int .i64 ((rd_T97 l0 x3_1).f4))) (ds:=[]) #[zB,zB,zB,zB,zB,zB,zB,zB,zB,zB,zB,zB,zB,zB,zB,zB,zB,zB,zB,zB,zB,zB,zB,zB,zB,zB,zB,zB,zB,zB,zB,zB,zB,zB,zB,zB,zB,zB,zB,zB,zB] (by kernel_rfl) rfl rfl ⟨((HB.out.cell (zO w _ hw143_0)).trans hw143_0),((HB.out.cell (zO w _ hw143_1)).trans hw143_1),((HB.out.cell (zO w _ hw143_2)).trans hw143_2),((HB.out.cell (zO w _ hw143_3)).trans hw143_3),((HB.out.cell (zO w _ hw143_4)).trans hw143_4)⟩ (fun hHeld=>?_);refine with_tabW warpbeamref16_Right.tab5 warpbeamref16_Right.bits5 (fun HT_ HW_=>?_)
         generalize w6.drew=w22 at HB hx143_0 hx143_1 hx143_2 hx143_3 hx143_4 hHeld ⊢
         refine pure_ (i:=0) (N:=some 17) (v:=?_) (a':=?_) #[zA,zB,zB,zB,zB,zB,zB,zB,zB,zB,zB,zB,zB,zB,zB,zB,zB,zB,zB,zB,zB,zB,zB,zB,zB,zB,zB,zB,zB,zB,zB,zB,zB,zB,zB,zB,zB,zB,zB,zB,zB] rfl rfl (any_of HT_.out (by kernel_rfl)) (fun _ _ _ h=>h) (Or.inl ⟨by rfl,?_⟩) ?_ ?_
         rotate_left
         ·
          intro w'
          go_simp
          with_reducible rfl
         rotate_left
         ·
          simp only [Act.put,zQ,zS,zT,i64_w,i32_w]
          rfl
         refine pure_ (i:=1) (N:=some 18) (v:=?_) (a':=?_) #[zA,zA,zB,zB,zB,zB,zB,zB,zB,zB,zB,zB,zB,zB,zB,zB,zB,zB,zB,zB,zB,zB,zB,zB,zB,zB,zB,zB,zB,zB,zB,zB,zB,zB,zB,zB,zB,zB,zB,zB,zB] rfl rfl (any_of HT_.out (by kernel_rfl)) (fun _ _ _ h=>h) (Or.inl ⟨by rfl,?_⟩) ?_ ?_
         rotate_left
         ·
          intro w'
          go_simp
          with_reducible rfl
         rotate_left
         ·
          simp only [Act.put,zQ,zS,zT,i64_w,i32_w]
          rfl
         refine pure_ (i:=2) (N:=some 19) (v:=?_) (a':=?_) #[zA,zA,zA,zB,zB,zB,zB,zB,zB,zB,zB,zB,zB,zB,zB,zB,zB,zB,zB,zB,zB,zB,zB,zB,zB,zB,zB,zB,zB,zB,zB,zB,zB,zB,zB,zB,zB,zB,zB,zB,zB] rfl rfl (any_of HT_.out (by kernel_rfl)) (fun _ _ _ h=>h) (Or.inl ⟨by rfl,?_⟩) ?_ ?_
         rotate_left
         ·
          intro w'
          go_simp
          with_reducible rfl
         rotate_left
         ·
          simp only [Act.put,zQ,zS,zT,i64_w,i32_w]
          rfl
         refine pure_ (i:=3) (N:=some 20) (v:=?_) (a':=?_) #[zA,zA,zA,zA,zB,zB,zB,zB,zB,zB,zB,zB,zB,zB,zB,zB,zB,zB,zB,zB,zB,zB,zB,zB,zB,zB,zB,zB,zB,zB,zB,zB,zB,zB,zB,zB,zB,zB,zB,zB,zB] rfl rfl (any_of HT_.out (by kernel_rfl)) (fun _ _ _ h=>h) (Or.inl ⟨by rfl,?_⟩) ?_ ?_
         rotate_left
         ·
          intro w'
          go_simp
          with_reducible rfl
         rotate_left
         ·
          simp only [Act.put,zQ,zS,zT,i64_w,i32_w]
          rfl
         refine pure_ (i:=5) (N:=some 22) (v:=?_) (a':=?_) #[zA,zA,zA,zA,zB,zA,zB,zB,zB,zB,zB,zB,zB,zB,zB,zB,zB,zB,zB,zB,zB,zB,zB,zB,zB,zB,zB,zB,zB,zB,zB,zB,zB,zB,zB,zB,zB,zB,zB,zB,zB] rfl rfl (any_of HT_.out (by kernel_rfl)) (fun _ _ _ h=>h) (Or.inl ⟨by rfl,?_⟩) ?_ ?_
         rotate_left
         ·
          intro w'
          go_simp
          with_reducible rfl
         rotate_left
         ·
          simp only [Act.put,zQ,zS,zT,i64_w,i32_w]
          rfl
         refine pure_ (i:=6) (N:=some 23) (v:=?_) (a':=?_) #[zA,zA,zA,zA,zB,zA,zA,zB,zB,zB,zB,zB,zB,zB,zB,zB,zB,zB,zB,zB,zB,zB,zB,zB,zB,zB,zB,zB,zB,zB,zB,zB,zB,zB,zB,zB,zB,zB,zB,zB,zB] rfl rfl (any_of HT_.out (by kernel_rfl)) (fun _ _ _ h=>h) (Or.inl ⟨by rfl,?_⟩) ?_ ?_
         rotate_left
         ·
          intro w'
          go_simp
          with_reducible rfl
         rotate_left
         ·
          simp only [Act.put,zQ,zS,zT,i64_w,i32_w]
          rfl
         refine pure_ (i:=7) (N:=some 24) (v:=?_) (a':=?_) #[zA,zA,zA,zA,zB,zA,zA,zA,zB,zB,zB,zB,zB,zB,zB,zB,zB,zB,zB,zB,zB,zB,zB,zB,zB,zB,zB,zB,zB,zB,zB,zB,zB,zB,zB,zB,zB,zB,zB,zB,zB] rfl rfl (any_of HT_.out (by kernel_rfl)) (fun _ _ _ h=>h) (Or.inl ⟨by rfl,?_⟩) ?_ ?_
         rotate_left
         ·
          intro w'
          go_simp
          with_reducible rfl
         rotate_left
         ·
          simp only [Act.put,zQ,zS,zT,i64_w,i32_w]
          rfl
         refine pure_ (i:=8) (N:=some 25) (v:=?_) (a':=?_) #[zA,zA,zA,zA,zB,zA,zA,zA,zA,zB,zB,zB,zB,zB,zB,zB,zB,zB,zB,zB,zB,zB,zB,zB,zB,zB,zB,zB,zB,zB,zB,zB,zB,zB,zB,zB,zB,zB,zB,zB,zB] rfl rfl (any_of HT_.out (by kernel_rfl)) (fun _ _ _ h=>h) (Or.inl ⟨by rfl,?_⟩) ?_ ?_
         rotate_left
         ·
          intro w'
          go_simp
          with_reducible rfl
         rotate_left
         ·
          simp only [Act.put,zQ,zS,zT,i64_w,i32_w]
          rfl
         refine pure_ (i:=10) (N:=some 27) (v:=?_) (a':=?_) #[zA,zA,zA,zA,zB,zA,zA,zA,zA,zB,zA,zB,zB,zB,zB,zB,zB,zB,zB,zB,zB,zB,zB,zB,zB,zB,zB,zB,zB,zB,zB,zB,zB,zB,zB,zB,zB,zB,zB,zB,zB] rfl rfl (any_of HT_.out (by kernel_rfl)) (fun _ _ _ h=>h) (Or.inl ⟨by rfl,?_⟩) ?_ ?_
         rotate_left
         ·
          intro w'
          go_simp
          with_reducible rfl
         rotate_left
         ·
          simp only [Act.put,zQ,zS,zT,i64_w,i32_w]
          rfl
         refine pure_ (i:=11) (N:=some 28) (v:=?_) (a':=?_) #[zA,zA,zA,zA,zB,zA,zA,zA,zA,zB,zA,zA,zB,zB,zB,zB,zB,zB,zB,zB,zB,zB,zB,zB,zB,zB,zB,zB,zB,zB,zB,zB,zB,zB,zB,zB,zB,zB,zB,zB,zB] rfl rfl (any_of HT_.out (by kernel_rfl)) (fun _ _ _ h=>h) (Or.inl ⟨by rfl,?_⟩) ?_ ?_
         rotate_left
         ·
          intro w'
          go_simp
          with_reducible rfl
         rotate_left
         ·
          simp only [Act.put,zQ,zS,zT,i64_w,i32_w]
          rfl
         refine take_ (i:=4) (N:=some 21) (v:=?_) (a':=?_) #[zA,zA,zA,zA,zA,zA,zA,zA,zA,zB,zA,zA,zB,zB,zB,zB,zB,zB,zB,zB,zB,zB,zB,zB,zB,zB,zB,zB,zB,zB,zB,zB,zB,zB,zB,zB,zB,zB,zB,zB,zB] rfl rfl (take_ofW HT_.out HW_.out (by kernel_rfl)) (fun _ _ _ h=>h) (Or.inl ⟨by rfl,?_⟩) hHeld ?_ ?_
         rotate_left
         ·
          rintro w' ⟨s0,s1,s2,s3,s4⟩
          go_simp
          with_reducible rfl
         rotate_left
         ·
          simp only [Act.put,zQ,zS,zT,i64_w,i32_w]
          rfl
         refine take_ (i:=9) (N:=some 26) (v:=?_) (a':=?_) #[zA,zA,zA,zA,zA,zA,zA,zA,zA,zA,zA,zA,zB,zB,zB,zB,zB,zB,zB,zB,zB,zB,zB,zB,zB,zB,zB,zB,zB,zB,zB,zB,zB,zB,zB,zB,zB,zB,zB,zB,zB] rfl rfl (take_ofW HT_.out HW_.out (by kernel_rfl)) (fun _ _ _ h=>h) (Or.inl ⟨by rfl,?_⟩) hHeld ?_ ?_
         rotate_left
         ·
          rintro w' ⟨s0,s1,s2,s3,s4⟩
          go_simp
          with_reducible rfl
         rotate_left
         ·
          simp only [Act.put,zQ,zS,zT,i64_w,i32_w]
          rfl
         refine one_ (i:=12) (N:=some 29) #[zA,zA,zA,zA,zA,zA,zA,zA,zA,zA,zA,zA,zA,zB,zB,zB,zB,zB,zB,zB,zB,zB,zB,zB,zB,zB,zB,zB,zB,zB,zB,zB,zB,zB,zB,zB,zB,zB,zB,zB,zB] rfl rfl (one_of HT_.out (by kernel_rfl)) (by decide) (fun K hK=>?_)
         refine goes_ Try.func56 (by kernel_rfl) rfl #[.int .u8 (bt t142 0),.int .i64 ((rd_T97 l0 x3_1).f1),.int .i64 (l0.length:Int)] (by rfl) rfl rfl (by (try simp only [List.map_toArray,List.map_cons,List.map_nil]);first|done|rfl|(simp only [List.length_drop,List.length_take];rfl)) ?_
         with_reducible refine (warpbeamref16_field.calls (bt t142 0) ((rd_T97 l0 x3_1).f1) (l0.length:Int) false _ A11.out).mono ?_
         rintro e w' ⟨rfl,⟨nd,rfl⟩⟩
         refine ⟨_,rfl,?_⟩
         refine hK.out _ _ ⟨((HB.out.cell (zO w _ hw143_0)).trans hw143_0),((HB.out.cell (zO w _ hw143_1)).trans hw143_1),((HB.out.cell (zO w _ hw143_2)).trans hw143_2),((HB.out.cell (zO w _ hw143_3)).trans hw143_3),((HB.out.cell (zO w _ hw143_4)).trans hw143_4)⟩ (fun hHeld=>?_)
         clear hK K
         refine norm_ (a':=?_) ?_ ?_
         rotate_left
         ·
          show Act.put _ (some 29) _=_
          simp only [Act.put,zQ,zS,zT,i64_w,i32_w]
          rfl
         refine pure_ (i:=13) (N:=some 30) (v:=?_) (a':=?_) #[zA,zA,zA,zA,zA,zA,zA,zA,zA,zA,zA,zA,zA,zA,zB,zB,zB,zB,zB,zB,zB,zB,zB,zB,zB,zB,zB,zB,zB,zB,zB,zB,zB,zB,zB,zB,zB,zB,zB,zB,zB] rfl rfl (any_of HT_.out (by kernel_rfl)) (fun _ _ _ h=>h) (Or.inl ⟨by rfl,?_⟩) ?_ ?_
         rotate_left
         ·
          intro w'
          go_simp
          with_reducible rfl
         rotate_left
         ·
          simp only [Act.put,zQ,zS,zT,i64_w,i32_w]
          rfl
         refine pure_ (i:=14) (N:=some 31) (v:=?_) (a':=?_) #[zA,zA,zA,zA,zA,zA,zA,zA,zA,zA,zA,zA,zA,zA,zA,zB,zB,zB,zB,zB,zB,zB,zB,zB,zB,zB,zB,zB,zB,zB,zB,zB,zB,zB,zB,zB,zB,zB,zB,zB,zB] rfl rfl (any_of HT_.out (by kernel_rfl)) (fun _ _ _ h=>h) (Or.inl ⟨by rfl,?_⟩) ?_ ?_
         rotate_left
         ·
          intro w'
          go_simp
          with_reducible rfl
         rotate_left
         ·
          simp only [Act.put,zQ,zS,zT,i64_w,i32_w]
          rfl
         refine pure_ (i:=15) (N:=some 32) (v:=?_) (a':=?_) #[zA,zA,zA,zA,zA,zA,zA,zA,zA,zA,zA,zA,zA,zA,zA,zA,zB,zB,zB,zB,zB,zB,zB,zB,zB,zB,zB,zB,zB,zB,zB,zB,zB,zB,zB,zB,zB,zB,zB,zB,zB] rfl rfl (any_of HT_.out (by kernel_rfl)) (fun _ _ _ h=>h) (Or.inl ⟨by rfl,?_⟩) ?_ ?_
         rotate_left
         ·
          intro w'
          go_simp
          with_reducible rfl
         rotate_left
         ·
          simp only [Act.put,zQ,zS,zT,i64_w,i32_w]
          rfl
         refine pure_ (i:=16) (N:=some 33) (v:=undef) (a':=?_) #[zA,zA,zA,zA,zA,zA,zA,zA,zA,zA,zA,zA,zA,zA,zA,zA,zA,zB,zB,zB,zB,zB,zB,zB,zB,zB,zB,zB,zB,zB,zB,zB,zB,zB,zB,zB,zB,zB,zB,zB,zB] rfl rfl (any_of HT_.out (by kernel_rfl)) (fun _ _ _ h=>h) (Or.inr ⟨by rfl,rfl⟩) ?_ ?_
         rotate_left
         ·
          simp only [Act.put,zQ,zS,zT,i64_w,i32_w]
          rfl
         refine pure_ (i:=17) (N:=some 34) (v:=undef) (a':=?_) #[zA,zA,zA,zA,zA,zA,zA,zA,zA,zA,zA,zA,zA,zA,zA,zA,zA,zA,zB,zB,zB,zB,zB,zB,zB,zB,zB,zB,zB,zB,zB,zB,zB,zB,zB,zB,zB,zB,zB,zB,zB] rfl rfl (any_of HT_.out (by kernel_rfl)) (fun _ _ _ h=>h) (Or.inr ⟨by rfl,rfl⟩) ?_ ?_
         rotate_left
         ·
          simp only [Act.put,zQ,zS,zT,i64_w,i32_w]
          rfl
         refine pure_ (i:=18) (N:=some 35) (v:=undef) (a':=?_) #[zA,zA,zA,zA,zA,zA,zA,zA,zA,zA,zA,zA,zA,zA,zA,zA,zA,zA,zA,zB,zB,zB,zB,zB,zB,zB,zB,zB,zB,zB,zB,zB,zB,zB,zB,zB,zB,zB,zB,zB,zB] rfl rfl (any_of HT_.out (by kernel_rfl)) (fun _ _ _ h=>h) (Or.inr ⟨by rfl,rfl⟩) ?_ ?_
         rotate_left
         ·
          simp only [Act.put,zQ,zS,zT,i64_w,i32_w]
          rfl
         refine pure_ (i:=19) (N:=some 36) (v:=undef) (a':=?_) #[zA,zA,zA,zA,zA,zA,zA,zA,zA,zA,zA,zA,zA,zA,zA,zA,zA,zA,zA,zA,zB,zB,zB,zB,zB,zB,zB,zB,zB,zB,zB,zB,zB,zB,zB,zB,zB,zB,zB,zB,zB] rfl rfl (any_of HT_.out (by kernel_rfl)) (fun _ _ _ h=>h) (Or.inr ⟨by rfl,rfl⟩) ?_ ?_
         rotate_left
         ·
          simp only [Act.put,zQ,zS,zT,i64_w,i32_w]
          rfl
         refine pure_ (i:=20) (N:=some 37) (v:=undef) (a':=?_) #[zA,zA,zA,zA,zA,zA,zA,zA,zA,zA,zA,zA,zA,zA,zA,zA,zA,zA,zA,zA,zA,zB,zB,zB,zB,zB,zB,zB,zB,zB,zB,zB,zB,zB,zB,zB,zB,zB,zB,zB,zB] rfl rfl (any_of HT_.out (by kernel_rfl)) (fun _ _ _ h=>h) (Or.inr ⟨by rfl,rfl⟩) ?_ ?_
         rotate_left
         ·
          simp only [Act.put,zQ,zS,zT,i64_w,i32_w]
          rfl
         refine pure_ (i:=21) (N:=some 38) (v:=undef) (a':=?_) #[zA,zA,zA,zA,zA,zA,zA,zA,zA,zA,zA,zA,zA,zA,zA,zA,zA,zA,zA,zA,zA,zA,zB,zB,zB,zB,zB,zB,zB,zB,zB,zB,zB,zB,zB,zB,zB,zB,zB,zB,zB] rfl rfl (any_of HT_.out (by kernel_rfl)) (fun _ _ _ h=>h) (Or.inr ⟨by rfl,rfl⟩) ?_ ?_
         rotate_left
         ·
          simp only [Act.put,zQ,zS,zT,i64_w,i32_w]
          rfl
         refine pure_ (i:=22) (N:=some 39) (v:=undef) (a':=?_) #[zA,zA,zA,zA,zA,zA,zA,zA,zA,zA,zA,zA,zA,zA,zA,zA,zA,zA,zA,zA,zA,zA,zA,zB,zB,zB,zB,zB,zB,zB,zB,zB,zB,zB,zB,zB,zB,zB,zB,zB,zB] rfl rfl (any_of HT_.out (by kernel_rfl)) (fun _ _ _ h=>h) (Or.inr ⟨by rfl,rfl⟩) ?_ ?_
         rotate_left
         ·
          simp only [Act.put,zQ,zS,zT,i64_w,i32_w]
          rfl
         refine pure_ (i:=23) (N:=some 40) (v:=undef) (a':=?_) #[zA,zA,zA,zA,zA,zA,zA,zA,zA,zA,zA,zA,zA,zA,zA,zA,zA,zA,zA,zA,zA,zA,zA,zA,zB,zB,zB,zB,zB,zB,zB,zB,zB,zB,zB,zB,zB,zB,zB,zB,zB] rfl rfl (any_of HT_.out (by kernel_rfl)) (fun _ _ _ h=>h) (Or.inr ⟨by rfl,rfl⟩) ?_ ?_
         rotate_left
         ·
          simp only [Act.put,zQ,zS,zT,i64_w,i32_w]
          rfl
         refine pure_ (i:=24) (N:=some 41) (v:=undef) (a':=?_) #[zA,zA,zA,zA,zA,zA,zA,zA,zA,zA,zA,zA,zA,zA,zA,zA,zA,zA,zA,zA,zA,zA,zA,zA,zA,zB,zB,zB,zB,zB,zB,zB,zB,zB,zB,zB,zB,zB,zB,zB,zB] rfl rfl (any_of HT_.out (by kernel_rfl)) (fun _ _ _ h=>h) (Or.inr ⟨by rfl,rfl⟩) ?_ ?_
         rotate_left
         ·
          simp only [Act.put,zQ,zS,zT,i64_w,i32_w]
          rfl
         refine pure_ (i:=25) (N:=some 42) (v:=undef) (a':=?_) #[zA,zA,zA,zA,zA,zA,zA,zA,zA,zA,zA,zA,zA,zA,zA,zA,zA,zA,zA,zA,zA,zA,zA,zA,zA,zA,zB,zB,zB,zB,zB,zB,zB,zB,zB,zB,zB,zB,zB,zB,zB] rfl rfl (any_of HT_.out (by kernel_rfl)) (fun _ _ _ h=>h) (Or.inr ⟨by rfl,rfl⟩) ?_ ?_
         rotate_left
         ·
          simp only [Act.put,zQ,zS,zT,i64_w,i32_w]
          rfl
         refine pure_ (i:=26) (N:=some 43) (v:=undef) (a':=?_) #[zA,zA,zA,zA,zA,zA,zA,zA,zA,zA,zA,zA,zA,zA,zA,zA,zA,zA,zA,zA,zA,zA,zA,zA,zA,zA,zA,zB,zB,zB,zB,zB,zB,zB,zB,zB,zB,zB,zB,zB,zB] rfl rfl (any_of HT_.out (by kernel_rfl)) (fun _ _ _ h=>h) (Or.inr ⟨by rfl,rfl⟩) ?_ ?_
         rotate_left
         ·
          simp only [Act.put,zQ,zS,zT,i64_w,i32_w]
          rfl
         refine pure_ (i:=27) (N:=some 44) (v:=?_) (a':=?_) #[zA,zA,zA,zA,zA,zA,zA,zA,zA,zA,zA,zA,zA,zA,zA,zA,zA,zA,zA,zA,zA,zA,zA,zA,zA,zA,zA,zA,zB,zB,zB,zB,zB,zB,zB,zB,zB,zB,zB,zB,zB] rfl rfl (any_of HT_.out (by kernel_rfl)) (fun _ _ _ h=>h) (Or.inl ⟨by rfl,?_⟩) ?_ ?_
         rotate_left
         ·
          intro w'
          go_simp
          with_reducible rfl
         rotate_left
         ·
          simp only [Act.put,zQ,zS,zT,i64_w,i32_w]
          rfl
         refine pure_ (i:=28) (N:=some 45) (v:=?_) (a':=?_) #[zA,zA,zA,zA,zA,zA,zA,zA,zA,zA,zA,zA,zA,zA,zA,zA,zA,zA,zA,zA,zA,zA,zA,zA,zA,zA,zA,zA,zA,zB,zB,zB,zB,zB,zB,zB,zB,zB,zB,zB,zB] rfl rfl (any_of HT_.out (by kernel_rfl)) (fun _ _ _ h=>h) (Or.inl ⟨by rfl,?_⟩) ?_ ?_
         rotate_left
         ·
          intro w'
          go_simp
          with_reducible rfl
         rotate_left
         ·
          simp only [Act.put,zQ,zS,zT,i64_w,i32_w]
          rfl
         refine pure_ (i:=29) (N:=some 46) (v:=undef) (a':=?_) #[zA,zA,zA,zA,zA,zA,zA,zA,zA,zA,zA,zA,zA,zA,zA,zA,zA,zA,zA,zA,zA,zA,zA,zA,zA,zA,zA,zA,zA,zA,zB,zB,zB,zB,zB,zB,zB,zB,zB,zB,zB] rfl rfl (any_of HT_.out (by kernel_rfl)) (fun _ _ _ h=>h) (Or.inr ⟨by rfl,rfl⟩) ?_ ?_
         rotate_left
         ·
          simp only [Act.put,zQ,zS,zT,i64_w,i32_w]
          rfl
         refine pure_ (i:=30) (N:=some 47) (v:=undef) (a':=?_) #[zA,zA,zA,zA,zA,zA,zA,zA,zA,zA,zA,zA,zA,zA,zA,zA,zA,zA,zA,zA,zA,zA,zA,zA,zA,zA,zA,zA,zA,zA,zA,zB,zB,zB,zB,zB,zB,zB,zB,zB,zB] rfl rfl (any_of HT_.out (by kernel_rfl)) (fun _ _ _ h=>h) (Or.inr ⟨by rfl,rfl⟩) ?_ ?_
         rotate_left
         ·
          simp only [Act.put,zQ,zS,zT,i64_w,i32_w]
          rfl
         refine pure_ (i:=31) (N:=some 48) (v:=undef) (a':=?_) #[zA,zA,zA,zA,zA,zA,zA,zA,zA,zA,zA,zA,zA,zA,zA,zA,zA,zA,zA,zA,zA,zA,zA,zA,zA,zA,zA,zA,zA,zA,zA,zA,zB,zB,zB,zB,zB,zB,zB,zB,zB] rfl rfl (any_of HT_.out (by kernel_rfl)) (fun _ _ _ h=>h) (Or.inr ⟨by rfl,rfl⟩) ?_ ?_
         rotate_left
         ·
          simp only [Act.put,zQ,zS,zT,i64_w,i32_w]
          rfl
         refine pure_ (i:=32) (N:=some 49) (v:=undef) (a':=?_) #[zA,zA,zA,zA,zA,zA,zA,zA,zA,zA,zA,zA,zA,zA,zA,zA,zA,zA,zA,zA,zA,zA,zA,zA,zA,zA,zA,zA,zA,zA,zA,zA,zA,zB,zB,zB,zB,zB,zB,zB,zB] rfl rfl (any_of HT_.out (by kernel_rfl)) (fun _ _ _ h=>h) (Or.inr ⟨by rfl,rfl⟩) ?_ ?_
         rotate_left
         ·
          simp only [Act.put,zQ,zS,zT,i64_w,i32_w]
          rfl
         refine pure_ (i:=33) (N:=some 50) (v:=undef) (a':=?_) #[zA,zA,zA,zA,zA,zA,zA,zA,zA,zA,zA,zA,zA,zA,zA,zA,zA,zA,zA,zA,zA,zA,zA,zA,zA,zA,zA,zA,zA,zA,zA,zA,zA,zA,zB,zB,zB,zB,zB,zB,zB] rfl rfl (any_of HT_.out (by kernel_rfl)) (fun _ _ _ h=>h) (Or.inr ⟨by rfl,rfl⟩) ?_ ?_
         rotate_left
         ·
          simp only [Act.put,zQ,zS,zT,i64_w,i32_w]
          rfl
         refine pure_ (i:=34) (N:=some 51) (v:=undef) (a':=?_) #[zA,zA,zA,zA,zA,zA,zA,zA,zA,zA,zA,zA,zA,zA,zA,zA,zA,zA,zA,zA,zA,zA,zA,zA,zA,zA,zA,zA,zA,zA,zA,zA,zA,zA,zA,zB,zB,zB,zB,zB,zB] rfl rfl (any_of HT_.out (by kernel_rfl)) (fun _ _ _ h=>h) (Or.inr ⟨by rfl,rfl⟩) ?_ ?_
         rotate_left
         ·
          simp only [Act.put,zQ,zS,zT,i64_w,i32_w]
          rfl
         refine pure_ (i:=35) (N:=some 52) (v:=undef) (a':=?_) #[zA,zA,zA,zA,zA,zA,zA,zA,zA,zA,zA,zA,zA,zA,zA,zA,zA,zA,zA,zA,zA,zA,zA,zA,zA,zA,zA,zA,zA,zA,zA,zA,zA,zA,zA,zA,zB,zB,zB,zB,zB] rfl rfl (any_of HT_.out (by kernel_rfl)) (fun _ _ _ h=>h) (Or.inr ⟨by rfl,rfl⟩) ?_ ?_
         rotate_left
         ·
          simp only [Act.put,zQ,zS,zT,i64_w,i32_w]
          rfl
         refine pure_ (i:=36) (N:=some 53) (v:=undef) (a':=?_) #[zA,zA,zA,zA,zA,zA,zA,zA,zA,zA,zA,zA,zA,zA,zA,zA,zA,zA,zA,zA,zA,zA,zA,zA,zA,zA,zA,zA,zA,zA,zA,zA,zA,zA,zA,zA,zA,zB,zB,zB,zB] rfl rfl (any_of HT_.out (by kernel_rfl)) (fun _ _ _ h=>h) (Or.inr ⟨by rfl,rfl⟩) ?_ ?_
         rotate_left
         ·
          simp only [Act.put,zQ,zS,zT,i64_w,i32_w]
          rfl
         refine pure_ (i:=37) (N:=some 54) (v:=undef) (a':=?_) #[zA,zA,zA,zA,zA,zA,zA,zA,zA,zA,zA,zA,zA,zA,zA,zA,zA,zA,zA,zA,zA,zA,zA,zA,zA,zA,zA,zA,zA,zA,zA,zA,zA,zA,zA,zA,zA,zA,zB,zB,zB] rfl rfl (any_of HT_.out (by kernel_rfl)) (fun _ _ _ h=>h) (Or.inr ⟨by rfl,rfl⟩) ?_ ?_
         rotate_left
         ·
          simp only [Act.put,zQ,zS,zT,i64_w,i32_w]
          rfl
         refine pure_ (i:=38) (N:=some 55) (v:=undef) (a':=?_) #[zA,zA,zA,zA,zA,zA,zA,zA,zA,zA,zA,zA,zA,zA,zA,zA,zA,zA,zA,zA,zA,zA,zA,zA,zA,zA,zA,zA,zA,zA,zA,zA,zA,zA,zA,zA,zA,zA,zA,zB,zB] rfl rfl (any_of HT_.out (by kernel_rfl)) (fun _ _ _ h=>h) (Or.inr ⟨by rfl,rfl⟩) ?_ ?_
         rotate_left
         ·
          simp only [Act.put,zQ,zS,zT,i64_w,i32_w]
          rfl
         refine pure_ (i:=39) (N:=some 56) (v:=undef) (a':=?_) #[zA,zA,zA,zA,zA,zA,zA,zA,zA,zA,zA,zA,zA,zA,zA,zA,zA,zA,zA,zA,zA,zA,zA,zA,zA,zA,zA,zA,zA,zA,zA,zA,zA,zA,zA,zA,zA,zA,zA,zA,zB] rfl rfl (any_of HT_.out (by kernel_rfl)) (fun _ _ _ h=>h) (Or.inr ⟨by rfl,rfl⟩) ?_ ?_
         rotate_left
         ·
          simp only [Act.put,zQ,zS,zT,i64_w,i32_w]
          rfl
         refine pure_ (i:=40) (N:=some 57) (v:=?_) (a':=?_) #[zA,zA,zA,zA,zA,zA,zA,zA,zA,zA,zA,zA,zA,zA,zA,zA,zA,zA,zA,zA,zA,zA,zA,zA,zA,zA,zA,zA,zA,zA,zA,zA,zA,zA,zA,zA,zA,zA,zA,zA,zA] rfl rfl (any_of HT_.out (by kernel_rfl)) (fun _ _ _ h=>h) (Or.inl ⟨by rfl,?_⟩) ?_ ?_
         rotate_left
         ·
          intro w'
          go_simp
          with_reducible rfl
         rotate_left
         ·
          simp only [Act.put,zQ,zS,zT,i64_w,i32_w]
          rfl
         refine done_ (done_of HT_.out (by kernel_rfl)) ?_
         try go_wp2
         go_meet
         case rel=>exact ⟨_,(true),(by first|rfl|(simp;done)|(simp [*];done)),H',⟨by have:=HK1.out;first|omega|exact Nat.le_refl _⟩,⟨by repeat (first|(with_reducible first|exact HB.out|apply zG|apply zN|apply zH)|exact HB.out)⟩⟩
       ·
        rw [if_neg c9] at H
        exact absurd H (by simp)
     case rest =>
      clear HC5
      try clear c1
      try clear p1
      try clear q1
      try clear hx1
      try clear qi1
      try clear p2
      try clear c5
      try clear c9
      try clear p10
      try clear q10
      try clear hx10
      try clear qi10
      try clear c12
      try clear c13
      try clear p14
      try clear q14
      try clear hx14
      try clear qi14
      try clear hx143_0
      try clear hx143_1
      try clear hx143_2
      try clear hx143_3
      try clear hx143_4
      try clear hx145_0
      try clear hx145_1
      try clear hx145_2
      try clear hx145_3
      try clear hx145_4
      try clear p10
      try clear p14
      try clear p143
      try clear p145
      try clear q10
      try clear q14
      try clear q143
      try clear q145
      obtain ⟨kq,x57_4,rfl,HA,HJ4,HB⟩:=hcut
      cases kq with
      | zero=>exact absurd HA.out (by simp [warpbeamref16_Right.j1])
      | succ kj4 =>
       have H:=HA.out
       clear HA
       simp only [warpbeamref16_Right.j1] at H
       by_cases c23:x57_4=true
       ·
        subst c23
        have H1:(some false)=some r:=by rw [if_pos rfl] at H;exact H
        clear H
        have H:=H1
        clear H1
        obtain rfl:=Option.some.inj H
        go_wp2
        go_ret
        exact ⟨by first|rfl|(simp [errW_none,errW_some] <;> rfl)|(simp [*,errW_none,errW_some] <;> rfl),by repeat (first|(with_reducible first|exact HB.out|apply zG|apply zN|apply zH)|exact HB.out)⟩
       ·
        replace c23:=Bool.eq_false_iff.mpr c23
        subst c23
        have H1:(if 3<(t142.size:Int) then (if (bt t142 3)=45 then (if 0≤x3_1 then (if x3_1<(l0.length:Int) then (if ((rd_T97 l0 x3_1).f4)=0 then (warpbeamref16_Right.l0 kj4 l0 (wrap64 (x3_1+1))) else (some false)) else (none)) else (none)) else (warpbeamref16_Right.l0 kj4 l0 (wrap64 (x3_1+1)))) else (none))=some r:=by rw [if_neg (show ¬ (false=true) by decide)] at H;exact H
        clear H
        have H:=H1
        clear H1
        by_cases c24:3<(t142.size:Int)
        ·
         rw [if_pos c24] at H
         have c24b0:decide (3<(t142.size:Int))=true:=decide_eq_true c24
         have c24b1:decide (3<t142.size)=true:=decide_eq_true (by omega)
         clear c24
         by_cases c26:(bt t142 3)=45
         ·
          rw [if_pos c26] at H
          have c26b0:((bt t142 3)==45)=true:=beq_iff_eq.mpr c26
          have c26b1:((bt t142 3) != 45)=false:=bne_eq_false_iff_eq.mpr c26
          clear c26
          by_cases c27:0≤x3_1
          ·
           rw [if_pos c27] at H
           have c27b0:decide (0≤x3_1)=true:=decide_eq_true c27
           clear c27
           by_cases c28:x3_1<(l0.length:Int)
           ·
            rw [if_pos c28] at H
            have c28b0:decide (x3_1<(l0.length:Int))=true:=decide_eq_true c28
            clear c28
            by_cases c29:((rd_T97 l0 x3_1).f4)=0
            ·
             rw [if_pos c29] at H
             have c29b0:(((rd_T97 l0 x3_1).f4)==0)=true:=beq_iff_eq.mpr c29
             have c29b1:(((rd_T97 l0 x3_1).f4) != 0)=false:=bne_eq_false_iff_eq.mpr c29
             clear c29
             have H':=Aside0.mk H
             clear H
             have p25:0≤(3:Int):=(by omega)
             have q25:3<t142.size:=(by have:(3:Int)<(t142.size:Int):=of_decide_eq_true (by first|(with_reducible assumption)|assumption);omega)
             have hx25:∀ h:3<t142.size,((t142[3]'h).toNat:Int)=bt t142 3:=bt_at t142 3
             clear p25
             have qi25:(3<(t142.size:Int))=True:=eq_true (of_decide_eq_true (by first|(with_reducible assumption)|assumption))
             replace q25:=eq_true q25
             have p149:0≤(x3_1:Int):=of_decide_eq_true (by first|(with_reducible assumption)|assumption)
             have q149:x3_1<(l0.length:Int):=of_decide_eq_true (by first|(with_reducible assumption)|assumption)
             obtain ⟨ad149,e149,hx149_0,hx149_1,hx149_2,hx149_3,hx149_4⟩:=at_T97 HR0.out x3_1 p149 q149
             obtain rfl:ad141=ad149:=(by injection e149)
             replace hx149_0:=(HB.out.cell (zO w _ hx149_0)).trans hx149_0
             replace hx149_1:=(HB.out.cell (zO w _ hx149_1)).trans hx149_1
             replace hx149_2:=(HB.out.cell (zO w _ hx149_2)).trans hx149_2
             replace hx149_3:=(HB.out.cell (zO w _ hx149_3)).trans hx149_3
             replace hx149_4:=(HB.out.cell (zO w _ hx149_4)).trans hx149_4
             replace p149:=eq_true p149
             replace q149:=eq_true q149
             go_wp2
             go_roundg kj4
             case measure=>have:=HK1.out;have:=HJ4.out;omega
             case rel=>exact ⟨(wrap64 (x3_1+1)),(by first|rfl|(simp;done)|(simp [*];done)),H',⟨by have:=HK1.out;have:=HJ4.out;omega⟩,⟨by repeat (first|(with_reducible first|exact HB.out|apply zG|apply zN|apply zH)|exact HB.out)⟩⟩
            ·
             rw [if_neg c29] at H
             have c29b0:(((rd_T97 l0 x3_1).f4)==0)=false:=beq_eq_false_iff_ne.mpr c29
             have c29b1:(((rd_T97 l0 x3_1).f4) != 0)=true:=bne_iff_ne.mpr c29
             obtain rfl:=Option.some.inj H
             have p25:0≤(3:Int):=(by omega)
             have q25:3<t142.size:=(by have:(3:Int)<(t142.size:Int):=of_decide_eq_true (by first|(with_reducible assumption)|assumption);omega)
             have hx25:∀ h:3<t142.size,((t142[3]'h).toNat:Int)=bt t142 3:=bt_at t142 3
             clear p25
             have qi25:(3<(t142.size:Int))=True:=eq_true (of_decide_eq_true (by first|(with_reducible assumption)|assumption))
             replace q25:=eq_true q25
             have p149:0≤(x3_1:Int):=of_decide_eq_true (by first|(with_reducible assumption)|assumption)
             have q149:x3_1<(l0.length:Int):=of_decide_eq_true (by first|(with_reducible assumption)|assumption)
             obtain ⟨ad149,e149,hx149_0,hx149_1,hx149_2,hx149_3,hx149_4⟩:=at_T97 HR0.out x3_1 p149 q149
             obtain rfl:ad141=ad149:=(by injection e149)
             replace hx149_0:=(HB.out.cell (zO w _ hx149_0)).trans hx149_0
             replace hx149_1:=(HB.out.cell (zO w _ hx149_1)).trans hx149_1
             replace hx149_2:=(HB.out.cell (zO w _ hx149_2)).trans hx149_2
             replace hx149_3:=(HB.out.cell (zO w _ hx149_3)).trans hx149_3
             replace hx149_4:=(HB.out.cell (zO w _ hx149_4)).trans hx149_4
             replace p149:=eq_true p149
             replace q149:=eq_true q149
             go_wp2
             go_ret
             exact ⟨by first|rfl|(simp [errW_none,errW_some] <;> rfl)|(simp [*,errW_none,errW_some] <;> rfl),by repeat (first|(with_reducible first|exact HB.out|apply zG|apply zN|apply zH)|exact HB.out)⟩
           ·
            rw [if_neg c28] at H
            exact absurd H (by simp)
          ·
           rw [if_neg c27] at H
           exact absurd H (by simp)
         ·
          rw [if_neg c26] at H
          have c26b0:((bt t142 3)==45)=false:=beq_eq_false_iff_ne.mpr c26
          have c26b1:((bt t142 3) != 45)=true:=bne_iff_ne.mpr c26
          have H':=Aside0.mk H
          clear H
          have p25:0≤(3:Int):=(by omega)
          have q25:3<t142.size:=(by have:(3:Int)<(t142.size:Int):=of_decide_eq_true (by first|(with_reducible assumption)|assumption);omega)
          have hx25:∀ h:3<t142.size,((t142[3]'h).toNat:Int)=bt t142 3:=bt_at t142 3
          clear p25
          have qi25:(3<(t142.size:Int))=True:=eq_true (of_decide_eq_true (by first|(with_reducible assumption)|assumption))
          replace q25:=eq_true q25
          go_wp2
          go_roundg kj4
          case measure=>have:=HK1.out;have:=HJ4.out;omega
          case rel=>exact ⟨(wrap64 (x3_1+1)),(by first|rfl|(simp;done)|(simp [*];done)),H',⟨by have:=HK1.out;have:=HJ4.out;omega⟩,⟨by repeat (first|(with_reducible first|exact HB.out|apply zG|apply zN|apply zH)|exact HB.out)⟩⟩
        ·
         rw [if_neg c24] at H
         exact absurd H (by simp)
    ·
     rw [if_neg c3] at H
     exact absurd H (by simp)
   ·
    rw [if_neg c2] at H
    have c2b0:decide (x3_1<(l0.length:Int))=false:=decide_eq_false c2
    clear c2
    by_cases c30:(l0.length:Int) ≥ 1
    ·
     rw [if_pos c30] at H
     have c30b0:decide (1≤(l0.length:Int))=true:=decide_eq_true c30
     have c30b1:decide (1≤l0.length)=true:=decide_eq_true (by omega)
     clear c30
     obtain rfl:=Option.some.inj H
     go_wp2
     go_ret
     exact ⟨by first|rfl|(simp [errW_none,errW_some] <;> rfl)|(simp [*,errW_none,errW_some] <;> rfl),by repeat (first|(with_reducible first|exact HB.out|apply zG|apply zN|apply zH)|exact HB.out)⟩
    ·
     rw [if_neg c30] at H
     have c30b0:decide (1≤(l0.length:Int))=false:=decide_eq_false c30
     have c30b1:decide (1≤l0.length)=false:=decide_eq_false (by omega)
     clear c30
     obtain rfl:=Option.some.inj H
     go_wp2
     go_ret
     exact ⟨by first|rfl|(simp [errW_none,errW_some] <;> rfl)|(simp [*,errW_none,errW_some] <;> rfl),by repeat (first|(with_reducible first|exact HB.out|apply zG|apply zN|apply zH)|exact HB.out)⟩
end Go.Proofs.Ytgnjkegnddekeaa.Q
