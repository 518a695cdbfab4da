/- The document's step, by hand: memory. -/
import Derived.Test.YtgnjkegnddekeaaZRefS
open List renaming setIfInBounds_toArray → zI, set_cons_zero → zJ, set_cons_succ → zK
open And renaming intro → zL
namespace Go.Proofs.Ytgnjkegnddekeaa.Q
open Go.RowKit Go.Lib Go.Proofs.Ytgnjkegnddekeaa Go.Proofs.YtgnjkegnddekeaaW.PrintWords Go.Proofs.YtgnjkegnddekeaaW.PrintLast Go.Proofs.YtgnjkegnddekeaaW.PrintMore
set_option linter.unusedVariables false
set_option linter.unusedSimpArgs false
set_option maxRecDepth 100000 in
set_option maxHeartbeats 2000000 in
theorem rmem8_0 (pc used : Int) (rs : List S32) (stk : Value) (o : S97) (W : World) (hl : rs.length = 8) (h1 : stk.oneCell' = true) (ha0 : 0 ≤ o.f1) (ha1 : o.f1 < 8) (hb0 : 0 ≤ o.f2) (hb1 : o.f2 < 8) (vars : Int) (h8 : o.f0 = 8)(hk : ¬ (regA rs o.f2).f0 = 2) :
    Calls Try.prog 38 #[.agg (cpuC pc used rs stk),.agg #[.int .i64 o.f0,.int .i64 o.f1,.int .i64 o.f2,.int .i64 o.f3,.int .i64 o.f4],.int .i64 vars] W fun x w' => x=.returned (.tuple #[.agg (cpuC pc (wrap64 (used + 1)) rs stk),.agg (askC 5 0 0 0 0 0 4)])∧Below W.heap.size W w':=by
  have hu29:=Try.underlying29
  have hu46:=Try.underlying46
  have hu26:=Try.underlying26
  have hu24:=Try.underlying24
  have hu97:=Try.underlying97
  obtain ⟨a,ha⟩:∃ a:Nat,o.f1=a:=⟨o.f1.toNat,by omega⟩
  have a8:a < 8:=by omega
  have xa:rs[a]?=some (regA rs o.f1):=by rw [ha];unfold regA;simp [hl,a8]
  have ra:=cpuC_reg (pc:=pc) (used:=used) (stk:=stk) xa
  obtain ⟨b,hb⟩:∃ b:Nat,o.f2=b:=⟨o.f2.toNat,by omega⟩
  have b8:b < 8:=by omega
  have xb:rs[b]?=some (regA rs o.f2):=by rw [hb];unfold regA;simp [hl,b8]
  have rb:=cpuC_reg (pc:=pc) (used:=used) (stk:=stk) xb
  generalize hxa:regA rs o.f1=x at *
  generalize hyb:regA rs o.f2=y at *
  obtain ⟨V1,hV1,KV1,hBV1⟩:=alz W (cpuC pc used rs stk) 29
  have ltV1:W.heap.size < V1.heap.size:=zE KV1
  have K_cpu:=KV1
  have HB:=hBV1
  clear KV1 hBV1
  obtain ⟨V2,hV2,KV2,hBV2⟩:=alz V1 #[.int .i64 o.f0,.int .i64 o.f1,.int .i64 o.f2,.int .i64 o.f3,.int .i64 o.f4] 97
  have ltV2:V1.heap.size < V2.heap.size:=zE KV2
  replace K_cpu:=zB K_cpu hBV2
  have K_op:=KV2
  replace HB:=zA HB hBV2
  clear KV2 hBV2
  obtain ⟨V3,hV3,KV3,hBV3⟩:=alz1 V2
  have ltV3:V2.heap.size < V3.heap.size:=zE KV3
  replace K_cpu:=zB K_cpu hBV3
  replace K_op:=zB K_op hBV3
  have K_o:=KV3
  replace HB:=zA HB hBV3
  clear KV3 hBV3
  obtain ⟨V4,hV4,KV4,hBV4⟩:=alz0 V3
  have ltV4:V3.heap.size < V4.heap.size:=zE KV4
  replace K_cpu:=zB K_cpu hBV4
  replace K_op:=zB K_op hBV4
  replace K_o:=zB K_o hBV4
  have K_a:=KV4
  replace HB:=zA HB hBV4
  clear KV4 hBV4
  rw [ha,hb,h8] at K_op hV2
  have c1:V4.cell? ⟨V1.heap.size,2,none⟩=some (.int .i64 b):=zC K_op (2)
  have c2:V4.cell? ⟨W.heap.size,2 + b * 2,none⟩=some (.int .i64 y.f0):=(zC K_cpu (2 + b * 2)).trans rb.1
  have c3:V4.cell? ⟨W.heap.size,2 + b * 2 + 1,none⟩=some (.int .i64 y.f1):=(zC K_cpu (2 + b * 2 + 1)).trans rb.2
  obtain ⟨V5,hV5,KV5,hBV5⟩:=alz3 V4
  have ltV5:V4.heap.size < V5.heap.size:=zE KV5
  replace K_cpu:=zB K_cpu hBV5
  replace K_op:=zB K_op hBV5
  replace K_o:=zB K_o hBV5
  replace K_a:=zB K_a hBV5
  have K_at:=KV5
  replace HB:=zA HB hBV5
  clear KV5 hBV5
  have c4:V5.cell? ⟨V4.heap.size,0,none⟩=some (.int .i64 0):=zC K_at (0)
  have c5:V5.cell? ⟨V4.heap.size,1,none⟩=some (.int .i64 0):=zC K_at (1)
  have c6:=zD K_at (0)
  have c7:=zD K_at (1)
  obtain ⟨V6,hV6⟩:∃ V,(V5.setCell ⟨V4.heap.size,0,none⟩ (.int .i64 y.f0)).setCell ⟨V4.heap.size,1,none⟩ (.int .i64 y.f1)=V:=⟨_,rfl⟩
  have hOV6:Only V4.heap.size V5 V6:=by rw [← hV6];exact (Only.set _ _ _).trans (Only.set _ _ _)
  replace K_at:V6.heap[V4.heap.size]?=some (.cells (#[.int .i64 y.f0,.int .i64 y.f1]) 24 (0,0)):=by rw [← hV6];exact (blk_set (blk_set K_at _ _) _ _)
  replace K_cpu:=hOV6.mid K_cpu (by omega) (B:=0)
  replace K_op:=hOV6.mid K_op (by omega) (B:=0)
  replace K_o:=hOV6.mid K_o (by omega) (B:=0)
  replace K_a:=hOV6.mid K_a (by omega) (B:=0)
  have szV6:V5.heap.size ≤ V6.heap.size:=hOV6.size
  replace HB:=HB.trans (hOV6.below (by omega) HB.size)
  clear hOV6
  have c8:V6.cell? ⟨V1.heap.size,1,none⟩=some (.int .i64 a):=zC K_op (1)
  obtain ⟨V7,hV7,KV7,hBV7⟩:=alz0 V6
  have ltV7:V6.heap.size < V7.heap.size:=zE KV7
  replace K_cpu:=zB K_cpu hBV7
  replace K_op:=zB K_op hBV7
  replace K_o:=zB K_o hBV7
  replace K_a:=zB K_a hBV7
  replace K_at:=zB K_at hBV7
  have K_ask:=KV7
  replace HB:=zA HB hBV7
  clear KV7 hBV7
  obtain ⟨V8,hSV8,KKV8,hOV8⟩:=st_whole (P:=Try.prog) (ty:=46) (vs:=(askC 1 0 a 0 0 0 0:Array Value).toList) K_ask (by first | rfl | (have:=rfl;simp [this]) | (simp;exact (rfl).symm)) (by rw [size46];first | rfl | (have:=rfl;simp [this]) | (simp;exact (rfl).symm)) (by simp [Value.oneCell'])
  simp only [Array.toArray_toList] at hSV8 KKV8
  replace K_ask:V8.heap[V6.heap.size]?=some (.cells (askC 1 0 a 0 0 0 0) 46 (0,0)):=KKV8
  replace K_cpu:=hOV8.mid K_cpu (by omega) (B:=0)
  replace K_op:=hOV8.mid K_op (by omega) (B:=0)
  replace K_o:=hOV8.mid K_o (by omega) (B:=0)
  replace K_a:=hOV8.mid K_a (by omega) (B:=0)
  replace K_at:=hOV8.mid K_at (by omega) (B:=0)
  have szV8:V7.heap.size ≤ V8.heap.size:=hOV8.size
  replace HB:=HB.trans (hOV8.below (by omega) HB.size)
  clear hOV8
  clear KKV8
  have c9:V8.cell? ⟨V1.heap.size,0,none⟩=some (.int .i64 8):=zC K_op (0)
  have c10:V8.cell? ⟨V4.heap.size,0,none⟩=some (.int .i64 y.f0):=zC K_at (0)
  have c11:V8.cell? ⟨V4.heap.size,1,none⟩=some (.int .i64 y.f1):=zC K_at (1)
  have m0:(y.f0 != 2)=true:=by simpa using hk
  clear hk
  have hL12:=ld_whole (P:=Try.prog) (ty:=29) K_cpu Try.underlying29 rfl (by first | rfl | (rw [size29];rfl) | (rw [size29];have:=zG hl;simp [this]) | (rw [size29,zG hl]))
  have c13:V8.cell? ⟨W.heap.size,1,none⟩=some (.int .i64 used):=zC K_cpu (1)
  have HR:=Lib.hid (rover_calls pc used (wrap64 (used + 1)) 4 rs stk V8 hl h1)
  have HX1:=Lib.hid (zL K_cpu (zL K_op (zL K_o (zL K_a (zL K_at (zL K_ask (HB)))))))
  clear HB K_ask K_at K_a K_o K_op K_cpu
  go_enter Try.func38,Try.ntmps38
  go_wp2_with (first | refine wpList_st rfl rfl hSV8 ?_ | refine wpList_ld rfl rfl hL12 ?_)
  refine HR.out.mono ?_
  rintro e w9 ⟨rfl,hB9⟩
  obtain ⟨K_cpu,K_op,K_o,K_a,K_at,K_ask,HB⟩:=HX1.out
  clear HX1
  replace K_cpu:=zB K_cpu hB9
  replace K_op:=zB K_op hB9
  replace K_o:=zB K_o hB9
  replace K_a:=zB K_a hB9
  replace K_at:=zB K_at hB9
  replace K_ask:=zB K_ask hB9
  have szw9:V8.heap.size ≤ w9.heap.size:=hB9.size
  replace HB:=zA HB hB9
  obtain ⟨V9,hSV9,KKV9,hOV9⟩:=st_whole (P:=Try.prog) (ty:=29) (vs:=(cpuC pc (wrap64 (used + 1)) rs stk:Array Value).toList) K_o (by first | rfl | (have:=zG (pc:=pc) (used:=(wrap64 (used + 1))) (stk:=stk) hl;simp [this]) | (simp;exact (zG (pc:=pc) (used:=(wrap64 (used + 1))) (stk:=stk) hl).symm)) (by rw [size29];first | rfl | (have:=zG (pc:=pc) (used:=(wrap64 (used + 1))) (stk:=stk) hl;simp [this]) | (simp;exact (zG (pc:=pc) (used:=(wrap64 (used + 1))) (stk:=stk) hl).symm)) (cpuC_one1 _ _ _ h1)
  simp only [Array.toArray_toList] at hSV9 KKV9
  replace K_o:V9.heap[V2.heap.size]?=some (.cells (cpuC pc (wrap64 (used + 1)) rs stk) 29 (0,0)):=KKV9
  replace K_cpu:=hOV9.mid K_cpu (by omega) (B:=0)
  replace K_op:=hOV9.mid K_op (by omega) (B:=0)
  replace K_a:=hOV9.mid K_a (by omega) (B:=0)
  replace K_at:=hOV9.mid K_at (by omega) (B:=0)
  replace K_ask:=hOV9.mid K_ask (by omega) (B:=0)
  have szV9:w9.heap.size ≤ V9.heap.size:=hOV9.size
  replace HB:=HB.trans (hOV9.below (by omega) HB.size)
  clear hOV9
  clear KKV9
  obtain ⟨V10,hSV10,KKV10,hOV10⟩:=st_whole (P:=Try.prog) (ty:=46) (vs:=(askC 5 0 0 0 0 0 4:Array Value).toList) K_a (by first | rfl | (have:=rfl;simp [this]) | (simp;exact (rfl).symm)) (by rw [size46];first | rfl | (have:=rfl;simp [this]) | (simp;exact (rfl).symm)) (by simp [Value.oneCell'])
  simp only [Array.toArray_toList] at hSV10 KKV10
  replace K_a:V10.heap[V3.heap.size]?=some (.cells (askC 5 0 0 0 0 0 4) 46 (0,0)):=KKV10
  replace K_cpu:=hOV10.mid K_cpu (by omega) (B:=0)
  replace K_op:=hOV10.mid K_op (by omega) (B:=0)
  replace K_o:=hOV10.mid K_o (by omega) (B:=0)
  replace K_at:=hOV10.mid K_at (by omega) (B:=0)
  replace K_ask:=hOV10.mid K_ask (by omega) (B:=0)
  have szV10:V9.heap.size ≤ V10.heap.size:=hOV10.size
  replace HB:=HB.trans (hOV10.below (by omega) HB.size)
  clear hOV10
  clear KKV10
  have HX2:=Lib.hid (zL K_cpu (zL K_op (zL K_o (zL K_a (zL K_at (zL K_ask (HB)))))))
  clear HB K_ask K_at K_a K_o K_op K_cpu
  go_wp2_with (first | refine wpList_st rfl rfl hSV9 ?_ | refine wpList_st rfl rfl hSV10 ?_)
  obtain ⟨K_cpu,K_op,K_o,K_a,K_at,K_ask,HB⟩:=HX2.out
  exact bodyPost_ret (results_cc rfl _ rfl K_o hu29 rfl (by rw [size29,zG (pc:=pc) (used:=(wrap64 (used + 1))) (stk:=stk) hl]) rfl K_a hu46 rfl (by rw [size46];rfl)) rfl ⟨rfl,HB⟩
set_option maxRecDepth 100000 in
set_option maxHeartbeats 2000000 in
theorem rmem8_1 (pc used : Int) (rs : List S32) (stk : Value) (o : S97) (W : World) (hl : rs.length = 8) (h1 : stk.oneCell' = true) (ha0 : 0 ≤ o.f1) (ha1 : o.f1 < 8) (hb0 : 0 ≤ o.f2) (hb1 : o.f2 < 8) (vars : Int) (h8 : o.f0 = 8)(hk : (regA rs o.f2).f0 = 2) (hn : (regA rs o.f2).f1 < 0) :
    Calls Try.prog 38 #[.agg (cpuC pc used rs stk),.agg #[.int .i64 o.f0,.int .i64 o.f1,.int .i64 o.f2,.int .i64 o.f3,.int .i64 o.f4],.int .i64 vars] W fun x w' => x=.returned (.tuple #[.agg (cpuC pc (wrap64 (used + 1)) rs stk),.agg (askC 5 0 0 0 0 0 4)])∧Below W.heap.size W w':=by
  have hu29:=Try.underlying29
  have hu46:=Try.underlying46
  have hu26:=Try.underlying26
  have hu24:=Try.underlying24
  have hu97:=Try.underlying97
  obtain ⟨a,ha⟩:∃ a:Nat,o.f1=a:=⟨o.f1.toNat,by omega⟩
  have a8:a < 8:=by omega
  have xa:rs[a]?=some (regA rs o.f1):=by rw [ha];unfold regA;simp [hl,a8]
  have ra:=cpuC_reg (pc:=pc) (used:=used) (stk:=stk) xa
  obtain ⟨b,hb⟩:∃ b:Nat,o.f2=b:=⟨o.f2.toNat,by omega⟩
  have b8:b < 8:=by omega
  have xb:rs[b]?=some (regA rs o.f2):=by rw [hb];unfold regA;simp [hl,b8]
  have rb:=cpuC_reg (pc:=pc) (used:=used) (stk:=stk) xb
  generalize hxa:regA rs o.f1=x at *
  generalize hyb:regA rs o.f2=y at *
  obtain ⟨V1,hV1,KV1,hBV1⟩:=alz W (cpuC pc used rs stk) 29
  have ltV1:W.heap.size < V1.heap.size:=zE KV1
  have K_cpu:=KV1
  have HB:=hBV1
  clear KV1 hBV1
  obtain ⟨V2,hV2,KV2,hBV2⟩:=alz V1 #[.int .i64 o.f0,.int .i64 o.f1,.int .i64 o.f2,.int .i64 o.f3,.int .i64 o.f4] 97
  have ltV2:V1.heap.size < V2.heap.size:=zE KV2
  replace K_cpu:=zB K_cpu hBV2
  have K_op:=KV2
  replace HB:=zA HB hBV2
  clear KV2 hBV2
  obtain ⟨V3,hV3,KV3,hBV3⟩:=alz1 V2
  have ltV3:V2.heap.size < V3.heap.size:=zE KV3
  replace K_cpu:=zB K_cpu hBV3
  replace K_op:=zB K_op hBV3
  have K_o:=KV3
  replace HB:=zA HB hBV3
  clear KV3 hBV3
  obtain ⟨V4,hV4,KV4,hBV4⟩:=alz0 V3
  have ltV4:V3.heap.size < V4.heap.size:=zE KV4
  replace K_cpu:=zB K_cpu hBV4
  replace K_op:=zB K_op hBV4
  replace K_o:=zB K_o hBV4
  have K_a:=KV4
  replace HB:=zA HB hBV4
  clear KV4 hBV4
  rw [ha,hb,h8] at K_op hV2
  have c1:V4.cell? ⟨V1.heap.size,2,none⟩=some (.int .i64 b):=zC K_op (2)
  have c2:V4.cell? ⟨W.heap.size,2 + b * 2,none⟩=some (.int .i64 y.f0):=(zC K_cpu (2 + b * 2)).trans rb.1
  have c3:V4.cell? ⟨W.heap.size,2 + b * 2 + 1,none⟩=some (.int .i64 y.f1):=(zC K_cpu (2 + b * 2 + 1)).trans rb.2
  obtain ⟨V5,hV5,KV5,hBV5⟩:=alz3 V4
  have ltV5:V4.heap.size < V5.heap.size:=zE KV5
  replace K_cpu:=zB K_cpu hBV5
  replace K_op:=zB K_op hBV5
  replace K_o:=zB K_o hBV5
  replace K_a:=zB K_a hBV5
  have K_at:=KV5
  replace HB:=zA HB hBV5
  clear KV5 hBV5
  have c4:V5.cell? ⟨V4.heap.size,0,none⟩=some (.int .i64 0):=zC K_at (0)
  have c5:V5.cell? ⟨V4.heap.size,1,none⟩=some (.int .i64 0):=zC K_at (1)
  have c6:=zD K_at (0)
  have c7:=zD K_at (1)
  obtain ⟨V6,hV6⟩:∃ V,(V5.setCell ⟨V4.heap.size,0,none⟩ (.int .i64 y.f0)).setCell ⟨V4.heap.size,1,none⟩ (.int .i64 y.f1)=V:=⟨_,rfl⟩
  have hOV6:Only V4.heap.size V5 V6:=by rw [← hV6];exact (Only.set _ _ _).trans (Only.set _ _ _)
  replace K_at:V6.heap[V4.heap.size]?=some (.cells (#[.int .i64 y.f0,.int .i64 y.f1]) 24 (0,0)):=by rw [← hV6];exact (blk_set (blk_set K_at _ _) _ _)
  replace K_cpu:=hOV6.mid K_cpu (by omega) (B:=0)
  replace K_op:=hOV6.mid K_op (by omega) (B:=0)
  replace K_o:=hOV6.mid K_o (by omega) (B:=0)
  replace K_a:=hOV6.mid K_a (by omega) (B:=0)
  have szV6:V5.heap.size ≤ V6.heap.size:=hOV6.size
  replace HB:=HB.trans (hOV6.below (by omega) HB.size)
  clear hOV6
  have c8:V6.cell? ⟨V1.heap.size,1,none⟩=some (.int .i64 a):=zC K_op (1)
  obtain ⟨V7,hV7,KV7,hBV7⟩:=alz0 V6
  have ltV7:V6.heap.size < V7.heap.size:=zE KV7
  replace K_cpu:=zB K_cpu hBV7
  replace K_op:=zB K_op hBV7
  replace K_o:=zB K_o hBV7
  replace K_a:=zB K_a hBV7
  replace K_at:=zB K_at hBV7
  have K_ask:=KV7
  replace HB:=zA HB hBV7
  clear KV7 hBV7
  obtain ⟨V8,hSV8,KKV8,hOV8⟩:=st_whole (P:=Try.prog) (ty:=46) (vs:=(askC 1 0 a 0 0 0 0:Array Value).toList) K_ask (by first | rfl | (have:=rfl;simp [this]) | (simp;exact (rfl).symm)) (by rw [size46];first | rfl | (have:=rfl;simp [this]) | (simp;exact (rfl).symm)) (by simp [Value.oneCell'])
  simp only [Array.toArray_toList] at hSV8 KKV8
  replace K_ask:V8.heap[V6.heap.size]?=some (.cells (askC 1 0 a 0 0 0 0) 46 (0,0)):=KKV8
  replace K_cpu:=hOV8.mid K_cpu (by omega) (B:=0)
  replace K_op:=hOV8.mid K_op (by omega) (B:=0)
  replace K_o:=hOV8.mid K_o (by omega) (B:=0)
  replace K_a:=hOV8.mid K_a (by omega) (B:=0)
  replace K_at:=hOV8.mid K_at (by omega) (B:=0)
  have szV8:V7.heap.size ≤ V8.heap.size:=hOV8.size
  replace HB:=HB.trans (hOV8.below (by omega) HB.size)
  clear hOV8
  clear KKV8
  have c9:V8.cell? ⟨V1.heap.size,0,none⟩=some (.int .i64 8):=zC K_op (0)
  have c10:V8.cell? ⟨V4.heap.size,0,none⟩=some (.int .i64 y.f0):=zC K_at (0)
  have c11:V8.cell? ⟨V4.heap.size,1,none⟩=some (.int .i64 y.f1):=zC K_at (1)
  have m0:(y.f0 != 2)=false:=by simpa using hk
  clear hk
  have m1:y.f1 < 0:=hn
  have hL12:=ld_whole (P:=Try.prog) (ty:=29) K_cpu Try.underlying29 rfl (by first | rfl | (rw [size29];rfl) | (rw [size29];have:=zG hl;simp [this]) | (rw [size29,zG hl]))
  have c13:V8.cell? ⟨W.heap.size,1,none⟩=some (.int .i64 used):=zC K_cpu (1)
  have HR:=Lib.hid (rover_calls pc used (wrap64 (used + 1)) 4 rs stk V8 hl h1)
  have HX1:=Lib.hid (zL K_cpu (zL K_op (zL K_o (zL K_a (zL K_at (zL K_ask (HB)))))))
  clear HB K_ask K_at K_a K_o K_op K_cpu
  go_enter Try.func38,Try.ntmps38
  go_wp2_with (first | refine wpList_st rfl rfl hSV8 ?_ | refine wpList_ld rfl rfl hL12 ?_)
  refine HR.out.mono ?_
  rintro e w9 ⟨rfl,hB9⟩
  obtain ⟨K_cpu,K_op,K_o,K_a,K_at,K_ask,HB⟩:=HX1.out
  clear HX1
  replace K_cpu:=zB K_cpu hB9
  replace K_op:=zB K_op hB9
  replace K_o:=zB K_o hB9
  replace K_a:=zB K_a hB9
  replace K_at:=zB K_at hB9
  replace K_ask:=zB K_ask hB9
  have szw9:V8.heap.size ≤ w9.heap.size:=hB9.size
  replace HB:=zA HB hB9
  obtain ⟨V9,hSV9,KKV9,hOV9⟩:=st_whole (P:=Try.prog) (ty:=29) (vs:=(cpuC pc (wrap64 (used + 1)) rs stk:Array Value).toList) K_o (by first | rfl | (have:=zG (pc:=pc) (used:=(wrap64 (used + 1))) (stk:=stk) hl;simp [this]) | (simp;exact (zG (pc:=pc) (used:=(wrap64 (used + 1))) (stk:=stk) hl).symm)) (by rw [size29];first | rfl | (have:=zG (pc:=pc) (used:=(wrap64 (used + 1))) (stk:=stk) hl;simp [this]) | (simp;exact (zG (pc:=pc) (used:=(wrap64 (used + 1))) (stk:=stk) hl).symm)) (cpuC_one1 _ _ _ h1)
  simp only [Array.toArray_toList] at hSV9 KKV9
  replace K_o:V9.heap[V2.heap.size]?=some (.cells (cpuC pc (wrap64 (used + 1)) rs stk) 29 (0,0)):=KKV9
  replace K_cpu:=hOV9.mid K_cpu (by omega) (B:=0)
  replace K_op:=hOV9.mid K_op (by omega) (B:=0)
  replace K_a:=hOV9.mid K_a (by omega) (B:=0)
  replace K_at:=hOV9.mid K_at (by omega) (B:=0)
  replace K_ask:=hOV9.mid K_ask (by omega) (B:=0)
  have szV9:w9.heap.size ≤ V9.heap.size:=hOV9.size
  replace HB:=HB.trans (hOV9.below (by omega) HB.size)
  clear hOV9
  clear KKV9
  obtain ⟨V10,hSV10,KKV10,hOV10⟩:=st_whole (P:=Try.prog) (ty:=46) (vs:=(askC 5 0 0 0 0 0 4:Array Value).toList) K_a (by first | rfl | (have:=rfl;simp [this]) | (simp;exact (rfl).symm)) (by rw [size46];first | rfl | (have:=rfl;simp [this]) | (simp;exact (rfl).symm)) (by simp [Value.oneCell'])
  simp only [Array.toArray_toList] at hSV10 KKV10
  replace K_a:V10.heap[V3.heap.size]?=some (.cells (askC 5 0 0 0 0 0 4) 46 (0,0)):=KKV10
  replace K_cpu:=hOV10.mid K_cpu (by omega) (B:=0)
  replace K_op:=hOV10.mid K_op (by omega) (B:=0)
  replace K_o:=hOV10.mid K_o (by omega) (B:=0)
  replace K_at:=hOV10.mid K_at (by omega) (B:=0)
  replace K_ask:=hOV10.mid K_ask (by omega) (B:=0)
  have szV10:V9.heap.size ≤ V10.heap.size:=hOV10.size
  replace HB:=HB.trans (hOV10.below (by omega) HB.size)
  clear hOV10
  clear KKV10
  have HX2:=Lib.hid (zL K_cpu (zL K_op (zL K_o (zL K_a (zL K_at (zL K_ask (HB)))))))
  clear HB K_ask K_at K_a K_o K_op K_cpu
  go_wp2_with (first | refine wpList_st rfl rfl hSV9 ?_ | refine wpList_st rfl rfl hSV10 ?_)
  obtain ⟨K_cpu,K_op,K_o,K_a,K_at,K_ask,HB⟩:=HX2.out
  exact bodyPost_ret (results_cc rfl _ rfl K_o hu29 rfl (by rw [size29,zG (pc:=pc) (used:=(wrap64 (used + 1))) (stk:=stk) hl]) rfl K_a hu46 rfl (by rw [size46];rfl)) rfl ⟨rfl,HB⟩
set_option maxRecDepth 100000 in
set_option maxHeartbeats 2000000 in
theorem rmem8_2 (pc used : Int) (rs : List S32) (stk : Value) (o : S97) (W : World) (hl : rs.length = 8) (h1 : stk.oneCell' = true) (ha0 : 0 ≤ o.f1) (ha1 : o.f1 < 8) (hb0 : 0 ≤ o.f2) (hb1 : o.f2 < 8) (vars : Int) (h8 : o.f0 = 8)(hk : (regA rs o.f2).f0 = 2) (hn : ¬ (regA rs o.f2).f1 < 0) (hv : vars ≤ (regA rs o.f2).f1) :
    Calls Try.prog 38 #[.agg (cpuC pc used rs stk),.agg #[.int .i64 o.f0,.int .i64 o.f1,.int .i64 o.f2,.int .i64 o.f3,.int .i64 o.f4],.int .i64 vars] W fun x w' => x=.returned (.tuple #[.agg (cpuC pc (wrap64 (used + 1)) rs stk),.agg (askC 5 0 0 0 0 0 4)])∧Below W.heap.size W w':=by
  have hu29:=Try.underlying29
  have hu46:=Try.underlying46
  have hu26:=Try.underlying26
  have hu24:=Try.underlying24
  have hu97:=Try.underlying97
  obtain ⟨a,ha⟩:∃ a:Nat,o.f1=a:=⟨o.f1.toNat,by omega⟩
  have a8:a < 8:=by omega
  have xa:rs[a]?=some (regA rs o.f1):=by rw [ha];unfold regA;simp [hl,a8]
  have ra:=cpuC_reg (pc:=pc) (used:=used) (stk:=stk) xa
  obtain ⟨b,hb⟩:∃ b:Nat,o.f2=b:=⟨o.f2.toNat,by omega⟩
  have b8:b < 8:=by omega
  have xb:rs[b]?=some (regA rs o.f2):=by rw [hb];unfold regA;simp [hl,b8]
  have rb:=cpuC_reg (pc:=pc) (used:=used) (stk:=stk) xb
  generalize hxa:regA rs o.f1=x at *
  generalize hyb:regA rs o.f2=y at *
  obtain ⟨V1,hV1,KV1,hBV1⟩:=alz W (cpuC pc used rs stk) 29
  have ltV1:W.heap.size < V1.heap.size:=zE KV1
  have K_cpu:=KV1
  have HB:=hBV1
  clear KV1 hBV1
  obtain ⟨V2,hV2,KV2,hBV2⟩:=alz V1 #[.int .i64 o.f0,.int .i64 o.f1,.int .i64 o.f2,.int .i64 o.f3,.int .i64 o.f4] 97
  have ltV2:V1.heap.size < V2.heap.size:=zE KV2
  replace K_cpu:=zB K_cpu hBV2
  have K_op:=KV2
  replace HB:=zA HB hBV2
  clear KV2 hBV2
  obtain ⟨V3,hV3,KV3,hBV3⟩:=alz1 V2
  have ltV3:V2.heap.size < V3.heap.size:=zE KV3
  replace K_cpu:=zB K_cpu hBV3
  replace K_op:=zB K_op hBV3
  have K_o:=KV3
  replace HB:=zA HB hBV3
  clear KV3 hBV3
  obtain ⟨V4,hV4,KV4,hBV4⟩:=alz0 V3
  have ltV4:V3.heap.size < V4.heap.size:=zE KV4
  replace K_cpu:=zB K_cpu hBV4
  replace K_op:=zB K_op hBV4
  replace K_o:=zB K_o hBV4
  have K_a:=KV4
  replace HB:=zA HB hBV4
  clear KV4 hBV4
  rw [ha,hb,h8] at K_op hV2
  have c1:V4.cell? ⟨V1.heap.size,2,none⟩=some (.int .i64 b):=zC K_op (2)
  have c2:V4.cell? ⟨W.heap.size,2 + b * 2,none⟩=some (.int .i64 y.f0):=(zC K_cpu (2 + b * 2)).trans rb.1
  have c3:V4.cell? ⟨W.heap.size,2 + b * 2 + 1,none⟩=some (.int .i64 y.f1):=(zC K_cpu (2 + b * 2 + 1)).trans rb.2
  obtain ⟨V5,hV5,KV5,hBV5⟩:=alz3 V4
  have ltV5:V4.heap.size < V5.heap.size:=zE KV5
  replace K_cpu:=zB K_cpu hBV5
  replace K_op:=zB K_op hBV5
  replace K_o:=zB K_o hBV5
  replace K_a:=zB K_a hBV5
  have K_at:=KV5
  replace HB:=zA HB hBV5
  clear KV5 hBV5
  have c4:V5.cell? ⟨V4.heap.size,0,none⟩=some (.int .i64 0):=zC K_at (0)
  have c5:V5.cell? ⟨V4.heap.size,1,none⟩=some (.int .i64 0):=zC K_at (1)
  have c6:=zD K_at (0)
  have c7:=zD K_at (1)
  obtain ⟨V6,hV6⟩:∃ V,(V5.setCell ⟨V4.heap.size,0,none⟩ (.int .i64 y.f0)).setCell ⟨V4.heap.size,1,none⟩ (.int .i64 y.f1)=V:=⟨_,rfl⟩
  have hOV6:Only V4.heap.size V5 V6:=by rw [← hV6];exact (Only.set _ _ _).trans (Only.set _ _ _)
  replace K_at:V6.heap[V4.heap.size]?=some (.cells (#[.int .i64 y.f0,.int .i64 y.f1]) 24 (0,0)):=by rw [← hV6];exact (blk_set (blk_set K_at _ _) _ _)
  replace K_cpu:=hOV6.mid K_cpu (by omega) (B:=0)
  replace K_op:=hOV6.mid K_op (by omega) (B:=0)
  replace K_o:=hOV6.mid K_o (by omega) (B:=0)
  replace K_a:=hOV6.mid K_a (by omega) (B:=0)
  have szV6:V5.heap.size ≤ V6.heap.size:=hOV6.size
  replace HB:=HB.trans (hOV6.below (by omega) HB.size)
  clear hOV6
  have c8:V6.cell? ⟨V1.heap.size,1,none⟩=some (.int .i64 a):=zC K_op (1)
  obtain ⟨V7,hV7,KV7,hBV7⟩:=alz0 V6
  have ltV7:V6.heap.size < V7.heap.size:=zE KV7
  replace K_cpu:=zB K_cpu hBV7
  replace K_op:=zB K_op hBV7
  replace K_o:=zB K_o hBV7
  replace K_a:=zB K_a hBV7
  replace K_at:=zB K_at hBV7
  have K_ask:=KV7
  replace HB:=zA HB hBV7
  clear KV7 hBV7
  obtain ⟨V8,hSV8,KKV8,hOV8⟩:=st_whole (P:=Try.prog) (ty:=46) (vs:=(askC 1 0 a 0 0 0 0:Array Value).toList) K_ask (by first | rfl | (have:=rfl;simp [this]) | (simp;exact (rfl).symm)) (by rw [size46];first | rfl | (have:=rfl;simp [this]) | (simp;exact (rfl).symm)) (by simp [Value.oneCell'])
  simp only [Array.toArray_toList] at hSV8 KKV8
  replace K_ask:V8.heap[V6.heap.size]?=some (.cells (askC 1 0 a 0 0 0 0) 46 (0,0)):=KKV8
  replace K_cpu:=hOV8.mid K_cpu (by omega) (B:=0)
  replace K_op:=hOV8.mid K_op (by omega) (B:=0)
  replace K_o:=hOV8.mid K_o (by omega) (B:=0)
  replace K_a:=hOV8.mid K_a (by omega) (B:=0)
  replace K_at:=hOV8.mid K_at (by omega) (B:=0)
  have szV8:V7.heap.size ≤ V8.heap.size:=hOV8.size
  replace HB:=HB.trans (hOV8.below (by omega) HB.size)
  clear hOV8
  clear KKV8
  have c9:V8.cell? ⟨V1.heap.size,0,none⟩=some (.int .i64 8):=zC K_op (0)
  have c10:V8.cell? ⟨V4.heap.size,0,none⟩=some (.int .i64 y.f0):=zC K_at (0)
  have c11:V8.cell? ⟨V4.heap.size,1,none⟩=some (.int .i64 y.f1):=zC K_at (1)
  have m0:(y.f0 != 2)=false:=by simpa using hk
  clear hk
  have m1:¬ y.f1 < 0:=hn
  have m2:vars ≤ y.f1:=hv
  have hL12:=ld_whole (P:=Try.prog) (ty:=29) K_cpu Try.underlying29 rfl (by first | rfl | (rw [size29];rfl) | (rw [size29];have:=zG hl;simp [this]) | (rw [size29,zG hl]))
  have c13:V8.cell? ⟨W.heap.size,1,none⟩=some (.int .i64 used):=zC K_cpu (1)
  have HR:=Lib.hid (rover_calls pc used (wrap64 (used + 1)) 4 rs stk V8 hl h1)
  have HX1:=Lib.hid (zL K_cpu (zL K_op (zL K_o (zL K_a (zL K_at (zL K_ask (HB)))))))
  clear HB K_ask K_at K_a K_o K_op K_cpu
  go_enter Try.func38,Try.ntmps38
  go_wp2_with (first | refine wpList_st rfl rfl hSV8 ?_ | refine wpList_ld rfl rfl hL12 ?_)
  refine HR.out.mono ?_
  rintro e w9 ⟨rfl,hB9⟩
  obtain ⟨K_cpu,K_op,K_o,K_a,K_at,K_ask,HB⟩:=HX1.out
  clear HX1
  replace K_cpu:=zB K_cpu hB9
  replace K_op:=zB K_op hB9
  replace K_o:=zB K_o hB9
  replace K_a:=zB K_a hB9
  replace K_at:=zB K_at hB9
  replace K_ask:=zB K_ask hB9
  have szw9:V8.heap.size ≤ w9.heap.size:=hB9.size
  replace HB:=zA HB hB9
  obtain ⟨V9,hSV9,KKV9,hOV9⟩:=st_whole (P:=Try.prog) (ty:=29) (vs:=(cpuC pc (wrap64 (used + 1)) rs stk:Array Value).toList) K_o (by first | rfl | (have:=zG (pc:=pc) (used:=(wrap64 (used + 1))) (stk:=stk) hl;simp [this]) | (simp;exact (zG (pc:=pc) (used:=(wrap64 (used + 1))) (stk:=stk) hl).symm)) (by rw [size29];first | rfl | (have:=zG (pc:=pc) (used:=(wrap64 (used + 1))) (stk:=stk) hl;simp [this]) | (simp;exact (zG (pc:=pc) (used:=(wrap64 (used + 1))) (stk:=stk) hl).symm)) (cpuC_one1 _ _ _ h1)
  simp only [Array.toArray_toList] at hSV9 KKV9
  replace K_o:V9.heap[V2.heap.size]?=some (.cells (cpuC pc (wrap64 (used + 1)) rs stk) 29 (0,0)):=KKV9
  replace K_cpu:=hOV9.mid K_cpu (by omega) (B:=0)
  replace K_op:=hOV9.mid K_op (by omega) (B:=0)
  replace K_a:=hOV9.mid K_a (by omega) (B:=0)
  replace K_at:=hOV9.mid K_at (by omega) (B:=0)
  replace K_ask:=hOV9.mid K_ask (by omega) (B:=0)
  have szV9:w9.heap.size ≤ V9.heap.size:=hOV9.size
  replace HB:=HB.trans (hOV9.below (by omega) HB.size)
  clear hOV9
  clear KKV9
  obtain ⟨V10,hSV10,KKV10,hOV10⟩:=st_whole (P:=Try.prog) (ty:=46) (vs:=(askC 5 0 0 0 0 0 4:Array Value).toList) K_a (by first | rfl | (have:=rfl;simp [this]) | (simp;exact (rfl).symm)) (by rw [size46];first | rfl | (have:=rfl;simp [this]) | (simp;exact (rfl).symm)) (by simp [Value.oneCell'])
  simp only [Array.toArray_toList] at hSV10 KKV10
  replace K_a:V10.heap[V3.heap.size]?=some (.cells (askC 5 0 0 0 0 0 4) 46 (0,0)):=KKV10
  replace K_cpu:=hOV10.mid K_cpu (by omega) (B:=0)
  replace K_op:=hOV10.mid K_op (by omega) (B:=0)
  replace K_o:=hOV10.mid K_o (by omega) (B:=0)
  replace K_at:=hOV10.mid K_at (by omega) (B:=0)
  replace K_ask:=hOV10.mid K_ask (by omega) (B:=0)
  have szV10:V9.heap.size ≤ V10.heap.size:=hOV10.size
  replace HB:=HB.trans (hOV10.below (by omega) HB.size)
  clear hOV10
  clear KKV10
  have HX2:=Lib.hid (zL K_cpu (zL K_op (zL K_o (zL K_a (zL K_at (zL K_ask (HB)))))))
  clear HB K_ask K_at K_a K_o K_op K_cpu
  go_wp2_with (first | refine wpList_st rfl rfl hSV9 ?_ | refine wpList_st rfl rfl hSV10 ?_)
  obtain ⟨K_cpu,K_op,K_o,K_a,K_at,K_ask,HB⟩:=HX2.out
  exact bodyPost_ret (results_cc rfl _ rfl K_o hu29 rfl (by rw [size29,zG (pc:=pc) (used:=(wrap64 (used + 1))) (stk:=stk) hl]) rfl K_a hu46 rfl (by rw [size46];rfl)) rfl ⟨rfl,HB⟩
set_option maxRecDepth 100000 in
set_option maxHeartbeats 2000000 in
theorem rmem8_3 (pc used : Int) (rs : List S32) (stk : Value) (o : S97) (W : World) (hl : rs.length = 8) (h1 : stk.oneCell' = true) (ha0 : 0 ≤ o.f1) (ha1 : o.f1 < 8) (hb0 : 0 ≤ o.f2) (hb1 : o.f2 < 8) (vars : Int) (h8 : o.f0 = 8)(hk : (regA rs o.f2).f0 = 2) (hn : ¬ (regA rs o.f2).f1 < 0) (hv : ¬ vars ≤ (regA rs o.f2).f1) :
    Calls Try.prog 38 #[.agg (cpuC pc used rs stk),.agg #[.int .i64 o.f0,.int .i64 o.f1,.int .i64 o.f2,.int .i64 o.f3,.int .i64 o.f4],.int .i64 vars] W fun x w' => x=.returned (.tuple #[.agg (cpuC (wrap64 (pc + 1)) (wrap64 (used + 1)) rs stk),.agg (askC 1 (regA rs o.f2).f1 o.f1 0 0 0 0)])∧Below W.heap.size W w':=by
  have hu29:=Try.underlying29
  have hu46:=Try.underlying46
  have hu26:=Try.underlying26
  have hu24:=Try.underlying24
  have hu97:=Try.underlying97
  obtain ⟨a,ha⟩:∃ a:Nat,o.f1=a:=⟨o.f1.toNat,by omega⟩
  have a8:a < 8:=by omega
  have xa:rs[a]?=some (regA rs o.f1):=by rw [ha];unfold regA;simp [hl,a8]
  have ra:=cpuC_reg (pc:=pc) (used:=used) (stk:=stk) xa
  obtain ⟨b,hb⟩:∃ b:Nat,o.f2=b:=⟨o.f2.toNat,by omega⟩
  have b8:b < 8:=by omega
  have xb:rs[b]?=some (regA rs o.f2):=by rw [hb];unfold regA;simp [hl,b8]
  have rb:=cpuC_reg (pc:=pc) (used:=used) (stk:=stk) xb
  generalize hxa:regA rs o.f1=x at *
  generalize hyb:regA rs o.f2=y at *
  obtain ⟨V1,hV1,KV1,hBV1⟩:=alz W (cpuC pc used rs stk) 29
  have ltV1:W.heap.size < V1.heap.size:=zE KV1
  have K_cpu:=KV1
  have HB:=hBV1
  clear KV1 hBV1
  obtain ⟨V2,hV2,KV2,hBV2⟩:=alz V1 #[.int .i64 o.f0,.int .i64 o.f1,.int .i64 o.f2,.int .i64 o.f3,.int .i64 o.f4] 97
  have ltV2:V1.heap.size < V2.heap.size:=zE KV2
  replace K_cpu:=zB K_cpu hBV2
  have K_op:=KV2
  replace HB:=zA HB hBV2
  clear KV2 hBV2
  obtain ⟨V3,hV3,KV3,hBV3⟩:=alz1 V2
  have ltV3:V2.heap.size < V3.heap.size:=zE KV3
  replace K_cpu:=zB K_cpu hBV3
  replace K_op:=zB K_op hBV3
  have K_o:=KV3
  replace HB:=zA HB hBV3
  clear KV3 hBV3
  obtain ⟨V4,hV4,KV4,hBV4⟩:=alz0 V3
  have ltV4:V3.heap.size < V4.heap.size:=zE KV4
  replace K_cpu:=zB K_cpu hBV4
  replace K_op:=zB K_op hBV4
  replace K_o:=zB K_o hBV4
  have K_a:=KV4
  replace HB:=zA HB hBV4
  clear KV4 hBV4
  rw [ha,hb,h8] at K_op hV2
  have c1:V4.cell? ⟨V1.heap.size,2,none⟩=some (.int .i64 b):=zC K_op (2)
  have c2:V4.cell? ⟨W.heap.size,2 + b * 2,none⟩=some (.int .i64 y.f0):=(zC K_cpu (2 + b * 2)).trans rb.1
  have c3:V4.cell? ⟨W.heap.size,2 + b * 2 + 1,none⟩=some (.int .i64 y.f1):=(zC K_cpu (2 + b * 2 + 1)).trans rb.2
  obtain ⟨V5,hV5,KV5,hBV5⟩:=alz3 V4
  have ltV5:V4.heap.size < V5.heap.size:=zE KV5
  replace K_cpu:=zB K_cpu hBV5
  replace K_op:=zB K_op hBV5
  replace K_o:=zB K_o hBV5
  replace K_a:=zB K_a hBV5
  have K_at:=KV5
  replace HB:=zA HB hBV5
  clear KV5 hBV5
  have c4:V5.cell? ⟨V4.heap.size,0,none⟩=some (.int .i64 0):=zC K_at (0)
  have c5:V5.cell? ⟨V4.heap.size,1,none⟩=some (.int .i64 0):=zC K_at (1)
  have c6:=zD K_at (0)
  have c7:=zD K_at (1)
  obtain ⟨V6,hV6⟩:∃ V,(V5.setCell ⟨V4.heap.size,0,none⟩ (.int .i64 y.f0)).setCell ⟨V4.heap.size,1,none⟩ (.int .i64 y.f1)=V:=⟨_,rfl⟩
  have hOV6:Only V4.heap.size V5 V6:=by rw [← hV6];exact (Only.set _ _ _).trans (Only.set _ _ _)
  replace K_at:V6.heap[V4.heap.size]?=some (.cells (#[.int .i64 y.f0,.int .i64 y.f1]) 24 (0,0)):=by rw [← hV6];exact (blk_set (blk_set K_at _ _) _ _)
  replace K_cpu:=hOV6.mid K_cpu (by omega) (B:=0)
  replace K_op:=hOV6.mid K_op (by omega) (B:=0)
  replace K_o:=hOV6.mid K_o (by omega) (B:=0)
  replace K_a:=hOV6.mid K_a (by omega) (B:=0)
  have szV6:V5.heap.size ≤ V6.heap.size:=hOV6.size
  replace HB:=HB.trans (hOV6.below (by omega) HB.size)
  clear hOV6
  have c8:V6.cell? ⟨V1.heap.size,1,none⟩=some (.int .i64 a):=zC K_op (1)
  obtain ⟨V7,hV7,KV7,hBV7⟩:=alz0 V6
  have ltV7:V6.heap.size < V7.heap.size:=zE KV7
  replace K_cpu:=zB K_cpu hBV7
  replace K_op:=zB K_op hBV7
  replace K_o:=zB K_o hBV7
  replace K_a:=zB K_a hBV7
  replace K_at:=zB K_at hBV7
  have K_ask:=KV7
  replace HB:=zA HB hBV7
  clear KV7 hBV7
  obtain ⟨V8,hSV8,KKV8,hOV8⟩:=st_whole (P:=Try.prog) (ty:=46) (vs:=(askC 1 0 a 0 0 0 0:Array Value).toList) K_ask (by first | rfl | (have:=rfl;simp [this]) | (simp;exact (rfl).symm)) (by rw [size46];first | rfl | (have:=rfl;simp [this]) | (simp;exact (rfl).symm)) (by simp [Value.oneCell'])
  simp only [Array.toArray_toList] at hSV8 KKV8
  replace K_ask:V8.heap[V6.heap.size]?=some (.cells (askC 1 0 a 0 0 0 0) 46 (0,0)):=KKV8
  replace K_cpu:=hOV8.mid K_cpu (by omega) (B:=0)
  replace K_op:=hOV8.mid K_op (by omega) (B:=0)
  replace K_o:=hOV8.mid K_o (by omega) (B:=0)
  replace K_a:=hOV8.mid K_a (by omega) (B:=0)
  replace K_at:=hOV8.mid K_at (by omega) (B:=0)
  have szV8:V7.heap.size ≤ V8.heap.size:=hOV8.size
  replace HB:=HB.trans (hOV8.below (by omega) HB.size)
  clear hOV8
  clear KKV8
  have c9:V8.cell? ⟨V1.heap.size,0,none⟩=some (.int .i64 8):=zC K_op (0)
  have c10:V8.cell? ⟨V4.heap.size,0,none⟩=some (.int .i64 y.f0):=zC K_at (0)
  have c11:V8.cell? ⟨V4.heap.size,1,none⟩=some (.int .i64 y.f1):=zC K_at (1)
  rw [ha]
  have m0:(y.f0 != 2)=false:=by simpa using hk
  clear hk
  have m1:¬ y.f1 < 0:=hn
  have m2:¬ vars ≤ y.f1:=hv
  have c12:V8.cell? ⟨V6.heap.size,1,none⟩=some (.int .i64 0):=zC K_ask (1)
  have c13:=zD K_ask (1)
  obtain ⟨V9,hV9⟩:∃ V,V8.setCell ⟨V6.heap.size,1,none⟩ (.int .i64 y.f1)=V:=⟨_,rfl⟩
  have hOV9:Only V6.heap.size V8 V9:=by rw [← hV9];exact Only.set _ _ _
  replace K_ask:V9.heap[V6.heap.size]?=some (.cells (askC 1 y.f1 a 0 0 0 0) 46 (0,0)):=by rw [← hV9];exact (blk_set K_ask _ _)
  replace K_cpu:=hOV9.mid K_cpu (by omega) (B:=0)
  replace K_op:=hOV9.mid K_op (by omega) (B:=0)
  replace K_o:=hOV9.mid K_o (by omega) (B:=0)
  replace K_a:=hOV9.mid K_a (by omega) (B:=0)
  replace K_at:=hOV9.mid K_at (by omega) (B:=0)
  have szV9:V8.heap.size ≤ V9.heap.size:=hOV9.size
  replace HB:=HB.trans (hOV9.below (by omega) HB.size)
  clear hOV9
  have c14:V9.cell? ⟨W.heap.size,0,none⟩=some (.int .i64 pc):=zC K_cpu (0)
  have c15:=zD K_cpu (0)
  obtain ⟨V10,hV10⟩:∃ V,V9.setCell ⟨W.heap.size,0,none⟩ (.int .i64 (wrap64 (pc + 1)))=V:=⟨_,rfl⟩
  have hOV10:Only W.heap.size V9 V10:=by rw [← hV10];exact Only.set _ _ _
  replace K_cpu:V10.heap[W.heap.size]?=some (.cells (cpuC (wrap64 (pc + 1)) used rs stk) 29 (0,0)):=by rw [← hV10];exact (blk_set K_cpu _ _)
  replace K_op:=hOV10.mid K_op (by omega) (B:=0)
  replace K_o:=hOV10.mid K_o (by omega) (B:=0)
  replace K_a:=hOV10.mid K_a (by omega) (B:=0)
  replace K_at:=hOV10.mid K_at (by omega) (B:=0)
  replace K_ask:=hOV10.mid K_ask (by omega) (B:=0)
  have szV10:V9.heap.size ≤ V10.heap.size:=hOV10.size
  replace HB:=HB.trans (hOV10.below (by omega) HB.size)
  clear hOV10
  have c16:V10.cell? ⟨W.heap.size,1,none⟩=some (.int .i64 used):=zC K_cpu (1)
  have c17:=zD K_cpu (1)
  obtain ⟨V11,hV11⟩:∃ V,V10.setCell ⟨W.heap.size,1,none⟩ (.int .i64 (wrap64 (used + 1)))=V:=⟨_,rfl⟩
  have hOV11:Only W.heap.size V10 V11:=by rw [← hV11];exact Only.set _ _ _
  replace K_cpu:V11.heap[W.heap.size]?=some (.cells (cpuC (wrap64 (pc + 1)) (wrap64 (used + 1)) rs stk) 29 (0,0)):=by rw [← hV11];exact (blk_set K_cpu _ _)
  replace K_op:=hOV11.mid K_op (by omega) (B:=0)
  replace K_o:=hOV11.mid K_o (by omega) (B:=0)
  replace K_a:=hOV11.mid K_a (by omega) (B:=0)
  replace K_at:=hOV11.mid K_at (by omega) (B:=0)
  replace K_ask:=hOV11.mid K_ask (by omega) (B:=0)
  have szV11:V10.heap.size ≤ V11.heap.size:=hOV11.size
  replace HB:=HB.trans (hOV11.below (by omega) HB.size)
  clear hOV11
  have HX1:=Lib.hid (zL K_cpu (zL K_op (zL K_o (zL K_a (zL K_at (zL K_ask (HB)))))))
  clear HB K_ask K_at K_a K_o K_op K_cpu
  go_enter Try.func38,Try.ntmps38
  go_wp2_with (refine wpList_st rfl rfl hSV8 ?_)
  obtain ⟨K_cpu,K_op,K_o,K_a,K_at,K_ask,HB⟩:=HX1.out
  clear HX1
  have n3:V2.heap.size ≠ V3.heap.size:=by omega
  obtain ⟨L,hL⟩:∃ L,L=[(V2.heap.size,[Obj.cells #[.int .i64 0,.int .i64 0,.int .i64 0,.int .i64 0,.int .i64 0,.int .i64 0,.int .i64 0,.int .i64 0,.int .i64 0,.int .i64 0,.int .i64 0,.int .i64 0,.int .i64 0,.int .i64 0,.int .i64 0,.int .i64 0,.int .i64 0,.int .i64 0,.slice none 0 0] 29 (0,0),Obj.cells (cpuC (wrap64 (pc + 1)) (wrap64 (used + 1)) rs stk) 29 (0,0)]),(V3.heap.size,[Obj.cells #[.int .i64 0,.int .i64 0,.int .i64 0,.int .i64 0,.int .i64 0,.int .i64 0,.int .i64 0] 46 (0,0),Obj.cells (askC 1 y.f1 a 0 0 0 0) 46 (0,0)])]:=⟨_,rfl⟩
  have m1:(V2.heap.size,[Obj.cells #[.int .i64 0,.int .i64 0,.int .i64 0,.int .i64 0,.int .i64 0,.int .i64 0,.int .i64 0,.int .i64 0,.int .i64 0,.int .i64 0,.int .i64 0,.int .i64 0,.int .i64 0,.int .i64 0,.int .i64 0,.int .i64 0,.int .i64 0,.int .i64 0,.slice none 0 0] 29 (0,0),Obj.cells (cpuC (wrap64 (pc + 1)) (wrap64 (used + 1)) rs stk) 29 (0,0)]) ∈ L:=by subst hL;simp
  have m2:(V3.heap.size,[Obj.cells #[.int .i64 0,.int .i64 0,.int .i64 0,.int .i64 0,.int .i64 0,.int .i64 0,.int .i64 0] 46 (0,0),Obj.cells (askC 1 y.f1 a 0 0 0 0) 46 (0,0)]) ∈ L:=by subst hL;simp
  have u1:∀ p ∈ L,p.1=V2.heap.size → p=(V2.heap.size,[Obj.cells #[.int .i64 0,.int .i64 0,.int .i64 0,.int .i64 0,.int .i64 0,.int .i64 0,.int .i64 0,.int .i64 0,.int .i64 0,.int .i64 0,.int .i64 0,.int .i64 0,.int .i64 0,.int .i64 0,.int .i64 0,.int .i64 0,.int .i64 0,.int .i64 0,.slice none 0 0] 29 (0,0),Obj.cells (cpuC (wrap64 (pc + 1)) (wrap64 (used + 1)) rs stk) 29 (0,0)]):=by subst hL;simp;intro h;exact absurd h.symm n3
  have u2:∀ p ∈ L,p.1=V3.heap.size → p=(V3.heap.size,[Obj.cells #[.int .i64 0,.int .i64 0,.int .i64 0,.int .i64 0,.int .i64 0,.int .i64 0,.int .i64 0] 46 (0,0),Obj.cells (askC 1 y.f1 a 0 0 0 0) 46 (0,0)]):=by subst hL;simp;intro h;exact absurd h n3
  have o1:∀ W',Chain L V11 W' → At (V2.heap.size) [Obj.cells #[.int .i64 0,.int .i64 0,.int .i64 0,.int .i64 0,.int .i64 0,.int .i64 0,.int .i64 0,.int .i64 0,.int .i64 0,.int .i64 0,.int .i64 0,.int .i64 0,.int .i64 0,.int .i64 0,.int .i64 0,.int .i64 0,.int .i64 0,.int .i64 0,.slice none 0 0] 29 (0,0),Obj.cells (cpuC (wrap64 (pc + 1)) (wrap64 (used + 1)) rs stk) 29 (0,0)] 0 W':=fun W' hB => hB.on _ m1 0 ⟨0,_,Nat.le_refl _,rfl,K_o⟩
  have a1:∀ W',Chain L V11 W' → At (V3.heap.size) [Obj.cells #[.int .i64 0,.int .i64 0,.int .i64 0,.int .i64 0,.int .i64 0,.int .i64 0,.int .i64 0] 46 (0,0),Obj.cells (askC 1 y.f1 a 0 0 0 0) 46 (0,0)] 0 W':=fun W' hB => hB.on _ m2 0 ⟨0,_,Nat.le_refl _,rfl,K_a⟩
  have d1:∀ W',Chain L V11 W' → W'.heap[W.heap.size]?=some (.cells (cpuC (wrap64 (pc + 1)) (wrap64 (used + 1)) rs stk) 29 (0,0)):=fun W' hB => hB.mid K_cpu (by subst hL;simp;omega)
  have d2:∀ W',Chain L V11 W' → W'.heap[V6.heap.size]?=some (.cells (askC 1 y.f1 a 0 0 0 0) 46 (0,0)):=fun W' hB => hB.mid K_ask (by subst hL;simp;omega)
  apply GR.wp_region_grows (R:=Chain L) (by kernel_rfl) (by kernel_rfl)
  · intro c a d v w h;cases d <;> exact h
  apply GR.gw_val (by rfl)
  · (intro W' hB hD;exact exec_ld rfl (ld_whole (d1 W' hB) hu29 rfl (by rw [size29,zG (pc:=wrap64 (pc + 1)) (used:=wrap64 (used + 1)) (stk:=stk) hl])))
  simp only [Act.put,zI,zJ,zK]
  apply GR.gw_val (by rfl)
  · (intro W' hB hD;exact exec_ld rfl (ld_whole (d2 W' hB) hu46 rfl (by rw [size46];rfl)))
  simp only [Act.put,zI,zJ,zK]
  apply GR.gw_skp (stable_At m1 1) (by rfl) (by rfl)
  · intro W' hB hD
    obtain ⟨W'',e1,e2,e3⟩:=chain_whole (ty:=29) m1 u1 (o1 W' hB) (by rw [zG (pc:=wrap64 (pc + 1)) (used:=wrap64 (used + 1)) (stk:=stk) hl];rfl) (by rw [size29,zG (pc:=wrap64 (pc + 1)) (used:=wrap64 (used + 1)) (stk:=stk) hl]) (cpuC_one1 _ _ _ h1)
    exact ⟨W'',exec_st rfl e1,e2,e3⟩
  rintro v -
  apply GR.gw_skp (stable_At m2 1) (by rfl) (by rfl)
  · intro W' hB hD
    obtain ⟨W'',e1,e2,e3⟩:=chain_whole (ty:=46) m2 u2 (a1 W' hB) (by rfl) (by rw [size46];rfl) (by simp [Value.oneCell'])
    exact ⟨W'',exec_st rfl e1,e2,e3⟩
  rintro v' -
  apply GR.gw_nil
  intro Wa hW hF hP
  simp [List.forall_mem_append] at hF
  subst hL
  have hT:=Two.of_chain hW hF.1 hF.2
  have HE:=Lib.hid (zL hT.o (zL hT.a ((HB).trans (show Below W.heap.size _ Wa from ⟨hT.os,hT.tape,hT.output,hT.size,fun k hk => hT.block k (by omega) (by omega) (by omega)⟩))))
  clear hT hW hF hP o1 a1 m1 m2 u1 u2 d1 d2 K_cpu K_op K_o K_a K_at K_ask HB
  go_wp2_with fail
  exact bodyPost_ret (results_cc rfl _ rfl HE.out.1 hu29 rfl (by rw [size29,zG (pc:=wrap64 (pc + 1)) (used:=wrap64 (used + 1)) (stk:=stk) hl]) rfl HE.out.2.1 hu46 rfl (by rw [size46];rfl)) rfl ⟨rfl,HE.out.2.2⟩
set_option maxRecDepth 100000 in
set_option maxHeartbeats 2000000 in
theorem rmem9_0 (pc used : Int) (rs : List S32) (stk : Value) (o : S97) (W : World) (hl : rs.length = 8) (h1 : stk.oneCell' = true) (ha0 : 0 ≤ o.f1) (ha1 : o.f1 < 8) (hb0 : 0 ≤ o.f2) (hb1 : o.f2 < 8) (vars : Int) (h8 : o.f0 = 9)(hk : ¬ (regA rs o.f1).f0 = 2) :
    Calls Try.prog 38 #[.agg (cpuC pc used rs stk),.agg #[.int .i64 o.f0,.int .i64 o.f1,.int .i64 o.f2,.int .i64 o.f3,.int .i64 o.f4],.int .i64 vars] W fun x w' => x=.returned (.tuple #[.agg (cpuC pc (wrap64 (used + 1)) rs stk),.agg (askC 5 0 0 0 0 0 4)])∧Below W.heap.size W w':=by
  have hu29:=Try.underlying29
  have hu46:=Try.underlying46
  have hu26:=Try.underlying26
  have hu24:=Try.underlying24
  have hu97:=Try.underlying97
  obtain ⟨a,ha⟩:∃ a:Nat,o.f1=a:=⟨o.f1.toNat,by omega⟩
  have a8:a < 8:=by omega
  have xa:rs[a]?=some (regA rs o.f1):=by rw [ha];unfold regA;simp [hl,a8]
  have ra:=cpuC_reg (pc:=pc) (used:=used) (stk:=stk) xa
  obtain ⟨b,hb⟩:∃ b:Nat,o.f2=b:=⟨o.f2.toNat,by omega⟩
  have b8:b < 8:=by omega
  have xb:rs[b]?=some (regA rs o.f2):=by rw [hb];unfold regA;simp [hl,b8]
  have rb:=cpuC_reg (pc:=pc) (used:=used) (stk:=stk) xb
  generalize hxa:regA rs o.f1=x at *
  generalize hyb:regA rs o.f2=y at *
  obtain ⟨V1,hV1,KV1,hBV1⟩:=alz W (cpuC pc used rs stk) 29
  have ltV1:W.heap.size < V1.heap.size:=zE KV1
  have K_cpu:=KV1
  have HB:=hBV1
  clear KV1 hBV1
  obtain ⟨V2,hV2,KV2,hBV2⟩:=alz V1 #[.int .i64 o.f0,.int .i64 o.f1,.int .i64 o.f2,.int .i64 o.f3,.int .i64 o.f4] 97
  have ltV2:V1.heap.size < V2.heap.size:=zE KV2
  replace K_cpu:=zB K_cpu hBV2
  have K_op:=KV2
  replace HB:=zA HB hBV2
  clear KV2 hBV2
  obtain ⟨V3,hV3,KV3,hBV3⟩:=alz1 V2
  have ltV3:V2.heap.size < V3.heap.size:=zE KV3
  replace K_cpu:=zB K_cpu hBV3
  replace K_op:=zB K_op hBV3
  have K_o:=KV3
  replace HB:=zA HB hBV3
  clear KV3 hBV3
  obtain ⟨V4,hV4,KV4,hBV4⟩:=alz0 V3
  have ltV4:V3.heap.size < V4.heap.size:=zE KV4
  replace K_cpu:=zB K_cpu hBV4
  replace K_op:=zB K_op hBV4
  replace K_o:=zB K_o hBV4
  have K_a:=KV4
  replace HB:=zA HB hBV4
  clear KV4 hBV4
  rw [ha,hb,h8] at K_op hV2
  have c1:V4.cell? ⟨V1.heap.size,2,none⟩=some (.int .i64 b):=zC K_op (2)
  have c2:V4.cell? ⟨W.heap.size,2 + b * 2,none⟩=some (.int .i64 y.f0):=(zC K_cpu (2 + b * 2)).trans rb.1
  have c3:V4.cell? ⟨W.heap.size,2 + b * 2 + 1,none⟩=some (.int .i64 y.f1):=(zC K_cpu (2 + b * 2 + 1)).trans rb.2
  obtain ⟨V5,hV5,KV5,hBV5⟩:=alz3 V4
  have ltV5:V4.heap.size < V5.heap.size:=zE KV5
  replace K_cpu:=zB K_cpu hBV5
  replace K_op:=zB K_op hBV5
  replace K_o:=zB K_o hBV5
  replace K_a:=zB K_a hBV5
  have K_at:=KV5
  replace HB:=zA HB hBV5
  clear KV5 hBV5
  have c4:V5.cell? ⟨V4.heap.size,0,none⟩=some (.int .i64 0):=zC K_at (0)
  have c5:V5.cell? ⟨V4.heap.size,1,none⟩=some (.int .i64 0):=zC K_at (1)
  have c6:=zD K_at (0)
  have c7:=zD K_at (1)
  obtain ⟨V6,hV6⟩:∃ V,(V5.setCell ⟨V4.heap.size,0,none⟩ (.int .i64 y.f0)).setCell ⟨V4.heap.size,1,none⟩ (.int .i64 y.f1)=V:=⟨_,rfl⟩
  have hOV6:Only V4.heap.size V5 V6:=by rw [← hV6];exact (Only.set _ _ _).trans (Only.set _ _ _)
  replace K_at:V6.heap[V4.heap.size]?=some (.cells (#[.int .i64 y.f0,.int .i64 y.f1]) 24 (0,0)):=by rw [← hV6];exact (blk_set (blk_set K_at _ _) _ _)
  replace K_cpu:=hOV6.mid K_cpu (by omega) (B:=0)
  replace K_op:=hOV6.mid K_op (by omega) (B:=0)
  replace K_o:=hOV6.mid K_o (by omega) (B:=0)
  replace K_a:=hOV6.mid K_a (by omega) (B:=0)
  have szV6:V5.heap.size ≤ V6.heap.size:=hOV6.size
  replace HB:=HB.trans (hOV6.below (by omega) HB.size)
  clear hOV6
  have c8:V6.cell? ⟨V1.heap.size,1,none⟩=some (.int .i64 a):=zC K_op (1)
  obtain ⟨V7,hV7,KV7,hBV7⟩:=alz0 V6
  have ltV7:V6.heap.size < V7.heap.size:=zE KV7
  replace K_cpu:=zB K_cpu hBV7
  replace K_op:=zB K_op hBV7
  replace K_o:=zB K_o hBV7
  replace K_a:=zB K_a hBV7
  replace K_at:=zB K_at hBV7
  have K_ask:=KV7
  replace HB:=zA HB hBV7
  clear KV7 hBV7
  obtain ⟨V8,hSV8,KKV8,hOV8⟩:=st_whole (P:=Try.prog) (ty:=46) (vs:=(askC 1 0 a 0 0 0 0:Array Value).toList) K_ask (by first | rfl | (have:=rfl;simp [this]) | (simp;exact (rfl).symm)) (by rw [size46];first | rfl | (have:=rfl;simp [this]) | (simp;exact (rfl).symm)) (by simp [Value.oneCell'])
  simp only [Array.toArray_toList] at hSV8 KKV8
  replace K_ask:V8.heap[V6.heap.size]?=some (.cells (askC 1 0 a 0 0 0 0) 46 (0,0)):=KKV8
  replace K_cpu:=hOV8.mid K_cpu (by omega) (B:=0)
  replace K_op:=hOV8.mid K_op (by omega) (B:=0)
  replace K_o:=hOV8.mid K_o (by omega) (B:=0)
  replace K_a:=hOV8.mid K_a (by omega) (B:=0)
  replace K_at:=hOV8.mid K_at (by omega) (B:=0)
  have szV8:V7.heap.size ≤ V8.heap.size:=hOV8.size
  replace HB:=HB.trans (hOV8.below (by omega) HB.size)
  clear hOV8
  clear KKV8
  have c9:V8.cell? ⟨V1.heap.size,0,none⟩=some (.int .i64 9):=zC K_op (0)
  have c10:V8.cell? ⟨V1.heap.size,1,none⟩=some (.int .i64 a):=zC K_op (1)
  have c11:V8.cell? ⟨W.heap.size,2 + a * 2,none⟩=some (.int .i64 x.f0):=(zC K_cpu (2 + a * 2)).trans ra.1
  have c12:V8.cell? ⟨W.heap.size,2 + a * 2 + 1,none⟩=some (.int .i64 x.f1):=(zC K_cpu (2 + a * 2 + 1)).trans ra.2
  have c13:V8.cell? ⟨V4.heap.size,0,none⟩=some (.int .i64 y.f0):=zC K_at (0)
  have c14:V8.cell? ⟨V4.heap.size,1,none⟩=some (.int .i64 y.f1):=zC K_at (1)
  have c15:=zD K_at (0)
  have c16:=zD K_at (1)
  obtain ⟨V9,hV9⟩:∃ V,(V8.setCell ⟨V4.heap.size,0,none⟩ (.int .i64 x.f0)).setCell ⟨V4.heap.size,1,none⟩ (.int .i64 x.f1)=V:=⟨_,rfl⟩
  have hOV9:Only V4.heap.size V8 V9:=by rw [← hV9];exact (Only.set _ _ _).trans (Only.set _ _ _)
  replace K_at:V9.heap[V4.heap.size]?=some (.cells (#[.int .i64 x.f0,.int .i64 x.f1]) 24 (0,0)):=by rw [← hV9];exact (blk_set (blk_set K_at _ _) _ _)
  replace K_cpu:=hOV9.mid K_cpu (by omega) (B:=0)
  replace K_op:=hOV9.mid K_op (by omega) (B:=0)
  replace K_o:=hOV9.mid K_o (by omega) (B:=0)
  replace K_a:=hOV9.mid K_a (by omega) (B:=0)
  replace K_ask:=hOV9.mid K_ask (by omega) (B:=0)
  have szV9:V8.heap.size ≤ V9.heap.size:=hOV9.size
  replace HB:=HB.trans (hOV9.below (by omega) HB.size)
  clear hOV9
  have c17:V9.cell? ⟨V1.heap.size,2,none⟩=some (.int .i64 b):=zC K_op (2)
  have c18:V9.cell? ⟨W.heap.size,2 + b * 2,none⟩=some (.int .i64 y.f0):=(zC K_cpu (2 + b * 2)).trans rb.1
  have c19:V9.cell? ⟨W.heap.size,2 + b * 2 + 1,none⟩=some (.int .i64 y.f1):=(zC K_cpu (2 + b * 2 + 1)).trans rb.2
  obtain ⟨V10,hSV10,KKV10,hOV10⟩:=st_whole (P:=Try.prog) (ty:=46) (vs:=(askC 2 0 0 0 y.f0 y.f1 0:Array Value).toList) K_ask (by first | rfl | (have:=rfl;simp [this]) | (simp;exact (rfl).symm)) (by rw [size46];first | rfl | (have:=rfl;simp [this]) | (simp;exact (rfl).symm)) (by simp [Value.oneCell'])
  simp only [Array.toArray_toList] at hSV10 KKV10
  replace K_ask:V10.heap[V6.heap.size]?=some (.cells (askC 2 0 0 0 y.f0 y.f1 0) 46 (0,0)):=KKV10
  replace K_cpu:=hOV10.mid K_cpu (by omega) (B:=0)
  replace K_op:=hOV10.mid K_op (by omega) (B:=0)
  replace K_o:=hOV10.mid K_o (by omega) (B:=0)
  replace K_a:=hOV10.mid K_a (by omega) (B:=0)
  replace K_at:=hOV10.mid K_at (by omega) (B:=0)
  have szV10:V9.heap.size ≤ V10.heap.size:=hOV10.size
  replace HB:=HB.trans (hOV10.below (by omega) HB.size)
  clear hOV10
  clear KKV10
  have c20:V10.cell? ⟨V4.heap.size,0,none⟩=some (.int .i64 x.f0):=zC K_at (0)
  have c21:V10.cell? ⟨V4.heap.size,1,none⟩=some (.int .i64 x.f1):=zC K_at (1)
  have m0:(x.f0 != 2)=true:=by simpa using hk
  clear hk
  have hL22:=ld_whole (P:=Try.prog) (ty:=29) K_cpu Try.underlying29 rfl (by first | rfl | (rw [size29];rfl) | (rw [size29];have:=zG hl;simp [this]) | (rw [size29,zG hl]))
  have c23:V10.cell? ⟨W.heap.size,1,none⟩=some (.int .i64 used):=zC K_cpu (1)
  have HR:=Lib.hid (rover_calls pc used (wrap64 (used + 1)) 4 rs stk V10 hl h1)
  have HX1:=Lib.hid (zL K_cpu (zL K_op (zL K_o (zL K_a (zL K_at (zL K_ask (HB)))))))
  clear HB K_ask K_at K_a K_o K_op K_cpu
  go_enter Try.func38,Try.ntmps38
  go_wp2_with (first | refine wpList_st rfl rfl hSV8 ?_ | refine wpList_st rfl rfl hSV10 ?_ | refine wpList_ld rfl rfl hL22 ?_)
  refine HR.out.mono ?_
  rintro e w9 ⟨rfl,hB9⟩
  obtain ⟨K_cpu,K_op,K_o,K_a,K_at,K_ask,HB⟩:=HX1.out
  clear HX1
  replace K_cpu:=zB K_cpu hB9
  replace K_op:=zB K_op hB9
  replace K_o:=zB K_o hB9
  replace K_a:=zB K_a hB9
  replace K_at:=zB K_at hB9
  replace K_ask:=zB K_ask hB9
  have szw9:V10.heap.size ≤ w9.heap.size:=hB9.size
  replace HB:=zA HB hB9
  obtain ⟨V11,hSV11,KKV11,hOV11⟩:=st_whole (P:=Try.prog) (ty:=29) (vs:=(cpuC pc (wrap64 (used + 1)) rs stk:Array Value).toList) K_o (by first | rfl | (have:=zG (pc:=pc) (used:=(wrap64 (used + 1))) (stk:=stk) hl;simp [this]) | (simp;exact (zG (pc:=pc) (used:=(wrap64 (used + 1))) (stk:=stk) hl).symm)) (by rw [size29];first | rfl | (have:=zG (pc:=pc) (used:=(wrap64 (used + 1))) (stk:=stk) hl;simp [this]) | (simp;exact (zG (pc:=pc) (used:=(wrap64 (used + 1))) (stk:=stk) hl).symm)) (cpuC_one1 _ _ _ h1)
  simp only [Array.toArray_toList] at hSV11 KKV11
  replace K_o:V11.heap[V2.heap.size]?=some (.cells (cpuC pc (wrap64 (used + 1)) rs stk) 29 (0,0)):=KKV11
  replace K_cpu:=hOV11.mid K_cpu (by omega) (B:=0)
  replace K_op:=hOV11.mid K_op (by omega) (B:=0)
  replace K_a:=hOV11.mid K_a (by omega) (B:=0)
  replace K_at:=hOV11.mid K_at (by omega) (B:=0)
  replace K_ask:=hOV11.mid K_ask (by omega) (B:=0)
  have szV11:w9.heap.size ≤ V11.heap.size:=hOV11.size
  replace HB:=HB.trans (hOV11.below (by omega) HB.size)
  clear hOV11
  clear KKV11
  obtain ⟨V12,hSV12,KKV12,hOV12⟩:=st_whole (P:=Try.prog) (ty:=46) (vs:=(askC 5 0 0 0 0 0 4:Array Value).toList) K_a (by first | rfl | (have:=rfl;simp [this]) | (simp;exact (rfl).symm)) (by rw [size46];first | rfl | (have:=rfl;simp [this]) | (simp;exact (rfl).symm)) (by simp [Value.oneCell'])
  simp only [Array.toArray_toList] at hSV12 KKV12
  replace K_a:V12.heap[V3.heap.size]?=some (.cells (askC 5 0 0 0 0 0 4) 46 (0,0)):=KKV12
  replace K_cpu:=hOV12.mid K_cpu (by omega) (B:=0)
  replace K_op:=hOV12.mid K_op (by omega) (B:=0)
  replace K_o:=hOV12.mid K_o (by omega) (B:=0)
  replace K_at:=hOV12.mid K_at (by omega) (B:=0)
  replace K_ask:=hOV12.mid K_ask (by omega) (B:=0)
  have szV12:V11.heap.size ≤ V12.heap.size:=hOV12.size
  replace HB:=HB.trans (hOV12.below (by omega) HB.size)
  clear hOV12
  clear KKV12
  have HX2:=Lib.hid (zL K_cpu (zL K_op (zL K_o (zL K_a (zL K_at (zL K_ask (HB)))))))
  clear HB K_ask K_at K_a K_o K_op K_cpu
  go_wp2_with (first | refine wpList_st rfl rfl hSV11 ?_ | refine wpList_st rfl rfl hSV12 ?_)
  obtain ⟨K_cpu,K_op,K_o,K_a,K_at,K_ask,HB⟩:=HX2.out
  exact bodyPost_ret (results_cc rfl _ rfl K_o hu29 rfl (by rw [size29,zG (pc:=pc) (used:=(wrap64 (used + 1))) (stk:=stk) hl]) rfl K_a hu46 rfl (by rw [size46];rfl)) rfl ⟨rfl,HB⟩
set_option maxRecDepth 100000 in
set_option maxHeartbeats 2000000 in
theorem rmem9_1 (pc used : Int) (rs : List S32) (stk : Value) (o : S97) (W : World) (hl : rs.length = 8) (h1 : stk.oneCell' = true) (ha0 : 0 ≤ o.f1) (ha1 : o.f1 < 8) (hb0 : 0 ≤ o.f2) (hb1 : o.f2 < 8) (vars : Int) (h8 : o.f0 = 9)(hk : (regA rs o.f1).f0 = 2) (hn : (regA rs o.f1).f1 < 0) :
    Calls Try.prog 38 #[.agg (cpuC pc used rs stk),.agg #[.int .i64 o.f0,.int .i64 o.f1,.int .i64 o.f2,.int .i64 o.f3,.int .i64 o.f4],.int .i64 vars] W fun x w' => x=.returned (.tuple #[.agg (cpuC pc (wrap64 (used + 1)) rs stk),.agg (askC 5 0 0 0 0 0 4)])∧Below W.heap.size W w':=by
  have hu29:=Try.underlying29
  have hu46:=Try.underlying46
  have hu26:=Try.underlying26
  have hu24:=Try.underlying24
  have hu97:=Try.underlying97
  obtain ⟨a,ha⟩:∃ a:Nat,o.f1=a:=⟨o.f1.toNat,by omega⟩
  have a8:a < 8:=by omega
  have xa:rs[a]?=some (regA rs o.f1):=by rw [ha];unfold regA;simp [hl,a8]
  have ra:=cpuC_reg (pc:=pc) (used:=used) (stk:=stk) xa
  obtain ⟨b,hb⟩:∃ b:Nat,o.f2=b:=⟨o.f2.toNat,by omega⟩
  have b8:b < 8:=by omega
  have xb:rs[b]?=some (regA rs o.f2):=by rw [hb];unfold regA;simp [hl,b8]
  have rb:=cpuC_reg (pc:=pc) (used:=used) (stk:=stk) xb
  generalize hxa:regA rs o.f1=x at *
  generalize hyb:regA rs o.f2=y at *
  obtain ⟨V1,hV1,KV1,hBV1⟩:=alz W (cpuC pc used rs stk) 29
  have ltV1:W.heap.size < V1.heap.size:=zE KV1
  have K_cpu:=KV1
  have HB:=hBV1
  clear KV1 hBV1
  obtain ⟨V2,hV2,KV2,hBV2⟩:=alz V1 #[.int .i64 o.f0,.int .i64 o.f1,.int .i64 o.f2,.int .i64 o.f3,.int .i64 o.f4] 97
  have ltV2:V1.heap.size < V2.heap.size:=zE KV2
  replace K_cpu:=zB K_cpu hBV2
  have K_op:=KV2
  replace HB:=zA HB hBV2
  clear KV2 hBV2
  obtain ⟨V3,hV3,KV3,hBV3⟩:=alz1 V2
  have ltV3:V2.heap.size < V3.heap.size:=zE KV3
  replace K_cpu:=zB K_cpu hBV3
  replace K_op:=zB K_op hBV3
  have K_o:=KV3
  replace HB:=zA HB hBV3
  clear KV3 hBV3
  obtain ⟨V4,hV4,KV4,hBV4⟩:=alz0 V3
  have ltV4:V3.heap.size < V4.heap.size:=zE KV4
  replace K_cpu:=zB K_cpu hBV4
  replace K_op:=zB K_op hBV4
  replace K_o:=zB K_o hBV4
  have K_a:=KV4
  replace HB:=zA HB hBV4
  clear KV4 hBV4
  rw [ha,hb,h8] at K_op hV2
  have c1:V4.cell? ⟨V1.heap.size,2,none⟩=some (.int .i64 b):=zC K_op (2)
  have c2:V4.cell? ⟨W.heap.size,2 + b * 2,none⟩=some (.int .i64 y.f0):=(zC K_cpu (2 + b * 2)).trans rb.1
  have c3:V4.cell? ⟨W.heap.size,2 + b * 2 + 1,none⟩=some (.int .i64 y.f1):=(zC K_cpu (2 + b * 2 + 1)).trans rb.2
  obtain ⟨V5,hV5,KV5,hBV5⟩:=alz3 V4
  have ltV5:V4.heap.size < V5.heap.size:=zE KV5
  replace K_cpu:=zB K_cpu hBV5
  replace K_op:=zB K_op hBV5
  replace K_o:=zB K_o hBV5
  replace K_a:=zB K_a hBV5
  have K_at:=KV5
  replace HB:=zA HB hBV5
  clear KV5 hBV5
  have c4:V5.cell? ⟨V4.heap.size,0,none⟩=some (.int .i64 0):=zC K_at (0)
  have c5:V5.cell? ⟨V4.heap.size,1,none⟩=some (.int .i64 0):=zC K_at (1)
  have c6:=zD K_at (0)
  have c7:=zD K_at (1)
  obtain ⟨V6,hV6⟩:∃ V,(V5.setCell ⟨V4.heap.size,0,none⟩ (.int .i64 y.f0)).setCell ⟨V4.heap.size,1,none⟩ (.int .i64 y.f1)=V:=⟨_,rfl⟩
  have hOV6:Only V4.heap.size V5 V6:=by rw [← hV6];exact (Only.set _ _ _).trans (Only.set _ _ _)
  replace K_at:V6.heap[V4.heap.size]?=some (.cells (#[.int .i64 y.f0,.int .i64 y.f1]) 24 (0,0)):=by rw [← hV6];exact (blk_set (blk_set K_at _ _) _ _)
  replace K_cpu:=hOV6.mid K_cpu (by omega) (B:=0)
  replace K_op:=hOV6.mid K_op (by omega) (B:=0)
  replace K_o:=hOV6.mid K_o (by omega) (B:=0)
  replace K_a:=hOV6.mid K_a (by omega) (B:=0)
  have szV6:V5.heap.size ≤ V6.heap.size:=hOV6.size
  replace HB:=HB.trans (hOV6.below (by omega) HB.size)
  clear hOV6
  have c8:V6.cell? ⟨V1.heap.size,1,none⟩=some (.int .i64 a):=zC K_op (1)
  obtain ⟨V7,hV7,KV7,hBV7⟩:=alz0 V6
  have ltV7:V6.heap.size < V7.heap.size:=zE KV7
  replace K_cpu:=zB K_cpu hBV7
  replace K_op:=zB K_op hBV7
  replace K_o:=zB K_o hBV7
  replace K_a:=zB K_a hBV7
  replace K_at:=zB K_at hBV7
  have K_ask:=KV7
  replace HB:=zA HB hBV7
  clear KV7 hBV7
  obtain ⟨V8,hSV8,KKV8,hOV8⟩:=st_whole (P:=Try.prog) (ty:=46) (vs:=(askC 1 0 a 0 0 0 0:Array Value).toList) K_ask (by first | rfl | (have:=rfl;simp [this]) | (simp;exact (rfl).symm)) (by rw [size46];first | rfl | (have:=rfl;simp [this]) | (simp;exact (rfl).symm)) (by simp [Value.oneCell'])
  simp only [Array.toArray_toList] at hSV8 KKV8
  replace K_ask:V8.heap[V6.heap.size]?=some (.cells (askC 1 0 a 0 0 0 0) 46 (0,0)):=KKV8
  replace K_cpu:=hOV8.mid K_cpu (by omega) (B:=0)
  replace K_op:=hOV8.mid K_op (by omega) (B:=0)
  replace K_o:=hOV8.mid K_o (by omega) (B:=0)
  replace K_a:=hOV8.mid K_a (by omega) (B:=0)
  replace K_at:=hOV8.mid K_at (by omega) (B:=0)
  have szV8:V7.heap.size ≤ V8.heap.size:=hOV8.size
  replace HB:=HB.trans (hOV8.below (by omega) HB.size)
  clear hOV8
  clear KKV8
  have c9:V8.cell? ⟨V1.heap.size,0,none⟩=some (.int .i64 9):=zC K_op (0)
  have c10:V8.cell? ⟨V1.heap.size,1,none⟩=some (.int .i64 a):=zC K_op (1)
  have c11:V8.cell? ⟨W.heap.size,2 + a * 2,none⟩=some (.int .i64 x.f0):=(zC K_cpu (2 + a * 2)).trans ra.1
  have c12:V8.cell? ⟨W.heap.size,2 + a * 2 + 1,none⟩=some (.int .i64 x.f1):=(zC K_cpu (2 + a * 2 + 1)).trans ra.2
  have c13:V8.cell? ⟨V4.heap.size,0,none⟩=some (.int .i64 y.f0):=zC K_at (0)
  have c14:V8.cell? ⟨V4.heap.size,1,none⟩=some (.int .i64 y.f1):=zC K_at (1)
  have c15:=zD K_at (0)
  have c16:=zD K_at (1)
  obtain ⟨V9,hV9⟩:∃ V,(V8.setCell ⟨V4.heap.size,0,none⟩ (.int .i64 x.f0)).setCell ⟨V4.heap.size,1,none⟩ (.int .i64 x.f1)=V:=⟨_,rfl⟩
  have hOV9:Only V4.heap.size V8 V9:=by rw [← hV9];exact (Only.set _ _ _).trans (Only.set _ _ _)
  replace K_at:V9.heap[V4.heap.size]?=some (.cells (#[.int .i64 x.f0,.int .i64 x.f1]) 24 (0,0)):=by rw [← hV9];exact (blk_set (blk_set K_at _ _) _ _)
  replace K_cpu:=hOV9.mid K_cpu (by omega) (B:=0)
  replace K_op:=hOV9.mid K_op (by omega) (B:=0)
  replace K_o:=hOV9.mid K_o (by omega) (B:=0)
  replace K_a:=hOV9.mid K_a (by omega) (B:=0)
  replace K_ask:=hOV9.mid K_ask (by omega) (B:=0)
  have szV9:V8.heap.size ≤ V9.heap.size:=hOV9.size
  replace HB:=HB.trans (hOV9.below (by omega) HB.size)
  clear hOV9
  have c17:V9.cell? ⟨V1.heap.size,2,none⟩=some (.int .i64 b):=zC K_op (2)
  have c18:V9.cell? ⟨W.heap.size,2 + b * 2,none⟩=some (.int .i64 y.f0):=(zC K_cpu (2 + b * 2)).trans rb.1
  have c19:V9.cell? ⟨W.heap.size,2 + b * 2 + 1,none⟩=some (.int .i64 y.f1):=(zC K_cpu (2 + b * 2 + 1)).trans rb.2
  obtain ⟨V10,hSV10,KKV10,hOV10⟩:=st_whole (P:=Try.prog) (ty:=46) (vs:=(askC 2 0 0 0 y.f0 y.f1 0:Array Value).toList) K_ask (by first | rfl | (have:=rfl;simp [this]) | (simp;exact (rfl).symm)) (by rw [size46];first | rfl | (have:=rfl;simp [this]) | (simp;exact (rfl).symm)) (by simp [Value.oneCell'])
  simp only [Array.toArray_toList] at hSV10 KKV10
  replace K_ask:V10.heap[V6.heap.size]?=some (.cells (askC 2 0 0 0 y.f0 y.f1 0) 46 (0,0)):=KKV10
  replace K_cpu:=hOV10.mid K_cpu (by omega) (B:=0)
  replace K_op:=hOV10.mid K_op (by omega) (B:=0)
  replace K_o:=hOV10.mid K_o (by omega) (B:=0)
  replace K_a:=hOV10.mid K_a (by omega) (B:=0)
  replace K_at:=hOV10.mid K_at (by omega) (B:=0)
  have szV10:V9.heap.size ≤ V10.heap.size:=hOV10.size
  replace HB:=HB.trans (hOV10.below (by omega) HB.size)
  clear hOV10
  clear KKV10
  have c20:V10.cell? ⟨V4.heap.size,0,none⟩=some (.int .i64 x.f0):=zC K_at (0)
  have c21:V10.cell? ⟨V4.heap.size,1,none⟩=some (.int .i64 x.f1):=zC K_at (1)
  have m0:(x.f0 != 2)=false:=by simpa using hk
  clear hk
  have m1:x.f1 < 0:=hn
  have hL22:=ld_whole (P:=Try.prog) (ty:=29) K_cpu Try.underlying29 rfl (by first | rfl | (rw [size29];rfl) | (rw [size29];have:=zG hl;simp [this]) | (rw [size29,zG hl]))
  have c23:V10.cell? ⟨W.heap.size,1,none⟩=some (.int .i64 used):=zC K_cpu (1)
  have HR:=Lib.hid (rover_calls pc used (wrap64 (used + 1)) 4 rs stk V10 hl h1)
  have HX1:=Lib.hid (zL K_cpu (zL K_op (zL K_o (zL K_a (zL K_at (zL K_ask (HB)))))))
  clear HB K_ask K_at K_a K_o K_op K_cpu
  go_enter Try.func38,Try.ntmps38
  go_wp2_with (first | refine wpList_st rfl rfl hSV8 ?_ | refine wpList_st rfl rfl hSV10 ?_ | refine wpList_ld rfl rfl hL22 ?_)
  refine HR.out.mono ?_
  rintro e w9 ⟨rfl,hB9⟩
  obtain ⟨K_cpu,K_op,K_o,K_a,K_at,K_ask,HB⟩:=HX1.out
  clear HX1
  replace K_cpu:=zB K_cpu hB9
  replace K_op:=zB K_op hB9
  replace K_o:=zB K_o hB9
  replace K_a:=zB K_a hB9
  replace K_at:=zB K_at hB9
  replace K_ask:=zB K_ask hB9
  have szw9:V10.heap.size ≤ w9.heap.size:=hB9.size
  replace HB:=zA HB hB9
  obtain ⟨V11,hSV11,KKV11,hOV11⟩:=st_whole (P:=Try.prog) (ty:=29) (vs:=(cpuC pc (wrap64 (used + 1)) rs stk:Array Value).toList) K_o (by first | rfl | (have:=zG (pc:=pc) (used:=(wrap64 (used + 1))) (stk:=stk) hl;simp [this]) | (simp;exact (zG (pc:=pc) (used:=(wrap64 (used + 1))) (stk:=stk) hl).symm)) (by rw [size29];first | rfl | (have:=zG (pc:=pc) (used:=(wrap64 (used + 1))) (stk:=stk) hl;simp [this]) | (simp;exact (zG (pc:=pc) (used:=(wrap64 (used + 1))) (stk:=stk) hl).symm)) (cpuC_one1 _ _ _ h1)
  simp only [Array.toArray_toList] at hSV11 KKV11
  replace K_o:V11.heap[V2.heap.size]?=some (.cells (cpuC pc (wrap64 (used + 1)) rs stk) 29 (0,0)):=KKV11
  replace K_cpu:=hOV11.mid K_cpu (by omega) (B:=0)
  replace K_op:=hOV11.mid K_op (by omega) (B:=0)
  replace K_a:=hOV11.mid K_a (by omega) (B:=0)
  replace K_at:=hOV11.mid K_at (by omega) (B:=0)
  replace K_ask:=hOV11.mid K_ask (by omega) (B:=0)
  have szV11:w9.heap.size ≤ V11.heap.size:=hOV11.size
  replace HB:=HB.trans (hOV11.below (by omega) HB.size)
  clear hOV11
  clear KKV11
  obtain ⟨V12,hSV12,KKV12,hOV12⟩:=st_whole (P:=Try.prog) (ty:=46) (vs:=(askC 5 0 0 0 0 0 4:Array Value).toList) K_a (by first | rfl | (have:=rfl;simp [this]) | (simp;exact (rfl).symm)) (by rw [size46];first | rfl | (have:=rfl;simp [this]) | (simp;exact (rfl).symm)) (by simp [Value.oneCell'])
  simp only [Array.toArray_toList] at hSV12 KKV12
  replace K_a:V12.heap[V3.heap.size]?=some (.cells (askC 5 0 0 0 0 0 4) 46 (0,0)):=KKV12
  replace K_cpu:=hOV12.mid K_cpu (by omega) (B:=0)
  replace K_op:=hOV12.mid K_op (by omega) (B:=0)
  replace K_o:=hOV12.mid K_o (by omega) (B:=0)
  replace K_at:=hOV12.mid K_at (by omega) (B:=0)
  replace K_ask:=hOV12.mid K_ask (by omega) (B:=0)
  have szV12:V11.heap.size ≤ V12.heap.size:=hOV12.size
  replace HB:=HB.trans (hOV12.below (by omega) HB.size)
  clear hOV12
  clear KKV12
  have HX2:=Lib.hid (zL K_cpu (zL K_op (zL K_o (zL K_a (zL K_at (zL K_ask (HB)))))))
  clear HB K_ask K_at K_a K_o K_op K_cpu
  go_wp2_with (first | refine wpList_st rfl rfl hSV11 ?_ | refine wpList_st rfl rfl hSV12 ?_)
  obtain ⟨K_cpu,K_op,K_o,K_a,K_at,K_ask,HB⟩:=HX2.out
  exact bodyPost_ret (results_cc rfl _ rfl K_o hu29 rfl (by rw [size29,zG (pc:=pc) (used:=(wrap64 (used + 1))) (stk:=stk) hl]) rfl K_a hu46 rfl (by rw [size46];rfl)) rfl ⟨rfl,HB⟩
set_option maxRecDepth 100000 in
set_option maxHeartbeats 2000000 in
theorem rmem9_2 (pc used : Int) (rs : List S32) (stk : Value) (o : S97) (W : World) (hl : rs.length = 8) (h1 : stk.oneCell' = true) (ha0 : 0 ≤ o.f1) (ha1 : o.f1 < 8) (hb0 : 0 ≤ o.f2) (hb1 : o.f2 < 8) (vars : Int) (h8 : o.f0 = 9)(hk : (regA rs o.f1).f0 = 2) (hn : ¬ (regA rs o.f1).f1 < 0) (hv : vars ≤ (regA rs o.f1).f1) :
    Calls Try.prog 38 #[.agg (cpuC pc used rs stk),.agg #[.int .i64 o.f0,.int .i64 o.f1,.int .i64 o.f2,.int .i64 o.f3,.int .i64 o.f4],.int .i64 vars] W fun x w' => x=.returned (.tuple #[.agg (cpuC pc (wrap64 (used + 1)) rs stk),.agg (askC 5 0 0 0 0 0 4)])∧Below W.heap.size W w':=by
  have hu29:=Try.underlying29
  have hu46:=Try.underlying46
  have hu26:=Try.underlying26
  have hu24:=Try.underlying24
  have hu97:=Try.underlying97
  obtain ⟨a,ha⟩:∃ a:Nat,o.f1=a:=⟨o.f1.toNat,by omega⟩
  have a8:a < 8:=by omega
  have xa:rs[a]?=some (regA rs o.f1):=by rw [ha];unfold regA;simp [hl,a8]
  have ra:=cpuC_reg (pc:=pc) (used:=used) (stk:=stk) xa
  obtain ⟨b,hb⟩:∃ b:Nat,o.f2=b:=⟨o.f2.toNat,by omega⟩
  have b8:b < 8:=by omega
  have xb:rs[b]?=some (regA rs o.f2):=by rw [hb];unfold regA;simp [hl,b8]
  have rb:=cpuC_reg (pc:=pc) (used:=used) (stk:=stk) xb
  generalize hxa:regA rs o.f1=x at *
  generalize hyb:regA rs o.f2=y at *
  obtain ⟨V1,hV1,KV1,hBV1⟩:=alz W (cpuC pc used rs stk) 29
  have ltV1:W.heap.size < V1.heap.size:=zE KV1
  have K_cpu:=KV1
  have HB:=hBV1
  clear KV1 hBV1
  obtain ⟨V2,hV2,KV2,hBV2⟩:=alz V1 #[.int .i64 o.f0,.int .i64 o.f1,.int .i64 o.f2,.int .i64 o.f3,.int .i64 o.f4] 97
  have ltV2:V1.heap.size < V2.heap.size:=zE KV2
  replace K_cpu:=zB K_cpu hBV2
  have K_op:=KV2
  replace HB:=zA HB hBV2
  clear KV2 hBV2
  obtain ⟨V3,hV3,KV3,hBV3⟩:=alz1 V2
  have ltV3:V2.heap.size < V3.heap.size:=zE KV3
  replace K_cpu:=zB K_cpu hBV3
  replace K_op:=zB K_op hBV3
  have K_o:=KV3
  replace HB:=zA HB hBV3
  clear KV3 hBV3
  obtain ⟨V4,hV4,KV4,hBV4⟩:=alz0 V3
  have ltV4:V3.heap.size < V4.heap.size:=zE KV4
  replace K_cpu:=zB K_cpu hBV4
  replace K_op:=zB K_op hBV4
  replace K_o:=zB K_o hBV4
  have K_a:=KV4
  replace HB:=zA HB hBV4
  clear KV4 hBV4
  rw [ha,hb,h8] at K_op hV2
  have c1:V4.cell? ⟨V1.heap.size,2,none⟩=some (.int .i64 b):=zC K_op (2)
  have c2:V4.cell? ⟨W.heap.size,2 + b * 2,none⟩=some (.int .i64 y.f0):=(zC K_cpu (2 + b * 2)).trans rb.1
  have c3:V4.cell? ⟨W.heap.size,2 + b * 2 + 1,none⟩=some (.int .i64 y.f1):=(zC K_cpu (2 + b * 2 + 1)).trans rb.2
  obtain ⟨V5,hV5,KV5,hBV5⟩:=alz3 V4
  have ltV5:V4.heap.size < V5.heap.size:=zE KV5
  replace K_cpu:=zB K_cpu hBV5
  replace K_op:=zB K_op hBV5
  replace K_o:=zB K_o hBV5
  replace K_a:=zB K_a hBV5
  have K_at:=KV5
  replace HB:=zA HB hBV5
  clear KV5 hBV5
  have c4:V5.cell? ⟨V4.heap.size,0,none⟩=some (.int .i64 0):=zC K_at (0)
  have c5:V5.cell? ⟨V4.heap.size,1,none⟩=some (.int .i64 0):=zC K_at (1)
  have c6:=zD K_at (0)
  have c7:=zD K_at (1)
  obtain ⟨V6,hV6⟩:∃ V,(V5.setCell ⟨V4.heap.size,0,none⟩ (.int .i64 y.f0)).setCell ⟨V4.heap.size,1,none⟩ (.int .i64 y.f1)=V:=⟨_,rfl⟩
  have hOV6:Only V4.heap.size V5 V6:=by rw [← hV6];exact (Only.set _ _ _).trans (Only.set _ _ _)
  replace K_at:V6.heap[V4.heap.size]?=some (.cells (#[.int .i64 y.f0,.int .i64 y.f1]) 24 (0,0)):=by rw [← hV6];exact (blk_set (blk_set K_at _ _) _ _)
  replace K_cpu:=hOV6.mid K_cpu (by omega) (B:=0)
  replace K_op:=hOV6.mid K_op (by omega) (B:=0)
  replace K_o:=hOV6.mid K_o (by omega) (B:=0)
  replace K_a:=hOV6.mid K_a (by omega) (B:=0)
  have szV6:V5.heap.size ≤ V6.heap.size:=hOV6.size
  replace HB:=HB.trans (hOV6.below (by omega) HB.size)
  clear hOV6
  have c8:V6.cell? ⟨V1.heap.size,1,none⟩=some (.int .i64 a):=zC K_op (1)
  obtain ⟨V7,hV7,KV7,hBV7⟩:=alz0 V6
  have ltV7:V6.heap.size < V7.heap.size:=zE KV7
  replace K_cpu:=zB K_cpu hBV7
  replace K_op:=zB K_op hBV7
  replace K_o:=zB K_o hBV7
  replace K_a:=zB K_a hBV7
  replace K_at:=zB K_at hBV7
  have K_ask:=KV7
  replace HB:=zA HB hBV7
  clear KV7 hBV7
  obtain ⟨V8,hSV8,KKV8,hOV8⟩:=st_whole (P:=Try.prog) (ty:=46) (vs:=(askC 1 0 a 0 0 0 0:Array Value).toList) K_ask (by first | rfl | (have:=rfl;simp [this]) | (simp;exact (rfl).symm)) (by rw [size46];first | rfl | (have:=rfl;simp [this]) | (simp;exact (rfl).symm)) (by simp [Value.oneCell'])
  simp only [Array.toArray_toList] at hSV8 KKV8
  replace K_ask:V8.heap[V6.heap.size]?=some (.cells (askC 1 0 a 0 0 0 0) 46 (0,0)):=KKV8
  replace K_cpu:=hOV8.mid K_cpu (by omega) (B:=0)
  replace K_op:=hOV8.mid K_op (by omega) (B:=0)
  replace K_o:=hOV8.mid K_o (by omega) (B:=0)
  replace K_a:=hOV8.mid K_a (by omega) (B:=0)
  replace K_at:=hOV8.mid K_at (by omega) (B:=0)
  have szV8:V7.heap.size ≤ V8.heap.size:=hOV8.size
  replace HB:=HB.trans (hOV8.below (by omega) HB.size)
  clear hOV8
  clear KKV8
  have c9:V8.cell? ⟨V1.heap.size,0,none⟩=some (.int .i64 9):=zC K_op (0)
  have c10:V8.cell? ⟨V1.heap.size,1,none⟩=some (.int .i64 a):=zC K_op (1)
  have c11:V8.cell? ⟨W.heap.size,2 + a * 2,none⟩=some (.int .i64 x.f0):=(zC K_cpu (2 + a * 2)).trans ra.1
  have c12:V8.cell? ⟨W.heap.size,2 + a * 2 + 1,none⟩=some (.int .i64 x.f1):=(zC K_cpu (2 + a * 2 + 1)).trans ra.2
  have c13:V8.cell? ⟨V4.heap.size,0,none⟩=some (.int .i64 y.f0):=zC K_at (0)
  have c14:V8.cell? ⟨V4.heap.size,1,none⟩=some (.int .i64 y.f1):=zC K_at (1)
  have c15:=zD K_at (0)
  have c16:=zD K_at (1)
  obtain ⟨V9,hV9⟩:∃ V,(V8.setCell ⟨V4.heap.size,0,none⟩ (.int .i64 x.f0)).setCell ⟨V4.heap.size,1,none⟩ (.int .i64 x.f1)=V:=⟨_,rfl⟩
  have hOV9:Only V4.heap.size V8 V9:=by rw [← hV9];exact (Only.set _ _ _).trans (Only.set _ _ _)
  replace K_at:V9.heap[V4.heap.size]?=some (.cells (#[.int .i64 x.f0,.int .i64 x.f1]) 24 (0,0)):=by rw [← hV9];exact (blk_set (blk_set K_at _ _) _ _)
  replace K_cpu:=hOV9.mid K_cpu (by omega) (B:=0)
  replace K_op:=hOV9.mid K_op (by omega) (B:=0)
  replace K_o:=hOV9.mid K_o (by omega) (B:=0)
  replace K_a:=hOV9.mid K_a (by omega) (B:=0)
  replace K_ask:=hOV9.mid K_ask (by omega) (B:=0)
  have szV9:V8.heap.size ≤ V9.heap.size:=hOV9.size
  replace HB:=HB.trans (hOV9.below (by omega) HB.size)
  clear hOV9
  have c17:V9.cell? ⟨V1.heap.size,2,none⟩=some (.int .i64 b):=zC K_op (2)
  have c18:V9.cell? ⟨W.heap.size,2 + b * 2,none⟩=some (.int .i64 y.f0):=(zC K_cpu (2 + b * 2)).trans rb.1
  have c19:V9.cell? ⟨W.heap.size,2 + b * 2 + 1,none⟩=some (.int .i64 y.f1):=(zC K_cpu (2 + b * 2 + 1)).trans rb.2
  obtain ⟨V10,hSV10,KKV10,hOV10⟩:=st_whole (P:=Try.prog) (ty:=46) (vs:=(askC 2 0 0 0 y.f0 y.f1 0:Array Value).toList) K_ask (by first | rfl | (have:=rfl;simp [this]) | (simp;exact (rfl).symm)) (by rw [size46];first | rfl | (have:=rfl;simp [this]) | (simp;exact (rfl).symm)) (by simp [Value.oneCell'])
  simp only [Array.toArray_toList] at hSV10 KKV10
  replace K_ask:V10.heap[V6.heap.size]?=some (.cells (askC 2 0 0 0 y.f0 y.f1 0) 46 (0,0)):=KKV10
  replace K_cpu:=hOV10.mid K_cpu (by omega) (B:=0)
  replace K_op:=hOV10.mid K_op (by omega) (B:=0)
  replace K_o:=hOV10.mid K_o (by omega) (B:=0)
  replace K_a:=hOV10.mid K_a (by omega) (B:=0)
  replace K_at:=hOV10.mid K_at (by omega) (B:=0)
  have szV10:V9.heap.size ≤ V10.heap.size:=hOV10.size
  replace HB:=HB.trans (hOV10.below (by omega) HB.size)
  clear hOV10
  clear KKV10
  have c20:V10.cell? ⟨V4.heap.size,0,none⟩=some (.int .i64 x.f0):=zC K_at (0)
  have c21:V10.cell? ⟨V4.heap.size,1,none⟩=some (.int .i64 x.f1):=zC K_at (1)
  have m0:(x.f0 != 2)=false:=by simpa using hk
  clear hk
  have m1:¬ x.f1 < 0:=hn
  have m2:vars ≤ x.f1:=hv
  have hL22:=ld_whole (P:=Try.prog) (ty:=29) K_cpu Try.underlying29 rfl (by first | rfl | (rw [size29];rfl) | (rw [size29];have:=zG hl;simp [this]) | (rw [size29,zG hl]))
  have c23:V10.cell? ⟨W.heap.size,1,none⟩=some (.int .i64 used):=zC K_cpu (1)
  have HR:=Lib.hid (rover_calls pc used (wrap64 (used + 1)) 4 rs stk V10 hl h1)
  have HX1:=Lib.hid (zL K_cpu (zL K_op (zL K_o (zL K_a (zL K_at (zL K_ask (HB)))))))
  clear HB K_ask K_at K_a K_o K_op K_cpu
  go_enter Try.func38,Try.ntmps38
  go_wp2_with (first | refine wpList_st rfl rfl hSV8 ?_ | refine wpList_st rfl rfl hSV10 ?_ | refine wpList_ld rfl rfl hL22 ?_)
  refine HR.out.mono ?_
  rintro e w9 ⟨rfl,hB9⟩
  obtain ⟨K_cpu,K_op,K_o,K_a,K_at,K_ask,HB⟩:=HX1.out
  clear HX1
  replace K_cpu:=zB K_cpu hB9
  replace K_op:=zB K_op hB9
  replace K_o:=zB K_o hB9
  replace K_a:=zB K_a hB9
  replace K_at:=zB K_at hB9
  replace K_ask:=zB K_ask hB9
  have szw9:V10.heap.size ≤ w9.heap.size:=hB9.size
  replace HB:=zA HB hB9
  obtain ⟨V11,hSV11,KKV11,hOV11⟩:=st_whole (P:=Try.prog) (ty:=29) (vs:=(cpuC pc (wrap64 (used + 1)) rs stk:Array Value).toList) K_o (by first | rfl | (have:=zG (pc:=pc) (used:=(wrap64 (used + 1))) (stk:=stk) hl;simp [this]) | (simp;exact (zG (pc:=pc) (used:=(wrap64 (used + 1))) (stk:=stk) hl).symm)) (by rw [size29];first | rfl | (have:=zG (pc:=pc) (used:=(wrap64 (used + 1))) (stk:=stk) hl;simp [this]) | (simp;exact (zG (pc:=pc) (used:=(wrap64 (used + 1))) (stk:=stk) hl).symm)) (cpuC_one1 _ _ _ h1)
  simp only [Array.toArray_toList] at hSV11 KKV11
  replace K_o:V11.heap[V2.heap.size]?=some (.cells (cpuC pc (wrap64 (used + 1)) rs stk) 29 (0,0)):=KKV11
  replace K_cpu:=hOV11.mid K_cpu (by omega) (B:=0)
  replace K_op:=hOV11.mid K_op (by omega) (B:=0)
  replace K_a:=hOV11.mid K_a (by omega) (B:=0)
  replace K_at:=hOV11.mid K_at (by omega) (B:=0)
  replace K_ask:=hOV11.mid K_ask (by omega) (B:=0)
  have szV11:w9.heap.size ≤ V11.heap.size:=hOV11.size
  replace HB:=HB.trans (hOV11.below (by omega) HB.size)
  clear hOV11
  clear KKV11
  obtain ⟨V12,hSV12,KKV12,hOV12⟩:=st_whole (P:=Try.prog) (ty:=46) (vs:=(askC 5 0 0 0 0 0 4:Array Value).toList) K_a (by first | rfl | (have:=rfl;simp [this]) | (simp;exact (rfl).symm)) (by rw [size46];first | rfl | (have:=rfl;simp [this]) | (simp;exact (rfl).symm)) (by simp [Value.oneCell'])
  simp only [Array.toArray_toList] at hSV12 KKV12
  replace K_a:V12.heap[V3.heap.size]?=some (.cells (askC 5 0 0 0 0 0 4) 46 (0,0)):=KKV12
  replace K_cpu:=hOV12.mid K_cpu (by omega) (B:=0)
  replace K_op:=hOV12.mid K_op (by omega) (B:=0)
  replace K_o:=hOV12.mid K_o (by omega) (B:=0)
  replace K_at:=hOV12.mid K_at (by omega) (B:=0)
  replace K_ask:=hOV12.mid K_ask (by omega) (B:=0)
  have szV12:V11.heap.size ≤ V12.heap.size:=hOV12.size
  replace HB:=HB.trans (hOV12.below (by omega) HB.size)
  clear hOV12
  clear KKV12
  have HX2:=Lib.hid (zL K_cpu (zL K_op (zL K_o (zL K_a (zL K_at (zL K_ask (HB)))))))
  clear HB K_ask K_at K_a K_o K_op K_cpu
  go_wp2_with (first | refine wpList_st rfl rfl hSV11 ?_ | refine wpList_st rfl rfl hSV12 ?_)
  obtain ⟨K_cpu,K_op,K_o,K_a,K_at,K_ask,HB⟩:=HX2.out
  exact bodyPost_ret (results_cc rfl _ rfl K_o hu29 rfl (by rw [size29,zG (pc:=pc) (used:=(wrap64 (used + 1))) (stk:=stk) hl]) rfl K_a hu46 rfl (by rw [size46];rfl)) rfl ⟨rfl,HB⟩
set_option maxRecDepth 100000 in
set_option maxHeartbeats 2000000 in
theorem rmem9_3 (pc used : Int) (rs : List S32) (stk : Value) (o : S97) (W : World) (hl : rs.length = 8) (h1 : stk.oneCell' = true) (ha0 : 0 ≤ o.f1) (ha1 : o.f1 < 8) (hb0 : 0 ≤ o.f2) (hb1 : o.f2 < 8) (vars : Int) (h8 : o.f0 = 9)(hk : (regA rs o.f1).f0 = 2) (hn : ¬ (regA rs o.f1).f1 < 0) (hv : ¬ vars ≤ (regA rs o.f1).f1) :
    Calls Try.prog 38 #[.agg (cpuC pc used rs stk),.agg #[.int .i64 o.f0,.int .i64 o.f1,.int .i64 o.f2,.int .i64 o.f3,.int .i64 o.f4],.int .i64 vars] W fun x w' => x=.returned (.tuple #[.agg (cpuC (wrap64 (pc + 1)) (wrap64 (used + 1)) rs stk),.agg (askC 2 (regA rs o.f1).f1 0 0 (regA rs o.f2).f0 (regA rs o.f2).f1 0)])∧Below W.heap.size W w':=by
  have hu29:=Try.underlying29
  have hu46:=Try.underlying46
  have hu26:=Try.underlying26
  have hu24:=Try.underlying24
  have hu97:=Try.underlying97
  obtain ⟨a,ha⟩:∃ a:Nat,o.f1=a:=⟨o.f1.toNat,by omega⟩
  have a8:a < 8:=by omega
  have xa:rs[a]?=some (regA rs o.f1):=by rw [ha];unfold regA;simp [hl,a8]
  have ra:=cpuC_reg (pc:=pc) (used:=used) (stk:=stk) xa
  obtain ⟨b,hb⟩:∃ b:Nat,o.f2=b:=⟨o.f2.toNat,by omega⟩
  have b8:b < 8:=by omega
  have xb:rs[b]?=some (regA rs o.f2):=by rw [hb];unfold regA;simp [hl,b8]
  have rb:=cpuC_reg (pc:=pc) (used:=used) (stk:=stk) xb
  generalize hxa:regA rs o.f1=x at *
  generalize hyb:regA rs o.f2=y at *
  obtain ⟨V1,hV1,KV1,hBV1⟩:=alz W (cpuC pc used rs stk) 29
  have ltV1:W.heap.size < V1.heap.size:=zE KV1
  have K_cpu:=KV1
  have HB:=hBV1
  clear KV1 hBV1
  obtain ⟨V2,hV2,KV2,hBV2⟩:=alz V1 #[.int .i64 o.f0,.int .i64 o.f1,.int .i64 o.f2,.int .i64 o.f3,.int .i64 o.f4] 97
  have ltV2:V1.heap.size < V2.heap.size:=zE KV2
  replace K_cpu:=zB K_cpu hBV2
  have K_op:=KV2
  replace HB:=zA HB hBV2
  clear KV2 hBV2
  obtain ⟨V3,hV3,KV3,hBV3⟩:=alz1 V2
  have ltV3:V2.heap.size < V3.heap.size:=zE KV3
  replace K_cpu:=zB K_cpu hBV3
  replace K_op:=zB K_op hBV3
  have K_o:=KV3
  replace HB:=zA HB hBV3
  clear KV3 hBV3
  obtain ⟨V4,hV4,KV4,hBV4⟩:=alz0 V3
  have ltV4:V3.heap.size < V4.heap.size:=zE KV4
  replace K_cpu:=zB K_cpu hBV4
  replace K_op:=zB K_op hBV4
  replace K_o:=zB K_o hBV4
  have K_a:=KV4
  replace HB:=zA HB hBV4
  clear KV4 hBV4
  rw [ha,hb,h8] at K_op hV2
  have c1:V4.cell? ⟨V1.heap.size,2,none⟩=some (.int .i64 b):=zC K_op (2)
  have c2:V4.cell? ⟨W.heap.size,2 + b * 2,none⟩=some (.int .i64 y.f0):=(zC K_cpu (2 + b * 2)).trans rb.1
  have c3:V4.cell? ⟨W.heap.size,2 + b * 2 + 1,none⟩=some (.int .i64 y.f1):=(zC K_cpu (2 + b * 2 + 1)).trans rb.2
  obtain ⟨V5,hV5,KV5,hBV5⟩:=alz3 V4
  have ltV5:V4.heap.size < V5.heap.size:=zE KV5
  replace K_cpu:=zB K_cpu hBV5
  replace K_op:=zB K_op hBV5
  replace K_o:=zB K_o hBV5
  replace K_a:=zB K_a hBV5
  have K_at:=KV5
  replace HB:=zA HB hBV5
  clear KV5 hBV5
  have c4:V5.cell? ⟨V4.heap.size,0,none⟩=some (.int .i64 0):=zC K_at (0)
  have c5:V5.cell? ⟨V4.heap.size,1,none⟩=some (.int .i64 0):=zC K_at (1)
  have c6:=zD K_at (0)
  have c7:=zD K_at (1)
  obtain ⟨V6,hV6⟩:∃ V,(V5.setCell ⟨V4.heap.size,0,none⟩ (.int .i64 y.f0)).setCell ⟨V4.heap.size,1,none⟩ (.int .i64 y.f1)=V:=⟨_,rfl⟩
  have hOV6:Only V4.heap.size V5 V6:=by rw [← hV6];exact (Only.set _ _ _).trans (Only.set _ _ _)
  replace K_at:V6.heap[V4.heap.size]?=some (.cells (#[.int .i64 y.f0,.int .i64 y.f1]) 24 (0,0)):=by rw [← hV6];exact (blk_set (blk_set K_at _ _) _ _)
  replace K_cpu:=hOV6.mid K_cpu (by omega) (B:=0)
  replace K_op:=hOV6.mid K_op (by omega) (B:=0)
  replace K_o:=hOV6.mid K_o (by omega) (B:=0)
  replace K_a:=hOV6.mid K_a (by omega) (B:=0)
  have szV6:V5.heap.size ≤ V6.heap.size:=hOV6.size
  replace HB:=HB.trans (hOV6.below (by omega) HB.size)
  clear hOV6
  have c8:V6.cell? ⟨V1.heap.size,1,none⟩=some (.int .i64 a):=zC K_op (1)
  obtain ⟨V7,hV7,KV7,hBV7⟩:=alz0 V6
  have ltV7:V6.heap.size < V7.heap.size:=zE KV7
  replace K_cpu:=zB K_cpu hBV7
  replace K_op:=zB K_op hBV7
  replace K_o:=zB K_o hBV7
  replace K_a:=zB K_a hBV7
  replace K_at:=zB K_at hBV7
  have K_ask:=KV7
  replace HB:=zA HB hBV7
  clear KV7 hBV7
  obtain ⟨V8,hSV8,KKV8,hOV8⟩:=st_whole (P:=Try.prog) (ty:=46) (vs:=(askC 1 0 a 0 0 0 0:Array Value).toList) K_ask (by first | rfl | (have:=rfl;simp [this]) | (simp;exact (rfl).symm)) (by rw [size46];first | rfl | (have:=rfl;simp [this]) | (simp;exact (rfl).symm)) (by simp [Value.oneCell'])
  simp only [Array.toArray_toList] at hSV8 KKV8
  replace K_ask:V8.heap[V6.heap.size]?=some (.cells (askC 1 0 a 0 0 0 0) 46 (0,0)):=KKV8
  replace K_cpu:=hOV8.mid K_cpu (by omega) (B:=0)
  replace K_op:=hOV8.mid K_op (by omega) (B:=0)
  replace K_o:=hOV8.mid K_o (by omega) (B:=0)
  replace K_a:=hOV8.mid K_a (by omega) (B:=0)
  replace K_at:=hOV8.mid K_at (by omega) (B:=0)
  have szV8:V7.heap.size ≤ V8.heap.size:=hOV8.size
  replace HB:=HB.trans (hOV8.below (by omega) HB.size)
  clear hOV8
  clear KKV8
  have c9:V8.cell? ⟨V1.heap.size,0,none⟩=some (.int .i64 9):=zC K_op (0)
  have c10:V8.cell? ⟨V1.heap.size,1,none⟩=some (.int .i64 a):=zC K_op (1)
  have c11:V8.cell? ⟨W.heap.size,2 + a * 2,none⟩=some (.int .i64 x.f0):=(zC K_cpu (2 + a * 2)).trans ra.1
  have c12:V8.cell? ⟨W.heap.size,2 + a * 2 + 1,none⟩=some (.int .i64 x.f1):=(zC K_cpu (2 + a * 2 + 1)).trans ra.2
  have c13:V8.cell? ⟨V4.heap.size,0,none⟩=some (.int .i64 y.f0):=zC K_at (0)
  have c14:V8.cell? ⟨V4.heap.size,1,none⟩=some (.int .i64 y.f1):=zC K_at (1)
  have c15:=zD K_at (0)
  have c16:=zD K_at (1)
  obtain ⟨V9,hV9⟩:∃ V,(V8.setCell ⟨V4.heap.size,0,none⟩ (.int .i64 x.f0)).setCell ⟨V4.heap.size,1,none⟩ (.int .i64 x.f1)=V:=⟨_,rfl⟩
  have hOV9:Only V4.heap.size V8 V9:=by rw [← hV9];exact (Only.set _ _ _).trans (Only.set _ _ _)
  replace K_at:V9.heap[V4.heap.size]?=some (.cells (#[.int .i64 x.f0,.int .i64 x.f1]) 24 (0,0)):=by rw [← hV9];exact (blk_set (blk_set K_at _ _) _ _)
  replace K_cpu:=hOV9.mid K_cpu (by omega) (B:=0)
  replace K_op:=hOV9.mid K_op (by omega) (B:=0)
  replace K_o:=hOV9.mid K_o (by omega) (B:=0)
  replace K_a:=hOV9.mid K_a (by omega) (B:=0)
  replace K_ask:=hOV9.mid K_ask (by omega) (B:=0)
  have szV9:V8.heap.size ≤ V9.heap.size:=hOV9.size
  replace HB:=HB.trans (hOV9.below (by omega) HB.size)
  clear hOV9
  have c17:V9.cell? ⟨V1.heap.size,2,none⟩=some (.int .i64 b):=zC K_op (2)
  have c18:V9.cell? ⟨W.heap.size,2 + b * 2,none⟩=some (.int .i64 y.f0):=(zC K_cpu (2 + b * 2)).trans rb.1
  have c19:V9.cell? ⟨W.heap.size,2 + b * 2 + 1,none⟩=some (.int .i64 y.f1):=(zC K_cpu (2 + b * 2 + 1)).trans rb.2
  obtain ⟨V10,hSV10,KKV10,hOV10⟩:=st_whole (P:=Try.prog) (ty:=46) (vs:=(askC 2 0 0 0 y.f0 y.f1 0:Array Value).toList) K_ask (by first | rfl | (have:=rfl;simp [this]) | (simp;exact (rfl).symm)) (by rw [size46];first | rfl | (have:=rfl;simp [this]) | (simp;exact (rfl).symm)) (by simp [Value.oneCell'])
  simp only [Array.toArray_toList] at hSV10 KKV10
  replace K_ask:V10.heap[V6.heap.size]?=some (.cells (askC 2 0 0 0 y.f0 y.f1 0) 46 (0,0)):=KKV10
  replace K_cpu:=hOV10.mid K_cpu (by omega) (B:=0)
  replace K_op:=hOV10.mid K_op (by omega) (B:=0)
  replace K_o:=hOV10.mid K_o (by omega) (B:=0)
  replace K_a:=hOV10.mid K_a (by omega) (B:=0)
  replace K_at:=hOV10.mid K_at (by omega) (B:=0)
  have szV10:V9.heap.size ≤ V10.heap.size:=hOV10.size
  replace HB:=HB.trans (hOV10.below (by omega) HB.size)
  clear hOV10
  clear KKV10
  have c20:V10.cell? ⟨V4.heap.size,0,none⟩=some (.int .i64 x.f0):=zC K_at (0)
  have c21:V10.cell? ⟨V4.heap.size,1,none⟩=some (.int .i64 x.f1):=zC K_at (1)
  rw [ha]
  have m0:(x.f0 != 2)=false:=by simpa using hk
  clear hk
  have m1:¬ x.f1 < 0:=hn
  have m2:¬ vars ≤ x.f1:=hv
  have c22:V10.cell? ⟨V6.heap.size,1,none⟩=some (.int .i64 0):=zC K_ask (1)
  have c23:=zD K_ask (1)
  obtain ⟨V11,hV11⟩:∃ V,V10.setCell ⟨V6.heap.size,1,none⟩ (.int .i64 x.f1)=V:=⟨_,rfl⟩
  have hOV11:Only V6.heap.size V10 V11:=by rw [← hV11];exact Only.set _ _ _
  replace K_ask:V11.heap[V6.heap.size]?=some (.cells (askC 2 x.f1 0 0 y.f0 y.f1 0) 46 (0,0)):=by rw [← hV11];exact (blk_set K_ask _ _)
  replace K_cpu:=hOV11.mid K_cpu (by omega) (B:=0)
  replace K_op:=hOV11.mid K_op (by omega) (B:=0)
  replace K_o:=hOV11.mid K_o (by omega) (B:=0)
  replace K_a:=hOV11.mid K_a (by omega) (B:=0)
  replace K_at:=hOV11.mid K_at (by omega) (B:=0)
  have szV11:V10.heap.size ≤ V11.heap.size:=hOV11.size
  replace HB:=HB.trans (hOV11.below (by omega) HB.size)
  clear hOV11
  have c24:V11.cell? ⟨W.heap.size,0,none⟩=some (.int .i64 pc):=zC K_cpu (0)
  have c25:=zD K_cpu (0)
  obtain ⟨V12,hV12⟩:∃ V,V11.setCell ⟨W.heap.size,0,none⟩ (.int .i64 (wrap64 (pc + 1)))=V:=⟨_,rfl⟩
  have hOV12:Only W.heap.size V11 V12:=by rw [← hV12];exact Only.set _ _ _
  replace K_cpu:V12.heap[W.heap.size]?=some (.cells (cpuC (wrap64 (pc + 1)) used rs stk) 29 (0,0)):=by rw [← hV12];exact (blk_set K_cpu _ _)
  replace K_op:=hOV12.mid K_op (by omega) (B:=0)
  replace K_o:=hOV12.mid K_o (by omega) (B:=0)
  replace K_a:=hOV12.mid K_a (by omega) (B:=0)
  replace K_at:=hOV12.mid K_at (by omega) (B:=0)
  replace K_ask:=hOV12.mid K_ask (by omega) (B:=0)
  have szV12:V11.heap.size ≤ V12.heap.size:=hOV12.size
  replace HB:=HB.trans (hOV12.below (by omega) HB.size)
  clear hOV12
  have c26:V12.cell? ⟨W.heap.size,1,none⟩=some (.int .i64 used):=zC K_cpu (1)
  have c27:=zD K_cpu (1)
  obtain ⟨V13,hV13⟩:∃ V,V12.setCell ⟨W.heap.size,1,none⟩ (.int .i64 (wrap64 (used + 1)))=V:=⟨_,rfl⟩
  have hOV13:Only W.heap.size V12 V13:=by rw [← hV13];exact Only.set _ _ _
  replace K_cpu:V13.heap[W.heap.size]?=some (.cells (cpuC (wrap64 (pc + 1)) (wrap64 (used + 1)) rs stk) 29 (0,0)):=by rw [← hV13];exact (blk_set K_cpu _ _)
  replace K_op:=hOV13.mid K_op (by omega) (B:=0)
  replace K_o:=hOV13.mid K_o (by omega) (B:=0)
  replace K_a:=hOV13.mid K_a (by omega) (B:=0)
  replace K_at:=hOV13.mid K_at (by omega) (B:=0)
  replace K_ask:=hOV13.mid K_ask (by omega) (B:=0)
  have szV13:V12.heap.size ≤ V13.heap.size:=hOV13.size
  replace HB:=HB.trans (hOV13.below (by omega) HB.size)
  clear hOV13
  have HX1:=Lib.hid (zL K_cpu (zL K_op (zL K_o (zL K_a (zL K_at (zL K_ask (HB)))))))
  clear HB K_ask K_at K_a K_o K_op K_cpu
  go_enter Try.func38,Try.ntmps38
  go_wp2_with (first | refine wpList_st rfl rfl hSV8 ?_ | refine wpList_st rfl rfl hSV10 ?_)
  obtain ⟨K_cpu,K_op,K_o,K_a,K_at,K_ask,HB⟩:=HX1.out
  clear HX1
  have n3:V2.heap.size ≠ V3.heap.size:=by omega
  obtain ⟨L,hL⟩:∃ L,L=[(V2.heap.size,[Obj.cells #[.int .i64 0,.int .i64 0,.int .i64 0,.int .i64 0,.int .i64 0,.int .i64 0,.int .i64 0,.int .i64 0,.int .i64 0,.int .i64 0,.int .i64 0,.int .i64 0,.int .i64 0,.int .i64 0,.int .i64 0,.int .i64 0,.int .i64 0,.int .i64 0,.slice none 0 0] 29 (0,0),Obj.cells (cpuC (wrap64 (pc + 1)) (wrap64 (used + 1)) rs stk) 29 (0,0)]),(V3.heap.size,[Obj.cells #[.int .i64 0,.int .i64 0,.int .i64 0,.int .i64 0,.int .i64 0,.int .i64 0,.int .i64 0] 46 (0,0),Obj.cells (askC 2 x.f1 0 0 y.f0 y.f1 0) 46 (0,0)])]:=⟨_,rfl⟩
  have m1:(V2.heap.size,[Obj.cells #[.int .i64 0,.int .i64 0,.int .i64 0,.int .i64 0,.int .i64 0,.int .i64 0,.int .i64 0,.int .i64 0,.int .i64 0,.int .i64 0,.int .i64 0,.int .i64 0,.int .i64 0,.int .i64 0,.int .i64 0,.int .i64 0,.int .i64 0,.int .i64 0,.slice none 0 0] 29 (0,0),Obj.cells (cpuC (wrap64 (pc + 1)) (wrap64 (used + 1)) rs stk) 29 (0,0)]) ∈ L:=by subst hL;simp
  have m2:(V3.heap.size,[Obj.cells #[.int .i64 0,.int .i64 0,.int .i64 0,.int .i64 0,.int .i64 0,.int .i64 0,.int .i64 0] 46 (0,0),Obj.cells (askC 2 x.f1 0 0 y.f0 y.f1 0) 46 (0,0)]) ∈ L:=by subst hL;simp
  have u1:∀ p ∈ L,p.1=V2.heap.size → p=(V2.heap.size,[Obj.cells #[.int .i64 0,.int .i64 0,.int .i64 0,.int .i64 0,.int .i64 0,.int .i64 0,.int .i64 0,.int .i64 0,.int .i64 0,.int .i64 0,.int .i64 0,.int .i64 0,.int .i64 0,.int .i64 0,.int .i64 0,.int .i64 0,.int .i64 0,.int .i64 0,.slice none 0 0] 29 (0,0),Obj.cells (cpuC (wrap64 (pc + 1)) (wrap64 (used + 1)) rs stk) 29 (0,0)]):=by subst hL;simp;intro h;exact absurd h.symm n3
  have u2:∀ p ∈ L,p.1=V3.heap.size → p=(V3.heap.size,[Obj.cells #[.int .i64 0,.int .i64 0,.int .i64 0,.int .i64 0,.int .i64 0,.int .i64 0,.int .i64 0] 46 (0,0),Obj.cells (askC 2 x.f1 0 0 y.f0 y.f1 0) 46 (0,0)]):=by subst hL;simp;intro h;exact absurd h n3
  have o1:∀ W',Chain L V13 W' → At (V2.heap.size) [Obj.cells #[.int .i64 0,.int .i64 0,.int .i64 0,.int .i64 0,.int .i64 0,.int .i64 0,.int .i64 0,.int .i64 0,.int .i64 0,.int .i64 0,.int .i64 0,.int .i64 0,.int .i64 0,.int .i64 0,.int .i64 0,.int .i64 0,.int .i64 0,.int .i64 0,.slice none 0 0] 29 (0,0),Obj.cells (cpuC (wrap64 (pc + 1)) (wrap64 (used + 1)) rs stk) 29 (0,0)] 0 W':=fun W' hB => hB.on _ m1 0 ⟨0,_,Nat.le_refl _,rfl,K_o⟩
  have a1:∀ W',Chain L V13 W' → At (V3.heap.size) [Obj.cells #[.int .i64 0,.int .i64 0,.int .i64 0,.int .i64 0,.int .i64 0,.int .i64 0,.int .i64 0] 46 (0,0),Obj.cells (askC 2 x.f1 0 0 y.f0 y.f1 0) 46 (0,0)] 0 W':=fun W' hB => hB.on _ m2 0 ⟨0,_,Nat.le_refl _,rfl,K_a⟩
  have d1:∀ W',Chain L V13 W' → W'.heap[W.heap.size]?=some (.cells (cpuC (wrap64 (pc + 1)) (wrap64 (used + 1)) rs stk) 29 (0,0)):=fun W' hB => hB.mid K_cpu (by subst hL;simp;omega)
  have d2:∀ W',Chain L V13 W' → W'.heap[V6.heap.size]?=some (.cells (askC 2 x.f1 0 0 y.f0 y.f1 0) 46 (0,0)):=fun W' hB => hB.mid K_ask (by subst hL;simp;omega)
  apply GR.wp_region_grows (R:=Chain L) (by kernel_rfl) (by kernel_rfl)
  · intro c a d v w h;cases d <;> exact h
  apply GR.gw_val (by rfl)
  · (intro W' hB hD;exact exec_ld rfl (ld_whole (d1 W' hB) hu29 rfl (by rw [size29,zG (pc:=wrap64 (pc + 1)) (used:=wrap64 (used + 1)) (stk:=stk) hl])))
  simp only [Act.put,zI,zJ,zK]
  apply GR.gw_val (by rfl)
  · (intro W' hB hD;exact exec_ld rfl (ld_whole (d2 W' hB) hu46 rfl (by rw [size46];rfl)))
  simp only [Act.put,zI,zJ,zK]
  apply GR.gw_skp (stable_At m1 1) (by rfl) (by rfl)
  · intro W' hB hD
    obtain ⟨W'',e1,e2,e3⟩:=chain_whole (ty:=29) m1 u1 (o1 W' hB) (by rw [zG (pc:=wrap64 (pc + 1)) (used:=wrap64 (used + 1)) (stk:=stk) hl];rfl) (by rw [size29,zG (pc:=wrap64 (pc + 1)) (used:=wrap64 (used + 1)) (stk:=stk) hl]) (cpuC_one1 _ _ _ h1)
    exact ⟨W'',exec_st rfl e1,e2,e3⟩
  rintro v -
  apply GR.gw_skp (stable_At m2 1) (by rfl) (by rfl)
  · intro W' hB hD
    obtain ⟨W'',e1,e2,e3⟩:=chain_whole (ty:=46) m2 u2 (a1 W' hB) (by rfl) (by rw [size46];rfl) (by simp [Value.oneCell'])
    exact ⟨W'',exec_st rfl e1,e2,e3⟩
  rintro v' -
  apply GR.gw_nil
  intro Wa hW hF hP
  simp [List.forall_mem_append] at hF
  subst hL
  have hT:=Two.of_chain hW hF.1 hF.2
  have HE:=Lib.hid (zL hT.o (zL hT.a ((HB).trans (show Below W.heap.size _ Wa from ⟨hT.os,hT.tape,hT.output,hT.size,fun k hk => hT.block k (by omega) (by omega) (by omega)⟩))))
  clear hT hW hF hP o1 a1 m1 m2 u1 u2 d1 d2 K_cpu K_op K_o K_a K_at K_ask HB
  go_wp2_with fail
  exact bodyPost_ret (results_cc rfl _ rfl HE.out.1 hu29 rfl (by rw [size29,zG (pc:=wrap64 (pc + 1)) (used:=wrap64 (used + 1)) (stk:=stk) hl]) rfl HE.out.2.1 hu46 rfl (by rw [size46];rfl)) rfl ⟨rfl,HE.out.2.2⟩
set_option maxRecDepth 100000 in
set_option maxHeartbeats 2000000 in
theorem rjump10_0 (pc used : Int) (rs : List S32) (stk : Value) (o : S97) (W : World) (hl : rs.length = 8) (h1 : stk.oneCell' = true) (ha0 : 0 ≤ o.f1) (ha1 : o.f1 < 8) (h8 : o.f0 = 10)  :
    Calls Try.prog 39 #[.agg (cpuC pc used rs stk),.agg #[.int .i64 o.f0,.int .i64 o.f1,.int .i64 o.f2,.int .i64 o.f3,.int .i64 o.f4]] W fun x w' => x=.returned (.tuple #[.agg (cpuC o.f3 (wrap64 (used + 1)) rs stk),.agg (askC 0 0 0 0 0 0 0)])∧Below W.heap.size W w':=by
  have hu29:=Try.underlying29
  have hu46:=Try.underlying46
  have hu26:=Try.underlying26
  have hu24:=Try.underlying24
  have hu97:=Try.underlying97
  obtain ⟨a,ha⟩:∃ a:Nat,o.f1=a:=⟨o.f1.toNat,by omega⟩
  have a8:a < 8:=by omega
  have xa:rs[a]?=some (regA rs o.f1):=by rw [ha];unfold regA;simp [hl,a8]
  have ra:=cpuC_reg (pc:=pc) (used:=used) (stk:=stk) xa
  generalize hxa:regA rs o.f1=x at *
  obtain ⟨V1,hV1,KV1,hBV1⟩:=alz W (cpuC pc used rs stk) 29
  have ltV1:W.heap.size < V1.heap.size:=zE KV1
  have K_cpu:=KV1
  have HB:=hBV1
  clear KV1 hBV1
  obtain ⟨V2,hV2,KV2,hBV2⟩:=alz V1 #[.int .i64 o.f0,.int .i64 o.f1,.int .i64 o.f2,.int .i64 o.f3,.int .i64 o.f4] 97
  have ltV2:V1.heap.size < V2.heap.size:=zE KV2
  replace K_cpu:=zB K_cpu hBV2
  have K_op:=KV2
  replace HB:=zA HB hBV2
  clear KV2 hBV2
  obtain ⟨V3,hV3,KV3,hBV3⟩:=alz1 V2
  have ltV3:V2.heap.size < V3.heap.size:=zE KV3
  replace K_cpu:=zB K_cpu hBV3
  replace K_op:=zB K_op hBV3
  have K_o:=KV3
  replace HB:=zA HB hBV3
  clear KV3 hBV3
  obtain ⟨V4,hV4,KV4,hBV4⟩:=alz0 V3
  have ltV4:V3.heap.size < V4.heap.size:=zE KV4
  replace K_cpu:=zB K_cpu hBV4
  replace K_op:=zB K_op hBV4
  replace K_o:=zB K_o hBV4
  have K_a:=KV4
  replace HB:=zA HB hBV4
  clear KV4 hBV4
  rw [ha,h8] at K_op hV2
  have c1:V4.cell? ⟨V1.heap.size,1,none⟩=some (.int .i64 a):=zC K_op (1)
  have c2:V4.cell? ⟨W.heap.size,2 + a * 2,none⟩=some (.int .i64 x.f0):=(zC K_cpu (2 + a * 2)).trans ra.1
  have c3:V4.cell? ⟨W.heap.size,2 + a * 2 + 1,none⟩=some (.int .i64 x.f1):=(zC K_cpu (2 + a * 2 + 1)).trans ra.2
  obtain ⟨V5,hV5,KV5,hBV5⟩:=alz3 V4
  have ltV5:V4.heap.size < V5.heap.size:=zE KV5
  replace K_cpu:=zB K_cpu hBV5
  replace K_op:=zB K_op hBV5
  replace K_o:=zB K_o hBV5
  replace K_a:=zB K_a hBV5
  have K_at:=KV5
  replace HB:=zA HB hBV5
  clear KV5 hBV5
  have c4:V5.cell? ⟨V4.heap.size,0,none⟩=some (.int .i64 0):=zC K_at (0)
  have c5:V5.cell? ⟨V4.heap.size,1,none⟩=some (.int .i64 0):=zC K_at (1)
  have c6:=zD K_at (0)
  have c7:=zD K_at (1)
  obtain ⟨V6,hV6⟩:∃ V,(V5.setCell ⟨V4.heap.size,0,none⟩ (.int .i64 x.f0)).setCell ⟨V4.heap.size,1,none⟩ (.int .i64 x.f1)=V:=⟨_,rfl⟩
  have hOV6:Only V4.heap.size V5 V6:=by rw [← hV6];exact (Only.set _ _ _).trans (Only.set _ _ _)
  replace K_at:V6.heap[V4.heap.size]?=some (.cells (#[.int .i64 x.f0,.int .i64 x.f1]) 24 (0,0)):=by rw [← hV6];exact (blk_set (blk_set K_at _ _) _ _)
  replace K_cpu:=hOV6.mid K_cpu (by omega) (B:=0)
  replace K_op:=hOV6.mid K_op (by omega) (B:=0)
  replace K_o:=hOV6.mid K_o (by omega) (B:=0)
  replace K_a:=hOV6.mid K_a (by omega) (B:=0)
  have szV6:V5.heap.size ≤ V6.heap.size:=hOV6.size
  replace HB:=HB.trans (hOV6.below (by omega) HB.size)
  clear hOV6
  have c8:V6.cell? ⟨V1.heap.size,0,none⟩=some (.int .i64 10):=zC K_op (0)
  have c9:V6.cell? ⟨V4.heap.size,0,none⟩=some (.int .i64 x.f0):=zC K_at (0)
  have c10:V6.cell? ⟨W.heap.size,0,none⟩=some (.int .i64 pc):=zC K_cpu (0)
  have c11:=zD K_cpu (0)
  obtain ⟨V7,hV7⟩:∃ V,V6.setCell ⟨W.heap.size,0,none⟩ (.int .i64 (wrap64 (pc + 1)))=V:=⟨_,rfl⟩
  have hOV7:Only W.heap.size V6 V7:=by rw [← hV7];exact Only.set _ _ _
  replace K_cpu:V7.heap[W.heap.size]?=some (.cells (cpuC (wrap64 (pc + 1)) used rs stk) 29 (0,0)):=by rw [← hV7];exact (blk_set K_cpu _ _)
  replace K_op:=hOV7.mid K_op (by omega) (B:=0)
  replace K_o:=hOV7.mid K_o (by omega) (B:=0)
  replace K_a:=hOV7.mid K_a (by omega) (B:=0)
  replace K_at:=hOV7.mid K_at (by omega) (B:=0)
  have szV7:V6.heap.size ≤ V7.heap.size:=hOV7.size
  replace HB:=HB.trans (hOV7.below (by omega) HB.size)
  clear hOV7
  have c12:V7.cell? ⟨W.heap.size,1,none⟩=some (.int .i64 used):=zC K_cpu (1)
  have c13:=zD K_cpu (1)
  obtain ⟨V8,hV8⟩:∃ V,V7.setCell ⟨W.heap.size,1,none⟩ (.int .i64 (wrap64 (used + 1)))=V:=⟨_,rfl⟩
  have hOV8:Only W.heap.size V7 V8:=by rw [← hV8];exact Only.set _ _ _
  replace K_cpu:V8.heap[W.heap.size]?=some (.cells (cpuC (wrap64 (pc + 1)) (wrap64 (used + 1)) rs stk) 29 (0,0)):=by rw [← hV8];exact (blk_set K_cpu _ _)
  replace K_op:=hOV8.mid K_op (by omega) (B:=0)
  replace K_o:=hOV8.mid K_o (by omega) (B:=0)
  replace K_a:=hOV8.mid K_a (by omega) (B:=0)
  replace K_at:=hOV8.mid K_at (by omega) (B:=0)
  have szV8:V7.heap.size ≤ V8.heap.size:=hOV8.size
  replace HB:=HB.trans (hOV8.below (by omega) HB.size)
  clear hOV8
  have c14:V8.cell? ⟨V1.heap.size,0,none⟩=some (.int .i64 10):=zC K_op (0)
  have c15:V8.cell? ⟨V4.heap.size,1,none⟩=some (.int .i64 x.f1):=zC K_at (1)
  have c16:V8.cell? ⟨V1.heap.size,3,none⟩=some (.int .i64 o.f3):=zC K_op (3)
  have c17:V8.cell? ⟨W.heap.size,0,none⟩=some (.int .i64 (wrap64 (pc + 1))):=zC K_cpu (0)
  have c18:=zD K_cpu (0)
  obtain ⟨V9,hV9⟩:∃ V,V8.setCell ⟨W.heap.size,0,none⟩ (.int .i64 o.f3)=V:=⟨_,rfl⟩
  have hOV9:Only W.heap.size V8 V9:=by rw [← hV9];exact Only.set _ _ _
  replace K_cpu:V9.heap[W.heap.size]?=some (.cells (cpuC o.f3 (wrap64 (used + 1)) rs stk) 29 (0,0)):=by rw [← hV9];exact (blk_set K_cpu _ _)
  replace K_op:=hOV9.mid K_op (by omega) (B:=0)
  replace K_o:=hOV9.mid K_o (by omega) (B:=0)
  replace K_a:=hOV9.mid K_a (by omega) (B:=0)
  replace K_at:=hOV9.mid K_at (by omega) (B:=0)
  have szV9:V8.heap.size ≤ V9.heap.size:=hOV9.size
  replace HB:=HB.trans (hOV9.below (by omega) HB.size)
  clear hOV9
  have hL19:=ld_whole (P:=Try.prog) (ty:=29) K_cpu Try.underlying29 rfl (by first | rfl | (rw [size29];rfl) | (rw [size29];have:=zG hl;simp [this]) | (rw [size29,zG hl]))
  obtain ⟨V10,hSV10,KKV10,hOV10⟩:=st_whole (P:=Try.prog) (ty:=29) (vs:=(cpuC o.f3 (wrap64 (used + 1)) rs stk:Array Value).toList) K_o (by first | rfl | (have:=zG (pc:=o.f3) (used:=wrap64 (used + 1)) (stk:=stk) hl;simp [this]) | (simp;exact (zG (pc:=o.f3) (used:=wrap64 (used + 1)) (stk:=stk) hl).symm)) (by rw [size29];first | rfl | (have:=zG (pc:=o.f3) (used:=wrap64 (used + 1)) (stk:=stk) hl;simp [this]) | (simp;exact (zG (pc:=o.f3) (used:=wrap64 (used + 1)) (stk:=stk) hl).symm)) (cpuC_one1 _ _ _ h1)
  simp only [Array.toArray_toList] at hSV10 KKV10
  replace K_o:V10.heap[V2.heap.size]?=some (.cells (cpuC o.f3 (wrap64 (used + 1)) rs stk) 29 (0,0)):=KKV10
  replace K_cpu:=hOV10.mid K_cpu (by omega) (B:=0)
  replace K_op:=hOV10.mid K_op (by omega) (B:=0)
  replace K_a:=hOV10.mid K_a (by omega) (B:=0)
  replace K_at:=hOV10.mid K_at (by omega) (B:=0)
  have szV10:V9.heap.size ≤ V10.heap.size:=hOV10.size
  replace HB:=HB.trans (hOV10.below (by omega) HB.size)
  clear hOV10
  clear KKV10
  obtain ⟨V11,hSV11,KKV11,hOV11⟩:=st_whole (P:=Try.prog) (ty:=46) (vs:=(askC 0 0 0 0 0 0 0:Array Value).toList) K_a (by first | rfl | (have:=rfl;simp [this]) | (simp;exact (rfl).symm)) (by rw [size46];first | rfl | (have:=rfl;simp [this]) | (simp;exact (rfl).symm)) (by simp [Value.oneCell'])
  simp only [Array.toArray_toList] at hSV11 KKV11
  replace K_a:V11.heap[V3.heap.size]?=some (.cells (askC 0 0 0 0 0 0 0) 46 (0,0)):=KKV11
  replace K_cpu:=hOV11.mid K_cpu (by omega) (B:=0)
  replace K_op:=hOV11.mid K_op (by omega) (B:=0)
  replace K_o:=hOV11.mid K_o (by omega) (B:=0)
  replace K_at:=hOV11.mid K_at (by omega) (B:=0)
  have szV11:V10.heap.size ≤ V11.heap.size:=hOV11.size
  replace HB:=HB.trans (hOV11.below (by omega) HB.size)
  clear hOV11
  clear KKV11
  have HX1:=Lib.hid (zL K_cpu (zL K_op (zL K_o (zL K_a (zL K_at (HB))))))
  clear HB K_at K_a K_o K_op K_cpu
  go_enter Try.func39,Try.ntmps39
  go_wp2_with (first | refine wpList_st rfl rfl hSV10 ?_ | refine wpList_st rfl rfl hSV11 ?_ | refine wpList_ld rfl rfl hL19 ?_)
  obtain ⟨K_cpu,K_op,K_o,K_a,K_at,HB⟩:=HX1.out
  exact bodyPost_ret (results_cc rfl _ rfl K_o hu29 rfl (by rw [size29,zG (pc:=o.f3) (used:=wrap64 (used + 1)) (stk:=stk) hl]) rfl K_a hu46 rfl (by rw [size46];rfl)) rfl ⟨rfl,HB⟩
set_option maxRecDepth 100000 in
set_option maxHeartbeats 2000000 in
theorem rjump11_0 (pc used : Int) (rs : List S32) (stk : Value) (o : S97) (W : World) (hl : rs.length = 8) (h1 : stk.oneCell' = true) (ha0 : 0 ≤ o.f1) (ha1 : o.f1 < 8) (h8 : o.f0 = 11) (hk : ¬ (regA rs o.f1).f0 = 1) :
    Calls Try.prog 39 #[.agg (cpuC pc used rs stk),.agg #[.int .i64 o.f0,.int .i64 o.f1,.int .i64 o.f2,.int .i64 o.f3,.int .i64 o.f4]] W fun x w' => x=.returned (.tuple #[.agg (cpuC pc (wrap64 (used + 1)) rs stk),.agg (askC 5 0 0 0 0 0 4)])∧Below W.heap.size W w':=by
  have hu29:=Try.underlying29
  have hu46:=Try.underlying46
  have hu26:=Try.underlying26
  have hu24:=Try.underlying24
  have hu97:=Try.underlying97
  obtain ⟨a,ha⟩:∃ a:Nat,o.f1=a:=⟨o.f1.toNat,by omega⟩
  have a8:a < 8:=by omega
  have xa:rs[a]?=some (regA rs o.f1):=by rw [ha];unfold regA;simp [hl,a8]
  have ra:=cpuC_reg (pc:=pc) (used:=used) (stk:=stk) xa
  generalize hxa:regA rs o.f1=x at *
  obtain ⟨V1,hV1,KV1,hBV1⟩:=alz W (cpuC pc used rs stk) 29
  have ltV1:W.heap.size < V1.heap.size:=zE KV1
  have K_cpu:=KV1
  have HB:=hBV1
  clear KV1 hBV1
  obtain ⟨V2,hV2,KV2,hBV2⟩:=alz V1 #[.int .i64 o.f0,.int .i64 o.f1,.int .i64 o.f2,.int .i64 o.f3,.int .i64 o.f4] 97
  have ltV2:V1.heap.size < V2.heap.size:=zE KV2
  replace K_cpu:=zB K_cpu hBV2
  have K_op:=KV2
  replace HB:=zA HB hBV2
  clear KV2 hBV2
  obtain ⟨V3,hV3,KV3,hBV3⟩:=alz1 V2
  have ltV3:V2.heap.size < V3.heap.size:=zE KV3
  replace K_cpu:=zB K_cpu hBV3
  replace K_op:=zB K_op hBV3
  have K_o:=KV3
  replace HB:=zA HB hBV3
  clear KV3 hBV3
  obtain ⟨V4,hV4,KV4,hBV4⟩:=alz0 V3
  have ltV4:V3.heap.size < V4.heap.size:=zE KV4
  replace K_cpu:=zB K_cpu hBV4
  replace K_op:=zB K_op hBV4
  replace K_o:=zB K_o hBV4
  have K_a:=KV4
  replace HB:=zA HB hBV4
  clear KV4 hBV4
  rw [ha,h8] at K_op hV2
  have c1:V4.cell? ⟨V1.heap.size,1,none⟩=some (.int .i64 a):=zC K_op (1)
  have c2:V4.cell? ⟨W.heap.size,2 + a * 2,none⟩=some (.int .i64 x.f0):=(zC K_cpu (2 + a * 2)).trans ra.1
  have c3:V4.cell? ⟨W.heap.size,2 + a * 2 + 1,none⟩=some (.int .i64 x.f1):=(zC K_cpu (2 + a * 2 + 1)).trans ra.2
  obtain ⟨V5,hV5,KV5,hBV5⟩:=alz3 V4
  have ltV5:V4.heap.size < V5.heap.size:=zE KV5
  replace K_cpu:=zB K_cpu hBV5
  replace K_op:=zB K_op hBV5
  replace K_o:=zB K_o hBV5
  replace K_a:=zB K_a hBV5
  have K_at:=KV5
  replace HB:=zA HB hBV5
  clear KV5 hBV5
  have c4:V5.cell? ⟨V4.heap.size,0,none⟩=some (.int .i64 0):=zC K_at (0)
  have c5:V5.cell? ⟨V4.heap.size,1,none⟩=some (.int .i64 0):=zC K_at (1)
  have c6:=zD K_at (0)
  have c7:=zD K_at (1)
  obtain ⟨V6,hV6⟩:∃ V,(V5.setCell ⟨V4.heap.size,0,none⟩ (.int .i64 x.f0)).setCell ⟨V4.heap.size,1,none⟩ (.int .i64 x.f1)=V:=⟨_,rfl⟩
  have hOV6:Only V4.heap.size V5 V6:=by rw [← hV6];exact (Only.set _ _ _).trans (Only.set _ _ _)
  replace K_at:V6.heap[V4.heap.size]?=some (.cells (#[.int .i64 x.f0,.int .i64 x.f1]) 24 (0,0)):=by rw [← hV6];exact (blk_set (blk_set K_at _ _) _ _)
  replace K_cpu:=hOV6.mid K_cpu (by omega) (B:=0)
  replace K_op:=hOV6.mid K_op (by omega) (B:=0)
  replace K_o:=hOV6.mid K_o (by omega) (B:=0)
  replace K_a:=hOV6.mid K_a (by omega) (B:=0)
  have szV6:V5.heap.size ≤ V6.heap.size:=hOV6.size
  replace HB:=HB.trans (hOV6.below (by omega) HB.size)
  clear hOV6
  have c8:V6.cell? ⟨V1.heap.size,0,none⟩=some (.int .i64 11):=zC K_op (0)
  have c9:V6.cell? ⟨V4.heap.size,0,none⟩=some (.int .i64 x.f0):=zC K_at (0)
  have m0:(x.f0 != 1)=true:=by simpa using hk
  clear hk
  have hL10:=ld_whole (P:=Try.prog) (ty:=29) K_cpu Try.underlying29 rfl (by first | rfl | (rw [size29];rfl) | (rw [size29];have:=zG hl;simp [this]) | (rw [size29,zG hl]))
  have c11:V6.cell? ⟨W.heap.size,1,none⟩=some (.int .i64 used):=zC K_cpu (1)
  have HR:=Lib.hid (rover_calls pc used (wrap64 (used + 1)) 4 rs stk V6 hl h1)
  have HX1:=Lib.hid (zL K_cpu (zL K_op (zL K_o (zL K_a (zL K_at (HB))))))
  clear HB K_at K_a K_o K_op K_cpu
  go_enter Try.func39,Try.ntmps39
  go_wp2_with (refine wpList_ld rfl rfl hL10 ?_)
  refine HR.out.mono ?_
  rintro e w9 ⟨rfl,hB9⟩
  obtain ⟨K_cpu,K_op,K_o,K_a,K_at,HB⟩:=HX1.out
  clear HX1
  replace K_cpu:=zB K_cpu hB9
  replace K_op:=zB K_op hB9
  replace K_o:=zB K_o hB9
  replace K_a:=zB K_a hB9
  replace K_at:=zB K_at hB9
  have szw9:V6.heap.size ≤ w9.heap.size:=hB9.size
  replace HB:=zA HB hB9
  obtain ⟨V7,hSV7,KKV7,hOV7⟩:=st_whole (P:=Try.prog) (ty:=29) (vs:=(cpuC pc (wrap64 (used + 1)) rs stk:Array Value).toList) K_o (by first | rfl | (have:=zG (pc:=pc) (used:=(wrap64 (used + 1))) (stk:=stk) hl;simp [this]) | (simp;exact (zG (pc:=pc) (used:=(wrap64 (used + 1))) (stk:=stk) hl).symm)) (by rw [size29];first | rfl | (have:=zG (pc:=pc) (used:=(wrap64 (used + 1))) (stk:=stk) hl;simp [this]) | (simp;exact (zG (pc:=pc) (used:=(wrap64 (used + 1))) (stk:=stk) hl).symm)) (cpuC_one1 _ _ _ h1)
  simp only [Array.toArray_toList] at hSV7 KKV7
  replace K_o:V7.heap[V2.heap.size]?=some (.cells (cpuC pc (wrap64 (used + 1)) rs stk) 29 (0,0)):=KKV7
  replace K_cpu:=hOV7.mid K_cpu (by omega) (B:=0)
  replace K_op:=hOV7.mid K_op (by omega) (B:=0)
  replace K_a:=hOV7.mid K_a (by omega) (B:=0)
  replace K_at:=hOV7.mid K_at (by omega) (B:=0)
  have szV7:w9.heap.size ≤ V7.heap.size:=hOV7.size
  replace HB:=HB.trans (hOV7.below (by omega) HB.size)
  clear hOV7
  clear KKV7
  obtain ⟨V8,hSV8,KKV8,hOV8⟩:=st_whole (P:=Try.prog) (ty:=46) (vs:=(askC 5 0 0 0 0 0 4:Array Value).toList) K_a (by first | rfl | (have:=rfl;simp [this]) | (simp;exact (rfl).symm)) (by rw [size46];first | rfl | (have:=rfl;simp [this]) | (simp;exact (rfl).symm)) (by simp [Value.oneCell'])
  simp only [Array.toArray_toList] at hSV8 KKV8
  replace K_a:V8.heap[V3.heap.size]?=some (.cells (askC 5 0 0 0 0 0 4) 46 (0,0)):=KKV8
  replace K_cpu:=hOV8.mid K_cpu (by omega) (B:=0)
  replace K_op:=hOV8.mid K_op (by omega) (B:=0)
  replace K_o:=hOV8.mid K_o (by omega) (B:=0)
  replace K_at:=hOV8.mid K_at (by omega) (B:=0)
  have szV8:V7.heap.size ≤ V8.heap.size:=hOV8.size
  replace HB:=HB.trans (hOV8.below (by omega) HB.size)
  clear hOV8
  clear KKV8
  have HX2:=Lib.hid (zL K_cpu (zL K_op (zL K_o (zL K_a (zL K_at (HB))))))
  clear HB K_at K_a K_o K_op K_cpu
  go_wp2_with (first | refine wpList_st rfl rfl hSV7 ?_ | refine wpList_st rfl rfl hSV8 ?_)
  obtain ⟨K_cpu,K_op,K_o,K_a,K_at,HB⟩:=HX2.out
  exact bodyPost_ret (results_cc rfl _ rfl K_o hu29 rfl (by rw [size29,zG (pc:=pc) (used:=(wrap64 (used + 1))) (stk:=stk) hl]) rfl K_a hu46 rfl (by rw [size46];rfl)) rfl ⟨rfl,HB⟩
set_option maxRecDepth 100000 in
set_option maxHeartbeats 2000000 in
theorem rjump11_1 (pc used : Int) (rs : List S32) (stk : Value) (o : S97) (W : World) (hl : rs.length = 8) (h1 : stk.oneCell' = true) (ha0 : 0 ≤ o.f1) (ha1 : o.f1 < 8) (h8 : o.f0 = 11) (hk : (regA rs o.f1).f0 = 1) (hn : (regA rs o.f1).f1 = 0) :
    Calls Try.prog 39 #[.agg (cpuC pc used rs stk),.agg #[.int .i64 o.f0,.int .i64 o.f1,.int .i64 o.f2,.int .i64 o.f3,.int .i64 o.f4]] W fun x w' => x=.returned (.tuple #[.agg (cpuC (wrap64 (pc + 1)) (wrap64 (used + 1)) rs stk),.agg (askC 0 0 0 0 0 0 0)])∧Below W.heap.size W w':=by
  have hu29:=Try.underlying29
  have hu46:=Try.underlying46
  have hu26:=Try.underlying26
  have hu24:=Try.underlying24
  have hu97:=Try.underlying97
  obtain ⟨a,ha⟩:∃ a:Nat,o.f1=a:=⟨o.f1.toNat,by omega⟩
  have a8:a < 8:=by omega
  have xa:rs[a]?=some (regA rs o.f1):=by rw [ha];unfold regA;simp [hl,a8]
  have ra:=cpuC_reg (pc:=pc) (used:=used) (stk:=stk) xa
  generalize hxa:regA rs o.f1=x at *
  obtain ⟨V1,hV1,KV1,hBV1⟩:=alz W (cpuC pc used rs stk) 29
  have ltV1:W.heap.size < V1.heap.size:=zE KV1
  have K_cpu:=KV1
  have HB:=hBV1
  clear KV1 hBV1
  obtain ⟨V2,hV2,KV2,hBV2⟩:=alz V1 #[.int .i64 o.f0,.int .i64 o.f1,.int .i64 o.f2,.int .i64 o.f3,.int .i64 o.f4] 97
  have ltV2:V1.heap.size < V2.heap.size:=zE KV2
  replace K_cpu:=zB K_cpu hBV2
  have K_op:=KV2
  replace HB:=zA HB hBV2
  clear KV2 hBV2
  obtain ⟨V3,hV3,KV3,hBV3⟩:=alz1 V2
  have ltV3:V2.heap.size < V3.heap.size:=zE KV3
  replace K_cpu:=zB K_cpu hBV3
  replace K_op:=zB K_op hBV3
  have K_o:=KV3
  replace HB:=zA HB hBV3
  clear KV3 hBV3
  obtain ⟨V4,hV4,KV4,hBV4⟩:=alz0 V3
  have ltV4:V3.heap.size < V4.heap.size:=zE KV4
  replace K_cpu:=zB K_cpu hBV4
  replace K_op:=zB K_op hBV4
  replace K_o:=zB K_o hBV4
  have K_a:=KV4
  replace HB:=zA HB hBV4
  clear KV4 hBV4
  rw [ha,h8] at K_op hV2
  have c1:V4.cell? ⟨V1.heap.size,1,none⟩=some (.int .i64 a):=zC K_op (1)
  have c2:V4.cell? ⟨W.heap.size,2 + a * 2,none⟩=some (.int .i64 x.f0):=(zC K_cpu (2 + a * 2)).trans ra.1
  have c3:V4.cell? ⟨W.heap.size,2 + a * 2 + 1,none⟩=some (.int .i64 x.f1):=(zC K_cpu (2 + a * 2 + 1)).trans ra.2
  obtain ⟨V5,hV5,KV5,hBV5⟩:=alz3 V4
  have ltV5:V4.heap.size < V5.heap.size:=zE KV5
  replace K_cpu:=zB K_cpu hBV5
  replace K_op:=zB K_op hBV5
  replace K_o:=zB K_o hBV5
  replace K_a:=zB K_a hBV5
  have K_at:=KV5
  replace HB:=zA HB hBV5
  clear KV5 hBV5
  have c4:V5.cell? ⟨V4.heap.size,0,none⟩=some (.int .i64 0):=zC K_at (0)
  have c5:V5.cell? ⟨V4.heap.size,1,none⟩=some (.int .i64 0):=zC K_at (1)
  have c6:=zD K_at (0)
  have c7:=zD K_at (1)
  obtain ⟨V6,hV6⟩:∃ V,(V5.setCell ⟨V4.heap.size,0,none⟩ (.int .i64 x.f0)).setCell ⟨V4.heap.size,1,none⟩ (.int .i64 x.f1)=V:=⟨_,rfl⟩
  have hOV6:Only V4.heap.size V5 V6:=by rw [← hV6];exact (Only.set _ _ _).trans (Only.set _ _ _)
  replace K_at:V6.heap[V4.heap.size]?=some (.cells (#[.int .i64 x.f0,.int .i64 x.f1]) 24 (0,0)):=by rw [← hV6];exact (blk_set (blk_set K_at _ _) _ _)
  replace K_cpu:=hOV6.mid K_cpu (by omega) (B:=0)
  replace K_op:=hOV6.mid K_op (by omega) (B:=0)
  replace K_o:=hOV6.mid K_o (by omega) (B:=0)
  replace K_a:=hOV6.mid K_a (by omega) (B:=0)
  have szV6:V5.heap.size ≤ V6.heap.size:=hOV6.size
  replace HB:=HB.trans (hOV6.below (by omega) HB.size)
  clear hOV6
  have c8:V6.cell? ⟨V1.heap.size,0,none⟩=some (.int .i64 11):=zC K_op (0)
  have c9:V6.cell? ⟨V4.heap.size,0,none⟩=some (.int .i64 x.f0):=zC K_at (0)
  have m0:(x.f0 != 1)=false:=by simpa using hk
  clear hk
  have c10:V6.cell? ⟨W.heap.size,0,none⟩=some (.int .i64 pc):=zC K_cpu (0)
  have c11:=zD K_cpu (0)
  obtain ⟨V7,hV7⟩:∃ V,V6.setCell ⟨W.heap.size,0,none⟩ (.int .i64 (wrap64 (pc + 1)))=V:=⟨_,rfl⟩
  have hOV7:Only W.heap.size V6 V7:=by rw [← hV7];exact Only.set _ _ _
  replace K_cpu:V7.heap[W.heap.size]?=some (.cells (cpuC (wrap64 (pc + 1)) used rs stk) 29 (0,0)):=by rw [← hV7];exact (blk_set K_cpu _ _)
  replace K_op:=hOV7.mid K_op (by omega) (B:=0)
  replace K_o:=hOV7.mid K_o (by omega) (B:=0)
  replace K_a:=hOV7.mid K_a (by omega) (B:=0)
  replace K_at:=hOV7.mid K_at (by omega) (B:=0)
  have szV7:V6.heap.size ≤ V7.heap.size:=hOV7.size
  replace HB:=HB.trans (hOV7.below (by omega) HB.size)
  clear hOV7
  have c12:V7.cell? ⟨W.heap.size,1,none⟩=some (.int .i64 used):=zC K_cpu (1)
  have c13:=zD K_cpu (1)
  obtain ⟨V8,hV8⟩:∃ V,V7.setCell ⟨W.heap.size,1,none⟩ (.int .i64 (wrap64 (used + 1)))=V:=⟨_,rfl⟩
  have hOV8:Only W.heap.size V7 V8:=by rw [← hV8];exact Only.set _ _ _
  replace K_cpu:V8.heap[W.heap.size]?=some (.cells (cpuC (wrap64 (pc + 1)) (wrap64 (used + 1)) rs stk) 29 (0,0)):=by rw [← hV8];exact (blk_set K_cpu _ _)
  replace K_op:=hOV8.mid K_op (by omega) (B:=0)
  replace K_o:=hOV8.mid K_o (by omega) (B:=0)
  replace K_a:=hOV8.mid K_a (by omega) (B:=0)
  replace K_at:=hOV8.mid K_at (by omega) (B:=0)
  have szV8:V7.heap.size ≤ V8.heap.size:=hOV8.size
  replace HB:=HB.trans (hOV8.below (by omega) HB.size)
  clear hOV8
  have c14:V8.cell? ⟨V1.heap.size,0,none⟩=some (.int .i64 11):=zC K_op (0)
  have c15:V8.cell? ⟨V4.heap.size,1,none⟩=some (.int .i64 x.f1):=zC K_at (1)
  have m1:(x.f1 != 0)=false:=by simpa using hn
  clear hn
  have hL16:=ld_whole (P:=Try.prog) (ty:=29) K_cpu Try.underlying29 rfl (by first | rfl | (rw [size29];rfl) | (rw [size29];have:=zG hl;simp [this]) | (rw [size29,zG hl]))
  obtain ⟨V9,hSV9,KKV9,hOV9⟩:=st_whole (P:=Try.prog) (ty:=29) (vs:=(cpuC (wrap64 (pc + 1)) (wrap64 (used + 1)) rs stk:Array Value).toList) K_o (by first | rfl | (have:=zG (pc:=(wrap64 (pc + 1))) (used:=wrap64 (used + 1)) (stk:=stk) hl;simp [this]) | (simp;exact (zG (pc:=(wrap64 (pc + 1))) (used:=wrap64 (used + 1)) (stk:=stk) hl).symm)) (by rw [size29];first | rfl | (have:=zG (pc:=(wrap64 (pc + 1))) (used:=wrap64 (used + 1)) (stk:=stk) hl;simp [this]) | (simp;exact (zG (pc:=(wrap64 (pc + 1))) (used:=wrap64 (used + 1)) (stk:=stk) hl).symm)) (cpuC_one1 _ _ _ h1)
  simp only [Array.toArray_toList] at hSV9 KKV9
  replace K_o:V9.heap[V2.heap.size]?=some (.cells (cpuC (wrap64 (pc + 1)) (wrap64 (used + 1)) rs stk) 29 (0,0)):=KKV9
  replace K_cpu:=hOV9.mid K_cpu (by omega) (B:=0)
  replace K_op:=hOV9.mid K_op (by omega) (B:=0)
  replace K_a:=hOV9.mid K_a (by omega) (B:=0)
  replace K_at:=hOV9.mid K_at (by omega) (B:=0)
  have szV9:V8.heap.size ≤ V9.heap.size:=hOV9.size
  replace HB:=HB.trans (hOV9.below (by omega) HB.size)
  clear hOV9
  clear KKV9
  obtain ⟨V10,hSV10,KKV10,hOV10⟩:=st_whole (P:=Try.prog) (ty:=46) (vs:=(askC 0 0 0 0 0 0 0:Array Value).toList) K_a (by first | rfl | (have:=rfl;simp [this]) | (simp;exact (rfl).symm)) (by rw [size46];first | rfl | (have:=rfl;simp [this]) | (simp;exact (rfl).symm)) (by simp [Value.oneCell'])
  simp only [Array.toArray_toList] at hSV10 KKV10
  replace K_a:V10.heap[V3.heap.size]?=some (.cells (askC 0 0 0 0 0 0 0) 46 (0,0)):=KKV10
  replace K_cpu:=hOV10.mid K_cpu (by omega) (B:=0)
  replace K_op:=hOV10.mid K_op (by omega) (B:=0)
  replace K_o:=hOV10.mid K_o (by omega) (B:=0)
  replace K_at:=hOV10.mid K_at (by omega) (B:=0)
  have szV10:V9.heap.size ≤ V10.heap.size:=hOV10.size
  replace HB:=HB.trans (hOV10.below (by omega) HB.size)
  clear hOV10
  clear KKV10
  have HX1:=Lib.hid (zL K_cpu (zL K_op (zL K_o (zL K_a (zL K_at (HB))))))
  clear HB K_at K_a K_o K_op K_cpu
  go_enter Try.func39,Try.ntmps39
  go_wp2_with (first | refine wpList_st rfl rfl hSV9 ?_ | refine wpList_st rfl rfl hSV10 ?_ | refine wpList_ld rfl rfl hL16 ?_)
  obtain ⟨K_cpu,K_op,K_o,K_a,K_at,HB⟩:=HX1.out
  exact bodyPost_ret (results_cc rfl _ rfl K_o hu29 rfl (by rw [size29,zG (pc:=(wrap64 (pc + 1))) (used:=wrap64 (used + 1)) (stk:=stk) hl]) rfl K_a hu46 rfl (by rw [size46];rfl)) rfl ⟨rfl,HB⟩
set_option maxRecDepth 100000 in
set_option maxHeartbeats 2000000 in
theorem rjump11_2 (pc used : Int) (rs : List S32) (stk : Value) (o : S97) (W : World) (hl : rs.length = 8) (h1 : stk.oneCell' = true) (ha0 : 0 ≤ o.f1) (ha1 : o.f1 < 8) (h8 : o.f0 = 11) (hk : (regA rs o.f1).f0 = 1) (hn : ¬ (regA rs o.f1).f1 = 0) :
    Calls Try.prog 39 #[.agg (cpuC pc used rs stk),.agg #[.int .i64 o.f0,.int .i64 o.f1,.int .i64 o.f2,.int .i64 o.f3,.int .i64 o.f4]] W fun x w' => x=.returned (.tuple #[.agg (cpuC o.f3 (wrap64 (used + 1)) rs stk),.agg (askC 0 0 0 0 0 0 0)])∧Below W.heap.size W w':=by
  have hu29:=Try.underlying29
  have hu46:=Try.underlying46
  have hu26:=Try.underlying26
  have hu24:=Try.underlying24
  have hu97:=Try.underlying97
  obtain ⟨a,ha⟩:∃ a:Nat,o.f1=a:=⟨o.f1.toNat,by omega⟩
  have a8:a < 8:=by omega
  have xa:rs[a]?=some (regA rs o.f1):=by rw [ha];unfold regA;simp [hl,a8]
  have ra:=cpuC_reg (pc:=pc) (used:=used) (stk:=stk) xa
  generalize hxa:regA rs o.f1=x at *
  obtain ⟨V1,hV1,KV1,hBV1⟩:=alz W (cpuC pc used rs stk) 29
  have ltV1:W.heap.size < V1.heap.size:=zE KV1
  have K_cpu:=KV1
  have HB:=hBV1
  clear KV1 hBV1
  obtain ⟨V2,hV2,KV2,hBV2⟩:=alz V1 #[.int .i64 o.f0,.int .i64 o.f1,.int .i64 o.f2,.int .i64 o.f3,.int .i64 o.f4] 97
  have ltV2:V1.heap.size < V2.heap.size:=zE KV2
  replace K_cpu:=zB K_cpu hBV2
  have K_op:=KV2
  replace HB:=zA HB hBV2
  clear KV2 hBV2
  obtain ⟨V3,hV3,KV3,hBV3⟩:=alz1 V2
  have ltV3:V2.heap.size < V3.heap.size:=zE KV3
  replace K_cpu:=zB K_cpu hBV3
  replace K_op:=zB K_op hBV3
  have K_o:=KV3
  replace HB:=zA HB hBV3
  clear KV3 hBV3
  obtain ⟨V4,hV4,KV4,hBV4⟩:=alz0 V3
  have ltV4:V3.heap.size < V4.heap.size:=zE KV4
  replace K_cpu:=zB K_cpu hBV4
  replace K_op:=zB K_op hBV4
  replace K_o:=zB K_o hBV4
  have K_a:=KV4
  replace HB:=zA HB hBV4
  clear KV4 hBV4
  rw [ha,h8] at K_op hV2
  have c1:V4.cell? ⟨V1.heap.size,1,none⟩=some (.int .i64 a):=zC K_op (1)
  have c2:V4.cell? ⟨W.heap.size,2 + a * 2,none⟩=some (.int .i64 x.f0):=(zC K_cpu (2 + a * 2)).trans ra.1
  have c3:V4.cell? ⟨W.heap.size,2 + a * 2 + 1,none⟩=some (.int .i64 x.f1):=(zC K_cpu (2 + a * 2 + 1)).trans ra.2
  obtain ⟨V5,hV5,KV5,hBV5⟩:=alz3 V4
  have ltV5:V4.heap.size < V5.heap.size:=zE KV5
  replace K_cpu:=zB K_cpu hBV5
  replace K_op:=zB K_op hBV5
  replace K_o:=zB K_o hBV5
  replace K_a:=zB K_a hBV5
  have K_at:=KV5
  replace HB:=zA HB hBV5
  clear KV5 hBV5
  have c4:V5.cell? ⟨V4.heap.size,0,none⟩=some (.int .i64 0):=zC K_at (0)
  have c5:V5.cell? ⟨V4.heap.size,1,none⟩=some (.int .i64 0):=zC K_at (1)
  have c6:=zD K_at (0)
  have c7:=zD K_at (1)
  obtain ⟨V6,hV6⟩:∃ V,(V5.setCell ⟨V4.heap.size,0,none⟩ (.int .i64 x.f0)).setCell ⟨V4.heap.size,1,none⟩ (.int .i64 x.f1)=V:=⟨_,rfl⟩
  have hOV6:Only V4.heap.size V5 V6:=by rw [← hV6];exact (Only.set _ _ _).trans (Only.set _ _ _)
  replace K_at:V6.heap[V4.heap.size]?=some (.cells (#[.int .i64 x.f0,.int .i64 x.f1]) 24 (0,0)):=by rw [← hV6];exact (blk_set (blk_set K_at _ _) _ _)
  replace K_cpu:=hOV6.mid K_cpu (by omega) (B:=0)
  replace K_op:=hOV6.mid K_op (by omega) (B:=0)
  replace K_o:=hOV6.mid K_o (by omega) (B:=0)
  replace K_a:=hOV6.mid K_a (by omega) (B:=0)
  have szV6:V5.heap.size ≤ V6.heap.size:=hOV6.size
  replace HB:=HB.trans (hOV6.below (by omega) HB.size)
  clear hOV6
  have c8:V6.cell? ⟨V1.heap.size,0,none⟩=some (.int .i64 11):=zC K_op (0)
  have c9:V6.cell? ⟨V4.heap.size,0,none⟩=some (.int .i64 x.f0):=zC K_at (0)
  have m0:(x.f0 != 1)=false:=by simpa using hk
  clear hk
  have c10:V6.cell? ⟨W.heap.size,0,none⟩=some (.int .i64 pc):=zC K_cpu (0)
  have c11:=zD K_cpu (0)
  obtain ⟨V7,hV7⟩:∃ V,V6.setCell ⟨W.heap.size,0,none⟩ (.int .i64 (wrap64 (pc + 1)))=V:=⟨_,rfl⟩
  have hOV7:Only W.heap.size V6 V7:=by rw [← hV7];exact Only.set _ _ _
  replace K_cpu:V7.heap[W.heap.size]?=some (.cells (cpuC (wrap64 (pc + 1)) used rs stk) 29 (0,0)):=by rw [← hV7];exact (blk_set K_cpu _ _)
  replace K_op:=hOV7.mid K_op (by omega) (B:=0)
  replace K_o:=hOV7.mid K_o (by omega) (B:=0)
  replace K_a:=hOV7.mid K_a (by omega) (B:=0)
  replace K_at:=hOV7.mid K_at (by omega) (B:=0)
  have szV7:V6.heap.size ≤ V7.heap.size:=hOV7.size
  replace HB:=HB.trans (hOV7.below (by omega) HB.size)
  clear hOV7
  have c12:V7.cell? ⟨W.heap.size,1,none⟩=some (.int .i64 used):=zC K_cpu (1)
  have c13:=zD K_cpu (1)
  obtain ⟨V8,hV8⟩:∃ V,V7.setCell ⟨W.heap.size,1,none⟩ (.int .i64 (wrap64 (used + 1)))=V:=⟨_,rfl⟩
  have hOV8:Only W.heap.size V7 V8:=by rw [← hV8];exact Only.set _ _ _
  replace K_cpu:V8.heap[W.heap.size]?=some (.cells (cpuC (wrap64 (pc + 1)) (wrap64 (used + 1)) rs stk) 29 (0,0)):=by rw [← hV8];exact (blk_set K_cpu _ _)
  replace K_op:=hOV8.mid K_op (by omega) (B:=0)
  replace K_o:=hOV8.mid K_o (by omega) (B:=0)
  replace K_a:=hOV8.mid K_a (by omega) (B:=0)
  replace K_at:=hOV8.mid K_at (by omega) (B:=0)
  have szV8:V7.heap.size ≤ V8.heap.size:=hOV8.size
  replace HB:=HB.trans (hOV8.below (by omega) HB.size)
  clear hOV8
  have c14:V8.cell? ⟨V1.heap.size,0,none⟩=some (.int .i64 11):=zC K_op (0)
  have c15:V8.cell? ⟨V4.heap.size,1,none⟩=some (.int .i64 x.f1):=zC K_at (1)
  have m1:(x.f1 != 0)=true:=by simpa using hn
  clear hn
  have c16:V8.cell? ⟨V1.heap.size,3,none⟩=some (.int .i64 o.f3):=zC K_op (3)
  have c17:V8.cell? ⟨W.heap.size,0,none⟩=some (.int .i64 (wrap64 (pc + 1))):=zC K_cpu (0)
  have c18:=zD K_cpu (0)
  obtain ⟨V9,hV9⟩:∃ V,V8.setCell ⟨W.heap.size,0,none⟩ (.int .i64 o.f3)=V:=⟨_,rfl⟩
  have hOV9:Only W.heap.size V8 V9:=by rw [← hV9];exact Only.set _ _ _
  replace K_cpu:V9.heap[W.heap.size]?=some (.cells (cpuC o.f3 (wrap64 (used + 1)) rs stk) 29 (0,0)):=by rw [← hV9];exact (blk_set K_cpu _ _)
  replace K_op:=hOV9.mid K_op (by omega) (B:=0)
  replace K_o:=hOV9.mid K_o (by omega) (B:=0)
  replace K_a:=hOV9.mid K_a (by omega) (B:=0)
  replace K_at:=hOV9.mid K_at (by omega) (B:=0)
  have szV9:V8.heap.size ≤ V9.heap.size:=hOV9.size
  replace HB:=HB.trans (hOV9.below (by omega) HB.size)
  clear hOV9
  have hL19:=ld_whole (P:=Try.prog) (ty:=29) K_cpu Try.underlying29 rfl (by first | rfl | (rw [size29];rfl) | (rw [size29];have:=zG hl;simp [this]) | (rw [size29,zG hl]))
  obtain ⟨V10,hSV10,KKV10,hOV10⟩:=st_whole (P:=Try.prog) (ty:=29) (vs:=(cpuC o.f3 (wrap64 (used + 1)) rs stk:Array Value).toList) K_o (by first | rfl | (have:=zG (pc:=o.f3) (used:=wrap64 (used + 1)) (stk:=stk) hl;simp [this]) | (simp;exact (zG (pc:=o.f3) (used:=wrap64 (used + 1)) (stk:=stk) hl).symm)) (by rw [size29];first | rfl | (have:=zG (pc:=o.f3) (used:=wrap64 (used + 1)) (stk:=stk) hl;simp [this]) | (simp;exact (zG (pc:=o.f3) (used:=wrap64 (used + 1)) (stk:=stk) hl).symm)) (cpuC_one1 _ _ _ h1)
  simp only [Array.toArray_toList] at hSV10 KKV10
  replace K_o:V10.heap[V2.heap.size]?=some (.cells (cpuC o.f3 (wrap64 (used + 1)) rs stk) 29 (0,0)):=KKV10
  replace K_cpu:=hOV10.mid K_cpu (by omega) (B:=0)
  replace K_op:=hOV10.mid K_op (by omega) (B:=0)
  replace K_a:=hOV10.mid K_a (by omega) (B:=0)
  replace K_at:=hOV10.mid K_at (by omega) (B:=0)
  have szV10:V9.heap.size ≤ V10.heap.size:=hOV10.size
  replace HB:=HB.trans (hOV10.below (by omega) HB.size)
  clear hOV10
  clear KKV10
  obtain ⟨V11,hSV11,KKV11,hOV11⟩:=st_whole (P:=Try.prog) (ty:=46) (vs:=(askC 0 0 0 0 0 0 0:Array Value).toList) K_a (by first | rfl | (have:=rfl;simp [this]) | (simp;exact (rfl).symm)) (by rw [size46];first | rfl | (have:=rfl;simp [this]) | (simp;exact (rfl).symm)) (by simp [Value.oneCell'])
  simp only [Array.toArray_toList] at hSV11 KKV11
  replace K_a:V11.heap[V3.heap.size]?=some (.cells (askC 0 0 0 0 0 0 0) 46 (0,0)):=KKV11
  replace K_cpu:=hOV11.mid K_cpu (by omega) (B:=0)
  replace K_op:=hOV11.mid K_op (by omega) (B:=0)
  replace K_o:=hOV11.mid K_o (by omega) (B:=0)
  replace K_at:=hOV11.mid K_at (by omega) (B:=0)
  have szV11:V10.heap.size ≤ V11.heap.size:=hOV11.size
  replace HB:=HB.trans (hOV11.below (by omega) HB.size)
  clear hOV11
  clear KKV11
  have HX1:=Lib.hid (zL K_cpu (zL K_op (zL K_o (zL K_a (zL K_at (HB))))))
  clear HB K_at K_a K_o K_op K_cpu
  go_enter Try.func39,Try.ntmps39
  go_wp2_with (first | refine wpList_st rfl rfl hSV10 ?_ | refine wpList_st rfl rfl hSV11 ?_ | refine wpList_ld rfl rfl hL19 ?_)
  obtain ⟨K_cpu,K_op,K_o,K_a,K_at,HB⟩:=HX1.out
  exact bodyPost_ret (results_cc rfl _ rfl K_o hu29 rfl (by rw [size29,zG (pc:=o.f3) (used:=wrap64 (used + 1)) (stk:=stk) hl]) rfl K_a hu46 rfl (by rw [size46];rfl)) rfl ⟨rfl,HB⟩
end Go.Proofs.Ytgnjkegnddekeaa.Q
