/- The document's step, by hand: memory. -/
import Derived.Test.YtgnjkegnddekeaaYRefS
set_option maxHeartbeats 2000000
set_option maxRecDepth 100000
open Go.Value renaming int → zC
open Go.IntKind renaming i64 → zD
open List renaming setIfInBounds_toArray → zQ, set_cons_zero → zS, set_cons_succ → zT
open Go.Lib renaming hid → zP
open And renaming intro → zU
namespace Go.Proofs.Ytgnjkegnddekeaa.Q
open Go.RowKit Go.Lib Go.Proofs.Ytgnjkegnddekeaa Go.Proofs.YtgnjkegnddekeaaW.PrintWords Go.Proofs.YtgnjkegnddekeaaW.PrintLast Go.Proofs.YtgnjkegnddekeaaW.PrintMore
set_option linter.unusedVariables false
set_option linter.unusedSimpArgs false
theorem rmem8_0 (pc used:Int) (rs:List S32) (stk:Value) (o:S97) (W:World) (hl:rs.length=8) (h1:stk.oneCell'=true) (ha0:0≤o.f1) (ha1:o.f1<8) (hb0:0≤o.f2) (hb1:o.f2<8) (vars:Int) (h8:o.f0=8)(hk:¬ (regA rs o.f2).f0=2) :
  Calls Try.prog 38 #[.agg (cpuC pc used rs stk),.agg #[zC zD o.f0,zC zD o.f1,zC zD o.f2,zC zD o.f3,zC zD o.f4],zC zD vars] W fun x w'=>x=.returned (.tuple #[.agg (cpuC pc (wrap64 (used+1)) rs stk),.agg (askC 5 0 0 0 0 0 4)])∧Below W.heap.size W w':=by
 have hu29:=Try.underlying29
 have hu46:=Try.underlying46
 have hu26:=Try.underlying26
 have hu24:=Try.underlying24
 have hu97:=Try.underlying97
 obtain ⟨a,ha⟩:∃ a:Nat,o.f1=a:=⟨o.f1.toNat,by omega⟩
 have a8:a<8:=by omega
 have xa:rs[a]?=some (regA rs o.f1):=by rw [ha];unfold regA;simp [hl,a8]
 have ra:=cpuC_reg (pc:=pc) (used:=used) (stk:=stk) xa
 obtain ⟨b,hb⟩:∃ b:Nat,o.f2=b:=⟨o.f2.toNat,by omega⟩
 have b8:b<8:=by omega
 have xb:rs[b]?=some (regA rs o.f2):=by rw [hb];unfold regA;simp [hl,b8]
 have rb:=cpuC_reg (pc:=pc) (used:=used) (stk:=stk) xb
 generalize hxa:regA rs o.f1=x at *
 generalize hyb:regA rs o.f2=y at *
 obtain ⟨V1,hV1,KV1,hBV1⟩:=alz W (cpuC pc used rs stk) 29
 have ltV1:W.heap.size<V1.heap.size:=zL KV1
 have zV:=KV1
 have HB:=hBV1
 clear KV1 hBV1
 obtain ⟨V2,hV2,KV2,hBV2⟩:=alz V1 #[zC zD o.f0,zC zD o.f1,zC zD o.f2,zC zD o.f3,zC zD o.f4] 97
 have ltV2:V1.heap.size<V2.heap.size:=zL KV2
 replace zV:=zI zV hBV2
 have zW:=KV2
 replace HB:=zE HB hBV2
 clear KV2 hBV2
 obtain ⟨V3,hV3,KV3,hBV3⟩:=alz0 V2
 have ltV3:V2.heap.size<V3.heap.size:=zL KV3
 replace zV:=zI zV hBV3
 replace zW:=zI zW hBV3
 have K_o:=KV3
 replace HB:=zE HB hBV3
 clear KV3 hBV3
 obtain ⟨V4,hV4,KV4,hBV4⟩:=alz1 V3
 have ltV4:V3.heap.size<V4.heap.size:=zL KV4
 replace zV:=zI zV hBV4
 replace zW:=zI zW hBV4
 replace K_o:=zI K_o hBV4
 have K_a:=KV4
 replace HB:=zE HB hBV4
 clear KV4 hBV4
 rw [ha,hb,h8] at zW hV2
 have c1:V4.cell? ⟨V1.heap.size,2,none⟩=some (zC zD b):=zJ zW (2)
 have c2:V4.cell? ⟨W.heap.size,2+b * 2,none⟩=some (zC zD y.f0):=(zJ zV (2+b * 2)).trans rb.1
 have c3:V4.cell? ⟨W.heap.size,2+b * 2+1,none⟩=some (zC zD y.f1):=(zJ zV (2+b * 2+1)).trans rb.2
 obtain ⟨V5,hV5,KV5,hBV5⟩:=alz3 V4
 have ltV5:V4.heap.size<V5.heap.size:=zL KV5
 replace zV:=zI zV hBV5
 replace zW:=zI zW hBV5
 replace K_o:=zI K_o hBV5
 replace K_a:=zI K_a hBV5
 have zY:=KV5
 replace HB:=zE HB hBV5
 clear KV5 hBV5
 have c4:V5.cell? ⟨V4.heap.size,0,none⟩=some (zC zD 0):=zJ zY (0)
 have c5:V5.cell? ⟨V4.heap.size,1,none⟩=some (zC zD 0):=zJ zY (1)
 have c6:=zK zY (0)
 have c7:=zK zY (1)
 obtain ⟨V6,hV6⟩:∃ V,(V5.setCell ⟨V4.heap.size,0,none⟩ (zC zD y.f0)).setCell ⟨V4.heap.size,1,none⟩ (zC zD y.f1)=V:=⟨_,rfl⟩
 have hOV6:Only V4.heap.size V5 V6:=by rw [← hV6];exact (Only.set _ _ _).trans (Only.set _ _ _)
 replace zY:V6.heap[V4.heap.size]?=some (.cells (#[zC zD y.f0,zC zD y.f1]) 24 (0,0)):=by rw [← hV6];exact (blk_set (blk_set zY _ _) _ _)
 replace zV:=hOV6.mid zV (by omega) (B:=0)
 replace zW:=hOV6.mid zW (by omega) (B:=0)
 replace K_o:=hOV6.mid K_o (by omega) (B:=0)
 replace K_a:=hOV6.mid K_a (by omega) (B:=0)
 have szV6:V5.heap.size≤V6.heap.size:=hOV6.size
 replace HB:=HB.trans (hOV6.below (by omega) HB.size)
 clear hOV6
 have c8:V6.cell? ⟨V1.heap.size,1,none⟩=some (zC zD a):=zJ zW (1)
 obtain ⟨V7,hV7,KV7,hBV7⟩:=alz1 V6
 have ltV7:V6.heap.size<V7.heap.size:=zL KV7
 replace zV:=zI zV hBV7
 replace zW:=zI zW hBV7
 replace K_o:=zI K_o hBV7
 replace K_a:=zI K_a hBV7
 replace zY:=zI zY hBV7
 have zX:=KV7
 replace HB:=zE HB hBV7
 clear KV7 hBV7
 obtain ⟨V8,hSV8,KKV8,hOV8⟩:=st_arr (cs:=askC 1 0 a 0 0 0 0) size46 zX (by first|rfl|simp) rfl (by simp [Value.oneCell'])
 replace zX:V8.heap[V6.heap.size]?=some (.cells (askC 1 0 a 0 0 0 0) 46 (0,0)):=KKV8
 replace zV:=hOV8.mid zV (by omega) (B:=0)
 replace zW:=hOV8.mid zW (by omega) (B:=0)
 replace K_o:=hOV8.mid K_o (by omega) (B:=0)
 replace K_a:=hOV8.mid K_a (by omega) (B:=0)
 replace zY:=hOV8.mid zY (by omega) (B:=0)
 have szV8:V7.heap.size≤V8.heap.size:=hOV8.size
 replace HB:=HB.trans (hOV8.below (by omega) HB.size)
 clear hOV8
 clear KKV8
 have c9:V8.cell? ⟨V1.heap.size,0,none⟩=some (zC zD 8):=zJ zW (0)
 have c10:V8.cell? ⟨V4.heap.size,0,none⟩=some (zC zD y.f0):=zJ zY (0)
 have c11:V8.cell? ⟨V4.heap.size,1,none⟩=some (zC zD y.f1):=zJ zY (1)
 have m0:(y.f0 != 2)=true:=by simpa using hk
 clear hk
 have hL12:=ld_whole (P:=Try.prog) (ty:=29) zV Try.underlying29 rfl (by first|rfl|(rw [size29];rfl)|(rw [size29];have:=zM hl;simp [this])|(rw [size29,zM hl]))
 have c13:V8.cell? ⟨W.heap.size,1,none⟩=some (zC zD used):=zJ zV (1)
 have HR:=zP (rover_calls pc used (wrap64 (used+1)) 4 rs stk V8 hl h1)
 have HX1:=zP (zU zV (zU zW (zU K_o (zU K_a (zU zY (zU zX (HB)))))))
 clear HB zX zY K_a K_o zW zV
 go_enter Try.func38,Try.ntmps38
 go_wp2_with (first|refine wpList_st rfl rfl hSV8 ?_|refine wpList_ld rfl rfl hL12 ?_)
 refine HR.out.mono ?_
 rintro e w9 ⟨rfl,hB9⟩
 obtain ⟨zV,zW,K_o,K_a,zY,zX,HB⟩:=HX1.out
 clear HX1
 replace zV:=zI zV hB9
 replace zW:=zI zW hB9
 replace K_o:=zI K_o hB9
 replace K_a:=zI K_a hB9
 replace zY:=zI zY hB9
 replace zX:=zI zX hB9
 have szw9:V8.heap.size≤w9.heap.size:=hB9.size
 replace HB:=zE HB hB9
 have hz:=zM (pc:=pc) (used:=(wrap64 (used+1))) (stk:=stk) hl
 obtain ⟨V9,hSV9,KKV9,hOV9⟩:=st_arr (cs:=cpuC pc (wrap64 (used+1)) rs stk) size29 K_o (by first|rfl|simp [hz]) (by first|rfl|simp [hz]) (cpuC_one1 _ _ _ h1)
 clear hz
 replace K_o:V9.heap[V2.heap.size]?=some (.cells (cpuC pc (wrap64 (used+1)) rs stk) 29 (0,0)):=KKV9
 replace zV:=hOV9.mid zV (by omega) (B:=0)
 replace zW:=hOV9.mid zW (by omega) (B:=0)
 replace K_a:=hOV9.mid K_a (by omega) (B:=0)
 replace zY:=hOV9.mid zY (by omega) (B:=0)
 replace zX:=hOV9.mid zX (by omega) (B:=0)
 have szV9:w9.heap.size≤V9.heap.size:=hOV9.size
 replace HB:=HB.trans (hOV9.below (by omega) HB.size)
 clear hOV9
 clear KKV9
 obtain ⟨V10,hSV10,KKV10,hOV10⟩:=st_arr (cs:=askC 5 0 0 0 0 0 4) size46 K_a (by first|rfl|simp) rfl (by simp [Value.oneCell'])
 replace K_a:V10.heap[V3.heap.size]?=some (.cells (askC 5 0 0 0 0 0 4) 46 (0,0)):=KKV10
 replace zV:=hOV10.mid zV (by omega) (B:=0)
 replace zW:=hOV10.mid zW (by omega) (B:=0)
 replace K_o:=hOV10.mid K_o (by omega) (B:=0)
 replace zY:=hOV10.mid zY (by omega) (B:=0)
 replace zX:=hOV10.mid zX (by omega) (B:=0)
 have szV10:V9.heap.size≤V10.heap.size:=hOV10.size
 replace HB:=HB.trans (hOV10.below (by omega) HB.size)
 clear hOV10
 clear KKV10
 have HX2:=zP (zU zV (zU zW (zU K_o (zU K_a (zU zY (zU zX (HB)))))))
 clear HB zX zY K_a K_o zW zV
 go_wp2_with (first|refine wpList_st rfl rfl hSV9 ?_|refine wpList_st rfl rfl hSV10 ?_)
 obtain ⟨zV,zW,K_o,K_a,zY,zX,HB⟩:=HX2.out
 exact bodyPost_ret (results_cc rfl _ rfl K_o hu29 rfl (by rw [size29,zM (pc:=pc) (used:=(wrap64 (used+1))) (stk:=stk) hl]) rfl K_a hu46 rfl (by rw [size46];rfl)) rfl ⟨rfl,HB⟩
theorem rmem8_1 (pc used:Int) (rs:List S32) (stk:Value) (o:S97) (W:World) (hl:rs.length=8) (h1:stk.oneCell'=true) (ha0:0≤o.f1) (ha1:o.f1<8) (hb0:0≤o.f2) (hb1:o.f2<8) (vars:Int) (h8:o.f0=8)(hk:(regA rs o.f2).f0=2) (hn:(regA rs o.f2).f1<0) :
  Calls Try.prog 38 #[.agg (cpuC pc used rs stk),.agg #[zC zD o.f0,zC zD o.f1,zC zD o.f2,zC zD o.f3,zC zD o.f4],zC zD vars] W fun x w'=>x=.returned (.tuple #[.agg (cpuC pc (wrap64 (used+1)) rs stk),.agg (askC 5 0 0 0 0 0 4)])∧Below W.heap.size W w':=by
 have hu29:=Try.underlying29
 have hu46:=Try.underlying46
 have hu26:=Try.underlying26
 have hu24:=Try.underlying24
 have hu97:=Try.underlying97
 obtain ⟨a,ha⟩:∃ a:Nat,o.f1=a:=⟨o.f1.toNat,by omega⟩
 have a8:a<8:=by omega
 have xa:rs[a]?=some (regA rs o.f1):=by rw [ha];unfold regA;simp [hl,a8]
 have ra:=cpuC_reg (pc:=pc) (used:=used) (stk:=stk) xa
 obtain ⟨b,hb⟩:∃ b:Nat,o.f2=b:=⟨o.f2.toNat,by omega⟩
 have b8:b<8:=by omega
 have xb:rs[b]?=some (regA rs o.f2):=by rw [hb];unfold regA;simp [hl,b8]
 have rb:=cpuC_reg (pc:=pc) (used:=used) (stk:=stk) xb
 generalize hxa:regA rs o.f1=x at *
 generalize hyb:regA rs o.f2=y at *
 obtain ⟨V1,hV1,KV1,hBV1⟩:=alz W (cpuC pc used rs stk) 29
 have ltV1:W.heap.size<V1.heap.size:=zL KV1
 have zV:=KV1
 have HB:=hBV1
 clear KV1 hBV1
 obtain ⟨V2,hV2,KV2,hBV2⟩:=alz V1 #[zC zD o.f0,zC zD o.f1,zC zD o.f2,zC zD o.f3,zC zD o.f4] 97
 have ltV2:V1.heap.size<V2.heap.size:=zL KV2
 replace zV:=zI zV hBV2
 have zW:=KV2
 replace HB:=zE HB hBV2
 clear KV2 hBV2
 obtain ⟨V3,hV3,KV3,hBV3⟩:=alz0 V2
 have ltV3:V2.heap.size<V3.heap.size:=zL KV3
 replace zV:=zI zV hBV3
 replace zW:=zI zW hBV3
 have K_o:=KV3
 replace HB:=zE HB hBV3
 clear KV3 hBV3
 obtain ⟨V4,hV4,KV4,hBV4⟩:=alz1 V3
 have ltV4:V3.heap.size<V4.heap.size:=zL KV4
 replace zV:=zI zV hBV4
 replace zW:=zI zW hBV4
 replace K_o:=zI K_o hBV4
 have K_a:=KV4
 replace HB:=zE HB hBV4
 clear KV4 hBV4
 rw [ha,hb,h8] at zW hV2
 have c1:V4.cell? ⟨V1.heap.size,2,none⟩=some (zC zD b):=zJ zW (2)
 have c2:V4.cell? ⟨W.heap.size,2+b * 2,none⟩=some (zC zD y.f0):=(zJ zV (2+b * 2)).trans rb.1
 have c3:V4.cell? ⟨W.heap.size,2+b * 2+1,none⟩=some (zC zD y.f1):=(zJ zV (2+b * 2+1)).trans rb.2
 obtain ⟨V5,hV5,KV5,hBV5⟩:=alz3 V4
 have ltV5:V4.heap.size<V5.heap.size:=zL KV5
 replace zV:=zI zV hBV5
 replace zW:=zI zW hBV5
 replace K_o:=zI K_o hBV5
 replace K_a:=zI K_a hBV5
 have zY:=KV5
 replace HB:=zE HB hBV5
 clear KV5 hBV5
 have c4:V5.cell? ⟨V4.heap.size,0,none⟩=some (zC zD 0):=zJ zY (0)
 have c5:V5.cell? ⟨V4.heap.size,1,none⟩=some (zC zD 0):=zJ zY (1)
 have c6:=zK zY (0)
 have c7:=zK zY (1)
 obtain ⟨V6,hV6⟩:∃ V,(V5.setCell ⟨V4.heap.size,0,none⟩ (zC zD y.f0)).setCell ⟨V4.heap.size,1,none⟩ (zC zD y.f1)=V:=⟨_,rfl⟩
 have hOV6:Only V4.heap.size V5 V6:=by rw [← hV6];exact (Only.set _ _ _).trans (Only.set _ _ _)
 replace zY:V6.heap[V4.heap.size]?=some (.cells (#[zC zD y.f0,zC zD y.f1]) 24 (0,0)):=by rw [← hV6];exact (blk_set (blk_set zY _ _) _ _)
 replace zV:=hOV6.mid zV (by omega) (B:=0)
 replace zW:=hOV6.mid zW (by omega) (B:=0)
 replace K_o:=hOV6.mid K_o (by omega) (B:=0)
 replace K_a:=hOV6.mid K_a (by omega) (B:=0)
 have szV6:V5.heap.size≤V6.heap.size:=hOV6.size
 replace HB:=HB.trans (hOV6.below (by omega) HB.size)
 clear hOV6
 have c8:V6.cell? ⟨V1.heap.size,1,none⟩=some (zC zD a):=zJ zW (1)
 obtain ⟨V7,hV7,KV7,hBV7⟩:=alz1 V6
 have ltV7:V6.heap.size<V7.heap.size:=zL KV7
 replace zV:=zI zV hBV7
 replace zW:=zI zW hBV7
 replace K_o:=zI K_o hBV7
 replace K_a:=zI K_a hBV7
 replace zY:=zI zY hBV7
 have zX:=KV7
 replace HB:=zE HB hBV7
 clear KV7 hBV7
 obtain ⟨V8,hSV8,KKV8,hOV8⟩:=st_arr (cs:=askC 1 0 a 0 0 0 0) size46 zX (by first|rfl|simp) rfl (by simp [Value.oneCell'])
 replace zX:V8.heap[V6.heap.size]?=some (.cells (askC 1 0 a 0 0 0 0) 46 (0,0)):=KKV8
 replace zV:=hOV8.mid zV (by omega) (B:=0)
 replace zW:=hOV8.mid zW (by omega) (B:=0)
 replace K_o:=hOV8.mid K_o (by omega) (B:=0)
 replace K_a:=hOV8.mid K_a (by omega) (B:=0)
 replace zY:=hOV8.mid zY (by omega) (B:=0)
 have szV8:V7.heap.size≤V8.heap.size:=hOV8.size
 replace HB:=HB.trans (hOV8.below (by omega) HB.size)
 clear hOV8
 clear KKV8
 have c9:V8.cell? ⟨V1.heap.size,0,none⟩=some (zC zD 8):=zJ zW (0)
 have c10:V8.cell? ⟨V4.heap.size,0,none⟩=some (zC zD y.f0):=zJ zY (0)
 have c11:V8.cell? ⟨V4.heap.size,1,none⟩=some (zC zD y.f1):=zJ zY (1)
 have m0:(y.f0 != 2)=false:=by simpa using hk
 clear hk
 have m1:y.f1<0:=hn
 have hL12:=ld_whole (P:=Try.prog) (ty:=29) zV Try.underlying29 rfl (by first|rfl|(rw [size29];rfl)|(rw [size29];have:=zM hl;simp [this])|(rw [size29,zM hl]))
 have c13:V8.cell? ⟨W.heap.size,1,none⟩=some (zC zD used):=zJ zV (1)
 have HR:=zP (rover_calls pc used (wrap64 (used+1)) 4 rs stk V8 hl h1)
 have HX1:=zP (zU zV (zU zW (zU K_o (zU K_a (zU zY (zU zX (HB)))))))
 clear HB zX zY K_a K_o zW zV
 go_enter Try.func38,Try.ntmps38
 go_wp2_with (first|refine wpList_st rfl rfl hSV8 ?_|refine wpList_ld rfl rfl hL12 ?_)
 refine HR.out.mono ?_
 rintro e w9 ⟨rfl,hB9⟩
 obtain ⟨zV,zW,K_o,K_a,zY,zX,HB⟩:=HX1.out
 clear HX1
 replace zV:=zI zV hB9
 replace zW:=zI zW hB9
 replace K_o:=zI K_o hB9
 replace K_a:=zI K_a hB9
 replace zY:=zI zY hB9
 replace zX:=zI zX hB9
 have szw9:V8.heap.size≤w9.heap.size:=hB9.size
 replace HB:=zE HB hB9
 have hz:=zM (pc:=pc) (used:=(wrap64 (used+1))) (stk:=stk) hl
 obtain ⟨V9,hSV9,KKV9,hOV9⟩:=st_arr (cs:=cpuC pc (wrap64 (used+1)) rs stk) size29 K_o (by first|rfl|simp [hz]) (by first|rfl|simp [hz]) (cpuC_one1 _ _ _ h1)
 clear hz
 replace K_o:V9.heap[V2.heap.size]?=some (.cells (cpuC pc (wrap64 (used+1)) rs stk) 29 (0,0)):=KKV9
 replace zV:=hOV9.mid zV (by omega) (B:=0)
 replace zW:=hOV9.mid zW (by omega) (B:=0)
 replace K_a:=hOV9.mid K_a (by omega) (B:=0)
 replace zY:=hOV9.mid zY (by omega) (B:=0)
 replace zX:=hOV9.mid zX (by omega) (B:=0)
 have szV9:w9.heap.size≤V9.heap.size:=hOV9.size
 replace HB:=HB.trans (hOV9.below (by omega) HB.size)
 clear hOV9
 clear KKV9
 obtain ⟨V10,hSV10,KKV10,hOV10⟩:=st_arr (cs:=askC 5 0 0 0 0 0 4) size46 K_a (by first|rfl|simp) rfl (by simp [Value.oneCell'])
 replace K_a:V10.heap[V3.heap.size]?=some (.cells (askC 5 0 0 0 0 0 4) 46 (0,0)):=KKV10
 replace zV:=hOV10.mid zV (by omega) (B:=0)
 replace zW:=hOV10.mid zW (by omega) (B:=0)
 replace K_o:=hOV10.mid K_o (by omega) (B:=0)
 replace zY:=hOV10.mid zY (by omega) (B:=0)
 replace zX:=hOV10.mid zX (by omega) (B:=0)
 have szV10:V9.heap.size≤V10.heap.size:=hOV10.size
 replace HB:=HB.trans (hOV10.below (by omega) HB.size)
 clear hOV10
 clear KKV10
 have HX2:=zP (zU zV (zU zW (zU K_o (zU K_a (zU zY (zU zX (HB)))))))
 clear HB zX zY K_a K_o zW zV
 go_wp2_with (first|refine wpList_st rfl rfl hSV9 ?_|refine wpList_st rfl rfl hSV10 ?_)
 obtain ⟨zV,zW,K_o,K_a,zY,zX,HB⟩:=HX2.out
 exact bodyPost_ret (results_cc rfl _ rfl K_o hu29 rfl (by rw [size29,zM (pc:=pc) (used:=(wrap64 (used+1))) (stk:=stk) hl]) rfl K_a hu46 rfl (by rw [size46];rfl)) rfl ⟨rfl,HB⟩
theorem rmem8_2 (pc used:Int) (rs:List S32) (stk:Value) (o:S97) (W:World) (hl:rs.length=8) (h1:stk.oneCell'=true) (ha0:0≤o.f1) (ha1:o.f1<8) (hb0:0≤o.f2) (hb1:o.f2<8) (vars:Int) (h8:o.f0=8)(hk:(regA rs o.f2).f0=2) (hn:¬ (regA rs o.f2).f1<0) (hv:vars≤(regA rs o.f2).f1) :
  Calls Try.prog 38 #[.agg (cpuC pc used rs stk),.agg #[zC zD o.f0,zC zD o.f1,zC zD o.f2,zC zD o.f3,zC zD o.f4],zC zD vars] W fun x w'=>x=.returned (.tuple #[.agg (cpuC pc (wrap64 (used+1)) rs stk),.agg (askC 5 0 0 0 0 0 4)])∧Below W.heap.size W w':=by
 have hu29:=Try.underlying29
 have hu46:=Try.underlying46
 have hu26:=Try.underlying26
 have hu24:=Try.underlying24
 have hu97:=Try.underlying97
 obtain ⟨a,ha⟩:∃ a:Nat,o.f1=a:=⟨o.f1.toNat,by omega⟩
 have a8:a<8:=by omega
 have xa:rs[a]?=some (regA rs o.f1):=by rw [ha];unfold regA;simp [hl,a8]
 have ra:=cpuC_reg (pc:=pc) (used:=used) (stk:=stk) xa
 obtain ⟨b,hb⟩:∃ b:Nat,o.f2=b:=⟨o.f2.toNat,by omega⟩
 have b8:b<8:=by omega
 have xb:rs[b]?=some (regA rs o.f2):=by rw [hb];unfold regA;simp [hl,b8]
 have rb:=cpuC_reg (pc:=pc) (used:=used) (stk:=stk) xb
 generalize hxa:regA rs o.f1=x at *
 generalize hyb:regA rs o.f2=y at *
 obtain ⟨V1,hV1,KV1,hBV1⟩:=alz W (cpuC pc used rs stk) 29
 have ltV1:W.heap.size<V1.heap.size:=zL KV1
 have zV:=KV1
 have HB:=hBV1
 clear KV1 hBV1
 obtain ⟨V2,hV2,KV2,hBV2⟩:=alz V1 #[zC zD o.f0,zC zD o.f1,zC zD o.f2,zC zD o.f3,zC zD o.f4] 97
 have ltV2:V1.heap.size<V2.heap.size:=zL KV2
 replace zV:=zI zV hBV2
 have zW:=KV2
 replace HB:=zE HB hBV2
 clear KV2 hBV2
 obtain ⟨V3,hV3,KV3,hBV3⟩:=alz0 V2
 have ltV3:V2.heap.size<V3.heap.size:=zL KV3
 replace zV:=zI zV hBV3
 replace zW:=zI zW hBV3
 have K_o:=KV3
 replace HB:=zE HB hBV3
 clear KV3 hBV3
 obtain ⟨V4,hV4,KV4,hBV4⟩:=alz1 V3
 have ltV4:V3.heap.size<V4.heap.size:=zL KV4
 replace zV:=zI zV hBV4
 replace zW:=zI zW hBV4
 replace K_o:=zI K_o hBV4
 have K_a:=KV4
 replace HB:=zE HB hBV4
 clear KV4 hBV4
 rw [ha,hb,h8] at zW hV2
 have c1:V4.cell? ⟨V1.heap.size,2,none⟩=some (zC zD b):=zJ zW (2)
 have c2:V4.cell? ⟨W.heap.size,2+b * 2,none⟩=some (zC zD y.f0):=(zJ zV (2+b * 2)).trans rb.1
 have c3:V4.cell? ⟨W.heap.size,2+b * 2+1,none⟩=some (zC zD y.f1):=(zJ zV (2+b * 2+1)).trans rb.2
 obtain ⟨V5,hV5,KV5,hBV5⟩:=alz3 V4
 have ltV5:V4.heap.size<V5.heap.size:=zL KV5
 replace zV:=zI zV hBV5
 replace zW:=zI zW hBV5
 replace K_o:=zI K_o hBV5
 replace K_a:=zI K_a hBV5
 have zY:=KV5
 replace HB:=zE HB hBV5
 clear KV5 hBV5
 have c4:V5.cell? ⟨V4.heap.size,0,none⟩=some (zC zD 0):=zJ zY (0)
 have c5:V5.cell? ⟨V4.heap.size,1,none⟩=some (zC zD 0):=zJ zY (1)
 have c6:=zK zY (0)
 have c7:=zK zY (1)
 obtain ⟨V6,hV6⟩:∃ V,(V5.setCell ⟨V4.heap.size,0,none⟩ (zC zD y.f0)).setCell ⟨V4.heap.size,1,none⟩ (zC zD y.f1)=V:=⟨_,rfl⟩
 have hOV6:Only V4.heap.size V5 V6:=by rw [← hV6];exact (Only.set _ _ _).trans (Only.set _ _ _)
 replace zY:V6.heap[V4.heap.size]?=some (.cells (#[zC zD y.f0,zC zD y.f1]) 24 (0,0)):=by rw [← hV6];exact (blk_set (blk_set zY _ _) _ _)
 replace zV:=hOV6.mid zV (by omega) (B:=0)
 replace zW:=hOV6.mid zW (by omega) (B:=0)
 replace K_o:=hOV6.mid K_o (by omega) (B:=0)
 replace K_a:=hOV6.mid K_a (by omega) (B:=0)
 have szV6:V5.heap.size≤V6.heap.size:=hOV6.size
 replace HB:=HB.trans (hOV6.below (by omega) HB.size)
 clear hOV6
 have c8:V6.cell? ⟨V1.heap.size,1,none⟩=some (zC zD a):=zJ zW (1)
 obtain ⟨V7,hV7,KV7,hBV7⟩:=alz1 V6
 have ltV7:V6.heap.size<V7.heap.size:=zL KV7
 replace zV:=zI zV hBV7
 replace zW:=zI zW hBV7
 replace K_o:=zI K_o hBV7
 replace K_a:=zI K_a hBV7
 replace zY:=zI zY hBV7
 have zX:=KV7
 replace HB:=zE HB hBV7
 clear KV7 hBV7
 obtain ⟨V8,hSV8,KKV8,hOV8⟩:=st_arr (cs:=askC 1 0 a 0 0 0 0) size46 zX (by first|rfl|simp) rfl (by simp [Value.oneCell'])
 replace zX:V8.heap[V6.heap.size]?=some (.cells (askC 1 0 a 0 0 0 0) 46 (0,0)):=KKV8
 replace zV:=hOV8.mid zV (by omega) (B:=0)
 replace zW:=hOV8.mid zW (by omega) (B:=0)
 replace K_o:=hOV8.mid K_o (by omega) (B:=0)
 replace K_a:=hOV8.mid K_a (by omega) (B:=0)
 replace zY:=hOV8.mid zY (by omega) (B:=0)
 have szV8:V7.heap.size≤V8.heap.size:=hOV8.size
 replace HB:=HB.trans (hOV8.below (by omega) HB.size)
 clear hOV8
 clear KKV8
 have c9:V8.cell? ⟨V1.heap.size,0,none⟩=some (zC zD 8):=zJ zW (0)
 have c10:V8.cell? ⟨V4.heap.size,0,none⟩=some (zC zD y.f0):=zJ zY (0)
 have c11:V8.cell? ⟨V4.heap.size,1,none⟩=some (zC zD y.f1):=zJ zY (1)
 have m0:(y.f0 != 2)=false:=by simpa using hk
 clear hk
 have m1:¬ y.f1<0:=hn
 have m2:vars≤y.f1:=hv
 have hL12:=ld_whole (P:=Try.prog) (ty:=29) zV Try.underlying29 rfl (by first|rfl|(rw [size29];rfl)|(rw [size29];have:=zM hl;simp [this])|(rw [size29,zM hl]))
 have c13:V8.cell? ⟨W.heap.size,1,none⟩=some (zC zD used):=zJ zV (1)
 have HR:=zP (rover_calls pc used (wrap64 (used+1)) 4 rs stk V8 hl h1)
 have HX1:=zP (zU zV (zU zW (zU K_o (zU K_a (zU zY (zU zX (HB)))))))
 clear HB zX zY K_a K_o zW zV
 go_enter Try.func38,Try.ntmps38
 go_wp2_with (first|refine wpList_st rfl rfl hSV8 ?_|refine wpList_ld rfl rfl hL12 ?_)
 refine HR.out.mono ?_
 rintro e w9 ⟨rfl,hB9⟩
 obtain ⟨zV,zW,K_o,K_a,zY,zX,HB⟩:=HX1.out
 clear HX1
 replace zV:=zI zV hB9
 replace zW:=zI zW hB9
 replace K_o:=zI K_o hB9
 replace K_a:=zI K_a hB9
 replace zY:=zI zY hB9
 replace zX:=zI zX hB9
 have szw9:V8.heap.size≤w9.heap.size:=hB9.size
 replace HB:=zE HB hB9
 have hz:=zM (pc:=pc) (used:=(wrap64 (used+1))) (stk:=stk) hl
 obtain ⟨V9,hSV9,KKV9,hOV9⟩:=st_arr (cs:=cpuC pc (wrap64 (used+1)) rs stk) size29 K_o (by first|rfl|simp [hz]) (by first|rfl|simp [hz]) (cpuC_one1 _ _ _ h1)
 clear hz
 replace K_o:V9.heap[V2.heap.size]?=some (.cells (cpuC pc (wrap64 (used+1)) rs stk) 29 (0,0)):=KKV9
 replace zV:=hOV9.mid zV (by omega) (B:=0)
 replace zW:=hOV9.mid zW (by omega) (B:=0)
 replace K_a:=hOV9.mid K_a (by omega) (B:=0)
 replace zY:=hOV9.mid zY (by omega) (B:=0)
 replace zX:=hOV9.mid zX (by omega) (B:=0)
 have szV9:w9.heap.size≤V9.heap.size:=hOV9.size
 replace HB:=HB.trans (hOV9.below (by omega) HB.size)
 clear hOV9
 clear KKV9
 obtain ⟨V10,hSV10,KKV10,hOV10⟩:=st_arr (cs:=askC 5 0 0 0 0 0 4) size46 K_a (by first|rfl|simp) rfl (by simp [Value.oneCell'])
 replace K_a:V10.heap[V3.heap.size]?=some (.cells (askC 5 0 0 0 0 0 4) 46 (0,0)):=KKV10
 replace zV:=hOV10.mid zV (by omega) (B:=0)
 replace zW:=hOV10.mid zW (by omega) (B:=0)
 replace K_o:=hOV10.mid K_o (by omega) (B:=0)
 replace zY:=hOV10.mid zY (by omega) (B:=0)
 replace zX:=hOV10.mid zX (by omega) (B:=0)
 have szV10:V9.heap.size≤V10.heap.size:=hOV10.size
 replace HB:=HB.trans (hOV10.below (by omega) HB.size)
 clear hOV10
 clear KKV10
 have HX2:=zP (zU zV (zU zW (zU K_o (zU K_a (zU zY (zU zX (HB)))))))
 clear HB zX zY K_a K_o zW zV
 go_wp2_with (first|refine wpList_st rfl rfl hSV9 ?_|refine wpList_st rfl rfl hSV10 ?_)
 obtain ⟨zV,zW,K_o,K_a,zY,zX,HB⟩:=HX2.out
 exact bodyPost_ret (results_cc rfl _ rfl K_o hu29 rfl (by rw [size29,zM (pc:=pc) (used:=(wrap64 (used+1))) (stk:=stk) hl]) rfl K_a hu46 rfl (by rw [size46];rfl)) rfl ⟨rfl,HB⟩
theorem rmem8_3 (pc used:Int) (rs:List S32) (stk:Value) (o:S97) (W:World) (hl:rs.length=8) (h1:stk.oneCell'=true) (ha0:0≤o.f1) (ha1:o.f1<8) (hb0:0≤o.f2) (hb1:o.f2<8) (vars:Int) (h8:o.f0=8)(hk:(regA rs o.f2).f0=2) (hn:¬ (regA rs o.f2).f1<0) (hv:¬ vars≤(regA rs o.f2).f1) :
  Calls Try.prog 38 #[.agg (cpuC pc used rs stk),.agg #[zC zD o.f0,zC zD o.f1,zC zD o.f2,zC zD o.f3,zC zD o.f4],zC zD vars] W fun x w'=>x=.returned (.tuple #[.agg (cpuC (wrap64 (pc+1)) (wrap64 (used+1)) rs stk),.agg (askC 1 (regA rs o.f2).f1 o.f1 0 0 0 0)])∧Below W.heap.size W w':=by
 have hu29:=Try.underlying29
 have hu46:=Try.underlying46
 have hu26:=Try.underlying26
 have hu24:=Try.underlying24
 have hu97:=Try.underlying97
 obtain ⟨a,ha⟩:∃ a:Nat,o.f1=a:=⟨o.f1.toNat,by omega⟩
 have a8:a<8:=by omega
 have xa:rs[a]?=some (regA rs o.f1):=by rw [ha];unfold regA;simp [hl,a8]
 have ra:=cpuC_reg (pc:=pc) (used:=used) (stk:=stk) xa
 obtain ⟨b,hb⟩:∃ b:Nat,o.f2=b:=⟨o.f2.toNat,by omega⟩
 have b8:b<8:=by omega
 have xb:rs[b]?=some (regA rs o.f2):=by rw [hb];unfold regA;simp [hl,b8]
 have rb:=cpuC_reg (pc:=pc) (used:=used) (stk:=stk) xb
 generalize hxa:regA rs o.f1=x at *
 generalize hyb:regA rs o.f2=y at *
 obtain ⟨V1,hV1,KV1,hBV1⟩:=alz W (cpuC pc used rs stk) 29
 have ltV1:W.heap.size<V1.heap.size:=zL KV1
 have zV:=KV1
 have HB:=hBV1
 clear KV1 hBV1
 obtain ⟨V2,hV2,KV2,hBV2⟩:=alz V1 #[zC zD o.f0,zC zD o.f1,zC zD o.f2,zC zD o.f3,zC zD o.f4] 97
 have ltV2:V1.heap.size<V2.heap.size:=zL KV2
 replace zV:=zI zV hBV2
 have zW:=KV2
 replace HB:=zE HB hBV2
 clear KV2 hBV2
 obtain ⟨V3,hV3,KV3,hBV3⟩:=alz0 V2
 have ltV3:V2.heap.size<V3.heap.size:=zL KV3
 replace zV:=zI zV hBV3
 replace zW:=zI zW hBV3
 have K_o:=KV3
 replace HB:=zE HB hBV3
 clear KV3 hBV3
 obtain ⟨V4,hV4,KV4,hBV4⟩:=alz1 V3
 have ltV4:V3.heap.size<V4.heap.size:=zL KV4
 replace zV:=zI zV hBV4
 replace zW:=zI zW hBV4
 replace K_o:=zI K_o hBV4
 have K_a:=KV4
 replace HB:=zE HB hBV4
 clear KV4 hBV4
 rw [ha,hb,h8] at zW hV2
 have c1:V4.cell? ⟨V1.heap.size,2,none⟩=some (zC zD b):=zJ zW (2)
 have c2:V4.cell? ⟨W.heap.size,2+b * 2,none⟩=some (zC zD y.f0):=(zJ zV (2+b * 2)).trans rb.1
 have c3:V4.cell? ⟨W.heap.size,2+b * 2+1,none⟩=some (zC zD y.f1):=(zJ zV (2+b * 2+1)).trans rb.2
 obtain ⟨V5,hV5,KV5,hBV5⟩:=alz3 V4
 have ltV5:V4.heap.size<V5.heap.size:=zL KV5
 replace zV:=zI zV hBV5
 replace zW:=zI zW hBV5
 replace K_o:=zI K_o hBV5
 replace K_a:=zI K_a hBV5
 have zY:=KV5
 replace HB:=zE HB hBV5
 clear KV5 hBV5
 have c4:V5.cell? ⟨V4.heap.size,0,none⟩=some (zC zD 0):=zJ zY (0)
 have c5:V5.cell? ⟨V4.heap.size,1,none⟩=some (zC zD 0):=zJ zY (1)
 have c6:=zK zY (0)
 have c7:=zK zY (1)
 obtain ⟨V6,hV6⟩:∃ V,(V5.setCell ⟨V4.heap.size,0,none⟩ (zC zD y.f0)).setCell ⟨V4.heap.size,1,none⟩ (zC zD y.f1)=V:=⟨_,rfl⟩
 have hOV6:Only V4.heap.size V5 V6:=by rw [← hV6];exact (Only.set _ _ _).trans (Only.set _ _ _)
 replace zY:V6.heap[V4.heap.size]?=some (.cells (#[zC zD y.f0,zC zD y.f1]) 24 (0,0)):=by rw [← hV6];exact (blk_set (blk_set zY _ _) _ _)
 replace zV:=hOV6.mid zV (by omega) (B:=0)
 replace zW:=hOV6.mid zW (by omega) (B:=0)
 replace K_o:=hOV6.mid K_o (by omega) (B:=0)
 replace K_a:=hOV6.mid K_a (by omega) (B:=0)
 have szV6:V5.heap.size≤V6.heap.size:=hOV6.size
 replace HB:=HB.trans (hOV6.below (by omega) HB.size)
 clear hOV6
 have c8:V6.cell? ⟨V1.heap.size,1,none⟩=some (zC zD a):=zJ zW (1)
 obtain ⟨V7,hV7,KV7,hBV7⟩:=alz1 V6
 have ltV7:V6.heap.size<V7.heap.size:=zL KV7
 replace zV:=zI zV hBV7
 replace zW:=zI zW hBV7
 replace K_o:=zI K_o hBV7
 replace K_a:=zI K_a hBV7
 replace zY:=zI zY hBV7
 have zX:=KV7
 replace HB:=zE HB hBV7
 clear KV7 hBV7
 obtain ⟨V8,hSV8,KKV8,hOV8⟩:=st_arr (cs:=askC 1 0 a 0 0 0 0) size46 zX (by first|rfl|simp) rfl (by simp [Value.oneCell'])
 replace zX:V8.heap[V6.heap.size]?=some (.cells (askC 1 0 a 0 0 0 0) 46 (0,0)):=KKV8
 replace zV:=hOV8.mid zV (by omega) (B:=0)
 replace zW:=hOV8.mid zW (by omega) (B:=0)
 replace K_o:=hOV8.mid K_o (by omega) (B:=0)
 replace K_a:=hOV8.mid K_a (by omega) (B:=0)
 replace zY:=hOV8.mid zY (by omega) (B:=0)
 have szV8:V7.heap.size≤V8.heap.size:=hOV8.size
 replace HB:=HB.trans (hOV8.below (by omega) HB.size)
 clear hOV8
 clear KKV8
 have c9:V8.cell? ⟨V1.heap.size,0,none⟩=some (zC zD 8):=zJ zW (0)
 have c10:V8.cell? ⟨V4.heap.size,0,none⟩=some (zC zD y.f0):=zJ zY (0)
 have c11:V8.cell? ⟨V4.heap.size,1,none⟩=some (zC zD y.f1):=zJ zY (1)
 rw [ha]
 have m0:(y.f0 != 2)=false:=by simpa using hk
 clear hk
 have m1:¬ y.f1<0:=hn
 have m2:¬ vars≤y.f1:=hv
 have c12:V8.cell? ⟨V6.heap.size,1,none⟩=some (zC zD 0):=zJ zX (1)
 have c13:=zK zX (1)
 obtain ⟨V9,hV9⟩:∃ V,V8.setCell ⟨V6.heap.size,1,none⟩ (zC zD y.f1)=V:=⟨_,rfl⟩
 have hOV9:Only V6.heap.size V8 V9:=by rw [← hV9];exact Only.set _ _ _
 replace zX:V9.heap[V6.heap.size]?=some (.cells (askC 1 y.f1 a 0 0 0 0) 46 (0,0)):=by rw [← hV9];exact (blk_set zX _ _)
 replace zV:=hOV9.mid zV (by omega) (B:=0)
 replace zW:=hOV9.mid zW (by omega) (B:=0)
 replace K_o:=hOV9.mid K_o (by omega) (B:=0)
 replace K_a:=hOV9.mid K_a (by omega) (B:=0)
 replace zY:=hOV9.mid zY (by omega) (B:=0)
 have szV9:V8.heap.size≤V9.heap.size:=hOV9.size
 replace HB:=HB.trans (hOV9.below (by omega) HB.size)
 clear hOV9
 have c14:V9.cell? ⟨W.heap.size,0,none⟩=some (zC zD pc):=zJ zV (0)
 have c15:=zK zV (0)
 obtain ⟨V10,hV10⟩:∃ V,V9.setCell ⟨W.heap.size,0,none⟩ (zC zD (wrap64 (pc+1)))=V:=⟨_,rfl⟩
 have hOV10:Only W.heap.size V9 V10:=by rw [← hV10];exact Only.set _ _ _
 replace zV:V10.heap[W.heap.size]?=some (.cells (cpuC (wrap64 (pc+1)) used rs stk) 29 (0,0)):=by rw [← hV10];exact (blk_set zV _ _)
 replace zW:=hOV10.mid zW (by omega) (B:=0)
 replace K_o:=hOV10.mid K_o (by omega) (B:=0)
 replace K_a:=hOV10.mid K_a (by omega) (B:=0)
 replace zY:=hOV10.mid zY (by omega) (B:=0)
 replace zX:=hOV10.mid zX (by omega) (B:=0)
 have szV10:V9.heap.size≤V10.heap.size:=hOV10.size
 replace HB:=HB.trans (hOV10.below (by omega) HB.size)
 clear hOV10
 have c16:V10.cell? ⟨W.heap.size,1,none⟩=some (zC zD used):=zJ zV (1)
 have c17:=zK zV (1)
 obtain ⟨V11,hV11⟩:∃ V,V10.setCell ⟨W.heap.size,1,none⟩ (zC zD (wrap64 (used+1)))=V:=⟨_,rfl⟩
 have hOV11:Only W.heap.size V10 V11:=by rw [← hV11];exact Only.set _ _ _
 replace zV:V11.heap[W.heap.size]?=some (.cells (cpuC (wrap64 (pc+1)) (wrap64 (used+1)) rs stk) 29 (0,0)):=by rw [← hV11];exact (blk_set zV _ _)
 replace zW:=hOV11.mid zW (by omega) (B:=0)
 replace K_o:=hOV11.mid K_o (by omega) (B:=0)
 replace K_a:=hOV11.mid K_a (by omega) (B:=0)
 replace zY:=hOV11.mid zY (by omega) (B:=0)
 replace zX:=hOV11.mid zX (by omega) (B:=0)
 have szV11:V10.heap.size≤V11.heap.size:=hOV11.size
 replace HB:=HB.trans (hOV11.below (by omega) HB.size)
 clear hOV11
 have HX1:=zP (zU zV (zU zW (zU K_o (zU K_a (zU zY (zU zX (HB)))))))
 clear HB zX zY K_a K_o zW zV
 go_enter Try.func38,Try.ntmps38
 go_wp2_with (refine wpList_st rfl rfl hSV8 ?_)
 obtain ⟨zV,zW,K_o,K_a,zY,zX,HB⟩:=HX1.out
 clear HX1
 have n3:V2.heap.size≠V3.heap.size:=by omega
 obtain ⟨L,hL⟩:∃ L,L=[(V2.heap.size,[Obj.cells #[zC zD 0,zC zD 0,zC zD 0,zC zD 0,zC zD 0,zC zD 0,zC zD 0,zC zD 0,zC zD 0,zC zD 0,zC zD 0,zC zD 0,zC zD 0,zC zD 0,zC zD 0,zC zD 0,zC zD 0,zC zD 0,.slice none 0 0] 29 (0,0),Obj.cells (cpuC (wrap64 (pc+1)) (wrap64 (used+1)) rs stk) 29 (0,0)]),(V3.heap.size,[Obj.cells #[zC zD 0,zC zD 0,zC zD 0,zC zD 0,zC zD 0,zC zD 0,zC zD 0] 46 (0,0),Obj.cells (askC 1 y.f1 a 0 0 0 0) 46 (0,0)])]:=⟨_,rfl⟩
 have m1:(V2.heap.size,[Obj.cells #[zC zD 0,zC zD 0,zC zD 0,zC zD 0,zC zD 0,zC zD 0,zC zD 0,zC zD 0,zC zD 0,zC zD 0,zC zD 0,zC zD 0,zC zD 0,zC zD 0,zC zD 0,zC zD 0,zC zD 0,zC zD 0,.slice none 0 0] 29 (0,0),Obj.cells (cpuC (wrap64 (pc+1)) (wrap64 (used+1)) rs stk) 29 (0,0)])∈L:=by subst hL;simp
 have m2:(V3.heap.size,[Obj.cells #[zC zD 0,zC zD 0,zC zD 0,zC zD 0,zC zD 0,zC zD 0,zC zD 0] 46 (0,0),Obj.cells (askC 1 y.f1 a 0 0 0 0) 46 (0,0)])∈L:=by subst hL;simp
 have u1:∀ p∈L,p.1=V2.heap.size→p=(V2.heap.size,[Obj.cells #[zC zD 0,zC zD 0,zC zD 0,zC zD 0,zC zD 0,zC zD 0,zC zD 0,zC zD 0,zC zD 0,zC zD 0,zC zD 0,zC zD 0,zC zD 0,zC zD 0,zC zD 0,zC zD 0,zC zD 0,zC zD 0,.slice none 0 0] 29 (0,0),Obj.cells (cpuC (wrap64 (pc+1)) (wrap64 (used+1)) rs stk) 29 (0,0)]):=by subst hL;simp;intro h;exact absurd h.symm n3
 have u2:∀ p∈L,p.1=V3.heap.size→p=(V3.heap.size,[Obj.cells #[zC zD 0,zC zD 0,zC zD 0,zC zD 0,zC zD 0,zC zD 0,zC zD 0] 46 (0,0),Obj.cells (askC 1 y.f1 a 0 0 0 0) 46 (0,0)]):=by subst hL;simp;intro h;exact absurd h n3
 have o1:∀ W',Chain L V11 W'→At (V2.heap.size) [Obj.cells #[zC zD 0,zC zD 0,zC zD 0,zC zD 0,zC zD 0,zC zD 0,zC zD 0,zC zD 0,zC zD 0,zC zD 0,zC zD 0,zC zD 0,zC zD 0,zC zD 0,zC zD 0,zC zD 0,zC zD 0,zC zD 0,.slice none 0 0] 29 (0,0),Obj.cells (cpuC (wrap64 (pc+1)) (wrap64 (used+1)) rs stk) 29 (0,0)] 0 W':=fun W' hB=>hB.on _ m1 0 ⟨0,_,Nat.le_refl _,rfl,K_o⟩
 have a1:∀ W',Chain L V11 W'→At (V3.heap.size) [Obj.cells #[zC zD 0,zC zD 0,zC zD 0,zC zD 0,zC zD 0,zC zD 0,zC zD 0] 46 (0,0),Obj.cells (askC 1 y.f1 a 0 0 0 0) 46 (0,0)] 0 W':=fun W' hB=>hB.on _ m2 0 ⟨0,_,Nat.le_refl _,rfl,K_a⟩
 have d1:∀ W',Chain L V11 W'→W'.heap[W.heap.size]?=some (.cells (cpuC (wrap64 (pc+1)) (wrap64 (used+1)) rs stk) 29 (0,0)):=fun W' hB=>hB.mid zV (by subst hL;simp;omega)
 have d2:∀ W',Chain L V11 W'→W'.heap[V6.heap.size]?=some (.cells (askC 1 y.f1 a 0 0 0 0) 46 (0,0)):=fun W' hB=>hB.mid zX (by subst hL;simp;omega)
 apply GR.wp_region_grows (R:=Chain L) (by kernel_rfl) (by kernel_rfl)
 ·
  intro c a d v w h;cases d <;> exact h
 apply GR.gw_val (by rfl)
 ·
  (intro W' hB hD;exact exec_ld rfl (ld_whole (d1 W' hB) hu29 rfl (by rw [size29,zM (pc:=wrap64 (pc+1)) (used:=wrap64 (used+1)) (stk:=stk) hl])))
 simp only [Act.put,zQ,zS,zT]
 apply GR.gw_val (by rfl)
 ·
  (intro W' hB hD;exact exec_ld rfl (ld_whole (d2 W' hB) hu46 rfl (by rw [size46];rfl)))
 simp only [Act.put,zQ,zS,zT]
 apply GR.gw_skp (stable_At m1 1) (by rfl) (by rfl)
 ·
  intro W' hB hD
  obtain ⟨W'',e1,e2,e3⟩:=chain_whole (ty:=29) m1 u1 (o1 W' hB) (by rw [zM (pc:=wrap64 (pc+1)) (used:=wrap64 (used+1)) (stk:=stk) hl];rfl) (by rw [size29,zM (pc:=wrap64 (pc+1)) (used:=wrap64 (used+1)) (stk:=stk) hl]) (cpuC_one1 _ _ _ h1)
  exact ⟨W'',exec_st rfl e1,e2,e3⟩
 rintro v -
 apply GR.gw_skp (stable_At m2 1) (by rfl) (by rfl)
 ·
  intro W' hB hD
  obtain ⟨W'',e1,e2,e3⟩:=chain_whole (ty:=46) m2 u2 (a1 W' hB) (by rfl) (by rw [size46];rfl) (by simp [Value.oneCell'])
  exact ⟨W'',exec_st rfl e1,e2,e3⟩
 rintro v' -
 apply GR.gw_nil
 intro Wa hW hF hP
 simp [List.forall_mem_append] at hF
 subst hL
 have hT:=Two.of_chain hW hF.1 hF.2
 have HE:=zP (zU hT.o (zU hT.a ((HB).trans (show Below W.heap.size _ Wa from ⟨hT.os,hT.tape,hT.output,hT.size,fun k hk=>hT.block k (by omega) (by omega) (by omega)⟩))))
 clear hT hW hF hP o1 a1 m1 m2 u1 u2 d1 d2 zV zW K_o K_a zY zX HB
 go_wp2_with fail
 exact bodyPost_ret (results_cc rfl _ rfl HE.out.1 hu29 rfl (by rw [size29,zM (pc:=wrap64 (pc+1)) (used:=wrap64 (used+1)) (stk:=stk) hl]) rfl HE.out.2.1 hu46 rfl (by rw [size46];rfl)) rfl ⟨rfl,HE.out.2.2⟩
theorem rmem9_0 (pc used:Int) (rs:List S32) (stk:Value) (o:S97) (W:World) (hl:rs.length=8) (h1:stk.oneCell'=true) (ha0:0≤o.f1) (ha1:o.f1<8) (hb0:0≤o.f2) (hb1:o.f2<8) (vars:Int) (h8:o.f0=9)(hk:¬ (regA rs o.f1).f0=2) :
  Calls Try.prog 38 #[.agg (cpuC pc used rs stk),.agg #[zC zD o.f0,zC zD o.f1,zC zD o.f2,zC zD o.f3,zC zD o.f4],zC zD vars] W fun x w'=>x=.returned (.tuple #[.agg (cpuC pc (wrap64 (used+1)) rs stk),.agg (askC 5 0 0 0 0 0 4)])∧Below W.heap.size W w':=by
 have hu29:=Try.underlying29
 have hu46:=Try.underlying46
 have hu26:=Try.underlying26
 have hu24:=Try.underlying24
 have hu97:=Try.underlying97
 obtain ⟨a,ha⟩:∃ a:Nat,o.f1=a:=⟨o.f1.toNat,by omega⟩
 have a8:a<8:=by omega
 have xa:rs[a]?=some (regA rs o.f1):=by rw [ha];unfold regA;simp [hl,a8]
 have ra:=cpuC_reg (pc:=pc) (used:=used) (stk:=stk) xa
 obtain ⟨b,hb⟩:∃ b:Nat,o.f2=b:=⟨o.f2.toNat,by omega⟩
 have b8:b<8:=by omega
 have xb:rs[b]?=some (regA rs o.f2):=by rw [hb];unfold regA;simp [hl,b8]
 have rb:=cpuC_reg (pc:=pc) (used:=used) (stk:=stk) xb
 generalize hxa:regA rs o.f1=x at *
 generalize hyb:regA rs o.f2=y at *
 obtain ⟨V1,hV1,KV1,hBV1⟩:=alz W (cpuC pc used rs stk) 29
 have ltV1:W.heap.size<V1.heap.size:=zL KV1
 have zV:=KV1
 have HB:=hBV1
 clear KV1 hBV1
 obtain ⟨V2,hV2,KV2,hBV2⟩:=alz V1 #[zC zD o.f0,zC zD o.f1,zC zD o.f2,zC zD o.f3,zC zD o.f4] 97
 have ltV2:V1.heap.size<V2.heap.size:=zL KV2
 replace zV:=zI zV hBV2
 have zW:=KV2
 replace HB:=zE HB hBV2
 clear KV2 hBV2
 obtain ⟨V3,hV3,KV3,hBV3⟩:=alz0 V2
 have ltV3:V2.heap.size<V3.heap.size:=zL KV3
 replace zV:=zI zV hBV3
 replace zW:=zI zW hBV3
 have K_o:=KV3
 replace HB:=zE HB hBV3
 clear KV3 hBV3
 obtain ⟨V4,hV4,KV4,hBV4⟩:=alz1 V3
 have ltV4:V3.heap.size<V4.heap.size:=zL KV4
 replace zV:=zI zV hBV4
 replace zW:=zI zW hBV4
 replace K_o:=zI K_o hBV4
 have K_a:=KV4
 replace HB:=zE HB hBV4
 clear KV4 hBV4
 rw [ha,hb,h8] at zW hV2
 have c1:V4.cell? ⟨V1.heap.size,2,none⟩=some (zC zD b):=zJ zW (2)
 have c2:V4.cell? ⟨W.heap.size,2+b * 2,none⟩=some (zC zD y.f0):=(zJ zV (2+b * 2)).trans rb.1
 have c3:V4.cell? ⟨W.heap.size,2+b * 2+1,none⟩=some (zC zD y.f1):=(zJ zV (2+b * 2+1)).trans rb.2
 obtain ⟨V5,hV5,KV5,hBV5⟩:=alz3 V4
 have ltV5:V4.heap.size<V5.heap.size:=zL KV5
 replace zV:=zI zV hBV5
 replace zW:=zI zW hBV5
 replace K_o:=zI K_o hBV5
 replace K_a:=zI K_a hBV5
 have zY:=KV5
 replace HB:=zE HB hBV5
 clear KV5 hBV5
 have c4:V5.cell? ⟨V4.heap.size,0,none⟩=some (zC zD 0):=zJ zY (0)
 have c5:V5.cell? ⟨V4.heap.size,1,none⟩=some (zC zD 0):=zJ zY (1)
 have c6:=zK zY (0)
 have c7:=zK zY (1)
 obtain ⟨V6,hV6⟩:∃ V,(V5.setCell ⟨V4.heap.size,0,none⟩ (zC zD y.f0)).setCell ⟨V4.heap.size,1,none⟩ (zC zD y.f1)=V:=⟨_,rfl⟩
 have hOV6:Only V4.heap.size V5 V6:=by rw [← hV6];exact (Only.set _ _ _).trans (Only.set _ _ _)
 replace zY:V6.heap[V4.heap.size]?=some (.cells (#[zC zD y.f0,zC zD y.f1]) 24 (0,0)):=by rw [← hV6];exact (blk_set (blk_set zY _ _) _ _)
 replace zV:=hOV6.mid zV (by omega) (B:=0)
 replace zW:=hOV6.mid zW (by omega) (B:=0)
 replace K_o:=hOV6.mid K_o (by omega) (B:=0)
 replace K_a:=hOV6.mid K_a (by omega) (B:=0)
 have szV6:V5.heap.size≤V6.heap.size:=hOV6.size
 replace HB:=HB.trans (hOV6.below (by omega) HB.size)
 clear hOV6
 have c8:V6.cell? ⟨V1.heap.size,1,none⟩=some (zC zD a):=zJ zW (1)
 obtain ⟨V7,hV7,KV7,hBV7⟩:=alz1 V6
 have ltV7:V6.heap.size<V7.heap.size:=zL KV7
 replace zV:=zI zV hBV7
 replace zW:=zI zW hBV7
 replace K_o:=zI K_o hBV7
 replace K_a:=zI K_a hBV7
 replace zY:=zI zY hBV7
 have zX:=KV7
 replace HB:=zE HB hBV7
 clear KV7 hBV7
 obtain ⟨V8,hSV8,KKV8,hOV8⟩:=st_arr (cs:=askC 1 0 a 0 0 0 0) size46 zX (by first|rfl|simp) rfl (by simp [Value.oneCell'])
 replace zX:V8.heap[V6.heap.size]?=some (.cells (askC 1 0 a 0 0 0 0) 46 (0,0)):=KKV8
 replace zV:=hOV8.mid zV (by omega) (B:=0)
 replace zW:=hOV8.mid zW (by omega) (B:=0)
 replace K_o:=hOV8.mid K_o (by omega) (B:=0)
 replace K_a:=hOV8.mid K_a (by omega) (B:=0)
 replace zY:=hOV8.mid zY (by omega) (B:=0)
 have szV8:V7.heap.size≤V8.heap.size:=hOV8.size
 replace HB:=HB.trans (hOV8.below (by omega) HB.size)
 clear hOV8
 clear KKV8
 have c9:V8.cell? ⟨V1.heap.size,0,none⟩=some (zC zD 9):=zJ zW (0)
 have c10:V8.cell? ⟨V1.heap.size,1,none⟩=some (zC zD a):=zJ zW (1)
 have c11:V8.cell? ⟨W.heap.size,2+a * 2,none⟩=some (zC zD x.f0):=(zJ zV (2+a * 2)).trans ra.1
 have c12:V8.cell? ⟨W.heap.size,2+a * 2+1,none⟩=some (zC zD x.f1):=(zJ zV (2+a * 2+1)).trans ra.2
 have c13:V8.cell? ⟨V4.heap.size,0,none⟩=some (zC zD y.f0):=zJ zY (0)
 have c14:V8.cell? ⟨V4.heap.size,1,none⟩=some (zC zD y.f1):=zJ zY (1)
 have c15:=zK zY (0)
 have c16:=zK zY (1)
 obtain ⟨V9,hV9⟩:∃ V,(V8.setCell ⟨V4.heap.size,0,none⟩ (zC zD x.f0)).setCell ⟨V4.heap.size,1,none⟩ (zC zD x.f1)=V:=⟨_,rfl⟩
 have hOV9:Only V4.heap.size V8 V9:=by rw [← hV9];exact (Only.set _ _ _).trans (Only.set _ _ _)
 replace zY:V9.heap[V4.heap.size]?=some (.cells (#[zC zD x.f0,zC zD x.f1]) 24 (0,0)):=by rw [← hV9];exact (blk_set (blk_set zY _ _) _ _)
 replace zV:=hOV9.mid zV (by omega) (B:=0)
 replace zW:=hOV9.mid zW (by omega) (B:=0)
 replace K_o:=hOV9.mid K_o (by omega) (B:=0)
 replace K_a:=hOV9.mid K_a (by omega) (B:=0)
 replace zX:=hOV9.mid zX (by omega) (B:=0)
 have szV9:V8.heap.size≤V9.heap.size:=hOV9.size
 replace HB:=HB.trans (hOV9.below (by omega) HB.size)
 clear hOV9
 have c17:V9.cell? ⟨V1.heap.size,2,none⟩=some (zC zD b):=zJ zW (2)
 have c18:V9.cell? ⟨W.heap.size,2+b * 2,none⟩=some (zC zD y.f0):=(zJ zV (2+b * 2)).trans rb.1
 have c19:V9.cell? ⟨W.heap.size,2+b * 2+1,none⟩=some (zC zD y.f1):=(zJ zV (2+b * 2+1)).trans rb.2
 obtain ⟨V10,hSV10,KKV10,hOV10⟩:=st_arr (cs:=askC 2 0 0 0 y.f0 y.f1 0) size46 zX (by first|rfl|simp) rfl (by simp [Value.oneCell'])
 replace zX:V10.heap[V6.heap.size]?=some (.cells (askC 2 0 0 0 y.f0 y.f1 0) 46 (0,0)):=KKV10
 replace zV:=hOV10.mid zV (by omega) (B:=0)
 replace zW:=hOV10.mid zW (by omega) (B:=0)
 replace K_o:=hOV10.mid K_o (by omega) (B:=0)
 replace K_a:=hOV10.mid K_a (by omega) (B:=0)
 replace zY:=hOV10.mid zY (by omega) (B:=0)
 have szV10:V9.heap.size≤V10.heap.size:=hOV10.size
 replace HB:=HB.trans (hOV10.below (by omega) HB.size)
 clear hOV10
 clear KKV10
 have c20:V10.cell? ⟨V4.heap.size,0,none⟩=some (zC zD x.f0):=zJ zY (0)
 have c21:V10.cell? ⟨V4.heap.size,1,none⟩=some (zC zD x.f1):=zJ zY (1)
 have m0:(x.f0 != 2)=true:=by simpa using hk
 clear hk
 have hL22:=ld_whole (P:=Try.prog) (ty:=29) zV Try.underlying29 rfl (by first|rfl|(rw [size29];rfl)|(rw [size29];have:=zM hl;simp [this])|(rw [size29,zM hl]))
 have c23:V10.cell? ⟨W.heap.size,1,none⟩=some (zC zD used):=zJ zV (1)
 have HR:=zP (rover_calls pc used (wrap64 (used+1)) 4 rs stk V10 hl h1)
 have HX1:=zP (zU zV (zU zW (zU K_o (zU K_a (zU zY (zU zX (HB)))))))
 clear HB zX zY K_a K_o zW zV
 go_enter Try.func38,Try.ntmps38
 go_wp2_with (first|refine wpList_st rfl rfl hSV8 ?_|refine wpList_st rfl rfl hSV10 ?_|refine wpList_ld rfl rfl hL22 ?_)
 refine HR.out.mono ?_
 rintro e w9 ⟨rfl,hB9⟩
 obtain ⟨zV,zW,K_o,K_a,zY,zX,HB⟩:=HX1.out
 clear HX1
 replace zV:=zI zV hB9
 replace zW:=zI zW hB9
 replace K_o:=zI K_o hB9
 replace K_a:=zI K_a hB9
 replace zY:=zI zY hB9
 replace zX:=zI zX hB9
 have szw9:V10.heap.size≤w9.heap.size:=hB9.size
 replace HB:=zE HB hB9
 have hz:=zM (pc:=pc) (used:=(wrap64 (used+1))) (stk:=stk) hl
 obtain ⟨V11,hSV11,KKV11,hOV11⟩:=st_arr (cs:=cpuC pc (wrap64 (used+1)) rs stk) size29 K_o (by first|rfl|simp [hz]) (by first|rfl|simp [hz]) (cpuC_one1 _ _ _ h1)
 clear hz
 replace K_o:V11.heap[V2.heap.size]?=some (.cells (cpuC pc (wrap64 (used+1)) rs stk) 29 (0,0)):=KKV11
 replace zV:=hOV11.mid zV (by omega) (B:=0)
 replace zW:=hOV11.mid zW (by omega) (B:=0)
 replace K_a:=hOV11.mid K_a (by omega) (B:=0)
 replace zY:=hOV11.mid zY (by omega) (B:=0)
 replace zX:=hOV11.mid zX (by omega) (B:=0)
 have szV11:w9.heap.size≤V11.heap.size:=hOV11.size
 replace HB:=HB.trans (hOV11.below (by omega) HB.size)
 clear hOV11
 clear KKV11
 obtain ⟨V12,hSV12,KKV12,hOV12⟩:=st_arr (cs:=askC 5 0 0 0 0 0 4) size46 K_a (by first|rfl|simp) rfl (by simp [Value.oneCell'])
 replace K_a:V12.heap[V3.heap.size]?=some (.cells (askC 5 0 0 0 0 0 4) 46 (0,0)):=KKV12
 replace zV:=hOV12.mid zV (by omega) (B:=0)
 replace zW:=hOV12.mid zW (by omega) (B:=0)
 replace K_o:=hOV12.mid K_o (by omega) (B:=0)
 replace zY:=hOV12.mid zY (by omega) (B:=0)
 replace zX:=hOV12.mid zX (by omega) (B:=0)
 have szV12:V11.heap.size≤V12.heap.size:=hOV12.size
 replace HB:=HB.trans (hOV12.below (by omega) HB.size)
 clear hOV12
 clear KKV12
 have HX2:=zP (zU zV (zU zW (zU K_o (zU K_a (zU zY (zU zX (HB)))))))
 clear HB zX zY K_a K_o zW zV
 go_wp2_with (first|refine wpList_st rfl rfl hSV11 ?_|refine wpList_st rfl rfl hSV12 ?_)
 obtain ⟨zV,zW,K_o,K_a,zY,zX,HB⟩:=HX2.out
 exact bodyPost_ret (results_cc rfl _ rfl K_o hu29 rfl (by rw [size29,zM (pc:=pc) (used:=(wrap64 (used+1))) (stk:=stk) hl]) rfl K_a hu46 rfl (by rw [size46];rfl)) rfl ⟨rfl,HB⟩
theorem rmem9_1 (pc used:Int) (rs:List S32) (stk:Value) (o:S97) (W:World) (hl:rs.length=8) (h1:stk.oneCell'=true) (ha0:0≤o.f1) (ha1:o.f1<8) (hb0:0≤o.f2) (hb1:o.f2<8) (vars:Int) (h8:o.f0=9)(hk:(regA rs o.f1).f0=2) (hn:(regA rs o.f1).f1<0) :
  Calls Try.prog 38 #[.agg (cpuC pc used rs stk),.agg #[zC zD o.f0,zC zD o.f1,zC zD o.f2,zC zD o.f3,zC zD o.f4],zC zD vars] W fun x w'=>x=.returned (.tuple #[.agg (cpuC pc (wrap64 (used+1)) rs stk),.agg (askC 5 0 0 0 0 0 4)])∧Below W.heap.size W w':=by
 have hu29:=Try.underlying29
 have hu46:=Try.underlying46
 have hu26:=Try.underlying26
 have hu24:=Try.underlying24
 have hu97:=Try.underlying97
 obtain ⟨a,ha⟩:∃ a:Nat,o.f1=a:=⟨o.f1.toNat,by omega⟩
 have a8:a<8:=by omega
 have xa:rs[a]?=some (regA rs o.f1):=by rw [ha];unfold regA;simp [hl,a8]
 have ra:=cpuC_reg (pc:=pc) (used:=used) (stk:=stk) xa
 obtain ⟨b,hb⟩:∃ b:Nat,o.f2=b:=⟨o.f2.toNat,by omega⟩
 have b8:b<8:=by omega
 have xb:rs[b]?=some (regA rs o.f2):=by rw [hb];unfold regA;simp [hl,b8]
 have rb:=cpuC_reg (pc:=pc) (used:=used) (stk:=stk) xb
 generalize hxa:regA rs o.f1=x at *
 generalize hyb:regA rs o.f2=y at *
 obtain ⟨V1,hV1,KV1,hBV1⟩:=alz W (cpuC pc used rs stk) 29
 have ltV1:W.heap.size<V1.heap.size:=zL KV1
 have zV:=KV1
 have HB:=hBV1
 clear KV1 hBV1
 obtain ⟨V2,hV2,KV2,hBV2⟩:=alz V1 #[zC zD o.f0,zC zD o.f1,zC zD o.f2,zC zD o.f3,zC zD o.f4] 97
 have ltV2:V1.heap.size<V2.heap.size:=zL KV2
 replace zV:=zI zV hBV2
 have zW:=KV2
 replace HB:=zE HB hBV2
 clear KV2 hBV2
 obtain ⟨V3,hV3,KV3,hBV3⟩:=alz0 V2
 have ltV3:V2.heap.size<V3.heap.size:=zL KV3
 replace zV:=zI zV hBV3
 replace zW:=zI zW hBV3
 have K_o:=KV3
 replace HB:=zE HB hBV3
 clear KV3 hBV3
 obtain ⟨V4,hV4,KV4,hBV4⟩:=alz1 V3
 have ltV4:V3.heap.size<V4.heap.size:=zL KV4
 replace zV:=zI zV hBV4
 replace zW:=zI zW hBV4
 replace K_o:=zI K_o hBV4
 have K_a:=KV4
 replace HB:=zE HB hBV4
 clear KV4 hBV4
 rw [ha,hb,h8] at zW hV2
 have c1:V4.cell? ⟨V1.heap.size,2,none⟩=some (zC zD b):=zJ zW (2)
 have c2:V4.cell? ⟨W.heap.size,2+b * 2,none⟩=some (zC zD y.f0):=(zJ zV (2+b * 2)).trans rb.1
 have c3:V4.cell? ⟨W.heap.size,2+b * 2+1,none⟩=some (zC zD y.f1):=(zJ zV (2+b * 2+1)).trans rb.2
 obtain ⟨V5,hV5,KV5,hBV5⟩:=alz3 V4
 have ltV5:V4.heap.size<V5.heap.size:=zL KV5
 replace zV:=zI zV hBV5
 replace zW:=zI zW hBV5
 replace K_o:=zI K_o hBV5
 replace K_a:=zI K_a hBV5
 have zY:=KV5
 replace HB:=zE HB hBV5
 clear KV5 hBV5
 have c4:V5.cell? ⟨V4.heap.size,0,none⟩=some (zC zD 0):=zJ zY (0)
 have c5:V5.cell? ⟨V4.heap.size,1,none⟩=some (zC zD 0):=zJ zY (1)
 have c6:=zK zY (0)
 have c7:=zK zY (1)
 obtain ⟨V6,hV6⟩:∃ V,(V5.setCell ⟨V4.heap.size,0,none⟩ (zC zD y.f0)).setCell ⟨V4.heap.size,1,none⟩ (zC zD y.f1)=V:=⟨_,rfl⟩
 have hOV6:Only V4.heap.size V5 V6:=by rw [← hV6];exact (Only.set _ _ _).trans (Only.set _ _ _)
 replace zY:V6.heap[V4.heap.size]?=some (.cells (#[zC zD y.f0,zC zD y.f1]) 24 (0,0)):=by rw [← hV6];exact (blk_set (blk_set zY _ _) _ _)
 replace zV:=hOV6.mid zV (by omega) (B:=0)
 replace zW:=hOV6.mid zW (by omega) (B:=0)
 replace K_o:=hOV6.mid K_o (by omega) (B:=0)
 replace K_a:=hOV6.mid K_a (by omega) (B:=0)
 have szV6:V5.heap.size≤V6.heap.size:=hOV6.size
 replace HB:=HB.trans (hOV6.below (by omega) HB.size)
 clear hOV6
 have c8:V6.cell? ⟨V1.heap.size,1,none⟩=some (zC zD a):=zJ zW (1)
 obtain ⟨V7,hV7,KV7,hBV7⟩:=alz1 V6
 have ltV7:V6.heap.size<V7.heap.size:=zL KV7
 replace zV:=zI zV hBV7
 replace zW:=zI zW hBV7
 replace K_o:=zI K_o hBV7
 replace K_a:=zI K_a hBV7
 replace zY:=zI zY hBV7
 have zX:=KV7
 replace HB:=zE HB hBV7
 clear KV7 hBV7
 obtain ⟨V8,hSV8,KKV8,hOV8⟩:=st_arr (cs:=askC 1 0 a 0 0 0 0) size46 zX (by first|rfl|simp) rfl (by simp [Value.oneCell'])
 replace zX:V8.heap[V6.heap.size]?=some (.cells (askC 1 0 a 0 0 0 0) 46 (0,0)):=KKV8
 replace zV:=hOV8.mid zV (by omega) (B:=0)
 replace zW:=hOV8.mid zW (by omega) (B:=0)
 replace K_o:=hOV8.mid K_o (by omega) (B:=0)
 replace K_a:=hOV8.mid K_a (by omega) (B:=0)
 replace zY:=hOV8.mid zY (by omega) (B:=0)
 have szV8:V7.heap.size≤V8.heap.size:=hOV8.size
 replace HB:=HB.trans (hOV8.below (by omega) HB.size)
 clear hOV8
 clear KKV8
 have c9:V8.cell? ⟨V1.heap.size,0,none⟩=some (zC zD 9):=zJ zW (0)
 have c10:V8.cell? ⟨V1.heap.size,1,none⟩=some (zC zD a):=zJ zW (1)
 have c11:V8.cell? ⟨W.heap.size,2+a * 2,none⟩=some (zC zD x.f0):=(zJ zV (2+a * 2)).trans ra.1
 have c12:V8.cell? ⟨W.heap.size,2+a * 2+1,none⟩=some (zC zD x.f1):=(zJ zV (2+a * 2+1)).trans ra.2
 have c13:V8.cell? ⟨V4.heap.size,0,none⟩=some (zC zD y.f0):=zJ zY (0)
 have c14:V8.cell? ⟨V4.heap.size,1,none⟩=some (zC zD y.f1):=zJ zY (1)
 have c15:=zK zY (0)
 have c16:=zK zY (1)
 obtain ⟨V9,hV9⟩:∃ V,(V8.setCell ⟨V4.heap.size,0,none⟩ (zC zD x.f0)).setCell ⟨V4.heap.size,1,none⟩ (zC zD x.f1)=V:=⟨_,rfl⟩
 have hOV9:Only V4.heap.size V8 V9:=by rw [← hV9];exact (Only.set _ _ _).trans (Only.set _ _ _)
 replace zY:V9.heap[V4.heap.size]?=some (.cells (#[zC zD x.f0,zC zD x.f1]) 24 (0,0)):=by rw [← hV9];exact (blk_set (blk_set zY _ _) _ _)
 replace zV:=hOV9.mid zV (by omega) (B:=0)
 replace zW:=hOV9.mid zW (by omega) (B:=0)
 replace K_o:=hOV9.mid K_o (by omega) (B:=0)
 replace K_a:=hOV9.mid K_a (by omega) (B:=0)
 replace zX:=hOV9.mid zX (by omega) (B:=0)
 have szV9:V8.heap.size≤V9.heap.size:=hOV9.size
 replace HB:=HB.trans (hOV9.below (by omega) HB.size)
 clear hOV9
 have c17:V9.cell? ⟨V1.heap.size,2,none⟩=some (zC zD b):=zJ zW (2)
 have c18:V9.cell? ⟨W.heap.size,2+b * 2,none⟩=some (zC zD y.f0):=(zJ zV (2+b * 2)).trans rb.1
 have c19:V9.cell? ⟨W.heap.size,2+b * 2+1,none⟩=some (zC zD y.f1):=(zJ zV (2+b * 2+1)).trans rb.2
 obtain ⟨V10,hSV10,KKV10,hOV10⟩:=st_arr (cs:=askC 2 0 0 0 y.f0 y.f1 0) size46 zX (by first|rfl|simp) rfl (by simp [Value.oneCell'])
 replace zX:V10.heap[V6.heap.size]?=some (.cells (askC 2 0 0 0 y.f0 y.f1 0) 46 (0,0)):=KKV10
 replace zV:=hOV10.mid zV (by omega) (B:=0)
 replace zW:=hOV10.mid zW (by omega) (B:=0)
 replace K_o:=hOV10.mid K_o (by omega) (B:=0)
 replace K_a:=hOV10.mid K_a (by omega) (B:=0)
 replace zY:=hOV10.mid zY (by omega) (B:=0)
 have szV10:V9.heap.size≤V10.heap.size:=hOV10.size
 replace HB:=HB.trans (hOV10.below (by omega) HB.size)
 clear hOV10
 clear KKV10
 have c20:V10.cell? ⟨V4.heap.size,0,none⟩=some (zC zD x.f0):=zJ zY (0)
 have c21:V10.cell? ⟨V4.heap.size,1,none⟩=some (zC zD x.f1):=zJ zY (1)
 have m0:(x.f0 != 2)=false:=by simpa using hk
 clear hk
 have m1:x.f1<0:=hn
 have hL22:=ld_whole (P:=Try.prog) (ty:=29) zV Try.underlying29 rfl (by first|rfl|(rw [size29];rfl)|(rw [size29];have:=zM hl;simp [this])|(rw [size29,zM hl]))
 have c23:V10.cell? ⟨W.heap.size,1,none⟩=some (zC zD used):=zJ zV (1)
 have HR:=zP (rover_calls pc used (wrap64 (used+1)) 4 rs stk V10 hl h1)
 have HX1:=zP (zU zV (zU zW (zU K_o (zU K_a (zU zY (zU zX (HB)))))))
 clear HB zX zY K_a K_o zW zV
 go_enter Try.func38,Try.ntmps38
 go_wp2_with (first|refine wpList_st rfl rfl hSV8 ?_|refine wpList_st rfl rfl hSV10 ?_|refine wpList_ld rfl rfl hL22 ?_)
 refine HR.out.mono ?_
 rintro e w9 ⟨rfl,hB9⟩
 obtain ⟨zV,zW,K_o,K_a,zY,zX,HB⟩:=HX1.out
 clear HX1
 replace zV:=zI zV hB9
 replace zW:=zI zW hB9
 replace K_o:=zI K_o hB9
 replace K_a:=zI K_a hB9
 replace zY:=zI zY hB9
 replace zX:=zI zX hB9
 have szw9:V10.heap.size≤w9.heap.size:=hB9.size
 replace HB:=zE HB hB9
 have hz:=zM (pc:=pc) (used:=(wrap64 (used+1))) (stk:=stk) hl
 obtain ⟨V11,hSV11,KKV11,hOV11⟩:=st_arr (cs:=cpuC pc (wrap64 (used+1)) rs stk) size29 K_o (by first|rfl|simp [hz]) (by first|rfl|simp [hz]) (cpuC_one1 _ _ _ h1)
 clear hz
 replace K_o:V11.heap[V2.heap.size]?=some (.cells (cpuC pc (wrap64 (used+1)) rs stk) 29 (0,0)):=KKV11
 replace zV:=hOV11.mid zV (by omega) (B:=0)
 replace zW:=hOV11.mid zW (by omega) (B:=0)
 replace K_a:=hOV11.mid K_a (by omega) (B:=0)
 replace zY:=hOV11.mid zY (by omega) (B:=0)
 replace zX:=hOV11.mid zX (by omega) (B:=0)
 have szV11:w9.heap.size≤V11.heap.size:=hOV11.size
 replace HB:=HB.trans (hOV11.below (by omega) HB.size)
 clear hOV11
 clear KKV11
 obtain ⟨V12,hSV12,KKV12,hOV12⟩:=st_arr (cs:=askC 5 0 0 0 0 0 4) size46 K_a (by first|rfl|simp) rfl (by simp [Value.oneCell'])
 replace K_a:V12.heap[V3.heap.size]?=some (.cells (askC 5 0 0 0 0 0 4) 46 (0,0)):=KKV12
 replace zV:=hOV12.mid zV (by omega) (B:=0)
 replace zW:=hOV12.mid zW (by omega) (B:=0)
 replace K_o:=hOV12.mid K_o (by omega) (B:=0)
 replace zY:=hOV12.mid zY (by omega) (B:=0)
 replace zX:=hOV12.mid zX (by omega) (B:=0)
 have szV12:V11.heap.size≤V12.heap.size:=hOV12.size
 replace HB:=HB.trans (hOV12.below (by omega) HB.size)
 clear hOV12
 clear KKV12
 have HX2:=zP (zU zV (zU zW (zU K_o (zU K_a (zU zY (zU zX (HB)))))))
 clear HB zX zY K_a K_o zW zV
 go_wp2_with (first|refine wpList_st rfl rfl hSV11 ?_|refine wpList_st rfl rfl hSV12 ?_)
 obtain ⟨zV,zW,K_o,K_a,zY,zX,HB⟩:=HX2.out
 exact bodyPost_ret (results_cc rfl _ rfl K_o hu29 rfl (by rw [size29,zM (pc:=pc) (used:=(wrap64 (used+1))) (stk:=stk) hl]) rfl K_a hu46 rfl (by rw [size46];rfl)) rfl ⟨rfl,HB⟩
theorem rmem9_2 (pc used:Int) (rs:List S32) (stk:Value) (o:S97) (W:World) (hl:rs.length=8) (h1:stk.oneCell'=true) (ha0:0≤o.f1) (ha1:o.f1<8) (hb0:0≤o.f2) (hb1:o.f2<8) (vars:Int) (h8:o.f0=9)(hk:(regA rs o.f1).f0=2) (hn:¬ (regA rs o.f1).f1<0) (hv:vars≤(regA rs o.f1).f1) :
  Calls Try.prog 38 #[.agg (cpuC pc used rs stk),.agg #[zC zD o.f0,zC zD o.f1,zC zD o.f2,zC zD o.f3,zC zD o.f4],zC zD vars] W fun x w'=>x=.returned (.tuple #[.agg (cpuC pc (wrap64 (used+1)) rs stk),.agg (askC 5 0 0 0 0 0 4)])∧Below W.heap.size W w':=by
 have hu29:=Try.underlying29
 have hu46:=Try.underlying46
 have hu26:=Try.underlying26
 have hu24:=Try.underlying24
 have hu97:=Try.underlying97
 obtain ⟨a,ha⟩:∃ a:Nat,o.f1=a:=⟨o.f1.toNat,by omega⟩
 have a8:a<8:=by omega
 have xa:rs[a]?=some (regA rs o.f1):=by rw [ha];unfold regA;simp [hl,a8]
 have ra:=cpuC_reg (pc:=pc) (used:=used) (stk:=stk) xa
 obtain ⟨b,hb⟩:∃ b:Nat,o.f2=b:=⟨o.f2.toNat,by omega⟩
 have b8:b<8:=by omega
 have xb:rs[b]?=some (regA rs o.f2):=by rw [hb];unfold regA;simp [hl,b8]
 have rb:=cpuC_reg (pc:=pc) (used:=used) (stk:=stk) xb
 generalize hxa:regA rs o.f1=x at *
 generalize hyb:regA rs o.f2=y at *
 obtain ⟨V1,hV1,KV1,hBV1⟩:=alz W (cpuC pc used rs stk) 29
 have ltV1:W.heap.size<V1.heap.size:=zL KV1
 have zV:=KV1
 have HB:=hBV1
 clear KV1 hBV1
 obtain ⟨V2,hV2,KV2,hBV2⟩:=alz V1 #[zC zD o.f0,zC zD o.f1,zC zD o.f2,zC zD o.f3,zC zD o.f4] 97
 have ltV2:V1.heap.size<V2.heap.size:=zL KV2
 replace zV:=zI zV hBV2
 have zW:=KV2
 replace HB:=zE HB hBV2
 clear KV2 hBV2
 obtain ⟨V3,hV3,KV3,hBV3⟩:=alz0 V2
 have ltV3:V2.heap.size<V3.heap.size:=zL KV3
 replace zV:=zI zV hBV3
 replace zW:=zI zW hBV3
 have K_o:=KV3
 replace HB:=zE HB hBV3
 clear KV3 hBV3
 obtain ⟨V4,hV4,KV4,hBV4⟩:=alz1 V3
 have ltV4:V3.heap.size<V4.heap.size:=zL KV4
 replace zV:=zI zV hBV4
 replace zW:=zI zW hBV4
 replace K_o:=zI K_o hBV4
 have K_a:=KV4
 replace HB:=zE HB hBV4
 clear KV4 hBV4
 rw [ha,hb,h8] at zW hV2
 have c1:V4.cell? ⟨V1.heap.size,2,none⟩=some (zC zD b):=zJ zW (2)
 have c2:V4.cell? ⟨W.heap.size,2+b * 2,none⟩=some (zC zD y.f0):=(zJ zV (2+b * 2)).trans rb.1
 have c3:V4.cell? ⟨W.heap.size,2+b * 2+1,none⟩=some (zC zD y.f1):=(zJ zV (2+b * 2+1)).trans rb.2
 obtain ⟨V5,hV5,KV5,hBV5⟩:=alz3 V4
 have ltV5:V4.heap.size<V5.heap.size:=zL KV5
 replace zV:=zI zV hBV5
 replace zW:=zI zW hBV5
 replace K_o:=zI K_o hBV5
 replace K_a:=zI K_a hBV5
 have zY:=KV5
 replace HB:=zE HB hBV5
 clear KV5 hBV5
 have c4:V5.cell? ⟨V4.heap.size,0,none⟩=some (zC zD 0):=zJ zY (0)
 have c5:V5.cell? ⟨V4.heap.size,1,none⟩=some (zC zD 0):=zJ zY (1)
 have c6:=zK zY (0)
 have c7:=zK zY (1)
 obtain ⟨V6,hV6⟩:∃ V,(V5.setCell ⟨V4.heap.size,0,none⟩ (zC zD y.f0)).setCell ⟨V4.heap.size,1,none⟩ (zC zD y.f1)=V:=⟨_,rfl⟩
 have hOV6:Only V4.heap.size V5 V6:=by rw [← hV6];exact (Only.set _ _ _).trans (Only.set _ _ _)
 replace zY:V6.heap[V4.heap.size]?=some (.cells (#[zC zD y.f0,zC zD y.f1]) 24 (0,0)):=by rw [← hV6];exact (blk_set (blk_set zY _ _) _ _)
 replace zV:=hOV6.mid zV (by omega) (B:=0)
 replace zW:=hOV6.mid zW (by omega) (B:=0)
 replace K_o:=hOV6.mid K_o (by omega) (B:=0)
 replace K_a:=hOV6.mid K_a (by omega) (B:=0)
 have szV6:V5.heap.size≤V6.heap.size:=hOV6.size
 replace HB:=HB.trans (hOV6.below (by omega) HB.size)
 clear hOV6
 have c8:V6.cell? ⟨V1.heap.size,1,none⟩=some (zC zD a):=zJ zW (1)
 obtain ⟨V7,hV7,KV7,hBV7⟩:=alz1 V6
 have ltV7:V6.heap.size<V7.heap.size:=zL KV7
 replace zV:=zI zV hBV7
 replace zW:=zI zW hBV7
 replace K_o:=zI K_o hBV7
 replace K_a:=zI K_a hBV7
 replace zY:=zI zY hBV7
 have zX:=KV7
 replace HB:=zE HB hBV7
 clear KV7 hBV7
 obtain ⟨V8,hSV8,KKV8,hOV8⟩:=st_arr (cs:=askC 1 0 a 0 0 0 0) size46 zX (by first|rfl|simp) rfl (by simp [Value.oneCell'])
 replace zX:V8.heap[V6.heap.size]?=some (.cells (askC 1 0 a 0 0 0 0) 46 (0,0)):=KKV8
 replace zV:=hOV8.mid zV (by omega) (B:=0)
 replace zW:=hOV8.mid zW (by omega) (B:=0)
 replace K_o:=hOV8.mid K_o (by omega) (B:=0)
 replace K_a:=hOV8.mid K_a (by omega) (B:=0)
 replace zY:=hOV8.mid zY (by omega) (B:=0)
 have szV8:V7.heap.size≤V8.heap.size:=hOV8.size
 replace HB:=HB.trans (hOV8.below (by omega) HB.size)
 clear hOV8
 clear KKV8
 have c9:V8.cell? ⟨V1.heap.size,0,none⟩=some (zC zD 9):=zJ zW (0)
 have c10:V8.cell? ⟨V1.heap.size,1,none⟩=some (zC zD a):=zJ zW (1)
 have c11:V8.cell? ⟨W.heap.size,2+a * 2,none⟩=some (zC zD x.f0):=(zJ zV (2+a * 2)).trans ra.1
 have c12:V8.cell? ⟨W.heap.size,2+a * 2+1,none⟩=some (zC zD x.f1):=(zJ zV (2+a * 2+1)).trans ra.2
 have c13:V8.cell? ⟨V4.heap.size,0,none⟩=some (zC zD y.f0):=zJ zY (0)
 have c14:V8.cell? ⟨V4.heap.size,1,none⟩=some (zC zD y.f1):=zJ zY (1)
 have c15:=zK zY (0)
 have c16:=zK zY (1)
 obtain ⟨V9,hV9⟩:∃ V,(V8.setCell ⟨V4.heap.size,0,none⟩ (zC zD x.f0)).setCell ⟨V4.heap.size,1,none⟩ (zC zD x.f1)=V:=⟨_,rfl⟩
 have hOV9:Only V4.heap.size V8 V9:=by rw [← hV9];exact (Only.set _ _ _).trans (Only.set _ _ _)
 replace zY:V9.heap[V4.heap.size]?=some (.cells (#[zC zD x.f0,zC zD x.f1]) 24 (0,0)):=by rw [← hV9];exact (blk_set (blk_set zY _ _) _ _)
 replace zV:=hOV9.mid zV (by omega) (B:=0)
 replace zW:=hOV9.mid zW (by omega) (B:=0)
 replace K_o:=hOV9.mid K_o (by omega) (B:=0)
 replace K_a:=hOV9.mid K_a (by omega) (B:=0)
 replace zX:=hOV9.mid zX (by omega) (B:=0)
 have szV9:V8.heap.size≤V9.heap.size:=hOV9.size
 replace HB:=HB.trans (hOV9.below (by omega) HB.size)
 clear hOV9
 have c17:V9.cell? ⟨V1.heap.size,2,none⟩=some (zC zD b):=zJ zW (2)
 have c18:V9.cell? ⟨W.heap.size,2+b * 2,none⟩=some (zC zD y.f0):=(zJ zV (2+b * 2)).trans rb.1
 have c19:V9.cell? ⟨W.heap.size,2+b * 2+1,none⟩=some (zC zD y.f1):=(zJ zV (2+b * 2+1)).trans rb.2
 obtain ⟨V10,hSV10,KKV10,hOV10⟩:=st_arr (cs:=askC 2 0 0 0 y.f0 y.f1 0) size46 zX (by first|rfl|simp) rfl (by simp [Value.oneCell'])
 replace zX:V10.heap[V6.heap.size]?=some (.cells (askC 2 0 0 0 y.f0 y.f1 0) 46 (0,0)):=KKV10
 replace zV:=hOV10.mid zV (by omega) (B:=0)
 replace zW:=hOV10.mid zW (by omega) (B:=0)
 replace K_o:=hOV10.mid K_o (by omega) (B:=0)
 replace K_a:=hOV10.mid K_a (by omega) (B:=0)
 replace zY:=hOV10.mid zY (by omega) (B:=0)
 have szV10:V9.heap.size≤V10.heap.size:=hOV10.size
 replace HB:=HB.trans (hOV10.below (by omega) HB.size)
 clear hOV10
 clear KKV10
 have c20:V10.cell? ⟨V4.heap.size,0,none⟩=some (zC zD x.f0):=zJ zY (0)
 have c21:V10.cell? ⟨V4.heap.size,1,none⟩=some (zC zD x.f1):=zJ zY (1)
 have m0:(x.f0 != 2)=false:=by simpa using hk
 clear hk
 have m1:¬ x.f1<0:=hn
 have m2:vars≤x.f1:=hv
 have hL22:=ld_whole (P:=Try.prog) (ty:=29) zV Try.underlying29 rfl (by first|rfl|(rw [size29];rfl)|(rw [size29];have:=zM hl;simp [this])|(rw [size29,zM hl]))
 have c23:V10.cell? ⟨W.heap.size,1,none⟩=some (zC zD used):=zJ zV (1)
 have HR:=zP (rover_calls pc used (wrap64 (used+1)) 4 rs stk V10 hl h1)
 have HX1:=zP (zU zV (zU zW (zU K_o (zU K_a (zU zY (zU zX (HB)))))))
 clear HB zX zY K_a K_o zW zV
 go_enter Try.func38,Try.ntmps38
 go_wp2_with (first|refine wpList_st rfl rfl hSV8 ?_|refine wpList_st rfl rfl hSV10 ?_|refine wpList_ld rfl rfl hL22 ?_)
 refine HR.out.mono ?_
 rintro e w9 ⟨rfl,hB9⟩
 obtain ⟨zV,zW,K_o,K_a,zY,zX,HB⟩:=HX1.out
 clear HX1
 replace zV:=zI zV hB9
 replace zW:=zI zW hB9
 replace K_o:=zI K_o hB9
 replace K_a:=zI K_a hB9
 replace zY:=zI zY hB9
 replace zX:=zI zX hB9
 have szw9:V10.heap.size≤w9.heap.size:=hB9.size
 replace HB:=zE HB hB9
 have hz:=zM (pc:=pc) (used:=(wrap64 (used+1))) (stk:=stk) hl
 obtain ⟨V11,hSV11,KKV11,hOV11⟩:=st_arr (cs:=cpuC pc (wrap64 (used+1)) rs stk) size29 K_o (by first|rfl|simp [hz]) (by first|rfl|simp [hz]) (cpuC_one1 _ _ _ h1)
 clear hz
 replace K_o:V11.heap[V2.heap.size]?=some (.cells (cpuC pc (wrap64 (used+1)) rs stk) 29 (0,0)):=KKV11
 replace zV:=hOV11.mid zV (by omega) (B:=0)
 replace zW:=hOV11.mid zW (by omega) (B:=0)
 replace K_a:=hOV11.mid K_a (by omega) (B:=0)
 replace zY:=hOV11.mid zY (by omega) (B:=0)
 replace zX:=hOV11.mid zX (by omega) (B:=0)
 have szV11:w9.heap.size≤V11.heap.size:=hOV11.size
 replace HB:=HB.trans (hOV11.below (by omega) HB.size)
 clear hOV11
 clear KKV11
 obtain ⟨V12,hSV12,KKV12,hOV12⟩:=st_arr (cs:=askC 5 0 0 0 0 0 4) size46 K_a (by first|rfl|simp) rfl (by simp [Value.oneCell'])
 replace K_a:V12.heap[V3.heap.size]?=some (.cells (askC 5 0 0 0 0 0 4) 46 (0,0)):=KKV12
 replace zV:=hOV12.mid zV (by omega) (B:=0)
 replace zW:=hOV12.mid zW (by omega) (B:=0)
 replace K_o:=hOV12.mid K_o (by omega) (B:=0)
 replace zY:=hOV12.mid zY (by omega) (B:=0)
 replace zX:=hOV12.mid zX (by omega) (B:=0)
 have szV12:V11.heap.size≤V12.heap.size:=hOV12.size
 replace HB:=HB.trans (hOV12.below (by omega) HB.size)
 clear hOV12
 clear KKV12
 have HX2:=zP (zU zV (zU zW (zU K_o (zU K_a (zU zY (zU zX (HB)))))))
 clear HB zX zY K_a K_o zW zV
 go_wp2_with (first|refine wpList_st rfl rfl hSV11 ?_|refine wpList_st rfl rfl hSV12 ?_)
 obtain ⟨zV,zW,K_o,K_a,zY,zX,HB⟩:=HX2.out
 exact bodyPost_ret (results_cc rfl _ rfl K_o hu29 rfl (by rw [size29,zM (pc:=pc) (used:=(wrap64 (used+1))) (stk:=stk) hl]) rfl K_a hu46 rfl (by rw [size46];rfl)) rfl ⟨rfl,HB⟩
theorem rmem9_3 (pc used:Int) (rs:List S32) (stk:Value) (o:S97) (W:World) (hl:rs.length=8) (h1:stk.oneCell'=true) (ha0:0≤o.f1) (ha1:o.f1<8) (hb0:0≤o.f2) (hb1:o.f2<8) (vars:Int) (h8:o.f0=9)(hk:(regA rs o.f1).f0=2) (hn:¬ (regA rs o.f1).f1<0) (hv:¬ vars≤(regA rs o.f1).f1) :
  Calls Try.prog 38 #[.agg (cpuC pc used rs stk),.agg #[zC zD o.f0,zC zD o.f1,zC zD o.f2,zC zD o.f3,zC zD o.f4],zC zD vars] W fun x w'=>x=.returned (.tuple #[.agg (cpuC (wrap64 (pc+1)) (wrap64 (used+1)) rs stk),.agg (askC 2 (regA rs o.f1).f1 0 0 (regA rs o.f2).f0 (regA rs o.f2).f1 0)])∧Below W.heap.size W w':=by
 have hu29:=Try.underlying29
 have hu46:=Try.underlying46
 have hu26:=Try.underlying26
 have hu24:=Try.underlying24
 have hu97:=Try.underlying97
 obtain ⟨a,ha⟩:∃ a:Nat,o.f1=a:=⟨o.f1.toNat,by omega⟩
 have a8:a<8:=by omega
 have xa:rs[a]?=some (regA rs o.f1):=by rw [ha];unfold regA;simp [hl,a8]
 have ra:=cpuC_reg (pc:=pc) (used:=used) (stk:=stk) xa
 obtain ⟨b,hb⟩:∃ b:Nat,o.f2=b:=⟨o.f2.toNat,by omega⟩
 have b8:b<8:=by omega
 have xb:rs[b]?=some (regA rs o.f2):=by rw [hb];unfold regA;simp [hl,b8]
 have rb:=cpuC_reg (pc:=pc) (used:=used) (stk:=stk) xb
 generalize hxa:regA rs o.f1=x at *
 generalize hyb:regA rs o.f2=y at *
 obtain ⟨V1,hV1,KV1,hBV1⟩:=alz W (cpuC pc used rs stk) 29
 have ltV1:W.heap.size<V1.heap.size:=zL KV1
 have zV:=KV1
 have HB:=hBV1
 clear KV1 hBV1
 obtain ⟨V2,hV2,KV2,hBV2⟩:=alz V1 #[zC zD o.f0,zC zD o.f1,zC zD o.f2,zC zD o.f3,zC zD o.f4] 97
 have ltV2:V1.heap.size<V2.heap.size:=zL KV2
 replace zV:=zI zV hBV2
 have zW:=KV2
 replace HB:=zE HB hBV2
 clear KV2 hBV2
 obtain ⟨V3,hV3,KV3,hBV3⟩:=alz0 V2
 have ltV3:V2.heap.size<V3.heap.size:=zL KV3
 replace zV:=zI zV hBV3
 replace zW:=zI zW hBV3
 have K_o:=KV3
 replace HB:=zE HB hBV3
 clear KV3 hBV3
 obtain ⟨V4,hV4,KV4,hBV4⟩:=alz1 V3
 have ltV4:V3.heap.size<V4.heap.size:=zL KV4
 replace zV:=zI zV hBV4
 replace zW:=zI zW hBV4
 replace K_o:=zI K_o hBV4
 have K_a:=KV4
 replace HB:=zE HB hBV4
 clear KV4 hBV4
 rw [ha,hb,h8] at zW hV2
 have c1:V4.cell? ⟨V1.heap.size,2,none⟩=some (zC zD b):=zJ zW (2)
 have c2:V4.cell? ⟨W.heap.size,2+b * 2,none⟩=some (zC zD y.f0):=(zJ zV (2+b * 2)).trans rb.1
 have c3:V4.cell? ⟨W.heap.size,2+b * 2+1,none⟩=some (zC zD y.f1):=(zJ zV (2+b * 2+1)).trans rb.2
 obtain ⟨V5,hV5,KV5,hBV5⟩:=alz3 V4
 have ltV5:V4.heap.size<V5.heap.size:=zL KV5
 replace zV:=zI zV hBV5
 replace zW:=zI zW hBV5
 replace K_o:=zI K_o hBV5
 replace K_a:=zI K_a hBV5
 have zY:=KV5
 replace HB:=zE HB hBV5
 clear KV5 hBV5
 have c4:V5.cell? ⟨V4.heap.size,0,none⟩=some (zC zD 0):=zJ zY (0)
 have c5:V5.cell? ⟨V4.heap.size,1,none⟩=some (zC zD 0):=zJ zY (1)
 have c6:=zK zY (0)
 have c7:=zK zY (1)
 obtain ⟨V6,hV6⟩:∃ V,(V5.setCell ⟨V4.heap.size,0,none⟩ (zC zD y.f0)).setCell ⟨V4.heap.size,1,none⟩ (zC zD y.f1)=V:=⟨_,rfl⟩
 have hOV6:Only V4.heap.size V5 V6:=by rw [← hV6];exact (Only.set _ _ _).trans (Only.set _ _ _)
 replace zY:V6.heap[V4.heap.size]?=some (.cells (#[zC zD y.f0,zC zD y.f1]) 24 (0,0)):=by rw [← hV6];exact (blk_set (blk_set zY _ _) _ _)
 replace zV:=hOV6.mid zV (by omega) (B:=0)
 replace zW:=hOV6.mid zW (by omega) (B:=0)
 replace K_o:=hOV6.mid K_o (by omega) (B:=0)
 replace K_a:=hOV6.mid K_a (by omega) (B:=0)
 have szV6:V5.heap.size≤V6.heap.size:=hOV6.size
 replace HB:=HB.trans (hOV6.below (by omega) HB.size)
 clear hOV6
 have c8:V6.cell? ⟨V1.heap.size,1,none⟩=some (zC zD a):=zJ zW (1)
 obtain ⟨V7,hV7,KV7,hBV7⟩:=alz1 V6
 have ltV7:V6.heap.size<V7.heap.size:=zL KV7
 replace zV:=zI zV hBV7
 replace zW:=zI zW hBV7
 replace K_o:=zI K_o hBV7
 replace K_a:=zI K_a hBV7
 replace zY:=zI zY hBV7
 have zX:=KV7
 replace HB:=zE HB hBV7
 clear KV7 hBV7
 obtain ⟨V8,hSV8,KKV8,hOV8⟩:=st_arr (cs:=askC 1 0 a 0 0 0 0) size46 zX (by first|rfl|simp) rfl (by simp [Value.oneCell'])
 replace zX:V8.heap[V6.heap.size]?=some (.cells (askC 1 0 a 0 0 0 0) 46 (0,0)):=KKV8
 replace zV:=hOV8.mid zV (by omega) (B:=0)
 replace zW:=hOV8.mid zW (by omega) (B:=0)
 replace K_o:=hOV8.mid K_o (by omega) (B:=0)
 replace K_a:=hOV8.mid K_a (by omega) (B:=0)
 replace zY:=hOV8.mid zY (by omega) (B:=0)
 have szV8:V7.heap.size≤V8.heap.size:=hOV8.size
 replace HB:=HB.trans (hOV8.below (by omega) HB.size)
 clear hOV8
 clear KKV8
 have c9:V8.cell? ⟨V1.heap.size,0,none⟩=some (zC zD 9):=zJ zW (0)
 have c10:V8.cell? ⟨V1.heap.size,1,none⟩=some (zC zD a):=zJ zW (1)
 have c11:V8.cell? ⟨W.heap.size,2+a * 2,none⟩=some (zC zD x.f0):=(zJ zV (2+a * 2)).trans ra.1
 have c12:V8.cell? ⟨W.heap.size,2+a * 2+1,none⟩=some (zC zD x.f1):=(zJ zV (2+a * 2+1)).trans ra.2
 have c13:V8.cell? ⟨V4.heap.size,0,none⟩=some (zC zD y.f0):=zJ zY (0)
 have c14:V8.cell? ⟨V4.heap.size,1,none⟩=some (zC zD y.f1):=zJ zY (1)
 have c15:=zK zY (0)
 have c16:=zK zY (1)
 obtain ⟨V9,hV9⟩:∃ V,(V8.setCell ⟨V4.heap.size,0,none⟩ (zC zD x.f0)).setCell ⟨V4.heap.size,1,none⟩ (zC zD x.f1)=V:=⟨_,rfl⟩
 have hOV9:Only V4.heap.size V8 V9:=by rw [← hV9];exact (Only.set _ _ _).trans (Only.set _ _ _)
 replace zY:V9.heap[V4.heap.size]?=some (.cells (#[zC zD x.f0,zC zD x.f1]) 24 (0,0)):=by rw [← hV9];exact (blk_set (blk_set zY _ _) _ _)
 replace zV:=hOV9.mid zV (by omega) (B:=0)
 replace zW:=hOV9.mid zW (by omega) (B:=0)
 replace K_o:=hOV9.mid K_o (by omega) (B:=0)
 replace K_a:=hOV9.mid K_a (by omega) (B:=0)
 replace zX:=hOV9.mid zX (by omega) (B:=0)
 have szV9:V8.heap.size≤V9.heap.size:=hOV9.size
 replace HB:=HB.trans (hOV9.below (by omega) HB.size)
 clear hOV9
 have c17:V9.cell? ⟨V1.heap.size,2,none⟩=some (zC zD b):=zJ zW (2)
 have c18:V9.cell? ⟨W.heap.size,2+b * 2,none⟩=some (zC zD y.f0):=(zJ zV (2+b * 2)).trans rb.1
 have c19:V9.cell? ⟨W.heap.size,2+b * 2+1,none⟩=some (zC zD y.f1):=(zJ zV (2+b * 2+1)).trans rb.2
 obtain ⟨V10,hSV10,KKV10,hOV10⟩:=st_arr (cs:=askC 2 0 0 0 y.f0 y.f1 0) size46 zX (by first|rfl|simp) rfl (by simp [Value.oneCell'])
 replace zX:V10.heap[V6.heap.size]?=some (.cells (askC 2 0 0 0 y.f0 y.f1 0) 46 (0,0)):=KKV10
 replace zV:=hOV10.mid zV (by omega) (B:=0)
 replace zW:=hOV10.mid zW (by omega) (B:=0)
 replace K_o:=hOV10.mid K_o (by omega) (B:=0)
 replace K_a:=hOV10.mid K_a (by omega) (B:=0)
 replace zY:=hOV10.mid zY (by omega) (B:=0)
 have szV10:V9.heap.size≤V10.heap.size:=hOV10.size
 replace HB:=HB.trans (hOV10.below (by omega) HB.size)
 clear hOV10
 clear KKV10
 have c20:V10.cell? ⟨V4.heap.size,0,none⟩=some (zC zD x.f0):=zJ zY (0)
 have c21:V10.cell? ⟨V4.heap.size,1,none⟩=some (zC zD x.f1):=zJ zY (1)
 rw [ha]
 have m0:(x.f0 != 2)=false:=by simpa using hk
 clear hk
 have m1:¬ x.f1<0:=hn
 have m2:¬ vars≤x.f1:=hv
 have c22:V10.cell? ⟨V6.heap.size,1,none⟩=some (zC zD 0):=zJ zX (1)
 have c23:=zK zX (1)
 obtain ⟨V11,hV11⟩:∃ V,V10.setCell ⟨V6.heap.size,1,none⟩ (zC zD x.f1)=V:=⟨_,rfl⟩
 have hOV11:Only V6.heap.size V10 V11:=by rw [← hV11];exact Only.set _ _ _
 replace zX:V11.heap[V6.heap.size]?=some (.cells (askC 2 x.f1 0 0 y.f0 y.f1 0) 46 (0,0)):=by rw [← hV11];exact (blk_set zX _ _)
 replace zV:=hOV11.mid zV (by omega) (B:=0)
 replace zW:=hOV11.mid zW (by omega) (B:=0)
 replace K_o:=hOV11.mid K_o (by omega) (B:=0)
 replace K_a:=hOV11.mid K_a (by omega) (B:=0)
 replace zY:=hOV11.mid zY (by omega) (B:=0)
 have szV11:V10.heap.size≤V11.heap.size:=hOV11.size
 replace HB:=HB.trans (hOV11.below (by omega) HB.size)
 clear hOV11
 have c24:V11.cell? ⟨W.heap.size,0,none⟩=some (zC zD pc):=zJ zV (0)
 have c25:=zK zV (0)
 obtain ⟨V12,hV12⟩:∃ V,V11.setCell ⟨W.heap.size,0,none⟩ (zC zD (wrap64 (pc+1)))=V:=⟨_,rfl⟩
 have hOV12:Only W.heap.size V11 V12:=by rw [← hV12];exact Only.set _ _ _
 replace zV:V12.heap[W.heap.size]?=some (.cells (cpuC (wrap64 (pc+1)) used rs stk) 29 (0,0)):=by rw [← hV12];exact (blk_set zV _ _)
 replace zW:=hOV12.mid zW (by omega) (B:=0)
 replace K_o:=hOV12.mid K_o (by omega) (B:=0)
 replace K_a:=hOV12.mid K_a (by omega) (B:=0)
 replace zY:=hOV12.mid zY (by omega) (B:=0)
 replace zX:=hOV12.mid zX (by omega) (B:=0)
 have szV12:V11.heap.size≤V12.heap.size:=hOV12.size
 replace HB:=HB.trans (hOV12.below (by omega) HB.size)
 clear hOV12
 have c26:V12.cell? ⟨W.heap.size,1,none⟩=some (zC zD used):=zJ zV (1)
 have c27:=zK zV (1)
 obtain ⟨V13,hV13⟩:∃ V,V12.setCell ⟨W.heap.size,1,none⟩ (zC zD (wrap64 (used+1)))=V:=⟨_,rfl⟩
 have hOV13:Only W.heap.size V12 V13:=by rw [← hV13];exact Only.set _ _ _
 replace zV:V13.heap[W.heap.size]?=some (.cells (cpuC (wrap64 (pc+1)) (wrap64 (used+1)) rs stk) 29 (0,0)):=by rw [← hV13];exact (blk_set zV _ _)
 replace zW:=hOV13.mid zW (by omega) (B:=0)
 replace K_o:=hOV13.mid K_o (by omega) (B:=0)
 replace K_a:=hOV13.mid K_a (by omega) (B:=0)
 replace zY:=hOV13.mid zY (by omega) (B:=0)
 replace zX:=hOV13.mid zX (by omega) (B:=0)
 have szV13:V12.heap.size≤V13.heap.size:=hOV13.size
 replace HB:=HB.trans (hOV13.below (by omega) HB.size)
 clear hOV13
 have HX1:=zP (zU zV (zU zW (zU K_o (zU K_a (zU zY (zU zX (HB)))))))
 clear HB zX zY K_a K_o zW zV
 go_enter Try.func38,Try.ntmps38
 go_wp2_with (first|refine wpList_st rfl rfl hSV8 ?_|refine wpList_st rfl rfl hSV10 ?_)
 obtain ⟨zV,zW,K_o,K_a,zY,zX,HB⟩:=HX1.out
 clear HX1
 have n3:V2.heap.size≠V3.heap.size:=by omega
 obtain ⟨L,hL⟩:∃ L,L=[(V2.heap.size,[Obj.cells #[zC zD 0,zC zD 0,zC zD 0,zC zD 0,zC zD 0,zC zD 0,zC zD 0,zC zD 0,zC zD 0,zC zD 0,zC zD 0,zC zD 0,zC zD 0,zC zD 0,zC zD 0,zC zD 0,zC zD 0,zC zD 0,.slice none 0 0] 29 (0,0),Obj.cells (cpuC (wrap64 (pc+1)) (wrap64 (used+1)) rs stk) 29 (0,0)]),(V3.heap.size,[Obj.cells #[zC zD 0,zC zD 0,zC zD 0,zC zD 0,zC zD 0,zC zD 0,zC zD 0] 46 (0,0),Obj.cells (askC 2 x.f1 0 0 y.f0 y.f1 0) 46 (0,0)])]:=⟨_,rfl⟩
 have m1:(V2.heap.size,[Obj.cells #[zC zD 0,zC zD 0,zC zD 0,zC zD 0,zC zD 0,zC zD 0,zC zD 0,zC zD 0,zC zD 0,zC zD 0,zC zD 0,zC zD 0,zC zD 0,zC zD 0,zC zD 0,zC zD 0,zC zD 0,zC zD 0,.slice none 0 0] 29 (0,0),Obj.cells (cpuC (wrap64 (pc+1)) (wrap64 (used+1)) rs stk) 29 (0,0)])∈L:=by subst hL;simp
 have m2:(V3.heap.size,[Obj.cells #[zC zD 0,zC zD 0,zC zD 0,zC zD 0,zC zD 0,zC zD 0,zC zD 0] 46 (0,0),Obj.cells (askC 2 x.f1 0 0 y.f0 y.f1 0) 46 (0,0)])∈L:=by subst hL;simp
 have u1:∀ p∈L,p.1=V2.heap.size→p=(V2.heap.size,[Obj.cells #[zC zD 0,zC zD 0,zC zD 0,zC zD 0,zC zD 0,zC zD 0,zC zD 0,zC zD 0,zC zD 0,zC zD 0,zC zD 0,zC zD 0,zC zD 0,zC zD 0,zC zD 0,zC zD 0,zC zD 0,zC zD 0,.slice none 0 0] 29 (0,0),Obj.cells (cpuC (wrap64 (pc+1)) (wrap64 (used+1)) rs stk) 29 (0,0)]):=by subst hL;simp;intro h;exact absurd h.symm n3
 have u2:∀ p∈L,p.1=V3.heap.size→p=(V3.heap.size,[Obj.cells #[zC zD 0,zC zD 0,zC zD 0,zC zD 0,zC zD 0,zC zD 0,zC zD 0] 46 (0,0),Obj.cells (askC 2 x.f1 0 0 y.f0 y.f1 0) 46 (0,0)]):=by subst hL;simp;intro h;exact absurd h n3
 have o1:∀ W',Chain L V13 W'→At (V2.heap.size) [Obj.cells #[zC zD 0,zC zD 0,zC zD 0,zC zD 0,zC zD 0,zC zD 0,zC zD 0,zC zD 0,zC zD 0,zC zD 0,zC zD 0,zC zD 0,zC zD 0,zC zD 0,zC zD 0,zC zD 0,zC zD 0,zC zD 0,.slice none 0 0] 29 (0,0),Obj.cells (cpuC (wrap64 (pc+1)) (wrap64 (used+1)) rs stk) 29 (0,0)] 0 W':=fun W' hB=>hB.on _ m1 0 ⟨0,_,Nat.le_refl _,rfl,K_o⟩
 have a1:∀ W',Chain L V13 W'→At (V3.heap.size) [Obj.cells #[zC zD 0,zC zD 0,zC zD 0,zC zD 0,zC zD 0,zC zD 0,zC zD 0] 46 (0,0),Obj.cells (askC 2 x.f1 0 0 y.f0 y.f1 0) 46 (0,0)] 0 W':=fun W' hB=>hB.on _ m2 0 ⟨0,_,Nat.le_refl _,rfl,K_a⟩
 have d1:∀ W',Chain L V13 W'→W'.heap[W.heap.size]?=some (.cells (cpuC (wrap64 (pc+1)) (wrap64 (used+1)) rs stk) 29 (0,0)):=fun W' hB=>hB.mid zV (by subst hL;simp;omega)
 have d2:∀ W',Chain L V13 W'→W'.heap[V6.heap.size]?=some (.cells (askC 2 x.f1 0 0 y.f0 y.f1 0) 46 (0,0)):=fun W' hB=>hB.mid zX (by subst hL;simp;omega)
 apply GR.wp_region_grows (R:=Chain L) (by kernel_rfl) (by kernel_rfl)
 ·
  intro c a d v w h;cases d <;> exact h
 apply GR.gw_val (by rfl)
 ·
  (intro W' hB hD;exact exec_ld rfl (ld_whole (d1 W' hB) hu29 rfl (by rw [size29,zM (pc:=wrap64 (pc+1)) (used:=wrap64 (used+1)) (stk:=stk) hl])))
 simp only [Act.put,zQ,zS,zT]
 apply GR.gw_val (by rfl)
 ·
  (intro W' hB hD;exact exec_ld rfl (ld_whole (d2 W' hB) hu46 rfl (by rw [size46];rfl)))
 simp only [Act.put,zQ,zS,zT]
 apply GR.gw_skp (stable_At m1 1) (by rfl) (by rfl)
 ·
  intro W' hB hD
  obtain ⟨W'',e1,e2,e3⟩:=chain_whole (ty:=29) m1 u1 (o1 W' hB) (by rw [zM (pc:=wrap64 (pc+1)) (used:=wrap64 (used+1)) (stk:=stk) hl];rfl) (by rw [size29,zM (pc:=wrap64 (pc+1)) (used:=wrap64 (used+1)) (stk:=stk) hl]) (cpuC_one1 _ _ _ h1)
  exact ⟨W'',exec_st rfl e1,e2,e3⟩
 rintro v -
 apply GR.gw_skp (stable_At m2 1) (by rfl) (by rfl)
 ·
  intro W' hB hD
  obtain ⟨W'',e1,e2,e3⟩:=chain_whole (ty:=46) m2 u2 (a1 W' hB) (by rfl) (by rw [size46];rfl) (by simp [Value.oneCell'])
  exact ⟨W'',exec_st rfl e1,e2,e3⟩
 rintro v' -
 apply GR.gw_nil
 intro Wa hW hF hP
 simp [List.forall_mem_append] at hF
 subst hL
 have hT:=Two.of_chain hW hF.1 hF.2
 have HE:=zP (zU hT.o (zU hT.a ((HB).trans (show Below W.heap.size _ Wa from ⟨hT.os,hT.tape,hT.output,hT.size,fun k hk=>hT.block k (by omega) (by omega) (by omega)⟩))))
 clear hT hW hF hP o1 a1 m1 m2 u1 u2 d1 d2 zV zW K_o K_a zY zX HB
 go_wp2_with fail
 exact bodyPost_ret (results_cc rfl _ rfl HE.out.1 hu29 rfl (by rw [size29,zM (pc:=wrap64 (pc+1)) (used:=wrap64 (used+1)) (stk:=stk) hl]) rfl HE.out.2.1 hu46 rfl (by rw [size46];rfl)) rfl ⟨rfl,HE.out.2.2⟩
theorem rjump10_0 (pc used:Int) (rs:List S32) (stk:Value) (o:S97) (W:World) (hl:rs.length=8) (h1:stk.oneCell'=true) (ha0:0≤o.f1) (ha1:o.f1<8) (h8:o.f0=10)  :
  Calls Try.prog 39 #[.agg (cpuC pc used rs stk),.agg #[zC zD o.f0,zC zD o.f1,zC zD o.f2,zC zD o.f3,zC zD o.f4]] W fun x w'=>x=.returned (.tuple #[.agg (cpuC o.f3 (wrap64 (used+1)) rs stk),.agg (askC 0 0 0 0 0 0 0)])∧Below W.heap.size W w':=by
 have hu29:=Try.underlying29
 have hu46:=Try.underlying46
 have hu26:=Try.underlying26
 have hu24:=Try.underlying24
 have hu97:=Try.underlying97
 obtain ⟨a,ha⟩:∃ a:Nat,o.f1=a:=⟨o.f1.toNat,by omega⟩
 have a8:a<8:=by omega
 have xa:rs[a]?=some (regA rs o.f1):=by rw [ha];unfold regA;simp [hl,a8]
 have ra:=cpuC_reg (pc:=pc) (used:=used) (stk:=stk) xa
 generalize hxa:regA rs o.f1=x at *
 obtain ⟨V1,hV1,KV1,hBV1⟩:=alz W (cpuC pc used rs stk) 29
 have ltV1:W.heap.size<V1.heap.size:=zL KV1
 have zV:=KV1
 have HB:=hBV1
 clear KV1 hBV1
 obtain ⟨V2,hV2,KV2,hBV2⟩:=alz V1 #[zC zD o.f0,zC zD o.f1,zC zD o.f2,zC zD o.f3,zC zD o.f4] 97
 have ltV2:V1.heap.size<V2.heap.size:=zL KV2
 replace zV:=zI zV hBV2
 have zW:=KV2
 replace HB:=zE HB hBV2
 clear KV2 hBV2
 obtain ⟨V3,hV3,KV3,hBV3⟩:=alz0 V2
 have ltV3:V2.heap.size<V3.heap.size:=zL KV3
 replace zV:=zI zV hBV3
 replace zW:=zI zW hBV3
 have K_o:=KV3
 replace HB:=zE HB hBV3
 clear KV3 hBV3
 obtain ⟨V4,hV4,KV4,hBV4⟩:=alz1 V3
 have ltV4:V3.heap.size<V4.heap.size:=zL KV4
 replace zV:=zI zV hBV4
 replace zW:=zI zW hBV4
 replace K_o:=zI K_o hBV4
 have K_a:=KV4
 replace HB:=zE HB hBV4
 clear KV4 hBV4
 rw [ha,h8] at zW hV2
 have c1:V4.cell? ⟨V1.heap.size,1,none⟩=some (zC zD a):=zJ zW (1)
 have c2:V4.cell? ⟨W.heap.size,2+a * 2,none⟩=some (zC zD x.f0):=(zJ zV (2+a * 2)).trans ra.1
 have c3:V4.cell? ⟨W.heap.size,2+a * 2+1,none⟩=some (zC zD x.f1):=(zJ zV (2+a * 2+1)).trans ra.2
 obtain ⟨V5,hV5,KV5,hBV5⟩:=alz3 V4
 have ltV5:V4.heap.size<V5.heap.size:=zL KV5
 replace zV:=zI zV hBV5
 replace zW:=zI zW hBV5
 replace K_o:=zI K_o hBV5
 replace K_a:=zI K_a hBV5
 have zY:=KV5
 replace HB:=zE HB hBV5
 clear KV5 hBV5
 have c4:V5.cell? ⟨V4.heap.size,0,none⟩=some (zC zD 0):=zJ zY (0)
 have c5:V5.cell? ⟨V4.heap.size,1,none⟩=some (zC zD 0):=zJ zY (1)
 have c6:=zK zY (0)
 have c7:=zK zY (1)
 obtain ⟨V6,hV6⟩:∃ V,(V5.setCell ⟨V4.heap.size,0,none⟩ (zC zD x.f0)).setCell ⟨V4.heap.size,1,none⟩ (zC zD x.f1)=V:=⟨_,rfl⟩
 have hOV6:Only V4.heap.size V5 V6:=by rw [← hV6];exact (Only.set _ _ _).trans (Only.set _ _ _)
 replace zY:V6.heap[V4.heap.size]?=some (.cells (#[zC zD x.f0,zC zD x.f1]) 24 (0,0)):=by rw [← hV6];exact (blk_set (blk_set zY _ _) _ _)
 replace zV:=hOV6.mid zV (by omega) (B:=0)
 replace zW:=hOV6.mid zW (by omega) (B:=0)
 replace K_o:=hOV6.mid K_o (by omega) (B:=0)
 replace K_a:=hOV6.mid K_a (by omega) (B:=0)
 have szV6:V5.heap.size≤V6.heap.size:=hOV6.size
 replace HB:=HB.trans (hOV6.below (by omega) HB.size)
 clear hOV6
 have c8:V6.cell? ⟨V1.heap.size,0,none⟩=some (zC zD 10):=zJ zW (0)
 have c9:V6.cell? ⟨V4.heap.size,0,none⟩=some (zC zD x.f0):=zJ zY (0)
 have c10:V6.cell? ⟨W.heap.size,0,none⟩=some (zC zD pc):=zJ zV (0)
 have c11:=zK zV (0)
 obtain ⟨V7,hV7⟩:∃ V,V6.setCell ⟨W.heap.size,0,none⟩ (zC zD (wrap64 (pc+1)))=V:=⟨_,rfl⟩
 have hOV7:Only W.heap.size V6 V7:=by rw [← hV7];exact Only.set _ _ _
 replace zV:V7.heap[W.heap.size]?=some (.cells (cpuC (wrap64 (pc+1)) used rs stk) 29 (0,0)):=by rw [← hV7];exact (blk_set zV _ _)
 replace zW:=hOV7.mid zW (by omega) (B:=0)
 replace K_o:=hOV7.mid K_o (by omega) (B:=0)
 replace K_a:=hOV7.mid K_a (by omega) (B:=0)
 replace zY:=hOV7.mid zY (by omega) (B:=0)
 have szV7:V6.heap.size≤V7.heap.size:=hOV7.size
 replace HB:=HB.trans (hOV7.below (by omega) HB.size)
 clear hOV7
 have c12:V7.cell? ⟨W.heap.size,1,none⟩=some (zC zD used):=zJ zV (1)
 have c13:=zK zV (1)
 obtain ⟨V8,hV8⟩:∃ V,V7.setCell ⟨W.heap.size,1,none⟩ (zC zD (wrap64 (used+1)))=V:=⟨_,rfl⟩
 have hOV8:Only W.heap.size V7 V8:=by rw [← hV8];exact Only.set _ _ _
 replace zV:V8.heap[W.heap.size]?=some (.cells (cpuC (wrap64 (pc+1)) (wrap64 (used+1)) rs stk) 29 (0,0)):=by rw [← hV8];exact (blk_set zV _ _)
 replace zW:=hOV8.mid zW (by omega) (B:=0)
 replace K_o:=hOV8.mid K_o (by omega) (B:=0)
 replace K_a:=hOV8.mid K_a (by omega) (B:=0)
 replace zY:=hOV8.mid zY (by omega) (B:=0)
 have szV8:V7.heap.size≤V8.heap.size:=hOV8.size
 replace HB:=HB.trans (hOV8.below (by omega) HB.size)
 clear hOV8
 have c14:V8.cell? ⟨V1.heap.size,0,none⟩=some (zC zD 10):=zJ zW (0)
 have c15:V8.cell? ⟨V4.heap.size,1,none⟩=some (zC zD x.f1):=zJ zY (1)
 have c16:V8.cell? ⟨V1.heap.size,3,none⟩=some (zC zD o.f3):=zJ zW (3)
 have c17:V8.cell? ⟨W.heap.size,0,none⟩=some (zC zD (wrap64 (pc+1))):=zJ zV (0)
 have c18:=zK zV (0)
 obtain ⟨V9,hV9⟩:∃ V,V8.setCell ⟨W.heap.size,0,none⟩ (zC zD o.f3)=V:=⟨_,rfl⟩
 have hOV9:Only W.heap.size V8 V9:=by rw [← hV9];exact Only.set _ _ _
 replace zV:V9.heap[W.heap.size]?=some (.cells (cpuC o.f3 (wrap64 (used+1)) rs stk) 29 (0,0)):=by rw [← hV9];exact (blk_set zV _ _)
 replace zW:=hOV9.mid zW (by omega) (B:=0)
 replace K_o:=hOV9.mid K_o (by omega) (B:=0)
 replace K_a:=hOV9.mid K_a (by omega) (B:=0)
 replace zY:=hOV9.mid zY (by omega) (B:=0)
 have szV9:V8.heap.size≤V9.heap.size:=hOV9.size
 replace HB:=HB.trans (hOV9.below (by omega) HB.size)
 clear hOV9
 have hL19:=ld_whole (P:=Try.prog) (ty:=29) zV Try.underlying29 rfl (by first|rfl|(rw [size29];rfl)|(rw [size29];have:=zM hl;simp [this])|(rw [size29,zM hl]))
 have hz:=zM (pc:=o.f3) (used:=wrap64 (used+1)) (stk:=stk) hl
 obtain ⟨V10,hSV10,KKV10,hOV10⟩:=st_arr (cs:=cpuC o.f3 (wrap64 (used+1)) rs stk) size29 K_o (by first|rfl|simp [hz]) (by first|rfl|simp [hz]) (cpuC_one1 _ _ _ h1)
 clear hz
 replace K_o:V10.heap[V2.heap.size]?=some (.cells (cpuC o.f3 (wrap64 (used+1)) rs stk) 29 (0,0)):=KKV10
 replace zV:=hOV10.mid zV (by omega) (B:=0)
 replace zW:=hOV10.mid zW (by omega) (B:=0)
 replace K_a:=hOV10.mid K_a (by omega) (B:=0)
 replace zY:=hOV10.mid zY (by omega) (B:=0)
 have szV10:V9.heap.size≤V10.heap.size:=hOV10.size
 replace HB:=HB.trans (hOV10.below (by omega) HB.size)
 clear hOV10
 clear KKV10
 obtain ⟨V11,hSV11,KKV11,hOV11⟩:=st_arr (cs:=askC 0 0 0 0 0 0 0) size46 K_a (by first|rfl|simp) rfl (by simp [Value.oneCell'])
 replace K_a:V11.heap[V3.heap.size]?=some (.cells (askC 0 0 0 0 0 0 0) 46 (0,0)):=KKV11
 replace zV:=hOV11.mid zV (by omega) (B:=0)
 replace zW:=hOV11.mid zW (by omega) (B:=0)
 replace K_o:=hOV11.mid K_o (by omega) (B:=0)
 replace zY:=hOV11.mid zY (by omega) (B:=0)
 have szV11:V10.heap.size≤V11.heap.size:=hOV11.size
 replace HB:=HB.trans (hOV11.below (by omega) HB.size)
 clear hOV11
 clear KKV11
 have HX1:=zP (zU zV (zU zW (zU K_o (zU K_a (zU zY (HB))))))
 clear HB zY K_a K_o zW zV
 go_enter Try.func39,Try.ntmps39
 go_wp2_with (first|refine wpList_st rfl rfl hSV10 ?_|refine wpList_st rfl rfl hSV11 ?_|refine wpList_ld rfl rfl hL19 ?_)
 obtain ⟨zV,zW,K_o,K_a,zY,HB⟩:=HX1.out
 exact bodyPost_ret (results_cc rfl _ rfl K_o hu29 rfl (by rw [size29,zM (pc:=o.f3) (used:=wrap64 (used+1)) (stk:=stk) hl]) rfl K_a hu46 rfl (by rw [size46];rfl)) rfl ⟨rfl,HB⟩
theorem rjump11_0 (pc used:Int) (rs:List S32) (stk:Value) (o:S97) (W:World) (hl:rs.length=8) (h1:stk.oneCell'=true) (ha0:0≤o.f1) (ha1:o.f1<8) (h8:o.f0=11) (hk:¬ (regA rs o.f1).f0=1) :
  Calls Try.prog 39 #[.agg (cpuC pc used rs stk),.agg #[zC zD o.f0,zC zD o.f1,zC zD o.f2,zC zD o.f3,zC zD o.f4]] W fun x w'=>x=.returned (.tuple #[.agg (cpuC pc (wrap64 (used+1)) rs stk),.agg (askC 5 0 0 0 0 0 4)])∧Below W.heap.size W w':=by
 have hu29:=Try.underlying29
 have hu46:=Try.underlying46
 have hu26:=Try.underlying26
 have hu24:=Try.underlying24
 have hu97:=Try.underlying97
 obtain ⟨a,ha⟩:∃ a:Nat,o.f1=a:=⟨o.f1.toNat,by omega⟩
 have a8:a<8:=by omega
 have xa:rs[a]?=some (regA rs o.f1):=by rw [ha];unfold regA;simp [hl,a8]
 have ra:=cpuC_reg (pc:=pc) (used:=used) (stk:=stk) xa
 generalize hxa:regA rs o.f1=x at *
 obtain ⟨V1,hV1,KV1,hBV1⟩:=alz W (cpuC pc used rs stk) 29
 have ltV1:W.heap.size<V1.heap.size:=zL KV1
 have zV:=KV1
 have HB:=hBV1
 clear KV1 hBV1
 obtain ⟨V2,hV2,KV2,hBV2⟩:=alz V1 #[zC zD o.f0,zC zD o.f1,zC zD o.f2,zC zD o.f3,zC zD o.f4] 97
 have ltV2:V1.heap.size<V2.heap.size:=zL KV2
 replace zV:=zI zV hBV2
 have zW:=KV2
 replace HB:=zE HB hBV2
 clear KV2 hBV2
 obtain ⟨V3,hV3,KV3,hBV3⟩:=alz0 V2
 have ltV3:V2.heap.size<V3.heap.size:=zL KV3
 replace zV:=zI zV hBV3
 replace zW:=zI zW hBV3
 have K_o:=KV3
 replace HB:=zE HB hBV3
 clear KV3 hBV3
 obtain ⟨V4,hV4,KV4,hBV4⟩:=alz1 V3
 have ltV4:V3.heap.size<V4.heap.size:=zL KV4
 replace zV:=zI zV hBV4
 replace zW:=zI zW hBV4
 replace K_o:=zI K_o hBV4
 have K_a:=KV4
 replace HB:=zE HB hBV4
 clear KV4 hBV4
 rw [ha,h8] at zW hV2
 have c1:V4.cell? ⟨V1.heap.size,1,none⟩=some (zC zD a):=zJ zW (1)
 have c2:V4.cell? ⟨W.heap.size,2+a * 2,none⟩=some (zC zD x.f0):=(zJ zV (2+a * 2)).trans ra.1
 have c3:V4.cell? ⟨W.heap.size,2+a * 2+1,none⟩=some (zC zD x.f1):=(zJ zV (2+a * 2+1)).trans ra.2
 obtain ⟨V5,hV5,KV5,hBV5⟩:=alz3 V4
 have ltV5:V4.heap.size<V5.heap.size:=zL KV5
 replace zV:=zI zV hBV5
 replace zW:=zI zW hBV5
 replace K_o:=zI K_o hBV5
 replace K_a:=zI K_a hBV5
 have zY:=KV5
 replace HB:=zE HB hBV5
 clear KV5 hBV5
 have c4:V5.cell? ⟨V4.heap.size,0,none⟩=some (zC zD 0):=zJ zY (0)
 have c5:V5.cell? ⟨V4.heap.size,1,none⟩=some (zC zD 0):=zJ zY (1)
 have c6:=zK zY (0)
 have c7:=zK zY (1)
 obtain ⟨V6,hV6⟩:∃ V,(V5.setCell ⟨V4.heap.size,0,none⟩ (zC zD x.f0)).setCell ⟨V4.heap.size,1,none⟩ (zC zD x.f1)=V:=⟨_,rfl⟩
 have hOV6:Only V4.heap.size V5 V6:=by rw [← hV6];exact (Only.set _ _ _).trans (Only.set _ _ _)
 replace zY:V6.heap[V4.heap.size]?=some (.cells (#[zC zD x.f0,zC zD x.f1]) 24 (0,0)):=by rw [← hV6];exact (blk_set (blk_set zY _ _) _ _)
 replace zV:=hOV6.mid zV (by omega) (B:=0)
 replace zW:=hOV6.mid zW (by omega) (B:=0)
 replace K_o:=hOV6.mid K_o (by omega) (B:=0)
 replace K_a:=hOV6.mid K_a (by omega) (B:=0)
 have szV6:V5.heap.size≤V6.heap.size:=hOV6.size
 replace HB:=HB.trans (hOV6.below (by omega) HB.size)
 clear hOV6
 have c8:V6.cell? ⟨V1.heap.size,0,none⟩=some (zC zD 11):=zJ zW (0)
 have c9:V6.cell? ⟨V4.heap.size,0,none⟩=some (zC zD x.f0):=zJ zY (0)
 have m0:(x.f0 != 1)=true:=by simpa using hk
 clear hk
 have hL10:=ld_whole (P:=Try.prog) (ty:=29) zV Try.underlying29 rfl (by first|rfl|(rw [size29];rfl)|(rw [size29];have:=zM hl;simp [this])|(rw [size29,zM hl]))
 have c11:V6.cell? ⟨W.heap.size,1,none⟩=some (zC zD used):=zJ zV (1)
 have HR:=zP (rover_calls pc used (wrap64 (used+1)) 4 rs stk V6 hl h1)
 have HX1:=zP (zU zV (zU zW (zU K_o (zU K_a (zU zY (HB))))))
 clear HB zY K_a K_o zW zV
 go_enter Try.func39,Try.ntmps39
 go_wp2_with (refine wpList_ld rfl rfl hL10 ?_)
 refine HR.out.mono ?_
 rintro e w9 ⟨rfl,hB9⟩
 obtain ⟨zV,zW,K_o,K_a,zY,HB⟩:=HX1.out
 clear HX1
 replace zV:=zI zV hB9
 replace zW:=zI zW hB9
 replace K_o:=zI K_o hB9
 replace K_a:=zI K_a hB9
 replace zY:=zI zY hB9
 have szw9:V6.heap.size≤w9.heap.size:=hB9.size
 replace HB:=zE HB hB9
 have hz:=zM (pc:=pc) (used:=(wrap64 (used+1))) (stk:=stk) hl
 obtain ⟨V7,hSV7,KKV7,hOV7⟩:=st_arr (cs:=cpuC pc (wrap64 (used+1)) rs stk) size29 K_o (by first|rfl|simp [hz]) (by first|rfl|simp [hz]) (cpuC_one1 _ _ _ h1)
 clear hz
 replace K_o:V7.heap[V2.heap.size]?=some (.cells (cpuC pc (wrap64 (used+1)) rs stk) 29 (0,0)):=KKV7
 replace zV:=hOV7.mid zV (by omega) (B:=0)
 replace zW:=hOV7.mid zW (by omega) (B:=0)
 replace K_a:=hOV7.mid K_a (by omega) (B:=0)
 replace zY:=hOV7.mid zY (by omega) (B:=0)
 have szV7:w9.heap.size≤V7.heap.size:=hOV7.size
 replace HB:=HB.trans (hOV7.below (by omega) HB.size)
 clear hOV7
 clear KKV7
 obtain ⟨V8,hSV8,KKV8,hOV8⟩:=st_arr (cs:=askC 5 0 0 0 0 0 4) size46 K_a (by first|rfl|simp) rfl (by simp [Value.oneCell'])
 replace K_a:V8.heap[V3.heap.size]?=some (.cells (askC 5 0 0 0 0 0 4) 46 (0,0)):=KKV8
 replace zV:=hOV8.mid zV (by omega) (B:=0)
 replace zW:=hOV8.mid zW (by omega) (B:=0)
 replace K_o:=hOV8.mid K_o (by omega) (B:=0)
 replace zY:=hOV8.mid zY (by omega) (B:=0)
 have szV8:V7.heap.size≤V8.heap.size:=hOV8.size
 replace HB:=HB.trans (hOV8.below (by omega) HB.size)
 clear hOV8
 clear KKV8
 have HX2:=zP (zU zV (zU zW (zU K_o (zU K_a (zU zY (HB))))))
 clear HB zY K_a K_o zW zV
 go_wp2_with (first|refine wpList_st rfl rfl hSV7 ?_|refine wpList_st rfl rfl hSV8 ?_)
 obtain ⟨zV,zW,K_o,K_a,zY,HB⟩:=HX2.out
 exact bodyPost_ret (results_cc rfl _ rfl K_o hu29 rfl (by rw [size29,zM (pc:=pc) (used:=(wrap64 (used+1))) (stk:=stk) hl]) rfl K_a hu46 rfl (by rw [size46];rfl)) rfl ⟨rfl,HB⟩
theorem rjump11_1 (pc used:Int) (rs:List S32) (stk:Value) (o:S97) (W:World) (hl:rs.length=8) (h1:stk.oneCell'=true) (ha0:0≤o.f1) (ha1:o.f1<8) (h8:o.f0=11) (hk:(regA rs o.f1).f0=1) (hn:(regA rs o.f1).f1=0) :
  Calls Try.prog 39 #[.agg (cpuC pc used rs stk),.agg #[zC zD o.f0,zC zD o.f1,zC zD o.f2,zC zD o.f3,zC zD o.f4]] W fun x w'=>x=.returned (.tuple #[.agg (cpuC (wrap64 (pc+1)) (wrap64 (used+1)) rs stk),.agg (askC 0 0 0 0 0 0 0)])∧Below W.heap.size W w':=by
 have hu29:=Try.underlying29
 have hu46:=Try.underlying46
 have hu26:=Try.underlying26
 have hu24:=Try.underlying24
 have hu97:=Try.underlying97
 obtain ⟨a,ha⟩:∃ a:Nat,o.f1=a:=⟨o.f1.toNat,by omega⟩
 have a8:a<8:=by omega
 have xa:rs[a]?=some (regA rs o.f1):=by rw [ha];unfold regA;simp [hl,a8]
 have ra:=cpuC_reg (pc:=pc) (used:=used) (stk:=stk) xa
 generalize hxa:regA rs o.f1=x at *
 obtain ⟨V1,hV1,KV1,hBV1⟩:=alz W (cpuC pc used rs stk) 29
 have ltV1:W.heap.size<V1.heap.size:=zL KV1
 have zV:=KV1
 have HB:=hBV1
 clear KV1 hBV1
 obtain ⟨V2,hV2,KV2,hBV2⟩:=alz V1 #[zC zD o.f0,zC zD o.f1,zC zD o.f2,zC zD o.f3,zC zD o.f4] 97
 have ltV2:V1.heap.size<V2.heap.size:=zL KV2
 replace zV:=zI zV hBV2
 have zW:=KV2
 replace HB:=zE HB hBV2
 clear KV2 hBV2
 obtain ⟨V3,hV3,KV3,hBV3⟩:=alz0 V2
 have ltV3:V2.heap.size<V3.heap.size:=zL KV3
 replace zV:=zI zV hBV3
 replace zW:=zI zW hBV3
 have K_o:=KV3
 replace HB:=zE HB hBV3
 clear KV3 hBV3
 obtain ⟨V4,hV4,KV4,hBV4⟩:=alz1 V3
 have ltV4:V3.heap.size<V4.heap.size:=zL KV4
 replace zV:=zI zV hBV4
 replace zW:=zI zW hBV4
 replace K_o:=zI K_o hBV4
 have K_a:=KV4
 replace HB:=zE HB hBV4
 clear KV4 hBV4
 rw [ha,h8] at zW hV2
 have c1:V4.cell? ⟨V1.heap.size,1,none⟩=some (zC zD a):=zJ zW (1)
 have c2:V4.cell? ⟨W.heap.size,2+a * 2,none⟩=some (zC zD x.f0):=(zJ zV (2+a * 2)).trans ra.1
 have c3:V4.cell? ⟨W.heap.size,2+a * 2+1,none⟩=some (zC zD x.f1):=(zJ zV (2+a * 2+1)).trans ra.2
 obtain ⟨V5,hV5,KV5,hBV5⟩:=alz3 V4
 have ltV5:V4.heap.size<V5.heap.size:=zL KV5
 replace zV:=zI zV hBV5
 replace zW:=zI zW hBV5
 replace K_o:=zI K_o hBV5
 replace K_a:=zI K_a hBV5
 have zY:=KV5
 replace HB:=zE HB hBV5
 clear KV5 hBV5
 have c4:V5.cell? ⟨V4.heap.size,0,none⟩=some (zC zD 0):=zJ zY (0)
 have c5:V5.cell? ⟨V4.heap.size,1,none⟩=some (zC zD 0):=zJ zY (1)
 have c6:=zK zY (0)
 have c7:=zK zY (1)
 obtain ⟨V6,hV6⟩:∃ V,(V5.setCell ⟨V4.heap.size,0,none⟩ (zC zD x.f0)).setCell ⟨V4.heap.size,1,none⟩ (zC zD x.f1)=V:=⟨_,rfl⟩
 have hOV6:Only V4.heap.size V5 V6:=by rw [← hV6];exact (Only.set _ _ _).trans (Only.set _ _ _)
 replace zY:V6.heap[V4.heap.size]?=some (.cells (#[zC zD x.f0,zC zD x.f1]) 24 (0,0)):=by rw [← hV6];exact (blk_set (blk_set zY _ _) _ _)
 replace zV:=hOV6.mid zV (by omega) (B:=0)
 replace zW:=hOV6.mid zW (by omega) (B:=0)
 replace K_o:=hOV6.mid K_o (by omega) (B:=0)
 replace K_a:=hOV6.mid K_a (by omega) (B:=0)
 have szV6:V5.heap.size≤V6.heap.size:=hOV6.size
 replace HB:=HB.trans (hOV6.below (by omega) HB.size)
 clear hOV6
 have c8:V6.cell? ⟨V1.heap.size,0,none⟩=some (zC zD 11):=zJ zW (0)
 have c9:V6.cell? ⟨V4.heap.size,0,none⟩=some (zC zD x.f0):=zJ zY (0)
 have m0:(x.f0 != 1)=false:=by simpa using hk
 clear hk
 have c10:V6.cell? ⟨W.heap.size,0,none⟩=some (zC zD pc):=zJ zV (0)
 have c11:=zK zV (0)
 obtain ⟨V7,hV7⟩:∃ V,V6.setCell ⟨W.heap.size,0,none⟩ (zC zD (wrap64 (pc+1)))=V:=⟨_,rfl⟩
 have hOV7:Only W.heap.size V6 V7:=by rw [← hV7];exact Only.set _ _ _
 replace zV:V7.heap[W.heap.size]?=some (.cells (cpuC (wrap64 (pc+1)) used rs stk) 29 (0,0)):=by rw [← hV7];exact (blk_set zV _ _)
 replace zW:=hOV7.mid zW (by omega) (B:=0)
 replace K_o:=hOV7.mid K_o (by omega) (B:=0)
 replace K_a:=hOV7.mid K_a (by omega) (B:=0)
 replace zY:=hOV7.mid zY (by omega) (B:=0)
 have szV7:V6.heap.size≤V7.heap.size:=hOV7.size
 replace HB:=HB.trans (hOV7.below (by omega) HB.size)
 clear hOV7
 have c12:V7.cell? ⟨W.heap.size,1,none⟩=some (zC zD used):=zJ zV (1)
 have c13:=zK zV (1)
 obtain ⟨V8,hV8⟩:∃ V,V7.setCell ⟨W.heap.size,1,none⟩ (zC zD (wrap64 (used+1)))=V:=⟨_,rfl⟩
 have hOV8:Only W.heap.size V7 V8:=by rw [← hV8];exact Only.set _ _ _
 replace zV:V8.heap[W.heap.size]?=some (.cells (cpuC (wrap64 (pc+1)) (wrap64 (used+1)) rs stk) 29 (0,0)):=by rw [← hV8];exact (blk_set zV _ _)
 replace zW:=hOV8.mid zW (by omega) (B:=0)
 replace K_o:=hOV8.mid K_o (by omega) (B:=0)
 replace K_a:=hOV8.mid K_a (by omega) (B:=0)
 replace zY:=hOV8.mid zY (by omega) (B:=0)
 have szV8:V7.heap.size≤V8.heap.size:=hOV8.size
 replace HB:=HB.trans (hOV8.below (by omega) HB.size)
 clear hOV8
 have c14:V8.cell? ⟨V1.heap.size,0,none⟩=some (zC zD 11):=zJ zW (0)
 have c15:V8.cell? ⟨V4.heap.size,1,none⟩=some (zC zD x.f1):=zJ zY (1)
 have m1:(x.f1 != 0)=false:=by simpa using hn
 clear hn
 have hL16:=ld_whole (P:=Try.prog) (ty:=29) zV Try.underlying29 rfl (by first|rfl|(rw [size29];rfl)|(rw [size29];have:=zM hl;simp [this])|(rw [size29,zM hl]))
 have hz:=zM (pc:=(wrap64 (pc+1))) (used:=wrap64 (used+1)) (stk:=stk) hl
 obtain ⟨V9,hSV9,KKV9,hOV9⟩:=st_arr (cs:=cpuC (wrap64 (pc+1)) (wrap64 (used+1)) rs stk) size29 K_o (by first|rfl|simp [hz]) (by first|rfl|simp [hz]) (cpuC_one1 _ _ _ h1)
 clear hz
 replace K_o:V9.heap[V2.heap.size]?=some (.cells (cpuC (wrap64 (pc+1)) (wrap64 (used+1)) rs stk) 29 (0,0)):=KKV9
 replace zV:=hOV9.mid zV (by omega) (B:=0)
 replace zW:=hOV9.mid zW (by omega) (B:=0)
 replace K_a:=hOV9.mid K_a (by omega) (B:=0)
 replace zY:=hOV9.mid zY (by omega) (B:=0)
 have szV9:V8.heap.size≤V9.heap.size:=hOV9.size
 replace HB:=HB.trans (hOV9.below (by omega) HB.size)
 clear hOV9
 clear KKV9
 obtain ⟨V10,hSV10,KKV10,hOV10⟩:=st_arr (cs:=askC 0 0 0 0 0 0 0) size46 K_a (by first|rfl|simp) rfl (by simp [Value.oneCell'])
 replace K_a:V10.heap[V3.heap.size]?=some (.cells (askC 0 0 0 0 0 0 0) 46 (0,0)):=KKV10
 replace zV:=hOV10.mid zV (by omega) (B:=0)
 replace zW:=hOV10.mid zW (by omega) (B:=0)
 replace K_o:=hOV10.mid K_o (by omega) (B:=0)
 replace zY:=hOV10.mid zY (by omega) (B:=0)
 have szV10:V9.heap.size≤V10.heap.size:=hOV10.size
 replace HB:=HB.trans (hOV10.below (by omega) HB.size)
 clear hOV10
 clear KKV10
 have HX1:=zP (zU zV (zU zW (zU K_o (zU K_a (zU zY (HB))))))
 clear HB zY K_a K_o zW zV
 go_enter Try.func39,Try.ntmps39
 go_wp2_with (first|refine wpList_st rfl rfl hSV9 ?_|refine wpList_st rfl rfl hSV10 ?_|refine wpList_ld rfl rfl hL16 ?_)
 obtain ⟨zV,zW,K_o,K_a,zY,HB⟩:=HX1.out
 exact bodyPost_ret (results_cc rfl _ rfl K_o hu29 rfl (by rw [size29,zM (pc:=(wrap64 (pc+1))) (used:=wrap64 (used+1)) (stk:=stk) hl]) rfl K_a hu46 rfl (by rw [size46];rfl)) rfl ⟨rfl,HB⟩
theorem rjump11_2 (pc used:Int) (rs:List S32) (stk:Value) (o:S97) (W:World) (hl:rs.length=8) (h1:stk.oneCell'=true) (ha0:0≤o.f1) (ha1:o.f1<8) (h8:o.f0=11) (hk:(regA rs o.f1).f0=1) (hn:¬ (regA rs o.f1).f1=0) :
  Calls Try.prog 39 #[.agg (cpuC pc used rs stk),.agg #[zC zD o.f0,zC zD o.f1,zC zD o.f2,zC zD o.f3,zC zD o.f4]] W fun x w'=>x=.returned (.tuple #[.agg (cpuC o.f3 (wrap64 (used+1)) rs stk),.agg (askC 0 0 0 0 0 0 0)])∧Below W.heap.size W w':=by
 have hu29:=Try.underlying29
 have hu46:=Try.underlying46
 have hu26:=Try.underlying26
 have hu24:=Try.underlying24
 have hu97:=Try.underlying97
 obtain ⟨a,ha⟩:∃ a:Nat,o.f1=a:=⟨o.f1.toNat,by omega⟩
 have a8:a<8:=by omega
 have xa:rs[a]?=some (regA rs o.f1):=by rw [ha];unfold regA;simp [hl,a8]
 have ra:=cpuC_reg (pc:=pc) (used:=used) (stk:=stk) xa
 generalize hxa:regA rs o.f1=x at *
 obtain ⟨V1,hV1,KV1,hBV1⟩:=alz W (cpuC pc used rs stk) 29
 have ltV1:W.heap.size<V1.heap.size:=zL KV1
 have zV:=KV1
 have HB:=hBV1
 clear KV1 hBV1
 obtain ⟨V2,hV2,KV2,hBV2⟩:=alz V1 #[zC zD o.f0,zC zD o.f1,zC zD o.f2,zC zD o.f3,zC zD o.f4] 97
 have ltV2:V1.heap.size<V2.heap.size:=zL KV2
 replace zV:=zI zV hBV2
 have zW:=KV2
 replace HB:=zE HB hBV2
 clear KV2 hBV2
 obtain ⟨V3,hV3,KV3,hBV3⟩:=alz0 V2
 have ltV3:V2.heap.size<V3.heap.size:=zL KV3
 replace zV:=zI zV hBV3
 replace zW:=zI zW hBV3
 have K_o:=KV3
 replace HB:=zE HB hBV3
 clear KV3 hBV3
 obtain ⟨V4,hV4,KV4,hBV4⟩:=alz1 V3
 have ltV4:V3.heap.size<V4.heap.size:=zL KV4
 replace zV:=zI zV hBV4
 replace zW:=zI zW hBV4
 replace K_o:=zI K_o hBV4
 have K_a:=KV4
 replace HB:=zE HB hBV4
 clear KV4 hBV4
 rw [ha,h8] at zW hV2
 have c1:V4.cell? ⟨V1.heap.size,1,none⟩=some (zC zD a):=zJ zW (1)
 have c2:V4.cell? ⟨W.heap.size,2+a * 2,none⟩=some (zC zD x.f0):=(zJ zV (2+a * 2)).trans ra.1
 have c3:V4.cell? ⟨W.heap.size,2+a * 2+1,none⟩=some (zC zD x.f1):=(zJ zV (2+a * 2+1)).trans ra.2
 obtain ⟨V5,hV5,KV5,hBV5⟩:=alz3 V4
 have ltV5:V4.heap.size<V5.heap.size:=zL KV5
 replace zV:=zI zV hBV5
 replace zW:=zI zW hBV5
 replace K_o:=zI K_o hBV5
 replace K_a:=zI K_a hBV5
 have zY:=KV5
 replace HB:=zE HB hBV5
 clear KV5 hBV5
 have c4:V5.cell? ⟨V4.heap.size,0,none⟩=some (zC zD 0):=zJ zY (0)
 have c5:V5.cell? ⟨V4.heap.size,1,none⟩=some (zC zD 0):=zJ zY (1)
 have c6:=zK zY (0)
 have c7:=zK zY (1)
 obtain ⟨V6,hV6⟩:∃ V,(V5.setCell ⟨V4.heap.size,0,none⟩ (zC zD x.f0)).setCell ⟨V4.heap.size,1,none⟩ (zC zD x.f1)=V:=⟨_,rfl⟩
 have hOV6:Only V4.heap.size V5 V6:=by rw [← hV6];exact (Only.set _ _ _).trans (Only.set _ _ _)
 replace zY:V6.heap[V4.heap.size]?=some (.cells (#[zC zD x.f0,zC zD x.f1]) 24 (0,0)):=by rw [← hV6];exact (blk_set (blk_set zY _ _) _ _)
 replace zV:=hOV6.mid zV (by omega) (B:=0)
 replace zW:=hOV6.mid zW (by omega) (B:=0)
 replace K_o:=hOV6.mid K_o (by omega) (B:=0)
 replace K_a:=hOV6.mid K_a (by omega) (B:=0)
 have szV6:V5.heap.size≤V6.heap.size:=hOV6.size
 replace HB:=HB.trans (hOV6.below (by omega) HB.size)
 clear hOV6
 have c8:V6.cell? ⟨V1.heap.size,0,none⟩=some (zC zD 11):=zJ zW (0)
 have c9:V6.cell? ⟨V4.heap.size,0,none⟩=some (zC zD x.f0):=zJ zY (0)
 have m0:(x.f0 != 1)=false:=by simpa using hk
 clear hk
 have c10:V6.cell? ⟨W.heap.size,0,none⟩=some (zC zD pc):=zJ zV (0)
 have c11:=zK zV (0)
 obtain ⟨V7,hV7⟩:∃ V,V6.setCell ⟨W.heap.size,0,none⟩ (zC zD (wrap64 (pc+1)))=V:=⟨_,rfl⟩
 have hOV7:Only W.heap.size V6 V7:=by rw [← hV7];exact Only.set _ _ _
 replace zV:V7.heap[W.heap.size]?=some (.cells (cpuC (wrap64 (pc+1)) used rs stk) 29 (0,0)):=by rw [← hV7];exact (blk_set zV _ _)
 replace zW:=hOV7.mid zW (by omega) (B:=0)
 replace K_o:=hOV7.mid K_o (by omega) (B:=0)
 replace K_a:=hOV7.mid K_a (by omega) (B:=0)
 replace zY:=hOV7.mid zY (by omega) (B:=0)
 have szV7:V6.heap.size≤V7.heap.size:=hOV7.size
 replace HB:=HB.trans (hOV7.below (by omega) HB.size)
 clear hOV7
 have c12:V7.cell? ⟨W.heap.size,1,none⟩=some (zC zD used):=zJ zV (1)
 have c13:=zK zV (1)
 obtain ⟨V8,hV8⟩:∃ V,V7.setCell ⟨W.heap.size,1,none⟩ (zC zD (wrap64 (used+1)))=V:=⟨_,rfl⟩
 have hOV8:Only W.heap.size V7 V8:=by rw [← hV8];exact Only.set _ _ _
 replace zV:V8.heap[W.heap.size]?=some (.cells (cpuC (wrap64 (pc+1)) (wrap64 (used+1)) rs stk) 29 (0,0)):=by rw [← hV8];exact (blk_set zV _ _)
 replace zW:=hOV8.mid zW (by omega) (B:=0)
 replace K_o:=hOV8.mid K_o (by omega) (B:=0)
 replace K_a:=hOV8.mid K_a (by omega) (B:=0)
 replace zY:=hOV8.mid zY (by omega) (B:=0)
 have szV8:V7.heap.size≤V8.heap.size:=hOV8.size
 replace HB:=HB.trans (hOV8.below (by omega) HB.size)
 clear hOV8
 have c14:V8.cell? ⟨V1.heap.size,0,none⟩=some (zC zD 11):=zJ zW (0)
 have c15:V8.cell? ⟨V4.heap.size,1,none⟩=some (zC zD x.f1):=zJ zY (1)
 have m1:(x.f1 != 0)=true:=by simpa using hn
 clear hn
 have c16:V8.cell? ⟨V1.heap.size,3,none⟩=some (zC zD o.f3):=zJ zW (3)
 have c17:V8.cell? ⟨W.heap.size,0,none⟩=some (zC zD (wrap64 (pc+1))):=zJ zV (0)
 have c18:=zK zV (0)
 obtain ⟨V9,hV9⟩:∃ V,V8.setCell ⟨W.heap.size,0,none⟩ (zC zD o.f3)=V:=⟨_,rfl⟩
 have hOV9:Only W.heap.size V8 V9:=by rw [← hV9];exact Only.set _ _ _
 replace zV:V9.heap[W.heap.size]?=some (.cells (cpuC o.f3 (wrap64 (used+1)) rs stk) 29 (0,0)):=by rw [← hV9];exact (blk_set zV _ _)
 replace zW:=hOV9.mid zW (by omega) (B:=0)
 replace K_o:=hOV9.mid K_o (by omega) (B:=0)
 replace K_a:=hOV9.mid K_a (by omega) (B:=0)
 replace zY:=hOV9.mid zY (by omega) (B:=0)
 have szV9:V8.heap.size≤V9.heap.size:=hOV9.size
 replace HB:=HB.trans (hOV9.below (by omega) HB.size)
 clear hOV9
 have hL19:=ld_whole (P:=Try.prog) (ty:=29) zV Try.underlying29 rfl (by first|rfl|(rw [size29];rfl)|(rw [size29];have:=zM hl;simp [this])|(rw [size29,zM hl]))
 have hz:=zM (pc:=o.f3) (used:=wrap64 (used+1)) (stk:=stk) hl
 obtain ⟨V10,hSV10,KKV10,hOV10⟩:=st_arr (cs:=cpuC o.f3 (wrap64 (used+1)) rs stk) size29 K_o (by first|rfl|simp [hz]) (by first|rfl|simp [hz]) (cpuC_one1 _ _ _ h1)
 clear hz
 replace K_o:V10.heap[V2.heap.size]?=some (.cells (cpuC o.f3 (wrap64 (used+1)) rs stk) 29 (0,0)):=KKV10
 replace zV:=hOV10.mid zV (by omega) (B:=0)
 replace zW:=hOV10.mid zW (by omega) (B:=0)
 replace K_a:=hOV10.mid K_a (by omega) (B:=0)
 replace zY:=hOV10.mid zY (by omega) (B:=0)
 have szV10:V9.heap.size≤V10.heap.size:=hOV10.size
 replace HB:=HB.trans (hOV10.below (by omega) HB.size)
 clear hOV10
 clear KKV10
 obtain ⟨V11,hSV11,KKV11,hOV11⟩:=st_arr (cs:=askC 0 0 0 0 0 0 0) size46 K_a (by first|rfl|simp) rfl (by simp [Value.oneCell'])
 replace K_a:V11.heap[V3.heap.size]?=some (.cells (askC 0 0 0 0 0 0 0) 46 (0,0)):=KKV11
 replace zV:=hOV11.mid zV (by omega) (B:=0)
 replace zW:=hOV11.mid zW (by omega) (B:=0)
 replace K_o:=hOV11.mid K_o (by omega) (B:=0)
 replace zY:=hOV11.mid zY (by omega) (B:=0)
 have szV11:V10.heap.size≤V11.heap.size:=hOV11.size
 replace HB:=HB.trans (hOV11.below (by omega) HB.size)
 clear hOV11
 clear KKV11
 have HX1:=zP (zU zV (zU zW (zU K_o (zU K_a (zU zY (HB))))))
 clear HB zY K_a K_o zW zV
 go_enter Try.func39,Try.ntmps39
 go_wp2_with (first|refine wpList_st rfl rfl hSV10 ?_|refine wpList_st rfl rfl hSV11 ?_|refine wpList_ld rfl rfl hL19 ?_)
 obtain ⟨zV,zW,K_o,K_a,zY,HB⟩:=HX1.out
 exact bodyPost_ret (results_cc rfl _ rfl K_o hu29 rfl (by rw [size29,zM (pc:=o.f3) (used:=wrap64 (used+1)) (stk:=stk) hl]) rfl K_a hu46 rfl (by rw [size46];rfl)) rfl ⟨rfl,HB⟩
end Go.Proofs.Ytgnjkegnddekeaa.Q
