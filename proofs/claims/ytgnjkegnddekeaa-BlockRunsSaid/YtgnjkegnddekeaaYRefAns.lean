/- What a step asks for is answered, the document's: by hand. -/
import Derived.Test.YtgnjkegnddekeaaYRefStep
import Derived.Test.YtgnjkegnddekeaaYTxnQ
set_option maxHeartbeats 2000000
set_option maxRecDepth 100000
open Go.Value renaming int → zC
open Go.IntKind renaming i64 → zD
open Go.Lib renaming hid → zP
open And renaming intro → zU
namespace Go.Proofs.Ytgnjkegnddekeaa.Q
open Go.RowKit Go.Lib Go.Proofs.Ytgnjkegnddekeaa Go.Proofs.YtgnjkegnddekeaaW.PrintWords Go.Proofs.YtgnjkegnddekeaaW.PrintLast Go.Proofs.YtgnjkegnddekeaaW.PrintMore
set_option linter.unusedVariables false
set_option linter.unusedSimpArgs false
theorem results_ctt {P:Program} {W:World} {g:Nat} {t ty:TypeId} {xs:Array Value} {fr:Nat × Nat} {d:TypeDesc} {fn:Func} {p u v:Tmp} (h:fn.results=#[.cell p ty,.tmp u,.tmp v]) (tmps:Array Value)
  (hp:tmps.getD p undef=.pointer (some ⟨g,0,none⟩)) (hg:W.heap[g]?=some (.cells xs t fr)) (hu:P.underlying ty=some d) (hd:d.isRow=true) (hi:(P.info? ty).map (·.size)=some xs.size) :
  (results fn tmps).run P W=.ok (.tuple #[.agg xs,tmps.getD u undef,tmps.getD v undef]) W:=by
 have hp':tmps[p]?.getD undef=.pointer (some ⟨g,0,none⟩):=by simpa using hp
 simp [results,h,hp',asAddr,ldv hg hu hd hi]
def RAns (W:World) (P:Nat→Prop) (SA:Option Addr) (sc:Nat) (fs0:List FrameD) (r:CpuD × List S80 × Int) (x:Ending) (w':World):Prop :=
 ∃ A c TA tc,x=.returned (.tuple #[.agg (cpuC r.1.pc r.1.used r.1.rs (.slice A r.1.fs.length c)),.slice TA (r.2.1.map our80).length tc,.bool (r.2.2==0)])∧((A=SA∧c=sc∧r.1.fs=fs0)∨Kd.R kF 99 w' W.heap.size (fun _=>True) (.slice A r.1.fs.length c) r.1.fs)∧Kd.V k114 114 w' W.heap.size (fun k=>P k∨W.heap.size≤k) (.slice TA (r.2.1.map our80).length tc) (r.2.1.map our80)∧Below W.heap.size W w'
theorem sz29_:(Try.prog.info? 29).map (·.size)=some 19:=by kernel_rfl
theorem rans_0 (pc used:Int) (rs:List S32) (SA:Option Addr) (sc:Nat) (fs:List FrameD) (x a d v0 v1 e:Int) (P:Nat→Prop) (TA:Option Addr) (tc:Nat) (t:List S80) (NA:Option Addr) (nc:Nat) (now:List S24) (W:World) (hl:rs.length=8) (hT:Kd.V k114 114 W W.heap.size (fun k=>P k) (.slice TA (t.map our80).length tc) (t.map our80)) (ht:t.length≤1000000)  :
  Calls Try.prog 42 #[.agg (cpuC pc used rs (.slice SA fs.length sc)),.agg (askC 0 x a d v0 v1 e),.slice TA (t.map our80).length tc,.slice NA now.length nc] W (RAns W P SA sc fs (⟨pc,used,rs,fs⟩,t,0)):=by
 have hu24:=Try.underlying24
 have hu26:=Try.underlying26
 have hu27:=Try.underlying27
 have hu29:=Try.underlying29
 have hu46:=Try.underlying46
 have hu52:=Try.underlying52
 have hu64:=Try.underlying64
 have hu99:=Try.underlying99
 have hu114:=Try.underlying114
 obtain ⟨T,hTT⟩:∃ T,t.map our80=T:=⟨_,rfl⟩
 rw [hTT] at hT ⊢
 obtain ⟨V1,hV1,KV1,hBV1⟩:=alz W (cpuC pc used rs (.slice SA fs.length sc)) 29
 have ltV1:W.heap.size<V1.heap.size:=zL KV1
 have zV:=KV1
 have HB:=hBV1
 clear KV1 hBV1
 obtain ⟨V2,hV2,KV2,hBV2⟩:=alz V1 (askC 0 x a d v0 v1 e) 46
 have ltV2:V1.heap.size<V2.heap.size:=zL KV2
 replace zV:=zI zV hBV2
 have zX:=KV2
 replace HB:=zE HB hBV2
 clear KV2 hBV2
 obtain ⟨V3,hV3,KV3,hBV3⟩:=alz0 V2
 have ltV3:V2.heap.size<V3.heap.size:=zL KV3
 replace zV:=zI zV hBV3
 replace zX:=zI zX hBV3
 have K_o:=KV3
 replace HB:=zE HB hBV3
 clear KV3 hBV3
 have c1:V3.cell? ⟨V1.heap.size,0,none⟩=some (zC zD 0):=zJ zX (0)
 have HV:=zP (Kd.V_bound hT)
 have hL2:=ld_whole (P:=Try.prog) (ty:=29) zV Try.underlying29 rfl (by first|rfl|(rw [sz29_];rfl)|(rw [sz29_];have:=zM (pc:=pc) (used:=used) (stk:=.slice SA fs.length sc) (rs:=rs) hl;simp [this])|(rw [sz29_,zM (pc:=pc) (used:=used) (stk:=.slice SA fs.length sc) (rs:=rs) hl]))
 have hz:=zM (pc:=pc) (used:=used) (stk:=.slice SA fs.length sc) (rs:=rs) hl
 obtain ⟨V4,hSV4,KKV4,hOV4⟩:=st_arr (cs:=cpuC pc used rs (.slice SA fs.length sc)) sz29_ K_o (by first|rfl|simp [hz]) (by first|rfl|simp [hz]) (cpuC_one1 _ _ _ rfl)
 clear hz
 replace K_o:V4.heap[V2.heap.size]?=some (.cells (cpuC pc used rs (.slice SA fs.length sc)) 29 (0,0)):=KKV4
 replace zV:=hOV4.mid zV (by omega) (B:=0)
 replace zX:=hOV4.mid zX (by omega) (B:=0)
 have szV4:V3.heap.size≤V4.heap.size:=hOV4.size
 replace HB:=HB.trans (hOV4.below (by omega) HB.size)
 clear hOV4
 clear KKV4
 have HX1:=zP (zU zV (zU zX (zU K_o (HB))))
 clear HB K_o zX zV
 go_enter Try.func42,Try.ntmps42
 go_wp2_with (first|refine wpList_st rfl rfl hSV4 ?_|refine wpList_ld rfl rfl hL2 ?_)
 obtain ⟨zV,zX,K_o,HB⟩:=HX1.out
 exact bodyPost_ret (results_ctt rfl _ rfl K_o hu29 rfl (by rw [sz29_,zM (pc:=pc) (used:=used) (stk:=.slice SA fs.length sc) (rs:=rs) hl])) rfl ⟨SA,sc,TA,tc,by rw [hTT];rfl,Or.inl ⟨rfl,rfl,rfl⟩,by rw [hTT];exact Kd.V_mono (Kd.V_below hT HB) (fun k hk=>Or.inl hk),HB⟩
theorem rans_2 (pc used:Int) (rs:List S32) (SA:Option Addr) (sc:Nat) (fs:List FrameD) (x a d v0 v1 e:Int) (P:Nat→Prop) (TA:Option Addr) (tc:Nat) (t:List S80) (NA:Option Addr) (nc:Nat) (now:List S24) (W:World) (hl:rs.length=8) (hT:Kd.V k114 114 W W.heap.size (fun k=>P k) (.slice TA (t.map our80).length tc) (t.map our80)) (ht:t.length≤1000000)  :
  Calls Try.prog 42 #[.agg (cpuC pc used rs (.slice SA fs.length sc)),.agg (askC 2 x a d v0 v1 e),.slice TA (t.map our80).length tc,.slice NA now.length nc] W (RAns W P SA sc fs (⟨pc,used,rs,fs⟩,(addL t ⟨x,⟨v0,v1⟩,true⟩).1,(addL t ⟨x,⟨v0,v1⟩,true⟩).2)):=by
 have hu24:=Try.underlying24
 have hu26:=Try.underlying26
 have hu27:=Try.underlying27
 have hu29:=Try.underlying29
 have hu46:=Try.underlying46
 have hu52:=Try.underlying52
 have hu64:=Try.underlying64
 have hu99:=Try.underlying99
 have hu114:=Try.underlying114
 obtain ⟨T,hTT⟩:∃ T,t.map our80=T:=⟨_,rfl⟩
 rw [hTT] at hT ⊢
 obtain ⟨V1,hV1,KV1,hBV1⟩:=alz W (cpuC pc used rs (.slice SA fs.length sc)) 29
 have ltV1:W.heap.size<V1.heap.size:=zL KV1
 have zV:=KV1
 have HB:=hBV1
 clear KV1 hBV1
 obtain ⟨V2,hV2,KV2,hBV2⟩:=alz V1 (askC 2 x a d v0 v1 e) 46
 have ltV2:V1.heap.size<V2.heap.size:=zL KV2
 replace zV:=zI zV hBV2
 have zX:=KV2
 replace HB:=zE HB hBV2
 clear KV2 hBV2
 obtain ⟨V3,hV3,KV3,hBV3⟩:=alz0 V2
 have ltV3:V2.heap.size<V3.heap.size:=zL KV3
 replace zV:=zI zV hBV3
 replace zX:=zI zX hBV3
 have K_o:=KV3
 replace HB:=zE HB hBV3
 clear KV3 hBV3
 have c1:V3.cell? ⟨V1.heap.size,0,none⟩=some (zC zD 2):=zJ zX (0)
 have HV:=zP (Kd.V_bound hT)
 have c2:V3.cell? ⟨V1.heap.size,1,none⟩=some (zC zD x):=zJ zX (1)
 have c3:V3.cell? ⟨V1.heap.size,4,none⟩=some (zC zD v0):=zJ zX (4)
 have c4:V3.cell? ⟨V1.heap.size,5,none⟩=some (zC zD v1):=zJ zX (5)
 obtain ⟨t2,er,hg⟩:∃ t2 er,addL t ⟨x,⟨v0,v1⟩,true⟩=(t2,er):=⟨_,_,rfl⟩
 rw [hg]
 have HF:=zP (warpbeamref08_Add.calls 1 (fun k=>P k∧k<W.heap.size) TA tc T x v0 v1 true (t2.map our80) er V3 (Kd.V_below HV.out HB) (by rw [← hTT];have:=add_f t ⟨x,⟨v0,v1⟩,true⟩ ht;rw [hg] at this;exact this))
 have HX1:=zP (zU zV (zU zX (zU K_o (HB))))
 clear HB K_o zX zV
 go_enter Try.func42,Try.ntmps42
 go_wp2_with fail
 refine HF.out.mono ?_
 rintro y w9 ⟨u,rfl,hV,hB9⟩
 obtain ⟨TB,td,rfl⟩:=Kd.V_slice hV
 clear HF
 obtain ⟨zV,zX,K_o,HB⟩:=HX1.out
 clear HX1
 have szc:V3.heap.size≤V3.heap.size:=Nat.le_refl _
 replace zV:=zI zV hB9
 replace zX:=zI zX hB9
 replace K_o:=zI K_o hB9
 have szw9:V3.heap.size≤w9.heap.size:=hB9.size
 replace HB:=zE HB hB9
 have R_t:=hV
 clear hV
 have hL5:=ld_whole (P:=Try.prog) (ty:=29) zV Try.underlying29 rfl (by first|rfl|(rw [sz29_];rfl)|(rw [sz29_];have:=zM (pc:=pc) (used:=used) (stk:=.slice SA fs.length sc) (rs:=rs) hl;simp [this])|(rw [sz29_,zM (pc:=pc) (used:=used) (stk:=.slice SA fs.length sc) (rs:=rs) hl]))
 have hz:=zM (pc:=pc) (used:=used) (stk:=.slice SA fs.length sc) (rs:=rs) hl
 obtain ⟨V4,hSV4,KKV4,hOV4⟩:=st_arr (cs:=cpuC pc used rs (.slice SA fs.length sc)) sz29_ K_o (by first|rfl|simp [hz]) (by first|rfl|simp [hz]) (cpuC_one1 _ _ _ rfl)
 clear hz
 replace R_t:=Kd.V_step R_t (fun k hk hlt=>hOV4.block k hlt (by first|omega|(have:=hk.2;omega)|(rcases hk with hk|hk <;> omega)))
 replace K_o:V4.heap[V2.heap.size]?=some (.cells (cpuC pc used rs (.slice SA fs.length sc)) 29 (0,0)):=KKV4
 replace zV:=hOV4.mid zV (by omega) (B:=0)
 replace zX:=hOV4.mid zX (by omega) (B:=0)
 have szV4:w9.heap.size≤V4.heap.size:=hOV4.size
 replace HB:=HB.trans (hOV4.below (by omega) HB.size)
 clear hOV4
 clear KKV4
 have HX2:=zP (zU zV (zU zX (zU K_o (zU R_t (HB)))))
 clear HB R_t K_o zX zV
 go_wp2_with (first|refine wpList_st rfl rfl hSV4 ?_|refine wpList_ld rfl rfl hL5 ?_)
 obtain ⟨zV,zX,K_o,R_t,HB⟩:=HX2.out
 exact bodyPost_ret (results_ctt rfl _ rfl K_o hu29 rfl (by rw [sz29_,zM (pc:=pc) (used:=used) (stk:=.slice SA fs.length sc) (rs:=rs) hl])) rfl ⟨SA,sc,TB,td,by first|rfl|simp,Or.inl ⟨rfl,rfl,rfl⟩,Kd.V_mono R_t (fun k hk=>by rcases hk with hk|hk;exact Or.inl hk.1;right;omega),HB⟩
theorem rans_4 (pc used:Int) (rs:List S32) (SA:Option Addr) (sc:Nat) (fs:List FrameD) (x a d v0 v1 e:Int) (P:Nat→Prop) (TA:Option Addr) (tc:Nat) (t:List S80) (NA:Option Addr) (nc:Nat) (now:List S24) (W:World) (hl:rs.length=8) (hT:Kd.V k114 114 W W.heap.size (fun k=>P k) (.slice TA (t.map our80).length tc) (t.map our80)) (ht:t.length≤1000000)  :
  Calls Try.prog 42 #[.agg (cpuC pc used rs (.slice SA fs.length sc)),.agg (askC 4 x a d v0 v1 e),.slice TA (t.map our80).length tc,.slice NA now.length nc] W (RAns W P SA sc fs (⟨pc,used,rs,fs⟩,(backL t d).1,(backL t d).2)):=by
 have hu24:=Try.underlying24
 have hu26:=Try.underlying26
 have hu27:=Try.underlying27
 have hu29:=Try.underlying29
 have hu46:=Try.underlying46
 have hu52:=Try.underlying52
 have hu64:=Try.underlying64
 have hu99:=Try.underlying99
 have hu114:=Try.underlying114
 obtain ⟨T,hTT⟩:∃ T,t.map our80=T:=⟨_,rfl⟩
 rw [hTT] at hT ⊢
 obtain ⟨V1,hV1,KV1,hBV1⟩:=alz W (cpuC pc used rs (.slice SA fs.length sc)) 29
 have ltV1:W.heap.size<V1.heap.size:=zL KV1
 have zV:=KV1
 have HB:=hBV1
 clear KV1 hBV1
 obtain ⟨V2,hV2,KV2,hBV2⟩:=alz V1 (askC 4 x a d v0 v1 e) 46
 have ltV2:V1.heap.size<V2.heap.size:=zL KV2
 replace zV:=zI zV hBV2
 have zX:=KV2
 replace HB:=zE HB hBV2
 clear KV2 hBV2
 obtain ⟨V3,hV3,KV3,hBV3⟩:=alz0 V2
 have ltV3:V2.heap.size<V3.heap.size:=zL KV3
 replace zV:=zI zV hBV3
 replace zX:=zI zX hBV3
 have K_o:=KV3
 replace HB:=zE HB hBV3
 clear KV3 hBV3
 have c1:V3.cell? ⟨V1.heap.size,0,none⟩=some (zC zD 4):=zJ zX (0)
 have HV:=zP (Kd.V_bound hT)
 have c2:V3.cell? ⟨V1.heap.size,3,none⟩=some (zC zD d):=zJ zX (3)
 obtain ⟨t2,er,hg⟩:∃ t2 er,backL t d=(t2,er):=⟨_,_,rfl⟩
 rw [hg]
 have HF:=zP (warpbeamref08_Back.calls (t.length+2) (fun k=>P k∧k<W.heap.size) TA tc T d (t2.map our80) er V3 (Kd.V_below HV.out HB) (by rw [← hTT];have:=back_f t d ht (t.length+2) (by omega);rw [hg] at this;exact this))
 have HX1:=zP (zU zV (zU zX (zU K_o (HB))))
 clear HB K_o zX zV
 go_enter Try.func42,Try.ntmps42
 go_wp2_with fail
 refine HF.out.mono ?_
 rintro y w9 ⟨u,rfl,hV,hB9⟩
 obtain ⟨TB,td,rfl⟩:=Kd.V_slice hV
 clear HF
 obtain ⟨zV,zX,K_o,HB⟩:=HX1.out
 clear HX1
 replace zV:=zI zV hB9
 replace zX:=zI zX hB9
 replace K_o:=zI K_o hB9
 have szw9:V3.heap.size≤w9.heap.size:=hB9.size
 replace HB:=zE HB hB9
 have R_t:=hV
 clear hV
 have hL3:=ld_whole (P:=Try.prog) (ty:=29) zV Try.underlying29 rfl (by first|rfl|(rw [sz29_];rfl)|(rw [sz29_];have:=zM (pc:=pc) (used:=used) (stk:=.slice SA fs.length sc) (rs:=rs) hl;simp [this])|(rw [sz29_,zM (pc:=pc) (used:=used) (stk:=.slice SA fs.length sc) (rs:=rs) hl]))
 have hz:=zM (pc:=pc) (used:=used) (stk:=.slice SA fs.length sc) (rs:=rs) hl
 obtain ⟨V4,hSV4,KKV4,hOV4⟩:=st_arr (cs:=cpuC pc used rs (.slice SA fs.length sc)) sz29_ K_o (by first|rfl|simp [hz]) (by first|rfl|simp [hz]) (cpuC_one1 _ _ _ rfl)
 clear hz
 replace R_t:=Kd.V_step R_t (fun k hk hlt=>hOV4.block k hlt (by first|omega|(have:=hk.2;omega)|(rcases hk with hk|hk <;> omega)))
 replace K_o:V4.heap[V2.heap.size]?=some (.cells (cpuC pc used rs (.slice SA fs.length sc)) 29 (0,0)):=KKV4
 replace zV:=hOV4.mid zV (by omega) (B:=0)
 replace zX:=hOV4.mid zX (by omega) (B:=0)
 have szV4:w9.heap.size≤V4.heap.size:=hOV4.size
 replace HB:=HB.trans (hOV4.below (by omega) HB.size)
 clear hOV4
 clear KKV4
 have HX2:=zP (zU zV (zU zX (zU K_o (zU R_t (HB)))))
 clear HB R_t K_o zX zV
 go_wp2_with (first|refine wpList_st rfl rfl hSV4 ?_|refine wpList_ld rfl rfl hL3 ?_)
 obtain ⟨zV,zX,K_o,R_t,HB⟩:=HX2.out
 exact bodyPost_ret (results_ctt rfl _ rfl K_o hu29 rfl (by rw [sz29_,zM (pc:=pc) (used:=used) (stk:=.slice SA fs.length sc) (rs:=rs) hl])) rfl ⟨SA,sc,TB,td,by first|rfl|simp,Or.inl ⟨rfl,rfl,rfl⟩,Kd.V_mono R_t (fun k hk=>by rcases hk with hk|hk;exact Or.inl hk.1;right;omega),HB⟩
theorem rans_is (pc used:Int) (rs:List S32) (SA:Option Addr) (sc:Nat) (fs:List FrameD) (x a d v0 v1 e:Int) (P:Nat→Prop) (TA:Option Addr) (tc:Nat) (t:List S80) (NA:Option Addr) (nc:Nat) (now:List S24) (W:World) (hl:rs.length=8) (hT:Kd.V k114 114 W W.heap.size (fun k=>P k) (.slice TA (t.map our80).length tc) (t.map our80)) (ht:t.length≤1000000) (hq:(lookL t x).2=true) (ha0:0≤a) (ha1:a<8) :
  Calls Try.prog 42 #[.agg (cpuC pc used rs (.slice SA fs.length sc)),.agg (askC 1 x a d v0 v1 e),.slice TA (t.map our80).length tc,.slice NA now.length nc] W (RAns W P SA sc fs (⟨pc,used,rs.set a.toNat (lookL t x).1,fs⟩,t,0)):=by
 have hu24:=Try.underlying24
 have hu26:=Try.underlying26
 have hu27:=Try.underlying27
 have hu29:=Try.underlying29
 have hu46:=Try.underlying46
 have hu52:=Try.underlying52
 have hu64:=Try.underlying64
 have hu99:=Try.underlying99
 have hu114:=Try.underlying114
 obtain ⟨r,rfl⟩:∃ r:Nat,a=r:=⟨a.toNat,by omega⟩
 try simp only [Int.toNat_natCast]
 have hr8:r<8:=by omega
 have hal:r<rs.length:=by omega
 have rr:=cpuC_reg (pc:=pc) (used:=used) (stk:=.slice SA fs.length sc) (List.getElem?_eq_getElem hal)
 have h82:∀ v,(rs.set r v).length=8:=fun v=>by rw [List.length_set];exact hl
 obtain ⟨w0,w1,hq2⟩:∃ w0 w1,lookL t x=(⟨w0,w1⟩,true):=⟨_,_,Prod.ext rfl hq⟩
 rw [hq2]
 dsimp only
 obtain ⟨T,hTT⟩:∃ T,t.map our80=T:=⟨_,rfl⟩
 rw [hTT] at hT ⊢
 obtain ⟨V1,hV1,KV1,hBV1⟩:=alz W (cpuC pc used rs (.slice SA fs.length sc)) 29
 have ltV1:W.heap.size<V1.heap.size:=zL KV1
 have zV:=KV1
 have HB:=hBV1
 clear KV1 hBV1
 obtain ⟨V2,hV2,KV2,hBV2⟩:=alz V1 (askC 1 x (r:Int) d v0 v1 e) 46
 have ltV2:V1.heap.size<V2.heap.size:=zL KV2
 replace zV:=zI zV hBV2
 have zX:=KV2
 replace HB:=zE HB hBV2
 clear KV2 hBV2
 obtain ⟨V3,hV3,KV3,hBV3⟩:=alz0 V2
 have ltV3:V2.heap.size<V3.heap.size:=zL KV3
 replace zV:=zI zV hBV3
 replace zX:=zI zX hBV3
 have K_o:=KV3
 replace HB:=zE HB hBV3
 clear KV3 hBV3
 have c1:V3.cell? ⟨V1.heap.size,0,none⟩=some (zC zD 1):=zJ zX (0)
 have HV:=zP (Kd.V_bound hT)
 have c2:V3.cell? ⟨V1.heap.size,1,none⟩=some (zC zD x):=zJ zX (1)
 have HF:=zP (warpbeamref08_Look.calls (t.length+1) TA tc T x w0 w1 true V3 (Kd.V_reads' (Kd.V_below HV.out HB)).2.2 (Kd.V_reads' (Kd.V_below HV.out HB)).2.1 (by rw [← hTT];have:=look_f t x ht (t.length+1) (by omega);rw [hq2] at this;exact this))
 have HX1:=zP (zU zV (zU zX (zU K_o (HB))))
 clear HB K_o zX zV
 go_enter Try.func42,Try.ntmps42
 go_wp2_with fail
 refine HF.out.mono ?_
 rintro y w9 ⟨rfl,hB9⟩
 clear HF
 obtain ⟨zV,zX,K_o,HB⟩:=HX1.out
 clear HX1
 replace zV:=zI zV hB9
 replace zX:=zI zX hB9
 replace K_o:=zI K_o hB9
 have szw9:V3.heap.size≤w9.heap.size:=hB9.size
 replace HB:=zE HB hB9
 obtain ⟨V4,hV4,KV4,hBV4⟩:=alz3 w9
 have ltV4:w9.heap.size<V4.heap.size:=zL KV4
 replace zV:=zI zV hBV4
 replace zX:=zI zX hBV4
 replace K_o:=zI K_o hBV4
 have zY:=KV4
 replace HB:=zE HB hBV4
 clear KV4 hBV4
 have c3:V4.cell? ⟨w9.heap.size,0,none⟩=some (zC zD 0):=zJ zY (0)
 have c4:V4.cell? ⟨w9.heap.size,1,none⟩=some (zC zD 0):=zJ zY (1)
 have c5:=zK zY (0)
 have c6:=zK zY (1)
 obtain ⟨V5,hV5⟩:∃ V,(V4.setCell ⟨w9.heap.size,0,none⟩ (zC zD w0)).setCell ⟨w9.heap.size,1,none⟩ (zC zD w1)=V:=⟨_,rfl⟩
 have hOV5:Only w9.heap.size V4 V5:=by rw [← hV5];exact (Only.set _ _ _).trans (Only.set _ _ _)
 replace zY:V5.heap[w9.heap.size]?=some (.cells (#[zC zD w0,zC zD w1]) 24 (0,0)):=by rw [← hV5];exact (blk_set (blk_set zY _ _) _ _)
 replace zV:=hOV5.mid zV (by omega) (B:=0)
 replace zX:=hOV5.mid zX (by omega) (B:=0)
 replace K_o:=hOV5.mid K_o (by omega) (B:=0)
 have szV5:V4.heap.size≤V5.heap.size:=hOV5.size
 replace HB:=HB.trans (hOV5.below (by omega) HB.size)
 clear hOV5
 have c7:V5.cell? ⟨V1.heap.size,2,none⟩=some (zC zD (r:Int)):=(zJ zX (2)).trans (by show some (Value.int .i64 (r:Int))=_;rfl)
 have c8:V5.cell? ⟨w9.heap.size,0,none⟩=some (zC zD w0):=zJ zY (0)
 have c9:V5.cell? ⟨w9.heap.size,1,none⟩=some (zC zD w1):=zJ zY (1)
 have c10:V5.cell? ⟨W.heap.size,2+r * 2,none⟩=some (zC zD rs[r].f0):=(zJ zV (2+r * 2)).trans rr.1
 have c11:V5.cell? ⟨W.heap.size,2+r * 2+1,none⟩=some (zC zD rs[r].f1):=(zJ zV (2+r * 2+1)).trans rr.2
 have c12:=zK zV (2+r * 2)
 have c13:=zK zV (2+r * 2+1)
 obtain ⟨V6,hV6⟩:∃ V,(V5.setCell ⟨W.heap.size,2+r * 2,none⟩ (zC zD w0)).setCell ⟨W.heap.size,2+r * 2+1,none⟩ (zC zD w1)=V:=⟨_,rfl⟩
 have hOV6:Only W.heap.size V5 V6:=by rw [← hV6];exact (Only.set _ _ _).trans (Only.set _ _ _)
 replace zV:V6.heap[W.heap.size]?=some (.cells (cpuC pc used (rs.set r ⟨w0,w1⟩) (.slice SA fs.length sc)) 29 (0,0)):=by rw [← hV6,← cpuC_set (w0) (w1) hal];exact (blk_set (blk_set zV _ _) _ _)
 replace zX:=hOV6.mid zX (by omega) (B:=0)
 replace K_o:=hOV6.mid K_o (by omega) (B:=0)
 replace zY:=hOV6.mid zY (by omega) (B:=0)
 have szV6:V5.heap.size≤V6.heap.size:=hOV6.size
 replace HB:=HB.trans (hOV6.below (by omega) HB.size)
 clear hOV6
 have R_t:=Kd.V_below HV.out HB
 have hL14:=ld_whole (P:=Try.prog) (ty:=29) zV Try.underlying29 rfl (by first|rfl|(rw [sz29_];rfl)|(rw [sz29_];have:=zM (pc:=pc) (used:=used) (stk:=.slice SA fs.length sc) (rs:=(rs.set r ⟨w0,w1⟩)) (h82 _);simp [this])|(rw [sz29_,zM (pc:=pc) (used:=used) (stk:=.slice SA fs.length sc) (rs:=(rs.set r ⟨w0,w1⟩)) (h82 _)]))
 have hz:=zM (pc:=pc) (used:=used) (stk:=.slice SA fs.length sc) (rs:=(rs.set r ⟨w0,w1⟩)) (h82 _)
 obtain ⟨V7,hSV7,KKV7,hOV7⟩:=st_arr (cs:=cpuC pc used (rs.set r ⟨w0,w1⟩) (.slice SA fs.length sc)) sz29_ K_o (by first|rfl|simp [hz]) (by first|rfl|simp [hz]) (cpuC_one1 _ _ _ rfl)
 clear hz
 replace R_t:=Kd.V_step R_t (fun k hk hlt=>hOV7.block k hlt (by first|omega|(have:=hk.2;omega)|(rcases hk with hk|hk <;> omega)))
 replace K_o:V7.heap[V2.heap.size]?=some (.cells (cpuC pc used (rs.set r ⟨w0,w1⟩) (.slice SA fs.length sc)) 29 (0,0)):=KKV7
 replace zV:=hOV7.mid zV (by omega) (B:=0)
 replace zX:=hOV7.mid zX (by omega) (B:=0)
 replace zY:=hOV7.mid zY (by omega) (B:=0)
 have szV7:V6.heap.size≤V7.heap.size:=hOV7.size
 replace HB:=HB.trans (hOV7.below (by omega) HB.size)
 clear hOV7
 clear KKV7
 have HX2:=zP (zU zV (zU zX (zU K_o (zU zY (zU R_t (HB))))))
 clear HB R_t zY K_o zX zV
 go_wp2_with (first|refine wpList_st rfl rfl hSV7 ?_|refine wpList_ld rfl rfl hL14 ?_)
 obtain ⟨zV,zX,K_o,zY,R_t,HB⟩:=HX2.out
 exact bodyPost_ret (results_ctt rfl _ rfl K_o hu29 rfl (by rw [sz29_,zM (pc:=pc) (used:=used) (stk:=.slice SA fs.length sc) (rs:=(rs.set r ⟨w0,w1⟩)) (h82 _)])) rfl ⟨SA,sc,TA,tc,by rw [hTT];rfl,Or.inl ⟨rfl,rfl,rfl⟩,by rw [hTT];exact Kd.V_mono R_t (fun k hk=>Or.inl hk.1),HB⟩
theorem rans_new (pc used:Int) (rs:List S32) (SA:Option Addr) (sc:Nat) (fs:List FrameD) (x a d v0 v1 e:Int) (P:Nat→Prop) (TA:Option Addr) (tc:Nat) (t:List S80) (NA:Option Addr) (nc:Nat) (now:List S24) (W:World) (hl:rs.length=8) (hT:Kd.V k114 114 W W.heap.size (fun k=>P k) (.slice TA (t.map our80).length tc) (t.map our80)) (ht:t.length≤1000000) (hq:(lookL t x).2=false) (ha0:0≤a) (ha1:a<8) (hN:Kd.C k24 W NA now.length now) (hx0:0≤x) (hx1:x<now.length) (t2:List S80) (er:Int) (hg:addL t ⟨x,⟨(rd_T24 now x).f0,(rd_T24 now x).f1⟩,false⟩=(t2,er)) (he:er=0) :
  Calls Try.prog 42 #[.agg (cpuC pc used rs (.slice SA fs.length sc)),.agg (askC 1 x a d v0 v1 e),.slice TA (t.map our80).length tc,.slice NA now.length nc] W (RAns W P SA sc fs (⟨pc,used,rs.set a.toNat ⟨(rd_T24 now x).f0,(rd_T24 now x).f1⟩,fs⟩,t2,0)):=by
 have hu24:=Try.underlying24
 have hu26:=Try.underlying26
 have hu27:=Try.underlying27
 have hu29:=Try.underlying29
 have hu46:=Try.underlying46
 have hu52:=Try.underlying52
 have hu64:=Try.underlying64
 have hu99:=Try.underlying99
 have hu114:=Try.underlying114
 obtain ⟨r,rfl⟩:∃ r:Nat,a=r:=⟨a.toNat,by omega⟩
 try simp only [Int.toNat_natCast]
 have hr8:r<8:=by omega
 have hal:r<rs.length:=by omega
 have rr:=cpuC_reg (pc:=pc) (used:=used) (stk:=.slice SA fs.length sc) (List.getElem?_eq_getElem hal)
 have h82:∀ v,(rs.set r v).length=8:=fun v=>by rw [List.length_set];exact hl
 obtain ⟨w0,w1,hq2⟩:∃ w0 w1,lookL t x=(⟨w0,w1⟩,false):=⟨_,_,Prod.ext rfl hq⟩
 obtain ⟨T,hTT⟩:∃ T,t.map our80=T:=⟨_,rfl⟩
 rw [hTT] at hT ⊢
 obtain ⟨V1,hV1,KV1,hBV1⟩:=alz W (cpuC pc used rs (.slice SA fs.length sc)) 29
 have ltV1:W.heap.size<V1.heap.size:=zL KV1
 have zV:=KV1
 have HB:=hBV1
 clear KV1 hBV1
 obtain ⟨V2,hV2,KV2,hBV2⟩:=alz V1 (askC 1 x (r:Int) d v0 v1 e) 46
 have ltV2:V1.heap.size<V2.heap.size:=zL KV2
 replace zV:=zI zV hBV2
 have zX:=KV2
 replace HB:=zE HB hBV2
 clear KV2 hBV2
 obtain ⟨V3,hV3,KV3,hBV3⟩:=alz0 V2
 have ltV3:V2.heap.size<V3.heap.size:=zL KV3
 replace zV:=zI zV hBV3
 replace zX:=zI zX hBV3
 have K_o:=KV3
 replace HB:=zE HB hBV3
 clear KV3 hBV3
 have c1:V3.cell? ⟨V1.heap.size,0,none⟩=some (zC zD 1):=zJ zX (0)
 have HV:=zP (Kd.V_bound hT)
 obtain ⟨n0,n1,hv⟩:∃ n0 n1,rd_T24 now x=⟨n0,n1⟩:=⟨_,_,rfl⟩
 rw [hv] at hg
 rw [hv]
 have c2:V3.cell? ⟨V1.heap.size,1,none⟩=some (zC zD x):=zJ zX (1)
 have HF:=zP (warpbeamref08_Look.calls (t.length+1) TA tc T x w0 w1 false V3 (Kd.V_reads' (Kd.V_below HV.out HB)).2.2 (Kd.V_reads' (Kd.V_below HV.out HB)).2.1 (by rw [← hTT];have:=look_f t x ht (t.length+1) (by omega);rw [hq2] at this;exact this))
 have HX1:=zP (zU zV (zU zX (zU K_o (HB))))
 clear HB K_o zX zV
 go_enter Try.func42,Try.ntmps42
 go_wp2_with fail
 refine HF.out.mono ?_
 rintro y w9 ⟨rfl,hB9⟩
 clear HF
 obtain ⟨zV,zX,K_o,HB⟩:=HX1.out
 clear HX1
 replace zV:=zI zV hB9
 replace zX:=zI zX hB9
 replace K_o:=zI K_o hB9
 have szw9:V3.heap.size≤w9.heap.size:=hB9.size
 replace HB:=zE HB hB9
 obtain ⟨V4,hV4,KV4,hBV4⟩:=alz3 w9
 have ltV4:w9.heap.size<V4.heap.size:=zL KV4
 replace zV:=zI zV hBV4
 replace zX:=zI zX hBV4
 replace K_o:=zI K_o hBV4
 have zY:=KV4
 replace HB:=zE HB hBV4
 clear KV4 hBV4
 have c3:V4.cell? ⟨w9.heap.size,0,none⟩=some (zC zD 0):=zJ zY (0)
 have c4:V4.cell? ⟨w9.heap.size,1,none⟩=some (zC zD 0):=zJ zY (1)
 have c5:=zK zY (0)
 have c6:=zK zY (1)
 obtain ⟨V5,hV5⟩:∃ V,(V4.setCell ⟨w9.heap.size,0,none⟩ (zC zD w0)).setCell ⟨w9.heap.size,1,none⟩ (zC zD w1)=V:=⟨_,rfl⟩
 have hOV5:Only w9.heap.size V4 V5:=by rw [← hV5];exact (Only.set _ _ _).trans (Only.set _ _ _)
 replace zY:V5.heap[w9.heap.size]?=some (.cells (#[zC zD w0,zC zD w1]) 24 (0,0)):=by rw [← hV5];exact (blk_set (blk_set zY _ _) _ _)
 replace zV:=hOV5.mid zV (by omega) (B:=0)
 replace zX:=hOV5.mid zX (by omega) (B:=0)
 replace K_o:=hOV5.mid K_o (by omega) (B:=0)
 have szV5:V4.heap.size≤V5.heap.size:=hOV5.size
 replace HB:=HB.trans (hOV5.below (by omega) HB.size)
 clear hOV5
 have c7:V5.cell? ⟨V1.heap.size,1,none⟩=some (zC zD x):=zJ zX (1)
 have c8:V5.cell? ⟨w9.heap.size,0,none⟩=some (zC zD w0):=zJ zY (0)
 have c9:V5.cell? ⟨w9.heap.size,1,none⟩=some (zC zD w1):=zJ zY (1)
 obtain ⟨adn,rfl,g0,g1⟩:=at_T24 (Kd.C_below hN HB) x hx0 hx1
 rw [hv] at g0 g1
 have c10:=zK zY (0)
 have c11:=zK zY (1)
 obtain ⟨V6,hV6⟩:∃ V,(V5.setCell ⟨w9.heap.size,0,none⟩ (zC zD n0)).setCell ⟨w9.heap.size,1,none⟩ (zC zD n1)=V:=⟨_,rfl⟩
 have hOV6:Only w9.heap.size V5 V6:=by rw [← hV6];exact (Only.set _ _ _).trans (Only.set _ _ _)
 replace zY:V6.heap[w9.heap.size]?=some (.cells (#[zC zD n0,zC zD n1]) 24 (0,0)):=by rw [← hV6];exact (blk_set (blk_set zY _ _) _ _)
 replace zV:=hOV6.mid zV (by omega) (B:=0)
 replace zX:=hOV6.mid zX (by omega) (B:=0)
 replace K_o:=hOV6.mid K_o (by omega) (B:=0)
 have szV6:V5.heap.size≤V6.heap.size:=hOV6.size
 replace HB:=HB.trans (hOV6.below (by omega) HB.size)
 clear hOV6
 have c12:V6.cell? ⟨V1.heap.size,1,none⟩=some (zC zD x):=zJ zX (1)
 have c13:V6.cell? ⟨w9.heap.size,0,none⟩=some (zC zD n0):=zJ zY (0)
 have c14:V6.cell? ⟨w9.heap.size,1,none⟩=some (zC zD n1):=zJ zY (1)
 have HF:=zP (warpbeamref08_Add.calls 1 (fun k=>P k∧k<W.heap.size) TA tc T x n0 n1 false (t2.map our80) er V6 (Kd.V_below HV.out HB) (by rw [← hTT];have:=add_f t ⟨x,⟨n0,n1⟩,false⟩ ht;rw [hg] at this;exact this))
 have HX2:=zP (zU zV (zU zX (zU K_o (zU zY (HB)))))
 clear HB zY K_o zX zV
 go_wp2_with fail
 refine HF.out.mono ?_
 rintro y w8 ⟨u,rfl,hV,hB8⟩
 obtain ⟨TB,td,rfl⟩:=Kd.V_slice hV
 clear HF
 obtain ⟨zV,zX,K_o,zY,HB⟩:=HX2.out
 clear HX2
 replace zV:=zI zV hB8
 replace zX:=zI zX hB8
 replace K_o:=zI K_o hB8
 replace zY:=zI zY hB8
 have szw8:V6.heap.size≤w8.heap.size:=hB8.size
 replace HB:=zE HB hB8
 have R_t:=hV
 clear hV
 subst he
 have c15:w8.cell? ⟨V1.heap.size,2,none⟩=some (zC zD (r:Int)):=(zJ zX (2)).trans (by show some (Value.int .i64 (r:Int))=_;rfl)
 have c16:w8.cell? ⟨w9.heap.size,0,none⟩=some (zC zD n0):=zJ zY (0)
 have c17:w8.cell? ⟨w9.heap.size,1,none⟩=some (zC zD n1):=zJ zY (1)
 have c18:w8.cell? ⟨W.heap.size,2+r * 2,none⟩=some (zC zD rs[r].f0):=(zJ zV (2+r * 2)).trans rr.1
 have c19:w8.cell? ⟨W.heap.size,2+r * 2+1,none⟩=some (zC zD rs[r].f1):=(zJ zV (2+r * 2+1)).trans rr.2
 have c20:=zK zV (2+r * 2)
 have c21:=zK zV (2+r * 2+1)
 obtain ⟨V7,hV7⟩:∃ V,(w8.setCell ⟨W.heap.size,2+r * 2,none⟩ (zC zD n0)).setCell ⟨W.heap.size,2+r * 2+1,none⟩ (zC zD n1)=V:=⟨_,rfl⟩
 have hOV7:Only W.heap.size w8 V7:=by rw [← hV7];exact (Only.set _ _ _).trans (Only.set _ _ _)
 replace R_t:=Kd.V_step R_t (fun k hk hlt=>hOV7.block k hlt (by first|omega|(have:=hk.2;omega)|(rcases hk with hk|hk <;> omega)))
 replace zV:V7.heap[W.heap.size]?=some (.cells (cpuC pc used (rs.set r ⟨n0,n1⟩) (.slice SA fs.length sc)) 29 (0,0)):=by rw [← hV7,← cpuC_set (n0) (n1) hal];exact (blk_set (blk_set zV _ _) _ _)
 replace zX:=hOV7.mid zX (by omega) (B:=0)
 replace K_o:=hOV7.mid K_o (by omega) (B:=0)
 replace zY:=hOV7.mid zY (by omega) (B:=0)
 have szV7:w8.heap.size≤V7.heap.size:=hOV7.size
 replace HB:=HB.trans (hOV7.below (by omega) HB.size)
 clear hOV7
 have hL22:=ld_whole (P:=Try.prog) (ty:=29) zV Try.underlying29 rfl (by first|rfl|(rw [sz29_];rfl)|(rw [sz29_];have:=zM (pc:=pc) (used:=used) (stk:=.slice SA fs.length sc) (rs:=(rs.set r ⟨n0,n1⟩)) (h82 _);simp [this])|(rw [sz29_,zM (pc:=pc) (used:=used) (stk:=.slice SA fs.length sc) (rs:=(rs.set r ⟨n0,n1⟩)) (h82 _)]))
 have hz:=zM (pc:=pc) (used:=used) (stk:=.slice SA fs.length sc) (rs:=(rs.set r ⟨n0,n1⟩)) (h82 _)
 obtain ⟨V8,hSV8,KKV8,hOV8⟩:=st_arr (cs:=cpuC pc used (rs.set r ⟨n0,n1⟩) (.slice SA fs.length sc)) sz29_ K_o (by first|rfl|simp [hz]) (by first|rfl|simp [hz]) (cpuC_one1 _ _ _ rfl)
 clear hz
 replace R_t:=Kd.V_step R_t (fun k hk hlt=>hOV8.block k hlt (by first|omega|(have:=hk.2;omega)|(rcases hk with hk|hk <;> omega)))
 replace K_o:V8.heap[V2.heap.size]?=some (.cells (cpuC pc used (rs.set r ⟨n0,n1⟩) (.slice SA fs.length sc)) 29 (0,0)):=KKV8
 replace zV:=hOV8.mid zV (by omega) (B:=0)
 replace zX:=hOV8.mid zX (by omega) (B:=0)
 replace zY:=hOV8.mid zY (by omega) (B:=0)
 have szV8:V7.heap.size≤V8.heap.size:=hOV8.size
 replace HB:=HB.trans (hOV8.below (by omega) HB.size)
 clear hOV8
 clear KKV8
 have HX3:=zP (zU zV (zU zX (zU K_o (zU zY (zU R_t (HB))))))
 clear HB R_t zY K_o zX zV
 go_wp2_with (first|refine wpList_st rfl rfl hSV8 ?_|refine wpList_ld rfl rfl hL22 ?_)
 obtain ⟨zV,zX,K_o,zY,R_t,HB⟩:=HX3.out
 exact bodyPost_ret (results_ctt rfl _ rfl K_o hu29 rfl (by rw [sz29_,zM (pc:=pc) (used:=used) (stk:=.slice SA fs.length sc) (rs:=(rs.set r ⟨n0,n1⟩)) (h82 _)])) rfl ⟨SA,sc,TB,td,by first|rfl|simp,Or.inl ⟨rfl,rfl,rfl⟩,Kd.V_mono R_t (fun k hk=>by rcases hk with hk|hk;exact Or.inl hk.1;right;omega),HB⟩
theorem rans_full (pc used:Int) (rs:List S32) (SA:Option Addr) (sc:Nat) (fs:List FrameD) (x a d v0 v1 e:Int) (P:Nat→Prop) (TA:Option Addr) (tc:Nat) (t:List S80) (NA:Option Addr) (nc:Nat) (now:List S24) (W:World) (hl:rs.length=8) (hT:Kd.V k114 114 W W.heap.size (fun k=>P k) (.slice TA (t.map our80).length tc) (t.map our80)) (ht:t.length≤1000000) (hq:(lookL t x).2=false) (ha0:0≤a) (ha1:a<8) (hN:Kd.C k24 W NA now.length now) (hx0:0≤x) (hx1:x<now.length) (t2:List S80) (er:Int) (hg:addL t ⟨x,⟨(rd_T24 now x).f0,(rd_T24 now x).f1⟩,false⟩=(t2,er)) (he:¬ er=0) :
  Calls Try.prog 42 #[.agg (cpuC pc used rs (.slice SA fs.length sc)),.agg (askC 1 x a d v0 v1 e),.slice TA (t.map our80).length tc,.slice NA now.length nc] W (RAns W P SA sc fs (⟨pc,used,rs,fs⟩,t2,er)):=by
 have hu24:=Try.underlying24
 have hu26:=Try.underlying26
 have hu27:=Try.underlying27
 have hu29:=Try.underlying29
 have hu46:=Try.underlying46
 have hu52:=Try.underlying52
 have hu64:=Try.underlying64
 have hu99:=Try.underlying99
 have hu114:=Try.underlying114
 obtain ⟨r,rfl⟩:∃ r:Nat,a=r:=⟨a.toNat,by omega⟩
 try simp only [Int.toNat_natCast]
 have hr8:r<8:=by omega
 have hal:r<rs.length:=by omega
 have rr:=cpuC_reg (pc:=pc) (used:=used) (stk:=.slice SA fs.length sc) (List.getElem?_eq_getElem hal)
 have h82:∀ v,(rs.set r v).length=8:=fun v=>by rw [List.length_set];exact hl
 obtain ⟨w0,w1,hq2⟩:∃ w0 w1,lookL t x=(⟨w0,w1⟩,false):=⟨_,_,Prod.ext rfl hq⟩
 obtain ⟨T,hTT⟩:∃ T,t.map our80=T:=⟨_,rfl⟩
 rw [hTT] at hT ⊢
 obtain ⟨V1,hV1,KV1,hBV1⟩:=alz W (cpuC pc used rs (.slice SA fs.length sc)) 29
 have ltV1:W.heap.size<V1.heap.size:=zL KV1
 have zV:=KV1
 have HB:=hBV1
 clear KV1 hBV1
 obtain ⟨V2,hV2,KV2,hBV2⟩:=alz V1 (askC 1 x (r:Int) d v0 v1 e) 46
 have ltV2:V1.heap.size<V2.heap.size:=zL KV2
 replace zV:=zI zV hBV2
 have zX:=KV2
 replace HB:=zE HB hBV2
 clear KV2 hBV2
 obtain ⟨V3,hV3,KV3,hBV3⟩:=alz0 V2
 have ltV3:V2.heap.size<V3.heap.size:=zL KV3
 replace zV:=zI zV hBV3
 replace zX:=zI zX hBV3
 have K_o:=KV3
 replace HB:=zE HB hBV3
 clear KV3 hBV3
 have c1:V3.cell? ⟨V1.heap.size,0,none⟩=some (zC zD 1):=zJ zX (0)
 have HV:=zP (Kd.V_bound hT)
 obtain ⟨n0,n1,hv⟩:∃ n0 n1,rd_T24 now x=⟨n0,n1⟩:=⟨_,_,rfl⟩
 rw [hv] at hg
 have c2:V3.cell? ⟨V1.heap.size,1,none⟩=some (zC zD x):=zJ zX (1)
 have HF:=zP (warpbeamref08_Look.calls (t.length+1) TA tc T x w0 w1 false V3 (Kd.V_reads' (Kd.V_below HV.out HB)).2.2 (Kd.V_reads' (Kd.V_below HV.out HB)).2.1 (by rw [← hTT];have:=look_f t x ht (t.length+1) (by omega);rw [hq2] at this;exact this))
 have HX1:=zP (zU zV (zU zX (zU K_o (HB))))
 clear HB K_o zX zV
 go_enter Try.func42,Try.ntmps42
 go_wp2_with fail
 refine HF.out.mono ?_
 rintro y w9 ⟨rfl,hB9⟩
 clear HF
 obtain ⟨zV,zX,K_o,HB⟩:=HX1.out
 clear HX1
 replace zV:=zI zV hB9
 replace zX:=zI zX hB9
 replace K_o:=zI K_o hB9
 have szw9:V3.heap.size≤w9.heap.size:=hB9.size
 replace HB:=zE HB hB9
 obtain ⟨V4,hV4,KV4,hBV4⟩:=alz3 w9
 have ltV4:w9.heap.size<V4.heap.size:=zL KV4
 replace zV:=zI zV hBV4
 replace zX:=zI zX hBV4
 replace K_o:=zI K_o hBV4
 have zY:=KV4
 replace HB:=zE HB hBV4
 clear KV4 hBV4
 have c3:V4.cell? ⟨w9.heap.size,0,none⟩=some (zC zD 0):=zJ zY (0)
 have c4:V4.cell? ⟨w9.heap.size,1,none⟩=some (zC zD 0):=zJ zY (1)
 have c5:=zK zY (0)
 have c6:=zK zY (1)
 obtain ⟨V5,hV5⟩:∃ V,(V4.setCell ⟨w9.heap.size,0,none⟩ (zC zD w0)).setCell ⟨w9.heap.size,1,none⟩ (zC zD w1)=V:=⟨_,rfl⟩
 have hOV5:Only w9.heap.size V4 V5:=by rw [← hV5];exact (Only.set _ _ _).trans (Only.set _ _ _)
 replace zY:V5.heap[w9.heap.size]?=some (.cells (#[zC zD w0,zC zD w1]) 24 (0,0)):=by rw [← hV5];exact (blk_set (blk_set zY _ _) _ _)
 replace zV:=hOV5.mid zV (by omega) (B:=0)
 replace zX:=hOV5.mid zX (by omega) (B:=0)
 replace K_o:=hOV5.mid K_o (by omega) (B:=0)
 have szV5:V4.heap.size≤V5.heap.size:=hOV5.size
 replace HB:=HB.trans (hOV5.below (by omega) HB.size)
 clear hOV5
 have c7:V5.cell? ⟨V1.heap.size,1,none⟩=some (zC zD x):=zJ zX (1)
 have c8:V5.cell? ⟨w9.heap.size,0,none⟩=some (zC zD w0):=zJ zY (0)
 have c9:V5.cell? ⟨w9.heap.size,1,none⟩=some (zC zD w1):=zJ zY (1)
 obtain ⟨adn,rfl,g0,g1⟩:=at_T24 (Kd.C_below hN HB) x hx0 hx1
 rw [hv] at g0 g1
 have c10:=zK zY (0)
 have c11:=zK zY (1)
 obtain ⟨V6,hV6⟩:∃ V,(V5.setCell ⟨w9.heap.size,0,none⟩ (zC zD n0)).setCell ⟨w9.heap.size,1,none⟩ (zC zD n1)=V:=⟨_,rfl⟩
 have hOV6:Only w9.heap.size V5 V6:=by rw [← hV6];exact (Only.set _ _ _).trans (Only.set _ _ _)
 replace zY:V6.heap[w9.heap.size]?=some (.cells (#[zC zD n0,zC zD n1]) 24 (0,0)):=by rw [← hV6];exact (blk_set (blk_set zY _ _) _ _)
 replace zV:=hOV6.mid zV (by omega) (B:=0)
 replace zX:=hOV6.mid zX (by omega) (B:=0)
 replace K_o:=hOV6.mid K_o (by omega) (B:=0)
 have szV6:V5.heap.size≤V6.heap.size:=hOV6.size
 replace HB:=HB.trans (hOV6.below (by omega) HB.size)
 clear hOV6
 have c12:V6.cell? ⟨V1.heap.size,1,none⟩=some (zC zD x):=zJ zX (1)
 have c13:V6.cell? ⟨w9.heap.size,0,none⟩=some (zC zD n0):=zJ zY (0)
 have c14:V6.cell? ⟨w9.heap.size,1,none⟩=some (zC zD n1):=zJ zY (1)
 have HF:=zP (warpbeamref08_Add.calls 1 (fun k=>P k∧k<W.heap.size) TA tc T x n0 n1 false (t2.map our80) er V6 (Kd.V_below HV.out HB) (by rw [← hTT];have:=add_f t ⟨x,⟨n0,n1⟩,false⟩ ht;rw [hg] at this;exact this))
 have HX2:=zP (zU zV (zU zX (zU K_o (zU zY (HB)))))
 clear HB zY K_o zX zV
 go_wp2_with fail
 refine HF.out.mono ?_
 rintro y w8 ⟨u,rfl,hV,hB8⟩
 obtain ⟨TB,td,rfl⟩:=Kd.V_slice hV
 clear HF
 obtain ⟨zV,zX,K_o,zY,HB⟩:=HX2.out
 clear HX2
 replace zV:=zI zV hB8
 replace zX:=zI zX hB8
 replace K_o:=zI K_o hB8
 replace zY:=zI zY hB8
 have szw8:V6.heap.size≤w8.heap.size:=hB8.size
 replace HB:=zE HB hB8
 have R_t:=hV
 clear hV
 have he':(er==0)=false:=by simpa using he
 have hL15:=ld_whole (P:=Try.prog) (ty:=29) zV Try.underlying29 rfl (by first|rfl|(rw [sz29_];rfl)|(rw [sz29_];have:=zM (pc:=pc) (used:=used) (stk:=.slice SA fs.length sc) (rs:=rs) hl;simp [this])|(rw [sz29_,zM (pc:=pc) (used:=used) (stk:=.slice SA fs.length sc) (rs:=rs) hl]))
 have hz:=zM (pc:=pc) (used:=used) (stk:=.slice SA fs.length sc) (rs:=rs) hl
 obtain ⟨V7,hSV7,KKV7,hOV7⟩:=st_arr (cs:=cpuC pc used rs (.slice SA fs.length sc)) sz29_ K_o (by first|rfl|simp [hz]) (by first|rfl|simp [hz]) (cpuC_one1 _ _ _ rfl)
 clear hz
 replace R_t:=Kd.V_step R_t (fun k hk hlt=>hOV7.block k hlt (by first|omega|(have:=hk.2;omega)|(rcases hk with hk|hk <;> omega)))
 replace K_o:V7.heap[V2.heap.size]?=some (.cells (cpuC pc used rs (.slice SA fs.length sc)) 29 (0,0)):=KKV7
 replace zV:=hOV7.mid zV (by omega) (B:=0)
 replace zX:=hOV7.mid zX (by omega) (B:=0)
 replace zY:=hOV7.mid zY (by omega) (B:=0)
 have szV7:w8.heap.size≤V7.heap.size:=hOV7.size
 replace HB:=HB.trans (hOV7.below (by omega) HB.size)
 clear hOV7
 clear KKV7
 have HX3:=zP (zU zV (zU zX (zU K_o (zU zY (zU R_t (HB))))))
 clear HB R_t zY K_o zX zV
 go_wp2_with (first|refine wpList_st rfl rfl hSV7 ?_|refine wpList_ld rfl rfl hL15 ?_)
 obtain ⟨zV,zX,K_o,zY,R_t,HB⟩:=HX3.out
 exact bodyPost_ret (results_ctt rfl _ rfl K_o hu29 rfl (by rw [sz29_,zM (pc:=pc) (used:=used) (stk:=.slice SA fs.length sc) (rs:=rs) hl])) rfl ⟨SA,sc,TB,td,by first|rfl|simp [he],Or.inl ⟨rfl,rfl,rfl⟩,Kd.V_mono R_t (fun k hk=>by rcases hk with hk|hk;exact Or.inl hk.1;right;omega),HB⟩
theorem rans_3 (pc used:Int) (rs:List S32) (SA:Option Addr) (sc:Nat) (x a d v0 v1 e:Int) (P:Nat→Prop) (TA:Option Addr) (tc:Nat) (t:List S80) (NA:Option Addr) (nc:Nat) (now:List S24) (W:World) (hl:rs.length=8) (hT:Kd.V k114 114 W W.heap.size (fun k=>P k) (.slice TA (t.map our80).length tc) (t.map our80)) (ht:t.length≤1000000) (gs:List FrameD) (f:FrameD) (hbig:gs.length≤100000) (hC:Kd.C kF W SA (gs.length+1) (gs++[f]))  :
  Calls Try.prog 42 #[.agg (cpuC pc used rs (.slice SA (gs.length+1) sc)),.agg (askC 3 x a d v0 v1 e),.slice TA (t.map our80).length tc,.slice NA now.length nc] W (RAns W P SA sc (gs++[f]) (⟨pc,used,rs,gs++[⟨f.dest,t.length,f.rs⟩]⟩,t,0)):=by
 have hu24:=Try.underlying24
 have hu26:=Try.underlying26
 have hu27:=Try.underlying27
 have hu29:=Try.underlying29
 have hu46:=Try.underlying46
 have hu52:=Try.underlying52
 have hu64:=Try.underlying64
 have hu99:=Try.underlying99
 have hu114:=Try.underlying114
 obtain ⟨T,hTT⟩:∃ T,t.map our80=T:=⟨_,rfl⟩
 rw [hTT] at hT ⊢
 have hTl:T.length=t.length:=by rw [← hTT,List.length_map]
 obtain ⟨V1,hV1,KV1,hBV1⟩:=alz W (cpuC pc used rs (.slice SA (gs.length+1) sc)) 29
 have ltV1:W.heap.size<V1.heap.size:=zL KV1
 have zV:=KV1
 have HB:=hBV1
 clear KV1 hBV1
 obtain ⟨V2,hV2,KV2,hBV2⟩:=alz V1 (askC 3 x a d v0 v1 e) 46
 have ltV2:V1.heap.size<V2.heap.size:=zL KV2
 replace zV:=zI zV hBV2
 have zX:=KV2
 replace HB:=zE HB hBV2
 clear KV2 hBV2
 obtain ⟨V3,hV3,KV3,hBV3⟩:=alz0 V2
 have ltV3:V2.heap.size<V3.heap.size:=zL KV3
 replace zV:=zI zV hBV3
 replace zX:=zI zX hBV3
 have K_o:=KV3
 replace HB:=zE HB hBV3
 clear KV3 hBV3
 have c1:V3.cell? ⟨V1.heap.size,0,none⟩=some (zC zD 3):=zJ zX (0)
 have HV:=zP (Kd.V_bound hT)
 obtain ⟨em,hem,-,hBe⟩:=alz7 V3
 have cem:em.cell? ⟨W.heap.size,18,none⟩=some (.slice SA (gs.length+1) sc):=(zJ (zI zV hBe) 18).trans (cpuC_stk hl)
 have HCc:=zP (zU (Kd.C_below hC (zE HB hBe)) hBe)
 clear hBe
 have HX1:=zP (zU zV (zU zX (zU K_o (HB))))
 clear HB K_o zX zV
 go_enter Try.func42,Try.ntmps42
 go_wp2_with (at_builtin;refine Kd.R_append_rows kF (w0:=V3) (Rr:=kF.K em) V3.heap.size rfl _ _ 27 99 _ _ rfl hu27 info99 rfl (by decide) (by decide) _ [] (gs++[f]) SA (gs.length+1) sc (fun _=>True) (fun _=>False) rfl rfl ?HO ?HR ?hKM (fun _ h=>h.elim) (fun _ _=>trivial) ?HB ?hbase ?hl ?_)
 case HO=>exact ⟨fun _ _=>trivial,[],by rw [← hem];exact World.ownsRow_made V3 #[] 0 (Nat.le_refl _) (Nat.zero_le _) (by simp),Reps.none _ _⟩
 case HR=>exact HCc.out.1
 case hKM=>exact fun x cs h=>h
 case HB=>exact HCc.out.2
 case hbase=>exact HCc.out.2.size
 case hl=>first|(simp;done)|(simp;omega)|omega
 intro v5 w5 hR5 hB5 hg5 hv5
 clear hg5 hv5 HCc
 obtain ⟨SB,sd,rfl⟩:=Kd.R_slice hR5
 obtain ⟨zV,zX,K_o,HB⟩:=HX1.out
 clear HX1
 replace zV:=zI zV hB5
 replace zX:=zI zX hB5
 replace K_o:=zI K_o hB5
 have szw5:V3.heap.size≤w5.heap.size:=hB5.size
 replace HB:=zE HB hB5
 have R_st:=hR5
 clear hR5
 obtain ⟨g,rfl,hgb,hgl⟩:=Stk9.block R_st (by simp)
 have hle:gs.length+1≤sd:=by have:=(Kd.R_reads' R_st).2.1;simpa using this
 rw [List.length_append,List.length_singleton] at R_st ⊢
 obtain ⟨hf8,hrr⟩:=Stk9.row (i:=gs.length) (f:=f) R_st (by simp)
 have hgc:(gs.length:Int)<(gs.length:Int)+1∧(0:Int)≤gs.length:=⟨by omega,by omega⟩
 have hwr:IntKind.i64.wrap (gs.length:Int)=gs.length:=by rw [IntKind.wrap_i64];omega
 have HX2:=zP (zU zV (zU zX (zU K_o (zU R_st (HB)))))
 clear HB R_st K_o zX zV
 have HR:=zP (zU HX2.out hrr)
 clear hrr
 go_wp2_with (refine Kd.R_store kF (w0:=w5) V3.heap.size rfl rfl _ _ _ rfl 99 (gs.length:Int) 1 (gs++[f]) ⟨f.dest,t.length,f.rs⟩ (zC zD t.length) [zC zD t.length] (fc f) (fun _=>True) (fun _=>False) rfl ?ro rfl rfl (by kernel_rfl) (by simp [Value.oneCell']) HR.out.1.2.2.2.1 (by omega) (by omega) (fc_length f hf8) ?rc (by simp [kF]) ?rm (fun _ h=>h.elim) (Below.refl _ _) ?_)
 case ro=>simp [kF]
 case rc =>
  intro j u hj
  have:=HR.out.2 j u hj
  simpa [kF] using this
 case rm=>exact ⟨hf8,by simp [fc]⟩
 intro w6 hR hBl hg
 clear HR
 obtain ⟨zV,zX,K_o,R_st,HB⟩:=HX2.out
 clear HX2
 clear R_st
 replace zV:=(hBl.block _ (by omega)).trans zV
 replace zX:=(hBl.block _ (by omega)).trans zX
 replace K_o:=(hBl.block _ (by omega)).trans K_o
 have sz6:w5.heap.size≤w6.heap.size:=hBl.size
 replace HB:=HB.trans (below_le hBl (by omega))
 have hse:(gs++[f]).set (gs.length:Int).toNat ⟨f.dest,t.length,f.rs⟩=gs++[⟨f.dest,t.length,f.rs⟩]:=by simp
 rw [hse] at hR
 have R_st:=hR
 clear hR hBl hg hse
 have c2:w6.cell? ⟨W.heap.size,18,none⟩=some (.slice SA (gs.length+1) sc):=(zJ zV (18)).trans (cpuC_stk hl)
 have c3:=zK zV (18)
 obtain ⟨V4,hV4⟩:∃ V,w6.setCell ⟨W.heap.size,18,none⟩ (.slice (some ⟨g,0,none⟩) (gs.length+1) sd)=V:=⟨_,rfl⟩
 have hOV4:Only W.heap.size w6 V4:=by rw [← hV4];exact Only.set _ _ _
 replace R_st:=R_offs R_st zV (by intro q hq;simp [kF] at hq;subst hq;decide) hOV4
 replace zV:V4.heap[W.heap.size]?=some (.cells (cpuC pc used rs (.slice (some ⟨g,0,none⟩) (gs.length+1) sd)) 29 (0,0)):=by rw [← hV4,← cpuC_setStk _ hl];exact (blk_set zV _ _)
 replace zX:=hOV4.mid zX (by omega) (B:=0)
 replace K_o:=hOV4.mid K_o (by omega) (B:=0)
 have szV4:w6.heap.size≤V4.heap.size:=hOV4.size
 replace HB:=HB.trans (hOV4.below (by omega) HB.size)
 clear hOV4
 have R_t:=Kd.V_below HV.out HB
 have hL4:=ld_whole (P:=Try.prog) (ty:=29) zV Try.underlying29 rfl (by first|rfl|(rw [sz29_];rfl)|(rw [sz29_];have:=zM (pc:=pc) (used:=used) (stk:=.slice (some ⟨g,0,none⟩) (gs.length+1) sd) (rs:=rs) hl;simp [this])|(rw [sz29_,zM (pc:=pc) (used:=used) (stk:=.slice (some ⟨g,0,none⟩) (gs.length+1) sd) (rs:=rs) hl]))
 have hz:=zM (pc:=pc) (used:=used) (stk:=.slice (some ⟨g,0,none⟩) (gs.length+1) sd) (rs:=rs) hl
 obtain ⟨V5,hSV5,KKV5,hOV5⟩:=st_arr (cs:=cpuC pc used rs (.slice (some ⟨g,0,none⟩) (gs.length+1) sd)) sz29_ K_o (by first|rfl|simp [hz]) (by first|rfl|simp [hz]) (cpuC_one1 _ _ _ rfl)
 clear hz
 replace R_st:=R_offs R_st K_o (by intro q hq;simp [kF] at hq;subst hq;decide) hOV5
 replace R_t:=Kd.V_step R_t (fun k hk hlt=>hOV5.block k hlt (by first|omega|(have:=hk.2;omega)|(rcases hk with hk|hk <;> omega)))
 replace K_o:V5.heap[V2.heap.size]?=some (.cells (cpuC pc used rs (.slice (some ⟨g,0,none⟩) (gs.length+1) sd)) 29 (0,0)):=KKV5
 replace zV:=hOV5.mid zV (by omega) (B:=0)
 replace zX:=hOV5.mid zX (by omega) (B:=0)
 have szV5:V4.heap.size≤V5.heap.size:=hOV5.size
 replace HB:=HB.trans (hOV5.below (by omega) HB.size)
 clear hOV5
 clear KKV5
 have HX3:=zP (zU zV (zU zX (zU K_o (zU R_st (zU R_t (HB))))))
 clear HB R_t R_st K_o zX zV
 go_wp2_with (first|refine wpList_st rfl rfl hSV5 ?_|refine wpList_ld rfl rfl hL4 ?_)
 obtain ⟨zV,zX,K_o,R_st,R_t,HB⟩:=HX3.out
 exact bodyPost_ret (results_ctt rfl _ rfl K_o hu29 rfl (by rw [sz29_,zM (pc:=pc) (used:=used) (stk:=.slice (some ⟨g,0,none⟩) (gs.length+1) sd) (rs:=rs) hl])) rfl ⟨some ⟨g,0,none⟩,sd,TA,tc,by rw [hTT];simp [hTl],Or.inr (by have h1:=Kd.R_lower R_st (show W.heap.size≤_ by omega);simpa using h1),by rw [hTT];exact Kd.V_mono R_t (fun k hk=>Or.inl hk.1),HB⟩
theorem rd_conv (now:List S24) (x:Int):rd_T32 (now.map conv32) x=⟨(rd_T24 now x).f0,(rd_T24 now x).f1⟩:=by
 unfold rd_T32 rd_T24
 rw [List.getD_eq_getElem?_getD,List.getD_eq_getElem?_getD,List.getElem?_map]
 cases now[x.toNat]? <;> rfl
theorem rans_all (pc used:Int) (rs:List S32) (SA:Option Addr) (sc:Nat) (fs:List FrameD) (ak:AskD) (P:Nat→Prop) (TA:Option Addr) (tc:Nat) (t:List S80) (NA:Option Addr) (nc:Nat) (now:List S24) (W:World) (hl:rs.length=8) (hT:Kd.V k114 114 W W.heap.size (fun k=>P k) (.slice TA (t.map our80).length tc) (t.map our80)) (ht:t.length≤1000000)
  (hbig:fs.length≤100000) (hC:Kd.C kF W SA fs.length fs) (hN:Kd.C k24 W NA now.length now) (hok:AskOK (now.map conv32) ⟨pc,used,rs,fs⟩ ak) :
  Calls Try.prog 42 #[.agg (cpuC pc used rs (.slice SA fs.length sc)),.agg ak.c,.slice TA (t.map our80).length tc,.slice NA now.length nc] W (RAns W P SA sc fs (answerP (now.map conv32) ⟨pc,used,rs,fs⟩ ak t)):=by
 obtain ⟨k,x,a,d,⟨v0,v1⟩,e⟩:=ak
 obtain ⟨hk,hx,hs⟩:=hok
 dsimp only at hk hx hs
 unfold answerP
 dsimp only
 rcases hk with rfl|rfl|rfl|rfl|rfl
 ·
  simpa using rans_0 pc used rs SA sc fs x a d v0 v1 e P TA tc t NA nc now W hl hT ht
 ·
  obtain ⟨hx0,hx1,ha0,ha1⟩:=hx rfl
  rw [List.length_map] at hx1
  rw [if_pos rfl,rd_conv]
  by_cases hq:(lookL t x).2=true
  ·
   rw [if_pos hq]
   exact rans_is pc used rs SA sc fs x a d v0 v1 e P TA tc t NA nc now W hl hT ht hq ha0 ha1
  ·
   have hq':(lookL t x).2=false:=by simpa using hq
   rw [if_neg hq]
   obtain ⟨t2,er,hg⟩:∃ t2 er,addL t ⟨x,⟨(rd_T24 now x).f0,(rd_T24 now x).f1⟩,false⟩=(t2,er):=⟨_,_,rfl⟩
   rw [hg]
   dsimp only
   by_cases he:er=0
   ·
    rw [if_pos he]
    exact rans_new pc used rs SA sc fs x a d v0 v1 e P TA tc t NA nc now W hl hT ht hq' ha0 ha1 hN hx0 hx1 t2 er hg he
   ·
    rw [if_neg he]
    exact rans_full pc used rs SA sc fs x a d v0 v1 e P TA tc t NA nc now W hl hT ht hq' ha0 ha1 hN hx0 hx1 t2 er hg he
 ·
  simpa using rans_2 pc used rs SA sc fs x a d v0 v1 e P TA tc t NA nc now W hl hT ht
 ·
  rcases List.eq_nil_or_concat fs with h0|⟨gs,f,rfl⟩
  ·
   exact absurd h0 (hs rfl)
  ·
   rw [List.concat_eq_append] at *
   rw [if_neg (by decide),if_neg (by decide),if_pos rfl]
   have e1:saveL (gs++[f]) t.length=gs++[⟨f.dest,t.length,f.rs⟩]:=by simp [saveL]
   rw [e1]
   have hn:(gs++[f]).length=gs.length+1:=by simp
   rw [hn] at hC ⊢
   exact rans_3 pc used rs SA sc x a d v0 v1 e P TA tc t NA nc now W hl hT ht gs f (by simp at hbig;omega) hC
 ·
  simpa using rans_4 pc used rs SA sc fs x a d v0 v1 e P TA tc t NA nc now W hl hT ht
end Go.Proofs.Ytgnjkegnddekeaa.Q
