/- The document's step, by hand: what is over, and a register that is set. -/
import Derived.Test.YtgnjkegnddekeaaYFrameM
import Derived.Test.YtgnjkegnddekeaaYStepM
import Derived.Test.YtgnjkegnddekeaaYQ4
set_option maxHeartbeats 2000000
set_option maxRecDepth 100000
open Go.Value renaming int → zC
open Go.IntKind renaming i64 → zD
open List renaming setIfInBounds_toArray → zQ, set_cons_zero → zS, set_cons_succ → zT
open Go.Lib renaming hid → zP
open And renaming intro → zU
namespace Go.Proofs.Ytgnjkegnddekeaa.Q
open Go.RowKit Go.Lib Go.Proofs.Ytgnjkegnddekeaa Go.Proofs.YtgnjkegnddekeaaW.PrintWords Go.Proofs.YtgnjkegnddekeaaW.PrintLast Go.Proofs.YtgnjkegnddekeaaW.PrintMore
set_option linter.unusedVariables false
set_option linter.unusedSimpArgs false
theorem size29:(Try.prog.info? 29).map (·.size)=some 19:=by kernel_rfl
theorem size46:(Try.prog.info? 46).map (·.size)=some 7:=by kernel_rfl
theorem size26:(Try.prog.info? 26).map (·.size)=some 16:=by kernel_rfl
theorem size99:(Try.prog.info? 99).map (·.size)=some 18:=by kernel_rfl
theorem cpuC_one1 (pc used:Int) (rs:List S32) {stk:Value} (h:stk.oneCell'=true):∀ v∈(cpuC pc used rs stk).toList,v.oneCell'=true:=by
 intro v hv
 simp only [cpuC,List.mem_cons,List.mem_append,List.not_mem_nil,or_false] at hv
 rcases hv with rfl|rfl|hv|rfl
 ·
  rfl
 ·
  rfl
 ·
  exact rc_one _ v hv
 ·
  exact h
theorem rover_calls (pc used u e:Int) (rs:List S32) (stk:Value) (W:World) (hl:rs.length=8) (h1:stk.oneCell'=true) :
  Calls Try.prog 34 #[.agg (cpuC pc used rs stk),zC zD u,zC zD e] W fun x w'=>x=.returned (.tuple #[.agg (cpuC pc u rs stk),.agg (askC 5 0 0 0 0 0 e)])∧Below W.heap.size W w':=by
 have hu29:=Try.underlying29
 have hu46:=Try.underlying46
 obtain ⟨W1,hW1,KW1,hBW1⟩:=alz W (cpuC pc used rs stk) 29
 obtain ⟨W2,hW2,KW2,hBW2⟩:=alz0 W1
 obtain ⟨W3,hW3,KW3,hBW3⟩:=alz1 W2
 have L0:W3.heap[W.heap.size]?=some (.cells (cpuC pc used rs stk) 29 (0,0)):=zI KW1 (zE hBW2 hBW3)
 have L1:W3.heap[W1.heap.size]?=some (.cells #[zC zD 0,zC zD 0,zC zD 0,zC zD 0,zC zD 0,zC zD 0,zC zD 0,zC zD 0,zC zD 0,zC zD 0,zC zD 0,zC zD 0,zC zD 0,zC zD 0,zC zD 0,zC zD 0,zC zD 0,zC zD 0,.slice none 0 0] 29 (0,0)):=zI KW2 hBW3
 have L2:=KW3
 have lt0:W.heap.size<W1.heap.size:=zL KW1
 have lt1:W1.heap.size<W2.heap.size:=zL KW2
 have lt2:W2.heap.size<W3.heap.size:=zL KW3
 have HB:Below W.heap.size W W3:=(zE (zE hBW1 hBW2) hBW3)
 have c0:W3.cell? ⟨W.heap.size,1,none⟩=some (zC zD used):=zJ L0 1
 have c1:=zK L0 1
 obtain ⟨W4,hW4⟩:∃ V,W3.setCell ⟨W.heap.size,1,none⟩ (zC zD u)=V:=⟨_,rfl⟩
 have K4:W4.heap[W.heap.size]?=some (.cells (cpuC pc u rs stk) 29 (0,0)):=by rw [← hW4];exact blk_set L0 1 _
 have hO4:Only W.heap.size W3 W4:=by rw [← hW4];exact Only.set W3 1 _
 have hL:=ld_whole (P:=Try.prog) (ty:=29) K4 hu29 rfl (by rw [size29,zM hl])
 have Ko:=hO4.mid L1 (by omega) (B:=0)
 have Ka:=hO4.mid L2 (by omega) (B:=0)
 obtain ⟨Vo,hSo,Ko1,hOo⟩:=st_whole (P:=Try.prog) (ty:=29) (vs:=(cpuC pc u rs stk).toList) Ko (by have:=zM (pc:=pc) (used:=u) (stk:=stk) hl;simp [this]) (by have:=zM (pc:=pc) (used:=u) (stk:=stk) hl;rw [size29];simp [this]) (cpuC_one1 _ _ _ h1)
 simp only [Array.toArray_toList] at hSo Ko1
 obtain ⟨Va,hSa,Ka1,hOa⟩:=st_whole (P:=Try.prog) (ty:=46) (vs:=(askC 5 0 0 0 0 0 e:Array Value).toList) (hOo.mid Ka (by omega) (B:=0)) rfl (by rw [size46];rfl) (by simp [Value.oneCell'])
 simp only [Array.toArray_toList] at hSa Ka1
 have hE1:=hOa.mid Ko1 (by omega) (B:=0)
 have hE2:Below W.heap.size W Va:=((HB.trans (hO4.below (Nat.le_refl _) HB.size)).trans (hOo.below (by omega) (by have:=HB.size;have:=hO4.size;omega))).trans (hOa.below (by omega) (by have:=HB.size;have:=hO4.size;have:=hOo.size;omega))
 have HE:=zP (zU hE1 (zU Ka1 hE2))
 clear hE1 hE2 Ka1 Ko1 hOo hOa Ko Ka K4 hO4 HB L0 L1 L2 KW1 KW2 KW3 hBW1 hBW2 hBW3
 go_enter Try.func34,Try.ntmps34
 go_wp2_with (first|refine wpList_st rfl rfl hSo ?_|refine wpList_st rfl rfl hSa ?_|refine wpList_ld rfl rfl hL ?_)
 exact bodyPost_ret (results_cc rfl _ rfl HE.out.1 hu29 rfl (by rw [size29,zM hl]) rfl HE.out.2.1 hu46 rfl (by rw [size46];rfl)) rfl ⟨rfl,HE.out.2.2⟩
theorem rset_calls (pc used:Int) (rs:List S32) (stk:Value) (a:Nat) (v:S32) (W:World) (hl:rs.length=8) (h1:stk.oneCell'=true) (ha:a<8) :
  Calls Try.prog 35 #[.agg (cpuC pc used rs stk),zC zD a,.agg #[zC zD v.f0,zC zD v.f1]] W fun x w'=>x=.returned (.tuple #[.agg (cpuC (wrap64 (pc+1)) (wrap64 (used+1)) (rs.set a v) stk),.agg (askC 0 0 0 0 0 0 0)])∧Below W.heap.size W w':=by
 have hu29:=Try.underlying29
 have hu46:=Try.underlying46
 have hu26:=Try.underlying26
 have hu24:=Try.underlying24
 obtain ⟨W1,hW1,KW1,hBW1⟩:=alz W (cpuC pc used rs stk) 29
 obtain ⟨W2,hW2,KW2,hBW2⟩:=alz W1 #[zC zD v.f0,zC zD v.f1] 24
 obtain ⟨W3,hW3,KW3,hBW3⟩:=alz0 W2
 obtain ⟨W4,hW4,KW4,hBW4⟩:=alz1 W3
 have L0:W4.heap[W.heap.size]?=some (.cells (cpuC pc used rs stk) 29 (0,0)):=zI KW1 (zE (zE hBW2 hBW3) hBW4)
 have L1:W4.heap[W1.heap.size]?=some (.cells #[zC zD v.f0,zC zD v.f1] 24 (0,0)):=zI KW2 (zE hBW3 hBW4)
 have L2:W4.heap[W2.heap.size]?=some (.cells #[zC zD 0,zC zD 0,zC zD 0,zC zD 0,zC zD 0,zC zD 0,zC zD 0,zC zD 0,zC zD 0,zC zD 0,zC zD 0,zC zD 0,zC zD 0,zC zD 0,zC zD 0,zC zD 0,zC zD 0,zC zD 0,.slice none 0 0] 29 (0,0)):=zI KW3 hBW4
 have L3:=KW4
 have lt0:W.heap.size<W1.heap.size:=zL KW1
 have lt1:W1.heap.size<W2.heap.size:=zL KW2
 have lt2:W2.heap.size<W3.heap.size:=zL KW3
 have lt3:W3.heap.size<W4.heap.size:=zL KW4
 have HB:Below W.heap.size W W4:=(zE (zE (zE hBW1 hBW2) hBW3) hBW4)
 have hal:a<rs.length:=by omega
 have hl2:(rs.set a v).length=8:=by rw [List.length_set];exact hl
 have v0:W4.cell? ⟨W1.heap.size,0,none⟩=some (zC zD v.f0):=zJ L1 0
 have v1:W4.cell? ⟨W1.heap.size,1,none⟩=some (zC zD v.f1):=zJ L1 1
 have rr:=cpuC_reg (pc:=pc) (used:=used) (stk:=stk) (List.getElem?_eq_getElem hal)
 have c0:W4.cell? ⟨W.heap.size,2+a * 2,none⟩=some (zC zD rs[a].f0):=(zJ L0 _).trans rr.1
 have c1:W4.cell? ⟨W.heap.size,2+a * 2+1,none⟩=some (zC zD rs[a].f1):=(zJ L0 _).trans rr.2
 have c2:=zK L0 (2+a * 2)
 have c3:=zK L0 (2+a * 2+1)
 obtain ⟨W5,hW5⟩:∃ V,(W4.setCell ⟨W.heap.size,2+a * 2,none⟩ (zC zD v.f0)).setCell ⟨W.heap.size,2+a * 2+1,none⟩ (zC zD v.f1)=V:=⟨_,rfl⟩
 have K5:W5.heap[W.heap.size]?=some (.cells (cpuC pc used (rs.set a v) stk) 29 (0,0)):=by rw [← hW5,show v=⟨v.f0,v.f1⟩ from rfl,← cpuC_set v.f0 v.f1 hal];exact blk_set (blk_set L0 _ _) _ _
 have hO5:Only W.heap.size W4 W5:=by rw [← hW5];exact (Only.set _ _ _).trans (Only.set _ _ _)
 have p0:W5.cell? ⟨W.heap.size,0,none⟩=some (zC zD pc):=zJ K5 0
 have p1:=zK K5 0
 obtain ⟨W6,hW6⟩:∃ V,W5.setCell ⟨W.heap.size,0,none⟩ (zC zD (wrap64 (pc+1)))=V:=⟨_,rfl⟩
 have K6:W6.heap[W.heap.size]?=some (.cells (cpuC (wrap64 (pc+1)) used (rs.set a v) stk) 29 (0,0)):=by rw [← hW6];exact blk_set K5 0 _
 have q0:W6.cell? ⟨W.heap.size,1,none⟩=some (zC zD used):=zJ K6 1
 have q1:=zK K6 1
 obtain ⟨W7,hW7⟩:∃ V,W6.setCell ⟨W.heap.size,1,none⟩ (zC zD (wrap64 (used+1)))=V:=⟨_,rfl⟩
 have K7:W7.heap[W.heap.size]?=some (.cells (cpuC (wrap64 (pc+1)) (wrap64 (used+1)) (rs.set a v) stk) 29 (0,0)):=by rw [← hW7];exact blk_set K6 1 _
 have hO7:Only W.heap.size W4 W7:=hO5.trans (Only.trans (B:=W6) (by rw [← hW6];exact Only.set _ _ _) (by rw [← hW7];exact Only.set _ _ _))
 have hL:=ld_whole (P:=Try.prog) (ty:=29) K7 hu29 rfl (by rw [size29,zM hl2])
 have Ko:=hO7.mid L2 (by omega) (B:=0)
 have Ka:=hO7.mid L3 (by omega) (B:=0)
 obtain ⟨Vo,hSo,Ko1,hOo⟩:=st_whole (P:=Try.prog) (ty:=29) (vs:=(cpuC (wrap64 (pc+1)) (wrap64 (used+1)) (rs.set a v) stk).toList) Ko (by have:=zM (pc:=wrap64 (pc+1)) (used:=wrap64 (used+1)) (stk:=stk) hl2;simp [this]) (by have:=zM (pc:=wrap64 (pc+1)) (used:=wrap64 (used+1)) (stk:=stk) hl2;rw [size29];simp [this]) (cpuC_one1 _ _ _ h1)
 simp only [Array.toArray_toList] at hSo Ko1
 obtain ⟨Va,hSa,Ka1,hOa⟩:=st_whole (P:=Try.prog) (ty:=46) (vs:=(askC 0 0 0 0 0 0 0:Array Value).toList) (hOo.mid Ka (by omega) (B:=0)) rfl (by rw [size46];rfl) (by simp [Value.oneCell'])
 simp only [Array.toArray_toList] at hSa Ka1
 have hE1:=hOa.mid Ko1 (by omega) (B:=0)
 have hE2:Below W.heap.size W Va:=((HB.trans (hO7.below (Nat.le_refl _) HB.size)).trans (hOo.below (by omega) (by have:=HB.size;have:=hO7.size;omega))).trans (hOa.below (by omega) (by have:=HB.size;have:=hO7.size;have:=hOo.size;omega))
 have HE:=zP (zU hE1 (zU Ka1 hE2))
 clear hE1 hE2 Ka1 Ko1 hOo hOa Ko Ka K5 K6 K7 hO5 hO7 HB L0 L1 L2 L3 KW1 KW2 KW3 KW4 hBW1 hBW2 hBW3 hBW4 rr
 go_enter Try.func35,Try.ntmps35
 go_wp2_with (first|refine wpList_st rfl rfl hSo ?_|refine wpList_st rfl rfl hSa ?_|refine wpList_ld rfl rfl hL ?_)
 exact bodyPost_ret (results_cc rfl _ rfl HE.out.1 hu29 rfl (by rw [size29,zM hl2]) rfl HE.out.2.1 hu46 rfl (by rw [size46];rfl)) rfl ⟨rfl,HE.out.2.2⟩
theorem exec_ix {P:Program} {W:World} {ty:TypeId} {ρ:Operand→Value} {o:Oper} {x i:Operand} {v:Value} (ho:o.op=.index ty x i) (h:(Instr.index ty (ρ x) (ρ i)).run P W=.ok v W):(execOp ρ o).run P W=.ok (.value v) W:=by
 unfold execOp
 simp only [ho,Sem.run_bind,h,Sem.run_pure,Result.andThen_ok]
theorem wrap_one (u:Int):wrap64 (u+1)=wrap64 (u+1):=rfl
theorem rsums_bad (pc used:Int) (rs:List S32) (stk:Value) (o:S97) (W:World) (hl:rs.length=8) (h1:stk.oneCell'=true) (ha0:0≤o.f1) (ha1:o.f1<8) (hb0:0≤o.f2) (hb1:o.f2<8) (hc0:0≤o.f3) (hc1:o.f3<8) (hk:¬ ((regA rs o.f2).f0=1∧(regA rs o.f3).f0=1)) :
  Calls Try.prog 37 #[.agg (cpuC pc used rs stk),.agg #[zC zD o.f0,zC zD o.f1,zC zD o.f2,zC zD o.f3,zC zD o.f4]] W fun x w'=>x=.returned (.tuple #[.agg (cpuC pc (wrap64 (used+1)) rs stk),.agg (askC 5 0 0 0 0 0 4)])∧Below W.heap.size W w':=by
 have hu29:=Try.underlying29
 have hu46:=Try.underlying46
 have hu26:=Try.underlying26
 have hu24:=Try.underlying24
 have hu97:=Try.underlying97
 obtain ⟨W1,hW1,KW1,hBW1⟩:=alz W (cpuC pc used rs stk) 29
 obtain ⟨W2,hW2,KW2,hBW2⟩:=alz W1 #[zC zD o.f0,zC zD o.f1,zC zD o.f2,zC zD o.f3,zC zD o.f4] 97
 obtain ⟨W3,hW3,KW3,hBW3⟩:=alz0 W2
 obtain ⟨W4,hW4,KW4,hBW4⟩:=alz1 W3
 have L0:W4.heap[W.heap.size]?=some (.cells (cpuC pc used rs stk) 29 (0,0)):=zI KW1 (zE (zE hBW2 hBW3) hBW4)
 have L1:W4.heap[W1.heap.size]?=some (.cells #[zC zD o.f0,zC zD o.f1,zC zD o.f2,zC zD o.f3,zC zD o.f4] 97 (0,0)):=zI KW2 (zE hBW3 hBW4)
 have L2:W4.heap[W2.heap.size]?=some (.cells #[zC zD 0,zC zD 0,zC zD 0,zC zD 0,zC zD 0,zC zD 0,zC zD 0,zC zD 0,zC zD 0,zC zD 0,zC zD 0,zC zD 0,zC zD 0,zC zD 0,zC zD 0,zC zD 0,zC zD 0,zC zD 0,.slice none 0 0] 29 (0,0)):=zI KW3 hBW4
 have L3:=KW4
 have lt0:W.heap.size<W1.heap.size:=zL KW1
 have lt1:W1.heap.size<W2.heap.size:=zL KW2
 have lt2:W2.heap.size<W3.heap.size:=zL KW3
 have lt3:W3.heap.size<W4.heap.size:=zL KW4
 have HB:Below W.heap.size W W4:=(zE (zE (zE hBW1 hBW2) hBW3) hBW4)
 obtain ⟨b,hb⟩:∃ b:Nat,o.f2=b:=⟨o.f2.toNat,by omega⟩
 obtain ⟨c,hc⟩:∃ c:Nat,o.f3=c:=⟨o.f3.toNat,by omega⟩
 obtain ⟨a,ha⟩:∃ a:Nat,o.f1=a:=⟨o.f1.toNat,by omega⟩
 have hb8:b<8:=by omega
 have hc8:c<8:=by omega
 have ha8:a<8:=by omega
 have xb:rs[b]?=some (regA rs o.f2):=by rw [hb];unfold regA;simp [hl,hb8]
 have xc:rs[c]?=some (regA rs o.f3):=by rw [hc];unfold regA;simp [hl,hc8]
 generalize regA rs o.f2=x at *
 generalize regA rs o.f3=y at *
 rw [hb] at KW2 L1 hW2
 rw [hc] at KW2 L1 hW2
 rw [ha] at KW2 L1 hW2
 have rb:=cpuC_reg (pc:=pc) (used:=used) (stk:=stk) xb
 have rc':=cpuC_reg (pc:=pc) (used:=used) (stk:=stk) xc
 have k0:W4.cell? ⟨W1.heap.size,2,none⟩=some (zC zD b):=zJ L1 2
 have k1:W4.cell? ⟨W.heap.size,2+b * 2,none⟩=some (zC zD x.f0):=(zJ L0 _).trans rb.1
 have k2:W4.cell? ⟨W.heap.size,2+b * 2+1,none⟩=some (zC zD x.f1):=(zJ L0 _).trans rb.2
 obtain ⟨W5,hW5,KW5,hBW5⟩:=alz3 W4
 obtain ⟨W6,hW6⟩:∃ V,(W5.setCell ⟨W4.heap.size,0,none⟩ (zC zD x.f0)).setCell ⟨W4.heap.size,1,none⟩ (zC zD x.f1)=V:=⟨_,rfl⟩
 have e0:W5.cell? ⟨W4.heap.size,0,none⟩=some (zC zD 0):=zJ KW5 0
 have e1:W5.cell? ⟨W4.heap.size,1,none⟩=some (zC zD 0):=zJ KW5 1
 have e2:=zK KW5 0
 have e3:=zK KW5 1
 have K6:W6.heap[W4.heap.size]?=some (.cells #[zC zD x.f0,zC zD x.f1] 24 (0,0)):=by rw [← hW6];exact blk_set (blk_set KW5 0 _) 1 _
 have hB6:Below W4.heap.size W4 W6:=hBW5.trans (by rw [← hW6];exact ((Below.refl _ _).setCell (p:=⟨W4.heap.size,0,none⟩) (Nat.le_refl _) _).setCell (p:=⟨W4.heap.size,1,none⟩) (Nat.le_refl _) _)
 have k3:W6.cell? ⟨W1.heap.size,3,none⟩=some (zC zD c):=zJ (zI L1 hB6) 3
 have k4:W6.cell? ⟨W.heap.size,2+c * 2,none⟩=some (zC zD y.f0):=(zJ (zI L0 hB6) _).trans rc'.1
 have k5:W6.cell? ⟨W.heap.size,2+c * 2+1,none⟩=some (zC zD y.f1):=(zJ (zI L0 hB6) _).trans rc'.2
 obtain ⟨W7,hW7,KW7,hBW7⟩:=alz3 W6
 obtain ⟨W8,hW8⟩:∃ V,(W7.setCell ⟨W6.heap.size,0,none⟩ (zC zD y.f0)).setCell ⟨W6.heap.size,1,none⟩ (zC zD y.f1)=V:=⟨_,rfl⟩
 have f0:W7.cell? ⟨W6.heap.size,0,none⟩=some (zC zD 0):=zJ KW7 0
 have f1:W7.cell? ⟨W6.heap.size,1,none⟩=some (zC zD 0):=zJ KW7 1
 have f2:=zK KW7 0
 have f3:=zK KW7 1
 have K8:W8.heap[W6.heap.size]?=some (.cells #[zC zD y.f0,zC zD y.f1] 24 (0,0)):=by rw [← hW8];exact blk_set (blk_set KW7 0 _) 1 _
 have hB8:Below W6.heap.size W6 W8:=hBW7.trans (by rw [← hW8];exact ((Below.refl _ _).setCell (p:=⟨W6.heap.size,0,none⟩) (Nat.le_refl _) _).setCell (p:=⟨W6.heap.size,1,none⟩) (Nat.le_refl _) _)
 have lt6:W4.heap.size<W6.heap.size:=zL K6
 have lt8:W6.heap.size<W8.heap.size:=zL K8
 have g0:W8.cell? ⟨W4.heap.size,0,none⟩=some (zC zD x.f0):=zJ (zI K6 hB8) 0
 have g1:W8.cell? ⟨W4.heap.size,1,none⟩=some (zC zD x.f1):=zJ (zI K6 hB8) 1
 have g2:W8.cell? ⟨W6.heap.size,0,none⟩=some (zC zD y.f0):=zJ K8 0
 have g3:W8.cell? ⟨W6.heap.size,1,none⟩=some (zC zD y.f1):=zJ K8 1
 have g4:W8.cell? ⟨W1.heap.size,0,none⟩=some (zC zD o.f0):=zJ (zI L1 (zE hB6 hB8)) 0
 have M0:=zI L0 (zE hB6 hB8)
 have M1:=zI L1 (zE hB6 hB8)
 have M2:=zI L2 (zE hB6 hB8)
 have M3:=zI L3 (zE hB6 hB8)
 have hL:=ld_whole (P:=Try.prog) (ty:=29) M0 hu29 rfl (by rw [size29,zM hl])
 have g5:W8.cell? ⟨W.heap.size,1,none⟩=some (zC zD used):=zJ M0 1
 have HBV:Below W.heap.size W W8:=zE HB (zE hB6 hB8)
 have hw:=wrap_one used
 have HR:=zP (rover_calls pc used (wrap64 (used+1)) 4 rs stk W8 hl h1)
 have HM:=zP (zU M2 (zU M3 HBV))
 clear M0 M1 M2 M3 HBV
 clear KW1 KW2 KW3 KW4 KW5 KW7 L0 L1 L2 L3 K6 K8 hB6 hB8 hBW1 hBW2 hBW3 hBW4 hBW5 hBW7 HB rb rc' xb xc
 by_cases hx:x.f0=1
 ·
  have hx':(x.f0 != 1)=false:=by simpa using hx
  have hy:¬ y.f0=1:=fun h=>hk ⟨hx,h⟩
  have hy':(y.f0 != 1)=true:=by simpa using hy
  clear hx hy hk
  go_enter Try.func37,Try.ntmps37
  go_wp2_with (refine wpList_ld rfl rfl hL ?_)
  refine HR.out.mono ?_
  rintro e w9 ⟨rfl,hB9⟩
  have Ko:=zI HM.out.1 hB9
  have Ka:=zI HM.out.2.1 hB9
  have HBx:=zE HM.out.2.2 hB9
  obtain ⟨Vo,hSo,Ko1,hOo⟩:=st_whole (P:=Try.prog) (ty:=29) (vs:=(cpuC pc (wrap64 (used+1)) rs stk).toList) Ko (by have:=zM (pc:=pc) (used:=wrap64 (used+1)) (stk:=stk) hl;simp [this]) (by have:=zM (pc:=pc) (used:=wrap64 (used+1)) (stk:=stk) hl;rw [size29];simp [this]) (cpuC_one1 _ _ _ h1)
  simp only [Array.toArray_toList] at hSo Ko1
  obtain ⟨Va,hSa,Ka1,hOa⟩:=st_whole (P:=Try.prog) (ty:=46) (vs:=(askC 5 0 0 0 0 0 4:Array Value).toList) (hOo.mid Ka (by omega) (B:=0)) rfl (by rw [size46];rfl) (by simp [Value.oneCell'])
  simp only [Array.toArray_toList] at hSa Ka1
  have hE1:=hOa.mid Ko1 (by omega) (B:=0)
  have hE2:Below W.heap.size W Va:=(HBx.trans (hOo.below (by omega) HBx.size)).trans (hOa.below (by omega) (Nat.le_trans HBx.size hOo.size))
  have HE:=zP (zU hE1 (zU Ka1 hE2))
  clear hE1 hE2 Ka1 Ko1 hOo hOa Ko Ka HBx
  go_wp2_with (first|refine wpList_st rfl rfl hSo ?_|refine wpList_st rfl rfl hSa ?_)
  exact bodyPost_ret (results_cc rfl _ rfl HE.out.1 hu29 rfl (by rw [size29,zM (pc:=pc) (used:=wrap64 (used+1)) (stk:=stk) hl]) rfl HE.out.2.1 hu46 rfl (by rw [size46];rfl)) rfl ⟨rfl,HE.out.2.2⟩
 ·
  have hx':(x.f0 != 1)=true:=by simpa using hx
  clear hx hk
  go_enter Try.func37,Try.ntmps37
  go_wp2_with (refine wpList_ld rfl rfl hL ?_)
  refine HR.out.mono ?_
  rintro e w9 ⟨rfl,hB9⟩
  have Ko:=zI HM.out.1 hB9
  have Ka:=zI HM.out.2.1 hB9
  have HBx:=zE HM.out.2.2 hB9
  obtain ⟨Vo,hSo,Ko1,hOo⟩:=st_whole (P:=Try.prog) (ty:=29) (vs:=(cpuC pc (wrap64 (used+1)) rs stk).toList) Ko (by have:=zM (pc:=pc) (used:=wrap64 (used+1)) (stk:=stk) hl;simp [this]) (by have:=zM (pc:=pc) (used:=wrap64 (used+1)) (stk:=stk) hl;rw [size29];simp [this]) (cpuC_one1 _ _ _ h1)
  simp only [Array.toArray_toList] at hSo Ko1
  obtain ⟨Va,hSa,Ka1,hOa⟩:=st_whole (P:=Try.prog) (ty:=46) (vs:=(askC 5 0 0 0 0 0 4:Array Value).toList) (hOo.mid Ka (by omega) (B:=0)) rfl (by rw [size46];rfl) (by simp [Value.oneCell'])
  simp only [Array.toArray_toList] at hSa Ka1
  have hE1:=hOa.mid Ko1 (by omega) (B:=0)
  have hE2:Below W.heap.size W Va:=(HBx.trans (hOo.below (by omega) HBx.size)).trans (hOa.below (by omega) (Nat.le_trans HBx.size hOo.size))
  have HE:=zP (zU hE1 (zU Ka1 hE2))
  clear hE1 hE2 Ka1 Ko1 hOo hOa Ko Ka HBx
  go_wp2_with (first|refine wpList_st rfl rfl hSo ?_|refine wpList_st rfl rfl hSa ?_)
  exact bodyPost_ret (results_cc rfl _ rfl HE.out.1 hu29 rfl (by rw [size29,zM (pc:=pc) (used:=wrap64 (used+1)) (stk:=stk) hl]) rfl HE.out.2.1 hu46 rfl (by rw [size46];rfl)) rfl ⟨rfl,HE.out.2.2⟩
theorem rsums_less (pc used:Int) (rs:List S32) (stk:Value) (o:S97) (W:World) (hl:rs.length=8) (h1:stk.oneCell'=true) (ha0:0≤o.f1) (ha1:o.f1<8) (hb0:0≤o.f2) (hb1:o.f2<8) (hc0:0≤o.f3) (hc1:o.f3<8) (h7:o.f0=7) (hx:(regA rs o.f2).f0=1) (hy:(regA rs o.f3).f0=1) :
  Calls Try.prog 37 #[.agg (cpuC pc used rs stk),.agg #[zC zD o.f0,zC zD o.f1,zC zD o.f2,zC zD o.f3,zC zD o.f4]] W fun x w'=>x=.returned (.tuple #[.agg (cpuC (wrap64 (pc+1)) (wrap64 (used+1)) (rs.set o.f1.toNat ⟨1,if (regA rs o.f2).f1<(regA rs o.f3).f1 then 1 else 0⟩) stk),.agg (askC 0 0 0 0 0 0 0)])∧Below W.heap.size W w':=by
 have hu29:=Try.underlying29
 have hu46:=Try.underlying46
 have hu26:=Try.underlying26
 have hu24:=Try.underlying24
 have hu97:=Try.underlying97
 obtain ⟨W1,hW1,KW1,hBW1⟩:=alz W (cpuC pc used rs stk) 29
 obtain ⟨W2,hW2,KW2,hBW2⟩:=alz W1 #[zC zD o.f0,zC zD o.f1,zC zD o.f2,zC zD o.f3,zC zD o.f4] 97
 obtain ⟨W3,hW3,KW3,hBW3⟩:=alz0 W2
 obtain ⟨W4,hW4,KW4,hBW4⟩:=alz1 W3
 have L0:W4.heap[W.heap.size]?=some (.cells (cpuC pc used rs stk) 29 (0,0)):=zI KW1 (zE (zE hBW2 hBW3) hBW4)
 have L1:W4.heap[W1.heap.size]?=some (.cells #[zC zD o.f0,zC zD o.f1,zC zD o.f2,zC zD o.f3,zC zD o.f4] 97 (0,0)):=zI KW2 (zE hBW3 hBW4)
 have L2:W4.heap[W2.heap.size]?=some (.cells #[zC zD 0,zC zD 0,zC zD 0,zC zD 0,zC zD 0,zC zD 0,zC zD 0,zC zD 0,zC zD 0,zC zD 0,zC zD 0,zC zD 0,zC zD 0,zC zD 0,zC zD 0,zC zD 0,zC zD 0,zC zD 0,.slice none 0 0] 29 (0,0)):=zI KW3 hBW4
 have L3:=KW4
 have lt0:W.heap.size<W1.heap.size:=zL KW1
 have lt1:W1.heap.size<W2.heap.size:=zL KW2
 have lt2:W2.heap.size<W3.heap.size:=zL KW3
 have lt3:W3.heap.size<W4.heap.size:=zL KW4
 have HB:Below W.heap.size W W4:=(zE (zE (zE hBW1 hBW2) hBW3) hBW4)
 obtain ⟨b,hb⟩:∃ b:Nat,o.f2=b:=⟨o.f2.toNat,by omega⟩
 obtain ⟨c,hc⟩:∃ c:Nat,o.f3=c:=⟨o.f3.toNat,by omega⟩
 obtain ⟨a,ha⟩:∃ a:Nat,o.f1=a:=⟨o.f1.toNat,by omega⟩
 have hb8:b<8:=by omega
 have hc8:c<8:=by omega
 have ha8:a<8:=by omega
 have xb:rs[b]?=some (regA rs o.f2):=by rw [hb];unfold regA;simp [hl,hb8]
 have xc:rs[c]?=some (regA rs o.f3):=by rw [hc];unfold regA;simp [hl,hc8]
 generalize regA rs o.f2=x at *
 generalize regA rs o.f3=y at *
 rw [hb] at KW2 L1 hW2
 rw [hc] at KW2 L1 hW2
 rw [ha] at KW2 L1 hW2
 have rb:=cpuC_reg (pc:=pc) (used:=used) (stk:=stk) xb
 have rc':=cpuC_reg (pc:=pc) (used:=used) (stk:=stk) xc
 have k0:W4.cell? ⟨W1.heap.size,2,none⟩=some (zC zD b):=zJ L1 2
 have k1:W4.cell? ⟨W.heap.size,2+b * 2,none⟩=some (zC zD x.f0):=(zJ L0 _).trans rb.1
 have k2:W4.cell? ⟨W.heap.size,2+b * 2+1,none⟩=some (zC zD x.f1):=(zJ L0 _).trans rb.2
 obtain ⟨W5,hW5,KW5,hBW5⟩:=alz3 W4
 obtain ⟨W6,hW6⟩:∃ V,(W5.setCell ⟨W4.heap.size,0,none⟩ (zC zD x.f0)).setCell ⟨W4.heap.size,1,none⟩ (zC zD x.f1)=V:=⟨_,rfl⟩
 have e0:W5.cell? ⟨W4.heap.size,0,none⟩=some (zC zD 0):=zJ KW5 0
 have e1:W5.cell? ⟨W4.heap.size,1,none⟩=some (zC zD 0):=zJ KW5 1
 have e2:=zK KW5 0
 have e3:=zK KW5 1
 have K6:W6.heap[W4.heap.size]?=some (.cells #[zC zD x.f0,zC zD x.f1] 24 (0,0)):=by rw [← hW6];exact blk_set (blk_set KW5 0 _) 1 _
 have hB6:Below W4.heap.size W4 W6:=hBW5.trans (by rw [← hW6];exact ((Below.refl _ _).setCell (p:=⟨W4.heap.size,0,none⟩) (Nat.le_refl _) _).setCell (p:=⟨W4.heap.size,1,none⟩) (Nat.le_refl _) _)
 have k3:W6.cell? ⟨W1.heap.size,3,none⟩=some (zC zD c):=zJ (zI L1 hB6) 3
 have k4:W6.cell? ⟨W.heap.size,2+c * 2,none⟩=some (zC zD y.f0):=(zJ (zI L0 hB6) _).trans rc'.1
 have k5:W6.cell? ⟨W.heap.size,2+c * 2+1,none⟩=some (zC zD y.f1):=(zJ (zI L0 hB6) _).trans rc'.2
 obtain ⟨W7,hW7,KW7,hBW7⟩:=alz3 W6
 obtain ⟨W8,hW8⟩:∃ V,(W7.setCell ⟨W6.heap.size,0,none⟩ (zC zD y.f0)).setCell ⟨W6.heap.size,1,none⟩ (zC zD y.f1)=V:=⟨_,rfl⟩
 have f0:W7.cell? ⟨W6.heap.size,0,none⟩=some (zC zD 0):=zJ KW7 0
 have f1:W7.cell? ⟨W6.heap.size,1,none⟩=some (zC zD 0):=zJ KW7 1
 have f2:=zK KW7 0
 have f3:=zK KW7 1
 have K8:W8.heap[W6.heap.size]?=some (.cells #[zC zD y.f0,zC zD y.f1] 24 (0,0)):=by rw [← hW8];exact blk_set (blk_set KW7 0 _) 1 _
 have hB8:Below W6.heap.size W6 W8:=hBW7.trans (by rw [← hW8];exact ((Below.refl _ _).setCell (p:=⟨W6.heap.size,0,none⟩) (Nat.le_refl _) _).setCell (p:=⟨W6.heap.size,1,none⟩) (Nat.le_refl _) _)
 have lt6:W4.heap.size<W6.heap.size:=zL K6
 have lt8:W6.heap.size<W8.heap.size:=zL K8
 have g0:W8.cell? ⟨W4.heap.size,0,none⟩=some (zC zD x.f0):=zJ (zI K6 hB8) 0
 have g1:W8.cell? ⟨W4.heap.size,1,none⟩=some (zC zD x.f1):=zJ (zI K6 hB8) 1
 have g2:W8.cell? ⟨W6.heap.size,0,none⟩=some (zC zD y.f0):=zJ K8 0
 have g3:W8.cell? ⟨W6.heap.size,1,none⟩=some (zC zD y.f1):=zJ K8 1
 have g4:W8.cell? ⟨W1.heap.size,0,none⟩=some (zC zD o.f0):=zJ (zI L1 (zE hB6 hB8)) 0
 have M0:=zI L0 (zE hB6 hB8)
 have M1:=zI L1 (zE hB6 hB8)
 have M2:=zI L2 (zE hB6 hB8)
 have M3:=zI L3 (zE hB6 hB8)
 have hL:=ld_whole (P:=Try.prog) (ty:=29) M0 hu29 rfl (by rw [size29,zM hl])
 have g5:W8.cell? ⟨W.heap.size,1,none⟩=some (zC zD used):=zJ M0 1
 have HBV:Below W.heap.size W W8:=zE HB (zE hB6 hB8)
 have hw:=wrap_one used
 have ha':o.f1.toNat=a:=by omega
 rw [ha']
 have hx':(x.f0 != 1)=false:=by simpa using hx
 have hy':(y.f0 != 1)=false:=by simpa using hy
 rw [h7] at g4
 clear h7
 obtain ⟨n,hn⟩:∃ n:Int,(if x.f1<y.f1 then 1 else 0)=n:=⟨_,rfl⟩
 rw [hn]
 obtain ⟨t,ht⟩:∃ t:Bool,decide (x.f1<y.f1)=t:=⟨_,rfl⟩
 have HR:=zP (warpbeamref06_Less.calls x.f0 x.f1 y.f0 y.f1 t 0 W8 (by rw [← ht];unfold warpbeamref06_Less.f;rw [if_pos hx,if_pos hy]))
 have HM:=zP (zU M0 (zU M1 (zU M2 (zU M3 HBV))))
 clear M0 M1 M2 M3 HBV hx hy
 clear KW1 KW2 KW3 KW4 KW5 KW7 L0 L1 L2 L3 K6 K8 hB6 hB8 hBW1 hBW2 hBW3 hBW4 hBW5 hBW7 HB rb rc' xb xc
 go_enter Try.func37,Try.ntmps37
 go_wp2_with fail
 refine HR.out.mono ?_
 rintro e Wl ⟨rfl,hB9⟩
 have N0:=zI HM.out.1 hB9
 have N1:=zI HM.out.2.1 hB9
 have Ko:=zI HM.out.2.2.1 hB9
 have Ka:=zI HM.out.2.2.2.1 hB9
 have HBx:=zE HM.out.2.2.2.2 hB9
 have szx:=HBx.size
 have sz9:=hB9.size
 clear hB9 HR
 cases t
 case true =>
  have hlt:=of_decide_eq_true ht
  rw [if_pos hlt] at hn
  subst hn
  clear hlt ht
  go_wp2_with fail
  have n3:W2.heap.size≠W3.heap.size:=by omega
  obtain ⟨L,hL⟩:∃ L,L=[(W2.heap.size,[Obj.cells #[zC zD 0,zC zD 0,zC zD 0,zC zD 0,zC zD 0,zC zD 0,zC zD 0,zC zD 0,zC zD 0,zC zD 0,zC zD 0,zC zD 0,zC zD 0,zC zD 0,zC zD 0,zC zD 0,zC zD 0,zC zD 0,.slice none 0 0] 29 (0,0),Obj.cells (cpuC (wrap64 (pc+1)) (wrap64 (used+1)) (rs.set a ⟨1,1⟩) stk) 29 (0,0)]),(W3.heap.size,[Obj.cells #[zC zD 0,zC zD 0,zC zD 0,zC zD 0,zC zD 0,zC zD 0,zC zD 0] 46 (0,0),Obj.cells (askC 0 0 0 0 0 0 0) 46 (0,0)])]:=⟨_,rfl⟩
  have m1:(W2.heap.size,[Obj.cells #[zC zD 0,zC zD 0,zC zD 0,zC zD 0,zC zD 0,zC zD 0,zC zD 0,zC zD 0,zC zD 0,zC zD 0,zC zD 0,zC zD 0,zC zD 0,zC zD 0,zC zD 0,zC zD 0,zC zD 0,zC zD 0,.slice none 0 0] 29 (0,0),Obj.cells (cpuC (wrap64 (pc+1)) (wrap64 (used+1)) (rs.set a ⟨1,1⟩) stk) 29 (0,0)])∈L:=by subst hL;simp
  have m2:(W3.heap.size,[Obj.cells #[zC zD 0,zC zD 0,zC zD 0,zC zD 0,zC zD 0,zC zD 0,zC zD 0] 46 (0,0),Obj.cells (askC 0 0 0 0 0 0 0) 46 (0,0)])∈L:=by subst hL;simp
  have u1:∀ p∈L,p.1=W2.heap.size→p=(W2.heap.size,[Obj.cells #[zC zD 0,zC zD 0,zC zD 0,zC zD 0,zC zD 0,zC zD 0,zC zD 0,zC zD 0,zC zD 0,zC zD 0,zC zD 0,zC zD 0,zC zD 0,zC zD 0,zC zD 0,zC zD 0,zC zD 0,zC zD 0,.slice none 0 0] 29 (0,0),Obj.cells (cpuC (wrap64 (pc+1)) (wrap64 (used+1)) (rs.set a ⟨1,1⟩) stk) 29 (0,0)]):=by subst hL;simp;intro h;exact absurd h.symm n3
  have u2:∀ p∈L,p.1=W3.heap.size→p=(W3.heap.size,[Obj.cells #[zC zD 0,zC zD 0,zC zD 0,zC zD 0,zC zD 0,zC zD 0,zC zD 0] 46 (0,0),Obj.cells (askC 0 0 0 0 0 0 0) 46 (0,0)]):=by subst hL;simp;intro h;exact absurd h n3
  have o1:∀ W',Chain L Wl W'→At (W2.heap.size) [Obj.cells #[zC zD 0,zC zD 0,zC zD 0,zC zD 0,zC zD 0,zC zD 0,zC zD 0,zC zD 0,zC zD 0,zC zD 0,zC zD 0,zC zD 0,zC zD 0,zC zD 0,zC zD 0,zC zD 0,zC zD 0,zC zD 0,.slice none 0 0] 29 (0,0),Obj.cells (cpuC (wrap64 (pc+1)) (wrap64 (used+1)) (rs.set a ⟨1,1⟩) stk) 29 (0,0)] 0 W':=fun W' hB=>hB.on _ m1 0 ⟨0,_,Nat.le_refl _,rfl,Ko⟩
  have a1:∀ W',Chain L Wl W'→At (W3.heap.size) [Obj.cells #[zC zD 0,zC zD 0,zC zD 0,zC zD 0,zC zD 0,zC zD 0,zC zD 0] 46 (0,0),Obj.cells (askC 0 0 0 0 0 0 0) 46 (0,0)] 0 W':=fun W' hB=>hB.on _ m2 0 ⟨0,_,Nat.le_refl _,rfl,Ka⟩
  have c1:∀ W',Chain L Wl W'→W'.heap[W.heap.size]?=some (.cells (cpuC pc used rs stk) 29 (0,0)):=fun W' hB=>hB.mid N0 (by subst hL;simp;omega)
  have c2:∀ W',Chain L Wl W'→W'.cell? ⟨W1.heap.size,1,none⟩=some (zC zD a):=fun W' hB=>zJ (hB.mid N1 (by subst hL;simp;omega)) 1
  clear N0 N1 Ko Ka
  apply GR.wp_region_grows (R:=Chain L) (by kernel_rfl) (by kernel_rfl)
  ·
   intro c a d v w h;cases d <;> exact h
  apply GR.gw_val (by rfl)
  ·
   (intro W' hB hD;exact exec_ld rfl (ld_whole (c1 W' hB) hu29 rfl (by rw [size29,zM hl])))
  simp only [Act.put,zQ,zS,zT]
  apply GR.gw_val (by rfl)
  ·
   (intro W' hB hD;have c2':=c2 W' hB;go_simp;first|done|rfl)
  simp only [Act.put,zQ,zS,zT]
  apply GR.gw_val (by rfl)
  ·
   (intro W' hB hD;have c2':=c2 W' hB;go_simp;first|done|rfl)
  simp only [Act.put,zQ,zS,zT]
  apply GR.gw_call (by rfl)
  ·
   (intro W' hB hD;go_simp;first|done|rfl|exact ⟨rfl,rfl⟩)
  ·
   (intro W' hB hD;exact (warpbeamref17_number.calls 1 1 1 W' rfl).mono fun x w' hh=>⟨hh.1,GR.Rel.ofB hh.2⟩)
  simp only [Act.put,zQ,zS,zT]
  apply GR.gw_call (by rfl)
  ·
   (intro W' hB hD;go_simp;first|done|rfl|exact ⟨rfl,rfl⟩)
  ·
   (intro W' hB hD;exact (rset_calls pc used rs stk a ⟨1,1⟩ W' hl h1 ha8).mono fun x w' hh=>⟨hh.1,GR.Rel.ofB hh.2⟩)
  simp only [Act.put,zQ,zS,zT]
  apply GR.gw_val (by rfl)
  ·
   (intro W' hB hD;go_simp;first|done|rfl)
  simp only [Act.put,zQ,zS,zT]
  apply GR.gw_val (by rfl)
  ·
   (intro W' hB hD;go_simp;first|done|rfl)
  simp only [Act.put,zQ,zS,zT]
  apply GR.gw_skp (stable_At m1 1) (by rfl) (by rfl)
  ·
   intro W' hB hD
   obtain ⟨W'',e1,e2,e3⟩:=chain_whole (ty:=29) m1 u1 (o1 W' hB) (by rw [(zM (pc:=wrap64 (pc+1)) (used:=wrap64 (used+1)) (stk:=stk) (rs:=rs.set a ⟨1,1⟩) (by rw [List.length_set];exact hl))];rfl) (by rw [size29,(zM (pc:=wrap64 (pc+1)) (used:=wrap64 (used+1)) (stk:=stk) (rs:=rs.set a ⟨1,1⟩) (by rw [List.length_set];exact hl))]) (cpuC_one1 _ _ _ h1)
   exact ⟨W'',exec_st rfl e1,e2,e3⟩
  rintro v -
  apply GR.gw_skp (stable_At m2 1) (by rfl) (by rfl)
  ·
   intro W' hB hD
   obtain ⟨W'',e1,e2,e3⟩:=chain_whole (ty:=46) m2 u2 (a1 W' hB) (by rfl) (by rw [size46];rfl) (by simp [Value.oneCell'])
   exact ⟨W'',exec_st rfl e1,e2,e3⟩
  rintro v' -
  apply GR.gw_nil
  intro Wa hW hF hP
  simp [List.forall_mem_append] at hF
  subst hL
  have hT:=Two.of_chain hW hF.1 hF.2
  have HE:=zP (zU hT.o (zU hT.a ((HBx).trans (show Below W.heap.size _ Wa from ⟨hT.os,hT.tape,hT.output,hT.size,fun k hk=>hT.block k (by omega) (by omega) (by omega)⟩))))
  clear hT hW hF hP o1 a1 m1 m2 u1 u2
  go_wp2_with fail
  exact bodyPost_ret (results_cc rfl _ rfl HE.out.1 hu29 rfl (by rw [size29,(zM (pc:=wrap64 (pc+1)) (used:=wrap64 (used+1)) (stk:=stk) (rs:=rs.set a ⟨1,1⟩) (by rw [List.length_set];exact hl))]) rfl HE.out.2.1 hu46 rfl (by rw [size46];rfl)) rfl ⟨rfl,HE.out.2.2⟩
 case false =>
  have hlt:=of_decide_eq_false ht
  rw [if_neg hlt] at hn
  subst hn
  clear hlt ht
  go_wp2_with fail
  have n3:W2.heap.size≠W3.heap.size:=by omega
  obtain ⟨L,hL⟩:∃ L,L=[(W2.heap.size,[Obj.cells #[zC zD 0,zC zD 0,zC zD 0,zC zD 0,zC zD 0,zC zD 0,zC zD 0,zC zD 0,zC zD 0,zC zD 0,zC zD 0,zC zD 0,zC zD 0,zC zD 0,zC zD 0,zC zD 0,zC zD 0,zC zD 0,.slice none 0 0] 29 (0,0),Obj.cells (cpuC (wrap64 (pc+1)) (wrap64 (used+1)) (rs.set a ⟨1,0⟩) stk) 29 (0,0)]),(W3.heap.size,[Obj.cells #[zC zD 0,zC zD 0,zC zD 0,zC zD 0,zC zD 0,zC zD 0,zC zD 0] 46 (0,0),Obj.cells (askC 0 0 0 0 0 0 0) 46 (0,0)])]:=⟨_,rfl⟩
  have m1:(W2.heap.size,[Obj.cells #[zC zD 0,zC zD 0,zC zD 0,zC zD 0,zC zD 0,zC zD 0,zC zD 0,zC zD 0,zC zD 0,zC zD 0,zC zD 0,zC zD 0,zC zD 0,zC zD 0,zC zD 0,zC zD 0,zC zD 0,zC zD 0,.slice none 0 0] 29 (0,0),Obj.cells (cpuC (wrap64 (pc+1)) (wrap64 (used+1)) (rs.set a ⟨1,0⟩) stk) 29 (0,0)])∈L:=by subst hL;simp
  have m2:(W3.heap.size,[Obj.cells #[zC zD 0,zC zD 0,zC zD 0,zC zD 0,zC zD 0,zC zD 0,zC zD 0] 46 (0,0),Obj.cells (askC 0 0 0 0 0 0 0) 46 (0,0)])∈L:=by subst hL;simp
  have u1:∀ p∈L,p.1=W2.heap.size→p=(W2.heap.size,[Obj.cells #[zC zD 0,zC zD 0,zC zD 0,zC zD 0,zC zD 0,zC zD 0,zC zD 0,zC zD 0,zC zD 0,zC zD 0,zC zD 0,zC zD 0,zC zD 0,zC zD 0,zC zD 0,zC zD 0,zC zD 0,zC zD 0,.slice none 0 0] 29 (0,0),Obj.cells (cpuC (wrap64 (pc+1)) (wrap64 (used+1)) (rs.set a ⟨1,0⟩) stk) 29 (0,0)]):=by subst hL;simp;intro h;exact absurd h.symm n3
  have u2:∀ p∈L,p.1=W3.heap.size→p=(W3.heap.size,[Obj.cells #[zC zD 0,zC zD 0,zC zD 0,zC zD 0,zC zD 0,zC zD 0,zC zD 0] 46 (0,0),Obj.cells (askC 0 0 0 0 0 0 0) 46 (0,0)]):=by subst hL;simp;intro h;exact absurd h n3
  have o1:∀ W',Chain L Wl W'→At (W2.heap.size) [Obj.cells #[zC zD 0,zC zD 0,zC zD 0,zC zD 0,zC zD 0,zC zD 0,zC zD 0,zC zD 0,zC zD 0,zC zD 0,zC zD 0,zC zD 0,zC zD 0,zC zD 0,zC zD 0,zC zD 0,zC zD 0,zC zD 0,.slice none 0 0] 29 (0,0),Obj.cells (cpuC (wrap64 (pc+1)) (wrap64 (used+1)) (rs.set a ⟨1,0⟩) stk) 29 (0,0)] 0 W':=fun W' hB=>hB.on _ m1 0 ⟨0,_,Nat.le_refl _,rfl,Ko⟩
  have a1:∀ W',Chain L Wl W'→At (W3.heap.size) [Obj.cells #[zC zD 0,zC zD 0,zC zD 0,zC zD 0,zC zD 0,zC zD 0,zC zD 0] 46 (0,0),Obj.cells (askC 0 0 0 0 0 0 0) 46 (0,0)] 0 W':=fun W' hB=>hB.on _ m2 0 ⟨0,_,Nat.le_refl _,rfl,Ka⟩
  have c1:∀ W',Chain L Wl W'→W'.heap[W.heap.size]?=some (.cells (cpuC pc used rs stk) 29 (0,0)):=fun W' hB=>hB.mid N0 (by subst hL;simp;omega)
  have c2:∀ W',Chain L Wl W'→W'.cell? ⟨W1.heap.size,1,none⟩=some (zC zD a):=fun W' hB=>zJ (hB.mid N1 (by subst hL;simp;omega)) 1
  clear N0 N1 Ko Ka
  apply GR.wp_region_grows (R:=Chain L) (by kernel_rfl) (by kernel_rfl)
  ·
   intro c a d v w h;cases d <;> exact h
  apply GR.gw_val (by rfl)
  ·
   (intro W' hB hD;exact exec_ld rfl (ld_whole (c1 W' hB) hu29 rfl (by rw [size29,zM hl])))
  simp only [Act.put,zQ,zS,zT]
  apply GR.gw_val (by rfl)
  ·
   (intro W' hB hD;have c2':=c2 W' hB;go_simp;first|done|rfl)
  simp only [Act.put,zQ,zS,zT]
  apply GR.gw_val (by rfl)
  ·
   (intro W' hB hD;have c2':=c2 W' hB;go_simp;first|done|rfl)
  simp only [Act.put,zQ,zS,zT]
  apply GR.gw_call (by rfl)
  ·
   (intro W' hB hD;go_simp;first|done|rfl|exact ⟨rfl,rfl⟩)
  ·
   (intro W' hB hD;exact (warpbeamref17_number.calls 0 1 0 W' rfl).mono fun x w' hh=>⟨hh.1,GR.Rel.ofB hh.2⟩)
  simp only [Act.put,zQ,zS,zT]
  apply GR.gw_call (by rfl)
  ·
   (intro W' hB hD;go_simp;first|done|rfl|exact ⟨rfl,rfl⟩)
  ·
   (intro W' hB hD;exact (rset_calls pc used rs stk a ⟨1,0⟩ W' hl h1 ha8).mono fun x w' hh=>⟨hh.1,GR.Rel.ofB hh.2⟩)
  simp only [Act.put,zQ,zS,zT]
  apply GR.gw_val (by rfl)
  ·
   (intro W' hB hD;go_simp;first|done|rfl)
  simp only [Act.put,zQ,zS,zT]
  apply GR.gw_val (by rfl)
  ·
   (intro W' hB hD;go_simp;first|done|rfl)
  simp only [Act.put,zQ,zS,zT]
  apply GR.gw_skp (stable_At m1 1) (by rfl) (by rfl)
  ·
   intro W' hB hD
   obtain ⟨W'',e1,e2,e3⟩:=chain_whole (ty:=29) m1 u1 (o1 W' hB) (by rw [(zM (pc:=wrap64 (pc+1)) (used:=wrap64 (used+1)) (stk:=stk) (rs:=rs.set a ⟨1,0⟩) (by rw [List.length_set];exact hl))];rfl) (by rw [size29,(zM (pc:=wrap64 (pc+1)) (used:=wrap64 (used+1)) (stk:=stk) (rs:=rs.set a ⟨1,0⟩) (by rw [List.length_set];exact hl))]) (cpuC_one1 _ _ _ h1)
   exact ⟨W'',exec_st rfl e1,e2,e3⟩
  rintro v -
  apply GR.gw_skp (stable_At m2 1) (by rfl) (by rfl)
  ·
   intro W' hB hD
   obtain ⟨W'',e1,e2,e3⟩:=chain_whole (ty:=46) m2 u2 (a1 W' hB) (by rfl) (by rw [size46];rfl) (by simp [Value.oneCell'])
   exact ⟨W'',exec_st rfl e1,e2,e3⟩
  rintro v' -
  apply GR.gw_nil
  intro Wa hW hF hP
  simp [List.forall_mem_append] at hF
  subst hL
  have hT:=Two.of_chain hW hF.1 hF.2
  have HE:=zP (zU hT.o (zU hT.a ((HBx).trans (show Below W.heap.size _ Wa from ⟨hT.os,hT.tape,hT.output,hT.size,fun k hk=>hT.block k (by omega) (by omega) (by omega)⟩))))
  clear hT hW hF hP o1 a1 m1 m2 u1 u2
  go_wp2_with fail
  exact bodyPost_ret (results_cc rfl _ rfl HE.out.1 hu29 rfl (by rw [size29,(zM (pc:=wrap64 (pc+1)) (used:=wrap64 (used+1)) (stk:=stk) (rs:=rs.set a ⟨1,0⟩) (by rw [List.length_set];exact hl))]) rfl HE.out.2.1 hu46 rfl (by rw [size46];rfl)) rfl ⟨rfl,HE.out.2.2⟩
theorem rsums_do (pc used:Int) (rs:List S32) (stk:Value) (o:S97) (W:World) (hl:rs.length=8) (h1:stk.oneCell'=true) (ha0:0≤o.f1) (ha1:o.f1<8) (hb0:0≤o.f2) (hb1:o.f2<8) (hc0:0≤o.f3) (hc1:o.f3<8) (k:Int) (hk0:0≤k) (hk3:k<3) (h4:o.f0=k+4) (hx:(regA rs o.f2).f0=1) (hy:(regA rs o.f3).f0=1) :
  Calls Try.prog 37 #[.agg (cpuC pc used rs stk),.agg #[zC zD o.f0,zC zD o.f1,zC zD o.f2,zC zD o.f3,zC zD o.f4]] W fun x w'=>x=.returned (.tuple #[.agg (cpuC (wrap64 (pc+1)) (wrap64 (used+1)) (rs.set o.f1.toNat ⟨1,doP (k+4) (regA rs o.f2).f1 (regA rs o.f3).f1⟩) stk),.agg (askC 0 0 0 0 0 0 0)])∧Below W.heap.size W w':=by
 have hu29:=Try.underlying29
 have hu46:=Try.underlying46
 have hu26:=Try.underlying26
 have hu24:=Try.underlying24
 have hu97:=Try.underlying97
 obtain ⟨W1,hW1,KW1,hBW1⟩:=alz W (cpuC pc used rs stk) 29
 obtain ⟨W2,hW2,KW2,hBW2⟩:=alz W1 #[zC zD o.f0,zC zD o.f1,zC zD o.f2,zC zD o.f3,zC zD o.f4] 97
 obtain ⟨W3,hW3,KW3,hBW3⟩:=alz0 W2
 obtain ⟨W4,hW4,KW4,hBW4⟩:=alz1 W3
 have L0:W4.heap[W.heap.size]?=some (.cells (cpuC pc used rs stk) 29 (0,0)):=zI KW1 (zE (zE hBW2 hBW3) hBW4)
 have L1:W4.heap[W1.heap.size]?=some (.cells #[zC zD o.f0,zC zD o.f1,zC zD o.f2,zC zD o.f3,zC zD o.f4] 97 (0,0)):=zI KW2 (zE hBW3 hBW4)
 have L2:W4.heap[W2.heap.size]?=some (.cells #[zC zD 0,zC zD 0,zC zD 0,zC zD 0,zC zD 0,zC zD 0,zC zD 0,zC zD 0,zC zD 0,zC zD 0,zC zD 0,zC zD 0,zC zD 0,zC zD 0,zC zD 0,zC zD 0,zC zD 0,zC zD 0,.slice none 0 0] 29 (0,0)):=zI KW3 hBW4
 have L3:=KW4
 have lt0:W.heap.size<W1.heap.size:=zL KW1
 have lt1:W1.heap.size<W2.heap.size:=zL KW2
 have lt2:W2.heap.size<W3.heap.size:=zL KW3
 have lt3:W3.heap.size<W4.heap.size:=zL KW4
 have HB:Below W.heap.size W W4:=(zE (zE (zE hBW1 hBW2) hBW3) hBW4)
 obtain ⟨b,hb⟩:∃ b:Nat,o.f2=b:=⟨o.f2.toNat,by omega⟩
 obtain ⟨c,hc⟩:∃ c:Nat,o.f3=c:=⟨o.f3.toNat,by omega⟩
 obtain ⟨a,ha⟩:∃ a:Nat,o.f1=a:=⟨o.f1.toNat,by omega⟩
 have hb8:b<8:=by omega
 have hc8:c<8:=by omega
 have ha8:a<8:=by omega
 have xb:rs[b]?=some (regA rs o.f2):=by rw [hb];unfold regA;simp [hl,hb8]
 have xc:rs[c]?=some (regA rs o.f3):=by rw [hc];unfold regA;simp [hl,hc8]
 generalize regA rs o.f2=x at *
 generalize regA rs o.f3=y at *
 rw [hb] at KW2 L1 hW2
 rw [hc] at KW2 L1 hW2
 rw [ha] at KW2 L1 hW2
 have rb:=cpuC_reg (pc:=pc) (used:=used) (stk:=stk) xb
 have rc':=cpuC_reg (pc:=pc) (used:=used) (stk:=stk) xc
 have k0:W4.cell? ⟨W1.heap.size,2,none⟩=some (zC zD b):=zJ L1 2
 have k1:W4.cell? ⟨W.heap.size,2+b * 2,none⟩=some (zC zD x.f0):=(zJ L0 _).trans rb.1
 have k2:W4.cell? ⟨W.heap.size,2+b * 2+1,none⟩=some (zC zD x.f1):=(zJ L0 _).trans rb.2
 obtain ⟨W5,hW5,KW5,hBW5⟩:=alz3 W4
 obtain ⟨W6,hW6⟩:∃ V,(W5.setCell ⟨W4.heap.size,0,none⟩ (zC zD x.f0)).setCell ⟨W4.heap.size,1,none⟩ (zC zD x.f1)=V:=⟨_,rfl⟩
 have e0:W5.cell? ⟨W4.heap.size,0,none⟩=some (zC zD 0):=zJ KW5 0
 have e1:W5.cell? ⟨W4.heap.size,1,none⟩=some (zC zD 0):=zJ KW5 1
 have e2:=zK KW5 0
 have e3:=zK KW5 1
 have K6:W6.heap[W4.heap.size]?=some (.cells #[zC zD x.f0,zC zD x.f1] 24 (0,0)):=by rw [← hW6];exact blk_set (blk_set KW5 0 _) 1 _
 have hB6:Below W4.heap.size W4 W6:=hBW5.trans (by rw [← hW6];exact ((Below.refl _ _).setCell (p:=⟨W4.heap.size,0,none⟩) (Nat.le_refl _) _).setCell (p:=⟨W4.heap.size,1,none⟩) (Nat.le_refl _) _)
 have k3:W6.cell? ⟨W1.heap.size,3,none⟩=some (zC zD c):=zJ (zI L1 hB6) 3
 have k4:W6.cell? ⟨W.heap.size,2+c * 2,none⟩=some (zC zD y.f0):=(zJ (zI L0 hB6) _).trans rc'.1
 have k5:W6.cell? ⟨W.heap.size,2+c * 2+1,none⟩=some (zC zD y.f1):=(zJ (zI L0 hB6) _).trans rc'.2
 obtain ⟨W7,hW7,KW7,hBW7⟩:=alz3 W6
 obtain ⟨W8,hW8⟩:∃ V,(W7.setCell ⟨W6.heap.size,0,none⟩ (zC zD y.f0)).setCell ⟨W6.heap.size,1,none⟩ (zC zD y.f1)=V:=⟨_,rfl⟩
 have f0:W7.cell? ⟨W6.heap.size,0,none⟩=some (zC zD 0):=zJ KW7 0
 have f1:W7.cell? ⟨W6.heap.size,1,none⟩=some (zC zD 0):=zJ KW7 1
 have f2:=zK KW7 0
 have f3:=zK KW7 1
 have K8:W8.heap[W6.heap.size]?=some (.cells #[zC zD y.f0,zC zD y.f1] 24 (0,0)):=by rw [← hW8];exact blk_set (blk_set KW7 0 _) 1 _
 have hB8:Below W6.heap.size W6 W8:=hBW7.trans (by rw [← hW8];exact ((Below.refl _ _).setCell (p:=⟨W6.heap.size,0,none⟩) (Nat.le_refl _) _).setCell (p:=⟨W6.heap.size,1,none⟩) (Nat.le_refl _) _)
 have lt6:W4.heap.size<W6.heap.size:=zL K6
 have lt8:W6.heap.size<W8.heap.size:=zL K8
 have g0:W8.cell? ⟨W4.heap.size,0,none⟩=some (zC zD x.f0):=zJ (zI K6 hB8) 0
 have g1:W8.cell? ⟨W4.heap.size,1,none⟩=some (zC zD x.f1):=zJ (zI K6 hB8) 1
 have g2:W8.cell? ⟨W6.heap.size,0,none⟩=some (zC zD y.f0):=zJ K8 0
 have g3:W8.cell? ⟨W6.heap.size,1,none⟩=some (zC zD y.f1):=zJ K8 1
 have g4:W8.cell? ⟨W1.heap.size,0,none⟩=some (zC zD o.f0):=zJ (zI L1 (zE hB6 hB8)) 0
 have M0:=zI L0 (zE hB6 hB8)
 have M1:=zI L1 (zE hB6 hB8)
 have M2:=zI L2 (zE hB6 hB8)
 have M3:=zI L3 (zE hB6 hB8)
 have hL:=ld_whole (P:=Try.prog) (ty:=29) M0 hu29 rfl (by rw [size29,zM hl])
 have g5:W8.cell? ⟨W.heap.size,1,none⟩=some (zC zD used):=zJ M0 1
 have HBV:Below W.heap.size W W8:=zE HB (zE hB6 hB8)
 have hw:=wrap_one used
 have ha':o.f1.toNat=a:=by omega
 rw [ha']
 have hx':(x.f0 != 1)=false:=by simpa using hx
 have hy':(y.f0 != 1)=false:=by simpa using hy
 rw [h4] at g4
 clear h4
 obtain ⟨ch,hch⟩:∃ ch:Int,(if k=0 then 43 else if k=1 then 45 else 42)=ch:=⟨_,rfl⟩
 have hD:warpbeamref06_Do.f 1 ch x.f0 x.f1 y.f0 y.f1=some (1,doP (k+4) x.f1 y.f1,0):=by
  obtain rfl|rfl|rfl:k=0∨k=1∨k=2:=by omega
  all_goals (subst hch;simp [warpbeamref06_Do.f,warpbeamref06_Do.j0,hx,hy,doP])
 obtain ⟨r,hr⟩:∃ r,doP (k+4) x.f1 y.f1=r:=⟨_,rfl⟩
 rw [hr] at hD ⊢
 have h7:(k+4==7)=false:=by simp;omega
 have h7':¬ k+4=7:=by omega
 have hwk:IntKind.i64.wrap k=k:=by rw [IntKind.wrap_i64];omega
 have hix:∀ W',(Instr.index 9 (.string ⟨#[43,45,42]⟩) (zC zD k)).run Try.prog W'=.ok (.int .u8 ch) W':=by
  obtain rfl|rfl|rfl:k=0∨k=1∨k=2:=by omega
  all_goals (intro W';subst hch;kernel_rfl)
 have HM:=zP (zU M0 (zU M1 (zU M2 (zU M3 (zU HBV (zI K6 hB8))))))
 have HD':=zP hD
 have G0:∀ W',Below W8.heap.size W8 W'→W'.cell? ⟨W4.heap.size,0,none⟩=some (zC zD x.f0):=fun W' hB=>pw_cell_below hB g0
 have G1:∀ W',Below W8.heap.size W8 W'→W'.cell? ⟨W4.heap.size,1,none⟩=some (zC zD x.f1):=fun W' hB=>pw_cell_below hB g1
 have G2:∀ W',Below W8.heap.size W8 W'→W'.cell? ⟨W6.heap.size,0,none⟩=some (zC zD y.f0):=fun W' hB=>pw_cell_below hB g2
 have G3:∀ W',Below W8.heap.size W8 W'→W'.cell? ⟨W6.heap.size,1,none⟩=some (zC zD y.f1):=fun W' hB=>pw_cell_below hB g3
 have G4:∀ W',Below W8.heap.size W8 W'→W'.cell? ⟨W1.heap.size,0,none⟩=some (zC zD (k+4)):=fun W' hB=>pw_cell_below hB g4
 clear M0 M1 M2 M3 HBV hx hy
 clear KW1 KW2 KW3 KW4 KW5 KW7 L0 L1 L2 L3 K6 K8 hB6 hB8 hBW1 hBW2 hBW3 hBW4 hBW5 hBW7 HB rb rc' xb xc
 go_enter Try.func37,Try.ntmps37
 go_wp2_with fail
 apply GR.wp_region_grow (R:=RB) 11 (by kernel_rfl) (by kernel_rfl) (by kernel_rfl)
 ·
  intro c a d v w h;cases d <;> exact h
 simp only [List.take_succ_cons,List.take_zero,List.drop_succ_cons,List.drop_zero]
 apply GR.gw_val (by rfl)
 ·
  (intro W' hB hD;have q4:=G4 W' hB;go_simp;first|done|rfl)
 simp only [Act.put,zQ,zS,zT]
 apply GR.gw_val (by rfl)
 ·
  (intro W' hB hD;have q4:=G4 W' hB;go_simp;first|done|rfl)
 simp only [Act.put,zQ,zS,zT]
 apply GR.gw_val (by rfl)
 ·
  (intro W' hB hD;go_simp;first|done|rfl)
 simp only [Act.put,zQ,zS,zT]
 apply GR.gw_val (by rfl)
 ·
  (intro W' hB hD;exact exec_ix rfl (hix W'))
 simp only [Act.put,zQ,zS,zT]
 apply GR.gw_val (by rfl)
 ·
  (intro W' hB hD;have q0:=G0 W' hB;have q1:=G1 W' hB;go_simp;first|done|rfl)
 simp only [Act.put,zQ,zS,zT]
 apply GR.gw_val (by rfl)
 ·
  (intro W' hB hD;have q2:=G2 W' hB;have q3:=G3 W' hB;go_simp;first|done|rfl)
 simp only [Act.put,zQ,zS,zT]
 apply GR.gw_call (by rfl)
 ·
  (intro W' hB hD;go_simp;first|done|rfl|exact ⟨rfl,rfl⟩)
 ·
  (intro W' hB hD;exact (warpbeamref06_Do.calls 1 ch x.f0 x.f1 y.f0 y.f1 1 r 0 W' HD'.out).mono fun x w' hh=>⟨hh.1,GR.Rel.ofB hh.2⟩)
 simp only [Act.put,zQ,zS,zT]
 apply GR.gw_val (by rfl)
 ·
  (intro W' hB hD;go_simp;first|done|rfl)
 simp only [Act.put,zQ,zS,zT]
 apply GR.gw_val (by rfl)
 ·
  (intro W' hB hD;go_simp;first|done|rfl)
 simp only [Act.put,zQ,zS,zT]
 apply GR.gw_val (by rfl)
 ·
  (intro W' hB hD;go_simp;first|done|rfl)
 simp only [Act.put,zQ,zS,zT]
 apply GR.gw_rel (stable_TZ W8.heap.size (.cells #[zC zD 0,zC zD 0] 24 (0,0))) (by rfl)
 ·
  intro W' hB hD
  refine ⟨_,_,?_,bOne (.cells #[zC zD 0,zC zD 0] 24),W'.heap.size,rfl,hB.size,heap_alloc_new _ _⟩
  go_simp
  first|done|rfl
 rintro v ⟨-,p1,rfl,-,-⟩
 simp only [Act.put,zQ,zS,zT]
 apply GR.gw_nil
 intro Wa hW hF hP
 simp [List.forall_mem_append,TZ_ptr] at hF hP
 obtain ⟨hp1,hF⟩:=hF
 have N0:=zI HM.out.1 hW
 have N1:=zI HM.out.2.1 hW
 have N2:=zI HM.out.2.2.1 hW
 have N3:=zI HM.out.2.2.2.1 hW
 have HBa:=zE HM.out.2.2.2.2.1 hW
 have d0:=zJ hF 0
 have d1:=zJ hF 1
 have d2:=zK hF 0
 have d3:=zK hF 1
 have lta:=hW.size
 obtain ⟨Wb,hWb⟩:∃ V,(Wa.setCell ⟨p1,0,none⟩ (zC zD 1)).setCell ⟨p1,1,none⟩ (zC zD r)=V:=⟨_,rfl⟩
 have Kp:Wb.heap[p1]?=some (.cells #[zC zD 1,zC zD r] 24 (0,0)):=by rw [← hWb];exact blk_set (blk_set hF 0 _) 1 _
 have hOb:Only p1 Wa Wb:=by rw [← hWb];exact (Only.set _ _ _).trans (Only.set _ _ _)
 have HBb:=HBa.trans (hOb.below (by omega) (by omega))
 have P0:=hOb.mid N0 (by omega) (B:=0)
 have P1:=hOb.mid N1 (by omega) (B:=0)
 have Ko:=hOb.mid N2 (by omega) (B:=0)
 have Ka:=hOb.mid N3 (by omega) (B:=0)
 have szb:=hOb.size
 have hL2:=ld_whole (P:=Try.prog) (ty:=29) P0 hu29 rfl (by rw [size29,zM hl])
 have s0:Wb.cell? ⟨W1.heap.size,1,none⟩=some (zC zD a):=zJ P1 1
 have s1:=zJ Kp 0
 have s2:=zJ Kp 1
 have HR2:=zP (rset_calls pc used rs stk a ⟨1,r⟩ Wb hl h1 ha8)
 have HY:=zP (zU Ko (zU Ka HBb))
 clear N0 N1 N2 N3 HBa hOb HBb P0 P1 Ko Ka Kp hF hW hP
 go_wp2_with (refine wpList_ld rfl rfl hL2 ?_)
 refine HR2.out.mono ?_
 rintro e w9 ⟨rfl,hB9⟩
 have Ko:=zI HY.out.1 hB9
 have Ka:=zI HY.out.2.1 hB9
 have HBx:=zE HY.out.2.2 hB9
 have sz9:=hB9.size
 obtain ⟨Vo,hSo,Ko1,hOo⟩:=st_whole (P:=Try.prog) (ty:=29) (vs:=(cpuC (wrap64 (pc+1)) (wrap64 (used+1)) (rs.set a ⟨1,r⟩) stk).toList) Ko (by have:=(zM (pc:=wrap64 (pc+1)) (used:=wrap64 (used+1)) (stk:=stk) (rs:=rs.set a ⟨1,r⟩) (by rw [List.length_set];exact hl));simp [this]) (by have:=(zM (pc:=wrap64 (pc+1)) (used:=wrap64 (used+1)) (stk:=stk) (rs:=rs.set a ⟨1,r⟩) (by rw [List.length_set];exact hl));rw [size29];simp [this]) (cpuC_one1 _ _ _ h1)
 simp only [Array.toArray_toList] at hSo Ko1
 obtain ⟨Va,hSa,Ka1,hOa⟩:=st_whole (P:=Try.prog) (ty:=46) (vs:=(askC 0 0 0 0 0 0 0:Array Value).toList) (hOo.mid Ka (by omega) (B:=0)) rfl (by rw [size46];rfl) (by simp [Value.oneCell'])
 simp only [Array.toArray_toList] at hSa Ka1
 have hE1:=hOa.mid Ko1 (by omega) (B:=0)
 have hE2:Below W.heap.size W Va:=(HBx.trans (hOo.below (by omega) HBx.size)).trans (hOa.below (by omega) (Nat.le_trans HBx.size hOo.size))
 have HE:=zP (zU hE1 (zU Ka1 hE2))
 clear hE1 hE2 Ka1 Ko1 hOo hOa Ko Ka HBx
 go_wp2_with (first|refine wpList_st rfl rfl hSo ?_|refine wpList_st rfl rfl hSa ?_)
 exact bodyPost_ret (results_cc rfl _ rfl HE.out.1 hu29 rfl (by rw [size29,(zM (pc:=wrap64 (pc+1)) (used:=wrap64 (used+1)) (stk:=stk) (rs:=rs.set a ⟨1,r⟩) (by rw [List.length_set];exact hl))]) rfl HE.out.2.1 hu46 rfl (by rw [size46];rfl)) rfl ⟨rfl,HE.out.2.2⟩
theorem R_offs {α:Type} {d:Kd α} {e base:Nat} {v:Value} {L:List α} {W W':World} {b:Nat} {cs:Array Value} {t:Nat} (h:Kd.R d e W base (fun _=>True) v L) (hb:W.heap[b]?=some (.cells cs t (0,0))) (ht:∀ q∈e :: d.E,q≠t) (hO:Only b W W'):Kd.R d e W' base (fun _=>True) v L :=
 Kd.R_mono (Kd.R_step (Kd.R_bound h) fun k hk hlt=>by
  refine hO.block k hlt fun e1=>?_
  obtain ⟨-,-,-,q,hq,cells,hc⟩:=hk
  rw [e1,hb] at hc
  injection hc with hc
  injection hc with _ hc
  exact ht q hq hc.symm) fun _ _=>trivial
abbrev Stk9 (W:World) (base:Nat) (v:Value) (fs:List FrameD):Prop:=Kd.R kF 99 W base (fun _=>True) v fs
theorem info99:(Try.prog.info? 99).map (fun i=>(i.zero,i.size,i.bytes))=some (some (.agg #[zC zD 0,zC zD 0,zC zD 0,zC zD 0,zC zD 0,zC zD 0,zC zD 0,zC zD 0,zC zD 0,zC zD 0,zC zD 0,zC zD 0,zC zD 0,zC zD 0,zC zD 0,zC zD 0,zC zD 0,zC zD 0]),18,144):=by kernel_rfl
theorem Stk9.row {W:World} {base g n c i:Nat} {fs:List FrameD} {f:FrameD} (h:Stk9 W base (.slice (some ⟨g,0,none⟩) n c) fs) (hf:fs[i]?=some f):f.rs.length=8∧W.rangeAt g (i * 18) (fc f):=by
 have hi:=(List.getElem?_eq_some_iff.1 hf).1
 obtain ⟨A,c',hv,hle,hC⟩:=Kd.R_reads h
 injection hv with e1 e2 e3
 subst e1
 obtain ⟨ad,cs,e,_,hK,hc0⟩:=Kd.C_get hC ⟨0,0,[]⟩ (i:Int) (by omega) (by omega)
 injection e with e
 subst e
 have hx:fs.getD (i:Int).toNat ⟨0,0,[]⟩=f:=by
  rw [Int.toNat_natCast,List.getD_eq_getElem?_getD,hf];rfl
 rw [hx] at hK
 obtain ⟨h8,rfl⟩:=hK
 refine ⟨h8,fun j u hj=>?_⟩
 have:=hc0 j u hj
 simpa [Addr.add_lit,kF] using this
theorem Stk9.block {W:World} {base n c:Nat} {A:Option Addr} {fs:List FrameD} (h:Stk9 W base (.slice A n c) fs) (hn:fs≠[]):∃ g,A=some ⟨g,0,none⟩∧base≤g∧g<W.heap.size:=by
 obtain ⟨h0,inner,ho,hr⟩:=h
 rcases ho.2 with ⟨e,h2⟩|⟨g,cap,cur,e,hg,hh,r⟩
 ·
  exact absurd (List.eq_nil_of_length_eq_zero h2) hn
 ·
  injection e with e1 e2 e3
  exact ⟨g,e1,hg,zL hh⟩
theorem Stk9.blk {W:World} {base g n c:Nat} {fs:List FrameD} (h:Stk9 W base (.slice (some ⟨g,0,none⟩) n c) fs) (hn:fs≠[]):∃ cur,W.heap[g]?=some (.cells cur 99 (0,0)):=by
 obtain ⟨h0,inner,ho,hr⟩:=h
 rcases ho.2 with ⟨e,h2⟩|⟨g',cap,cur,e,hg,hh,r⟩
 ·
  exact absurd (List.eq_nil_of_length_eq_zero h2) hn
 ·
  injection e with e1 e2 e3
  injection e1 with e1
  injection e1 with e1
  subst e1
  exact ⟨cur,hh⟩
theorem blk_same {W W':World} {g t:Nat} {cs:Array Value} (h':W'.heap[g]?=some (.cells cs t (0,0))) (h:W.heap[g]?=some (.cells cs t (0,0))) (i:Nat):W'.cell? ⟨g,i,none⟩=W.cell? ⟨g,i,none⟩:=(zJ h' i).trans (zJ h i).symm
theorem Stk9.two {ob ab base:Nat} {W W':World} {v:Value} {fs:List FrameD} {xs ys:Array Value} {X Y:Obj} (h:Stk9 W base v fs) (ho:W.heap[ob]?=some (.cells xs 29 (0,0))) (ha:W.heap[ab]?=some (.cells ys 46 (0,0))) (hT:Two ob ab X Y W W'):Stk9 W' base v fs :=
 Kd.R_mono (Kd.R_step (Kd.R_types (Kd.R_types h ho (fun q hq=>by simp [kF] at hq;subst hq;decide)) ha (fun q hq=>by simp [kF] at hq;subst hq;decide)) (fun k hk hlt=>hT.block k hlt hk.1.2 hk.2)) (fun _ _=>trivial)
theorem rch12_full (pc used:Int) (rs:List S32) (o:S97) (W:World) (hl:rs.length=8) (h8:o.f0=12) (SA:Option Addr) (sc:Nat) (fs:List FrameD) (hf:16≤fs.length) :
  Calls Try.prog 40 #[.agg (cpuC pc used rs (.slice SA fs.length sc)),.agg #[zC zD o.f0,zC zD o.f1,zC zD o.f2,zC zD o.f3,zC zD o.f4]] W (fun x w'=>x=.returned (.tuple #[.agg (cpuC pc (wrap64 (used+1)) rs (.slice SA fs.length sc)),.agg (askC 5 0 0 0 0 0 5)])∧Below W.heap.size W w'):=by
 have hu29:=Try.underlying29
 have hu46:=Try.underlying46
 have hu26:=Try.underlying26
 have hu24:=Try.underlying24
 have hu97:=Try.underlying97
 have hu27:=Try.underlying27
 have hu99:=Try.underlying99
 obtain ⟨V1,hV1,KV1,hBV1⟩:=alz W (cpuC pc used rs (.slice SA fs.length sc)) 29
 have ltV1:W.heap.size<V1.heap.size:=zL KV1
 have zV:=KV1
 have HB:=hBV1
 clear KV1 hBV1
 obtain ⟨V2,hV2,KV2,hBV2⟩:=alz V1 #[zC zD o.f0,zC zD o.f1,zC zD o.f2,zC zD o.f3,zC zD o.f4] 97
 have ltV2:V1.heap.size<V2.heap.size:=zL KV2
 replace zV:=zI zV hBV2
 have zW:=KV2
 replace HB:=zE HB hBV2
 clear KV2 hBV2
 obtain ⟨V3,hV3,KV3,hBV3⟩:=alz0 V2
 have ltV3:V2.heap.size<V3.heap.size:=zL KV3
 replace zV:=zI zV hBV3
 replace zW:=zI zW hBV3
 have K_o:=KV3
 replace HB:=zE HB hBV3
 clear KV3 hBV3
 obtain ⟨V4,hV4,KV4,hBV4⟩:=alz1 V3
 have ltV4:V3.heap.size<V4.heap.size:=zL KV4
 replace zV:=zI zV hBV4
 replace zW:=zI zW hBV4
 replace K_o:=zI K_o hBV4
 have K_a:=KV4
 replace HB:=zE HB hBV4
 clear KV4 hBV4
 rw [h8] at zW hV2
 have c1:V4.cell? ⟨W.heap.size,18,none⟩=some (.slice SA fs.length sc):=(zJ zV (18)).trans (cpuC_stk hl)
 have c2:V4.cell? ⟨V1.heap.size,0,none⟩=some (zC zD 12):=zJ zW (0)
 have m0:(16:Int)≤fs.length:=by omega
 have c3:V4.cell? ⟨V1.heap.size,0,none⟩=some (zC zD 12):=zJ zW (0)
 have hL4:=ld_whole (P:=Try.prog) (ty:=29) zV Try.underlying29 rfl (by first|rfl|(rw [size29];rfl)|(rw [size29];have:=zM hl;simp [this])|(rw [size29,zM hl]))
 have c5:V4.cell? ⟨W.heap.size,1,none⟩=some (zC zD used):=zJ zV (1)
 have HR:=zP (rover_calls pc used (wrap64 (used+1)) 5 rs (.slice SA fs.length sc) V4 hl rfl)
 have HX1:=zP (zU zV (zU zW (zU K_o (zU K_a (HB)))))
 clear HB K_a K_o zW zV
 go_enter Try.func40,Try.ntmps40
 go_wp2_with (refine wpList_ld rfl rfl hL4 ?_)
 refine HR.out.mono ?_
 rintro e w9 ⟨rfl,hB9⟩
 obtain ⟨zV,zW,K_o,K_a,HB⟩:=HX1.out
 clear HX1
 replace zV:=zI zV hB9
 replace zW:=zI zW hB9
 replace K_o:=zI K_o hB9
 replace K_a:=zI K_a hB9
 have szw9:V4.heap.size≤w9.heap.size:=hB9.size
 replace HB:=zE HB hB9
 have hz:=zM (pc:=pc) (used:=(wrap64 (used+1))) (stk:=.slice SA fs.length sc) hl
 obtain ⟨V5,hSV5,KKV5,hOV5⟩:=st_arr (cs:=cpuC pc (wrap64 (used+1)) rs (.slice SA fs.length sc)) size29 K_o (by first|rfl|simp [hz]) (by first|rfl|simp [hz]) (cpuC_one1 _ _ _ rfl)
 clear hz
 replace K_o:V5.heap[V2.heap.size]?=some (.cells (cpuC pc (wrap64 (used+1)) rs (.slice SA fs.length sc)) 29 (0,0)):=KKV5
 replace zV:=hOV5.mid zV (by omega) (B:=0)
 replace zW:=hOV5.mid zW (by omega) (B:=0)
 replace K_a:=hOV5.mid K_a (by omega) (B:=0)
 have szV5:w9.heap.size≤V5.heap.size:=hOV5.size
 replace HB:=HB.trans (hOV5.below (by omega) HB.size)
 clear hOV5
 clear KKV5
 obtain ⟨V6,hSV6,KKV6,hOV6⟩:=st_arr (cs:=askC 5 0 0 0 0 0 5) size46 K_a (by first|rfl|simp) rfl (by simp [Value.oneCell'])
 replace K_a:V6.heap[V3.heap.size]?=some (.cells (askC 5 0 0 0 0 0 5) 46 (0,0)):=KKV6
 replace zV:=hOV6.mid zV (by omega) (B:=0)
 replace zW:=hOV6.mid zW (by omega) (B:=0)
 replace K_o:=hOV6.mid K_o (by omega) (B:=0)
 have szV6:V5.heap.size≤V6.heap.size:=hOV6.size
 replace HB:=HB.trans (hOV6.below (by omega) HB.size)
 clear hOV6
 clear KKV6
 have HX2:=zP (zU zV (zU zW (zU K_o (zU K_a (HB)))))
 clear HB K_a K_o zW zV
 go_wp2_with (first|refine wpList_st rfl rfl hSV5 ?_|refine wpList_st rfl rfl hSV6 ?_)
 obtain ⟨zV,zW,K_o,K_a,HB⟩:=HX2.out
 exact bodyPost_ret (results_cc rfl _ rfl K_o hu29 rfl (by rw [size29,zM (pc:=pc) (used:=(wrap64 (used+1))) (stk:=.slice SA fs.length sc) hl]) rfl K_a hu46 rfl (by rw [size46];rfl)) rfl ⟨rfl,HB⟩
theorem rch14_none (pc used:Int) (rs:List S32) (o:S97) (W:World) (hl:rs.length=8) (h8:o.f0=14) (SA:Option Addr) (sc:Nat) :
  Calls Try.prog 40 #[.agg (cpuC pc used rs (.slice SA 0 sc)),.agg #[zC zD o.f0,zC zD o.f1,zC zD o.f2,zC zD o.f3,zC zD o.f4]] W (fun x w'=>x=.returned (.tuple #[.agg (cpuC pc (wrap64 (used+1)) rs (.slice SA 0 sc)),.agg (askC 5 0 0 0 0 0 1)])∧Below W.heap.size W w'):=by
 have hu29:=Try.underlying29
 have hu46:=Try.underlying46
 have hu26:=Try.underlying26
 have hu24:=Try.underlying24
 have hu97:=Try.underlying97
 have hu27:=Try.underlying27
 have hu99:=Try.underlying99
 obtain ⟨V1,hV1,KV1,hBV1⟩:=alz W (cpuC pc used rs (.slice SA 0 sc)) 29
 have ltV1:W.heap.size<V1.heap.size:=zL KV1
 have zV:=KV1
 have HB:=hBV1
 clear KV1 hBV1
 obtain ⟨V2,hV2,KV2,hBV2⟩:=alz V1 #[zC zD o.f0,zC zD o.f1,zC zD o.f2,zC zD o.f3,zC zD o.f4] 97
 have ltV2:V1.heap.size<V2.heap.size:=zL KV2
 replace zV:=zI zV hBV2
 have zW:=KV2
 replace HB:=zE HB hBV2
 clear KV2 hBV2
 obtain ⟨V3,hV3,KV3,hBV3⟩:=alz0 V2
 have ltV3:V2.heap.size<V3.heap.size:=zL KV3
 replace zV:=zI zV hBV3
 replace zW:=zI zW hBV3
 have K_o:=KV3
 replace HB:=zE HB hBV3
 clear KV3 hBV3
 obtain ⟨V4,hV4,KV4,hBV4⟩:=alz1 V3
 have ltV4:V3.heap.size<V4.heap.size:=zL KV4
 replace zV:=zI zV hBV4
 replace zW:=zI zW hBV4
 replace K_o:=zI K_o hBV4
 have K_a:=KV4
 replace HB:=zE HB hBV4
 clear KV4 hBV4
 rw [h8] at zW hV2
 have c1:V4.cell? ⟨W.heap.size,18,none⟩=some (.slice SA 0 sc):=(zJ zV (18)).trans (cpuC_stk hl)
 have c2:V4.cell? ⟨V1.heap.size,0,none⟩=some (zC zD 14):=zJ zW (0)
 have hL3:=ld_whole (P:=Try.prog) (ty:=29) zV Try.underlying29 rfl (by first|rfl|(rw [size29];rfl)|(rw [size29];have:=zM hl;simp [this])|(rw [size29,zM hl]))
 have c4:V4.cell? ⟨W.heap.size,1,none⟩=some (zC zD used):=zJ zV (1)
 have HR:=zP (rover_calls pc used (wrap64 (used+1)) 1 rs (.slice SA 0 sc) V4 hl rfl)
 have HX1:=zP (zU zV (zU zW (zU K_o (zU K_a (HB)))))
 clear HB K_a K_o zW zV
 go_enter Try.func40,Try.ntmps40
 go_wp2_with (refine wpList_ld rfl rfl hL3 ?_)
 refine HR.out.mono ?_
 rintro e w9 ⟨rfl,hB9⟩
 obtain ⟨zV,zW,K_o,K_a,HB⟩:=HX1.out
 clear HX1
 replace zV:=zI zV hB9
 replace zW:=zI zW hB9
 replace K_o:=zI K_o hB9
 replace K_a:=zI K_a hB9
 have szw9:V4.heap.size≤w9.heap.size:=hB9.size
 replace HB:=zE HB hB9
 have hz:=zM (pc:=pc) (used:=(wrap64 (used+1))) (stk:=.slice SA 0 sc) hl
 obtain ⟨V5,hSV5,KKV5,hOV5⟩:=st_arr (cs:=cpuC pc (wrap64 (used+1)) rs (.slice SA 0 sc)) size29 K_o (by first|rfl|simp [hz]) (by first|rfl|simp [hz]) (cpuC_one1 _ _ _ rfl)
 clear hz
 replace K_o:V5.heap[V2.heap.size]?=some (.cells (cpuC pc (wrap64 (used+1)) rs (.slice SA 0 sc)) 29 (0,0)):=KKV5
 replace zV:=hOV5.mid zV (by omega) (B:=0)
 replace zW:=hOV5.mid zW (by omega) (B:=0)
 replace K_a:=hOV5.mid K_a (by omega) (B:=0)
 have szV5:w9.heap.size≤V5.heap.size:=hOV5.size
 replace HB:=HB.trans (hOV5.below (by omega) HB.size)
 clear hOV5
 clear KKV5
 obtain ⟨V6,hSV6,KKV6,hOV6⟩:=st_arr (cs:=askC 5 0 0 0 0 0 1) size46 K_a (by first|rfl|simp) rfl (by simp [Value.oneCell'])
 replace K_a:V6.heap[V3.heap.size]?=some (.cells (askC 5 0 0 0 0 0 1) 46 (0,0)):=KKV6
 replace zV:=hOV6.mid zV (by omega) (B:=0)
 replace zW:=hOV6.mid zW (by omega) (B:=0)
 replace K_o:=hOV6.mid K_o (by omega) (B:=0)
 have szV6:V5.heap.size≤V6.heap.size:=hOV6.size
 replace HB:=HB.trans (hOV6.below (by omega) HB.size)
 clear hOV6
 clear KKV6
 have HX2:=zP (zU zV (zU zW (zU K_o (zU K_a (HB)))))
 clear HB K_a K_o zW zV
 go_wp2_with (first|refine wpList_st rfl rfl hSV5 ?_|refine wpList_st rfl rfl hSV6 ?_)
 obtain ⟨zV,zW,K_o,K_a,HB⟩:=HX2.out
 exact bodyPost_ret (results_cc rfl _ rfl K_o hu29 rfl (by rw [size29,zM (pc:=pc) (used:=(wrap64 (used+1))) (stk:=.slice SA 0 sc) hl]) rfl K_a hu46 rfl (by rw [size46];rfl)) rfl ⟨rfl,HB⟩
theorem rch13_none (pc used:Int) (rs:List S32) (o:S97) (W:World) (hl:rs.length=8) (h8:o.f0=13) (SA:Option Addr) (sc:Nat) (hC:Kd.C kF W SA 0 []) :
  Calls Try.prog 40 #[.agg (cpuC pc used rs (.slice SA 0 sc)),.agg #[zC zD o.f0,zC zD o.f1,zC zD o.f2,zC zD o.f3,zC zD o.f4]] W (fun x w'=>x=.returned (.tuple #[.agg (cpuC (wrap64 (pc+1)) (wrap64 (used+1)) rs (.slice SA 0 sc)),.agg (askC 0 0 0 0 0 0 0)])∧Below W.heap.size W w'):=by
 have hu29:=Try.underlying29
 have hu46:=Try.underlying46
 have hu26:=Try.underlying26
 have hu24:=Try.underlying24
 have hu97:=Try.underlying97
 have hu27:=Try.underlying27
 have hu99:=Try.underlying99
 obtain ⟨V1,hV1,KV1,hBV1⟩:=alz W (cpuC pc used rs (.slice SA 0 sc)) 29
 have ltV1:W.heap.size<V1.heap.size:=zL KV1
 have zV:=KV1
 have HB:=hBV1
 clear KV1 hBV1
 obtain ⟨V2,hV2,KV2,hBV2⟩:=alz V1 #[zC zD o.f0,zC zD o.f1,zC zD o.f2,zC zD o.f3,zC zD o.f4] 97
 have ltV2:V1.heap.size<V2.heap.size:=zL KV2
 replace zV:=zI zV hBV2
 have zW:=KV2
 replace HB:=zE HB hBV2
 clear KV2 hBV2
 obtain ⟨V3,hV3,KV3,hBV3⟩:=alz0 V2
 have ltV3:V2.heap.size<V3.heap.size:=zL KV3
 replace zV:=zI zV hBV3
 replace zW:=zI zW hBV3
 have K_o:=KV3
 replace HB:=zE HB hBV3
 clear KV3 hBV3
 obtain ⟨V4,hV4,KV4,hBV4⟩:=alz1 V3
 have ltV4:V3.heap.size<V4.heap.size:=zL KV4
 replace zV:=zI zV hBV4
 replace zW:=zI zW hBV4
 replace K_o:=zI K_o hBV4
 have K_a:=KV4
 replace HB:=zE HB hBV4
 clear KV4 hBV4
 rw [h8] at zW hV2
 have c1:V4.cell? ⟨W.heap.size,18,none⟩=some (.slice SA 0 sc):=(zJ zV (18)).trans (cpuC_stk hl)
 have c2:V4.cell? ⟨V1.heap.size,0,none⟩=some (zC zD 13):=zJ zW (0)
 have c3:V4.cell? ⟨W.heap.size,1,none⟩=some (zC zD used):=zJ zV (1)
 have c4:=zK zV (1)
 obtain ⟨V5,hV5⟩:∃ V,V4.setCell ⟨W.heap.size,1,none⟩ (zC zD (wrap64 (used+1)))=V:=⟨_,rfl⟩
 have hOV5:Only W.heap.size V4 V5:=by rw [← hV5];exact Only.set _ _ _
 replace zV:V5.heap[W.heap.size]?=some (.cells (cpuC pc (wrap64 (used+1)) rs (.slice SA 0 sc)) 29 (0,0)):=by rw [← hV5];exact (blk_set zV _ _)
 replace zW:=hOV5.mid zW (by omega) (B:=0)
 replace K_o:=hOV5.mid K_o (by omega) (B:=0)
 replace K_a:=hOV5.mid K_a (by omega) (B:=0)
 have szV5:V4.heap.size≤V5.heap.size:=hOV5.size
 replace HB:=HB.trans (hOV5.below (by omega) HB.size)
 clear hOV5
 have c5:V5.cell? ⟨W.heap.size,0,none⟩=some (zC zD pc):=zJ zV (0)
 have c6:=zK zV (0)
 obtain ⟨V6,hV6⟩:∃ V,V5.setCell ⟨W.heap.size,0,none⟩ (zC zD (wrap64 (pc+1)))=V:=⟨_,rfl⟩
 have hOV6:Only W.heap.size V5 V6:=by rw [← hV6];exact Only.set _ _ _
 replace zV:V6.heap[W.heap.size]?=some (.cells (cpuC (wrap64 (pc+1)) (wrap64 (used+1)) rs (.slice SA 0 sc)) 29 (0,0)):=by rw [← hV6];exact (blk_set zV _ _)
 replace zW:=hOV6.mid zW (by omega) (B:=0)
 replace K_o:=hOV6.mid K_o (by omega) (B:=0)
 replace K_a:=hOV6.mid K_a (by omega) (B:=0)
 have szV6:V5.heap.size≤V6.heap.size:=hOV6.size
 replace HB:=HB.trans (hOV6.below (by omega) HB.size)
 clear hOV6
 have c7:V6.cell? ⟨W.heap.size,18,none⟩=some (.slice SA 0 sc):=(zJ zV (18)).trans (cpuC_stk hl)
 obtain ⟨em,hem,-,hBe⟩:=alz7 V6
 have cem:em.cell? ⟨W.heap.size,18,none⟩=some (.slice SA (0) sc):=(zJ (zI zV hBe) 18).trans (cpuC_stk hl)
 have HCc:=zP (zU (Kd.C_below hC (zE HB hBe)) hBe)
 clear hBe
 have HX1:=zP (zU zV (zU zW (zU K_o (zU K_a (HB)))))
 clear HB K_a K_o zW zV
 go_enter Try.func40,Try.ntmps40
 go_wp2_with (at_builtin;refine Kd.R_append_rows kF (w0:=V6) (Rr:=kF.K em) V6.heap.size rfl _ _ 27 99 _ _ rfl hu27 info99 rfl (by decide) (by decide) _ [] ([]) SA (0) sc (fun _=>True) (fun _=>False) rfl rfl ?HO ?HR ?hKM (fun _ h=>h.elim) (fun _ _=>trivial) ?HB ?hbase ?hl ?_)
 case HO=>exact ⟨fun _ _=>trivial,[],by rw [← hem];exact World.ownsRow_made V6 #[] 0 (Nat.le_refl _) (Nat.zero_le _) (by simp),Reps.none _ _⟩
 case HR=>exact HCc.out.1
 case hKM=>exact fun x cs h=>h
 case HB=>exact HCc.out.2
 case hbase=>exact HCc.out.2.size
 case hl=>first|(simp;done)|(simp;omega)|omega
 intro v5 w5 hR5 hB5 hg5 hv5
 clear hg5 hv5 HCc
 obtain ⟨SB,sd,rfl⟩:=Kd.R_slice hR5
 obtain ⟨zV,zW,K_o,K_a,HB⟩:=HX1.out
 clear HX1
 replace zV:=zI zV hB5
 replace zW:=zI zW hB5
 replace K_o:=zI K_o hB5
 replace K_a:=zI K_a hB5
 have szw5:V6.heap.size≤w5.heap.size:=hB5.size
 replace HB:=zE HB hB5
 have R_st:=hR5
 clear hR5
 have c8:w5.cell? ⟨V1.heap.size,0,none⟩=some (zC zD 13):=zJ zW (0)
 have hL9:=ld_whole (P:=Try.prog) (ty:=29) zV Try.underlying29 rfl (by first|rfl|(rw [size29];rfl)|(rw [size29];have:=zM hl;simp [this])|(rw [size29,zM hl]))
 have hz:=zM (pc:=(wrap64 (pc+1))) (used:=(wrap64 (used+1))) (stk:=.slice SA 0 sc) hl
 obtain ⟨V7,hSV7,KKV7,hOV7⟩:=st_arr (cs:=cpuC (wrap64 (pc+1)) (wrap64 (used+1)) rs (.slice SA 0 sc)) size29 K_o (by first|rfl|simp [hz]) (by first|rfl|simp [hz]) (cpuC_one1 _ _ _ rfl)
 clear hz
 replace R_st:=R_offs R_st K_o (by intro q hq;simp [kF] at hq;subst hq;decide) hOV7
 replace K_o:V7.heap[V2.heap.size]?=some (.cells (cpuC (wrap64 (pc+1)) (wrap64 (used+1)) rs (.slice SA 0 sc)) 29 (0,0)):=KKV7
 replace zV:=hOV7.mid zV (by omega) (B:=0)
 replace zW:=hOV7.mid zW (by omega) (B:=0)
 replace K_a:=hOV7.mid K_a (by omega) (B:=0)
 have szV7:w5.heap.size≤V7.heap.size:=hOV7.size
 replace HB:=HB.trans (hOV7.below (by omega) HB.size)
 clear hOV7
 clear KKV7
 obtain ⟨V8,hSV8,KKV8,hOV8⟩:=st_arr (cs:=askC 0 0 0 0 0 0 0) size46 K_a (by first|rfl|simp) rfl (by simp [Value.oneCell'])
 replace R_st:=R_offs R_st K_a (by intro q hq;simp [kF] at hq;subst hq;decide) hOV8
 replace K_a:V8.heap[V3.heap.size]?=some (.cells (askC 0 0 0 0 0 0 0) 46 (0,0)):=KKV8
 replace zV:=hOV8.mid zV (by omega) (B:=0)
 replace zW:=hOV8.mid zW (by omega) (B:=0)
 replace K_o:=hOV8.mid K_o (by omega) (B:=0)
 have szV8:V7.heap.size≤V8.heap.size:=hOV8.size
 replace HB:=HB.trans (hOV8.below (by omega) HB.size)
 clear hOV8
 clear KKV8
 have HX2:=zP (zU zV (zU zW (zU K_o (zU K_a (zU R_st (HB))))))
 clear HB R_st K_a K_o zW zV
 go_wp2_with (first|refine wpList_st rfl rfl hSV7 ?_|refine wpList_st rfl rfl hSV8 ?_|refine wpList_ld rfl rfl hL9 ?_)
 obtain ⟨zV,zW,K_o,K_a,R_st,HB⟩:=HX2.out
 exact bodyPost_ret (results_cc rfl _ rfl K_o hu29 rfl (by rw [size29,zM (pc:=(wrap64 (pc+1))) (used:=(wrap64 (used+1))) (stk:=.slice SA 0 sc) hl]) rfl K_a hu46 rfl (by rw [size46];rfl)) rfl ⟨rfl,HB⟩
theorem rch13_some (pc used:Int) (rs:List S32) (o:S97) (W:World) (hl:rs.length=8) (h8:o.f0=13) (SA:Option Addr) (sc:Nat) (gs:List FrameD) (f:FrameD) (hbig:gs.length≤100000) (hC:Kd.C kF W SA (gs.length+1) (gs++[f])) :
  Calls Try.prog 40 #[.agg (cpuC pc used rs (.slice SA (gs.length+1) sc)),.agg #[zC zD o.f0,zC zD o.f1,zC zD o.f2,zC zD o.f3,zC zD o.f4]] W (fun x w'=>∃ A c,x=.returned (.tuple #[.agg (cpuC (wrap64 (pc+1)) (wrap64 (used+1)) rs (.slice A gs.length c)),.agg (askC 0 0 0 0 0 0 0)])∧Kd.R kF 99 w' W.heap.size (fun _=>True) (.slice A (gs).length c) (gs)∧Below W.heap.size W w'):=by
 have hu29:=Try.underlying29
 have hu46:=Try.underlying46
 have hu26:=Try.underlying26
 have hu24:=Try.underlying24
 have hu97:=Try.underlying97
 have hu27:=Try.underlying27
 have hu99:=Try.underlying99
 obtain ⟨V1,hV1,KV1,hBV1⟩:=alz W (cpuC pc used rs (.slice SA (gs.length+1) sc)) 29
 have ltV1:W.heap.size<V1.heap.size:=zL KV1
 have zV:=KV1
 have HB:=hBV1
 clear KV1 hBV1
 obtain ⟨V2,hV2,KV2,hBV2⟩:=alz V1 #[zC zD o.f0,zC zD o.f1,zC zD o.f2,zC zD o.f3,zC zD o.f4] 97
 have ltV2:V1.heap.size<V2.heap.size:=zL KV2
 replace zV:=zI zV hBV2
 have zW:=KV2
 replace HB:=zE HB hBV2
 clear KV2 hBV2
 obtain ⟨V3,hV3,KV3,hBV3⟩:=alz0 V2
 have ltV3:V2.heap.size<V3.heap.size:=zL KV3
 replace zV:=zI zV hBV3
 replace zW:=zI zW hBV3
 have K_o:=KV3
 replace HB:=zE HB hBV3
 clear KV3 hBV3
 obtain ⟨V4,hV4,KV4,hBV4⟩:=alz1 V3
 have ltV4:V3.heap.size<V4.heap.size:=zL KV4
 replace zV:=zI zV hBV4
 replace zW:=zI zW hBV4
 replace K_o:=zI K_o hBV4
 have K_a:=KV4
 replace HB:=zE HB hBV4
 clear KV4 hBV4
 rw [h8] at zW hV2
 have c1:V4.cell? ⟨W.heap.size,18,none⟩=some (.slice SA (gs.length+1) sc):=(zJ zV (18)).trans (cpuC_stk hl)
 have c2:V4.cell? ⟨V1.heap.size,0,none⟩=some (zC zD 13):=zJ zW (0)
 have hn0:((gs.length:Int)+1==0)=false:=by simp;omega
 have hn1:¬ (gs.length:Int)+1=0:=by omega
 have c3:V4.cell? ⟨W.heap.size,1,none⟩=some (zC zD used):=zJ zV (1)
 have c4:=zK zV (1)
 obtain ⟨V5,hV5⟩:∃ V,V4.setCell ⟨W.heap.size,1,none⟩ (zC zD (wrap64 (used+1)))=V:=⟨_,rfl⟩
 have hOV5:Only W.heap.size V4 V5:=by rw [← hV5];exact Only.set _ _ _
 replace zV:V5.heap[W.heap.size]?=some (.cells (cpuC pc (wrap64 (used+1)) rs (.slice SA (gs.length+1) sc)) 29 (0,0)):=by rw [← hV5];exact (blk_set zV _ _)
 replace zW:=hOV5.mid zW (by omega) (B:=0)
 replace K_o:=hOV5.mid K_o (by omega) (B:=0)
 replace K_a:=hOV5.mid K_a (by omega) (B:=0)
 have szV5:V4.heap.size≤V5.heap.size:=hOV5.size
 replace HB:=HB.trans (hOV5.below (by omega) HB.size)
 clear hOV5
 have c5:V5.cell? ⟨W.heap.size,0,none⟩=some (zC zD pc):=zJ zV (0)
 have c6:=zK zV (0)
 obtain ⟨V6,hV6⟩:∃ V,V5.setCell ⟨W.heap.size,0,none⟩ (zC zD (wrap64 (pc+1)))=V:=⟨_,rfl⟩
 have hOV6:Only W.heap.size V5 V6:=by rw [← hV6];exact Only.set _ _ _
 replace zV:V6.heap[W.heap.size]?=some (.cells (cpuC (wrap64 (pc+1)) (wrap64 (used+1)) rs (.slice SA (gs.length+1) sc)) 29 (0,0)):=by rw [← hV6];exact (blk_set zV _ _)
 replace zW:=hOV6.mid zW (by omega) (B:=0)
 replace K_o:=hOV6.mid K_o (by omega) (B:=0)
 replace K_a:=hOV6.mid K_a (by omega) (B:=0)
 have szV6:V5.heap.size≤V6.heap.size:=hOV6.size
 replace HB:=HB.trans (hOV6.below (by omega) HB.size)
 clear hOV6
 have c7:V6.cell? ⟨W.heap.size,18,none⟩=some (.slice SA (gs.length+1) sc):=(zJ zV (18)).trans (cpuC_stk hl)
 have c8:V6.cell? ⟨V1.heap.size,0,none⟩=some (zC zD 13):=zJ zW (0)
 obtain ⟨em,hem,-,hBe⟩:=alz7 V6
 have cem:em.cell? ⟨W.heap.size,18,none⟩=some (.slice SA (gs.length+1) sc):=(zJ (zI zV hBe) 18).trans (cpuC_stk hl)
 have HCc:=zP (zU (Kd.C_below hC (zE HB hBe)) hBe)
 clear hBe
 have HX1:=zP (zU zV (zU zW (zU K_o (zU K_a (HB)))))
 clear HB K_a K_o zW zV
 go_enter Try.func40,Try.ntmps40
 go_wp2_with (at_builtin;refine Kd.R_append_rows kF (w0:=V6) (Rr:=kF.K em) V6.heap.size rfl _ _ 27 99 _ _ rfl hu27 info99 rfl (by decide) (by decide) _ [] (gs++[f]) SA (gs.length+1) sc (fun _=>True) (fun _=>False) rfl rfl ?HO ?HR ?hKM (fun _ h=>h.elim) (fun _ _=>trivial) ?HB ?hbase ?hl ?_)
 case HO=>exact ⟨fun _ _=>trivial,[],by rw [← hem];exact World.ownsRow_made V6 #[] 0 (Nat.le_refl _) (Nat.zero_le _) (by simp),Reps.none _ _⟩
 case HR=>exact HCc.out.1
 case hKM=>exact fun x cs h=>h
 case HB=>exact HCc.out.2
 case hbase=>exact HCc.out.2.size
 case hl=>first|(simp;done)|(simp;omega)|omega
 intro v5 w5 hR5 hB5 hg5 hv5
 clear hg5 hv5 HCc
 obtain ⟨SB,sd,rfl⟩:=Kd.R_slice hR5
 obtain ⟨zV,zW,K_o,K_a,HB⟩:=HX1.out
 clear HX1
 replace zV:=zI zV hB5
 replace zW:=zI zW hB5
 replace K_o:=zI K_o hB5
 replace K_a:=zI K_a hB5
 have szw5:V6.heap.size≤w5.heap.size:=hB5.size
 replace HB:=zE HB hB5
 have R_st:=hR5
 clear hR5
 obtain ⟨g,rfl,hgb,hgl⟩:=Stk9.block R_st (by simp)
 have hle:gs.length+1≤sd:=by have:=(Kd.R_reads' R_st).2.1;simpa using this
 rw [List.length_append,List.length_singleton] at R_st ⊢
 obtain ⟨i99,hi99,-⟩:=Option.map_eq_some_iff.1 size99
 have cT:=cut_to (P:=Try.prog) 27 99 .i64 hu27 hi99 (some ⟨g,0,none⟩) (gs.length+1) sd (gs.length:Int) (by omega) (by omega) hle
 simp only [Int.toNat_natCast] at cT
 have hwr:IntKind.i64.wrap (gs.length:Int)=gs.length:=by rw [IntKind.wrap_i64];omega
 have hgc:(0:Int)≤gs.length∧(gs.length:Int)≤sd:=⟨by omega,by omega⟩
 have hn0:((gs.length:Int)+1==0)=false:=by simp;omega
 have hn1:¬ (gs.length:Int)+1=0:=by omega
 have hgn:g≠W.heap.size:=by omega
 have hlt1:(gs.length:Int)<gs.length+1:=by omega
 have c9:w5.cell? ⟨V1.heap.size,0,none⟩=some (zC zD 13):=zJ zW (0)
 have c10:w5.cell? ⟨W.heap.size,18,none⟩=some (.slice SA (gs.length+1) sc):=(zJ zV (18)).trans (cpuC_stk hl)
 have c11:=zK zV (18)
 obtain ⟨V7,hV7⟩:∃ V,w5.setCell ⟨W.heap.size,18,none⟩ (.slice (some ⟨g,0,none⟩) gs.length sd)=V:=⟨_,rfl⟩
 have hOV7:Only W.heap.size w5 V7:=by rw [← hV7];exact Only.set _ _ _
 replace R_st:=R_offs R_st zV (by intro q hq;simp [kF] at hq;subst hq;decide) hOV7
 replace zV:V7.heap[W.heap.size]?=some (.cells (cpuC (wrap64 (pc+1)) (wrap64 (used+1)) rs (.slice (some ⟨g,0,none⟩) gs.length sd)) 29 (0,0)):=by rw [← hV7,← cpuC_setStk _ hl];exact (blk_set zV _ _)
 replace zW:=hOV7.mid zW (by omega) (B:=0)
 replace K_o:=hOV7.mid K_o (by omega) (B:=0)
 replace K_a:=hOV7.mid K_a (by omega) (B:=0)
 have szV7:w5.heap.size≤V7.heap.size:=hOV7.size
 replace HB:=HB.trans (hOV7.below (by omega) HB.size)
 clear hOV7
 have c12:V7.cell? ⟨V1.heap.size,0,none⟩=some (zC zD 13):=zJ zW (0)
 have hL13:=ld_whole (P:=Try.prog) (ty:=29) zV Try.underlying29 rfl (by first|rfl|(rw [size29];rfl)|(rw [size29];have:=zM hl;simp [this])|(rw [size29,zM hl]))
 have hz:=zM (pc:=(wrap64 (pc+1))) (used:=(wrap64 (used+1))) (stk:=.slice (some ⟨g,0,none⟩) gs.length sd) hl
 obtain ⟨V8,hSV8,KKV8,hOV8⟩:=st_arr (cs:=cpuC (wrap64 (pc+1)) (wrap64 (used+1)) rs (.slice (some ⟨g,0,none⟩) gs.length sd)) size29 K_o (by first|rfl|simp [hz]) (by first|rfl|simp [hz]) (cpuC_one1 _ _ _ rfl)
 clear hz
 replace R_st:=R_offs R_st K_o (by intro q hq;simp [kF] at hq;subst hq;decide) hOV8
 replace K_o:V8.heap[V2.heap.size]?=some (.cells (cpuC (wrap64 (pc+1)) (wrap64 (used+1)) rs (.slice (some ⟨g,0,none⟩) gs.length sd)) 29 (0,0)):=KKV8
 replace zV:=hOV8.mid zV (by omega) (B:=0)
 replace zW:=hOV8.mid zW (by omega) (B:=0)
 replace K_a:=hOV8.mid K_a (by omega) (B:=0)
 have szV8:V7.heap.size≤V8.heap.size:=hOV8.size
 replace HB:=HB.trans (hOV8.below (by omega) HB.size)
 clear hOV8
 clear KKV8
 obtain ⟨V9,hSV9,KKV9,hOV9⟩:=st_arr (cs:=askC 0 0 0 0 0 0 0) size46 K_a (by first|rfl|simp) rfl (by simp [Value.oneCell'])
 replace R_st:=R_offs R_st K_a (by intro q hq;simp [kF] at hq;subst hq;decide) hOV9
 replace K_a:V9.heap[V3.heap.size]?=some (.cells (askC 0 0 0 0 0 0 0) 46 (0,0)):=KKV9
 replace zV:=hOV9.mid zV (by omega) (B:=0)
 replace zW:=hOV9.mid zW (by omega) (B:=0)
 replace K_o:=hOV9.mid K_o (by omega) (B:=0)
 have szV9:V8.heap.size≤V9.heap.size:=hOV9.size
 replace HB:=HB.trans (hOV9.below (by omega) HB.size)
 clear hOV9
 clear KKV9
 have HX2:=zP (zU zV (zU zW (zU K_o (zU K_a (zU R_st (HB))))))
 clear HB R_st K_a K_o zW zV
 go_wp2_with (first|refine wpList_st rfl rfl hSV8 ?_|refine wpList_st rfl rfl hSV9 ?_|refine wpList_ld rfl rfl hL13 ?_)
 obtain ⟨zV,zW,K_o,K_a,R_st,HB⟩:=HX2.out
 exact bodyPost_ret (results_cc rfl _ rfl K_o hu29 rfl (by rw [size29,zM (pc:=(wrap64 (pc+1))) (used:=(wrap64 (used+1))) (stk:=.slice (some ⟨g,0,none⟩) gs.length sd) hl]) rfl K_a hu46 rfl (by rw [size46];rfl)) rfl ⟨_,_,rfl,(Kd.R_lower (by have h1:=Kd.R_take R_st (m:=gs.length) (by simp);simpa using h1) (by omega)),HB⟩
theorem rch14_some (pc used:Int) (rs:List S32) (o:S97) (W:World) (hl:rs.length=8) (h8:o.f0=14) (SA:Option Addr) (sc:Nat) (gs:List FrameD) (f:FrameD) (hbig:gs.length≤100000) (hC:Kd.C kF W SA (gs.length+1) (gs++[f])) :
  Calls Try.prog 40 #[.agg (cpuC pc used rs (.slice SA (gs.length+1) sc)),.agg #[zC zD o.f0,zC zD o.f1,zC zD o.f2,zC zD o.f3,zC zD o.f4]] W (fun x w'=>∃ A c,x=.returned (.tuple #[.agg (cpuC f.dest (wrap64 (used+1)) f.rs (.slice A gs.length c)),.agg (askC 4 0 0 f.save 0 0 0)])∧Kd.R kF 99 w' W.heap.size (fun _=>True) (.slice A (gs).length c) (gs)∧Below W.heap.size W w'):=by
 have hu29:=Try.underlying29
 have hu46:=Try.underlying46
 have hu26:=Try.underlying26
 have hu24:=Try.underlying24
 have hu97:=Try.underlying97
 have hu27:=Try.underlying27
 have hu99:=Try.underlying99
 obtain ⟨V1,hV1,KV1,hBV1⟩:=alz W (cpuC pc used rs (.slice SA (gs.length+1) sc)) 29
 have ltV1:W.heap.size<V1.heap.size:=zL KV1
 have zV:=KV1
 have HB:=hBV1
 clear KV1 hBV1
 obtain ⟨V2,hV2,KV2,hBV2⟩:=alz V1 #[zC zD o.f0,zC zD o.f1,zC zD o.f2,zC zD o.f3,zC zD o.f4] 97
 have ltV2:V1.heap.size<V2.heap.size:=zL KV2
 replace zV:=zI zV hBV2
 have zW:=KV2
 replace HB:=zE HB hBV2
 clear KV2 hBV2
 obtain ⟨V3,hV3,KV3,hBV3⟩:=alz0 V2
 have ltV3:V2.heap.size<V3.heap.size:=zL KV3
 replace zV:=zI zV hBV3
 replace zW:=zI zW hBV3
 have K_o:=KV3
 replace HB:=zE HB hBV3
 clear KV3 hBV3
 obtain ⟨V4,hV4,KV4,hBV4⟩:=alz1 V3
 have ltV4:V3.heap.size<V4.heap.size:=zL KV4
 replace zV:=zI zV hBV4
 replace zW:=zI zW hBV4
 replace K_o:=zI K_o hBV4
 have K_a:=KV4
 replace HB:=zE HB hBV4
 clear KV4 hBV4
 rw [h8] at zW hV2
 have c1:V4.cell? ⟨W.heap.size,18,none⟩=some (.slice SA (gs.length+1) sc):=(zJ zV (18)).trans (cpuC_stk hl)
 have c2:V4.cell? ⟨V1.heap.size,0,none⟩=some (zC zD 14):=zJ zW (0)
 have hn0:((gs.length:Int)+1==0)=false:=by simp;omega
 have hn1:¬ (gs.length:Int)+1=0:=by omega
 have c3:V4.cell? ⟨W.heap.size,1,none⟩=some (zC zD used):=zJ zV (1)
 have c4:=zK zV (1)
 obtain ⟨V5,hV5⟩:∃ V,V4.setCell ⟨W.heap.size,1,none⟩ (zC zD (wrap64 (used+1)))=V:=⟨_,rfl⟩
 have hOV5:Only W.heap.size V4 V5:=by rw [← hV5];exact Only.set _ _ _
 replace zV:V5.heap[W.heap.size]?=some (.cells (cpuC pc (wrap64 (used+1)) rs (.slice SA (gs.length+1) sc)) 29 (0,0)):=by rw [← hV5];exact (blk_set zV _ _)
 replace zW:=hOV5.mid zW (by omega) (B:=0)
 replace K_o:=hOV5.mid K_o (by omega) (B:=0)
 replace K_a:=hOV5.mid K_a (by omega) (B:=0)
 have szV5:V4.heap.size≤V5.heap.size:=hOV5.size
 replace HB:=HB.trans (hOV5.below (by omega) HB.size)
 clear hOV5
 have c5:V5.cell? ⟨W.heap.size,0,none⟩=some (zC zD pc):=zJ zV (0)
 have c6:=zK zV (0)
 obtain ⟨V6,hV6⟩:∃ V,V5.setCell ⟨W.heap.size,0,none⟩ (zC zD (wrap64 (pc+1)))=V:=⟨_,rfl⟩
 have hOV6:Only W.heap.size V5 V6:=by rw [← hV6];exact Only.set _ _ _
 replace zV:V6.heap[W.heap.size]?=some (.cells (cpuC (wrap64 (pc+1)) (wrap64 (used+1)) rs (.slice SA (gs.length+1) sc)) 29 (0,0)):=by rw [← hV6];exact (blk_set zV _ _)
 replace zW:=hOV6.mid zW (by omega) (B:=0)
 replace K_o:=hOV6.mid K_o (by omega) (B:=0)
 replace K_a:=hOV6.mid K_a (by omega) (B:=0)
 have szV6:V5.heap.size≤V6.heap.size:=hOV6.size
 replace HB:=HB.trans (hOV6.below (by omega) HB.size)
 clear hOV6
 have c7:V6.cell? ⟨W.heap.size,18,none⟩=some (.slice SA (gs.length+1) sc):=(zJ zV (18)).trans (cpuC_stk hl)
 have c8:V6.cell? ⟨V1.heap.size,0,none⟩=some (zC zD 14):=zJ zW (0)
 obtain ⟨em,hem,-,hBe⟩:=alz7 V6
 have cem:em.cell? ⟨W.heap.size,18,none⟩=some (.slice SA (gs.length+1) sc):=(zJ (zI zV hBe) 18).trans (cpuC_stk hl)
 have HCc:=zP (zU (Kd.C_below hC (zE HB hBe)) hBe)
 clear hBe
 have HX1:=zP (zU zV (zU zW (zU K_o (zU K_a (HB)))))
 clear HB K_a K_o zW zV
 go_enter Try.func40,Try.ntmps40
 go_wp2_with (at_builtin;refine Kd.R_append_rows kF (w0:=V6) (Rr:=kF.K em) V6.heap.size rfl _ _ 27 99 _ _ rfl hu27 info99 rfl (by decide) (by decide) _ [] (gs++[f]) SA (gs.length+1) sc (fun _=>True) (fun _=>False) rfl rfl ?HO ?HR ?hKM (fun _ h=>h.elim) (fun _ _=>trivial) ?HB ?hbase ?hl ?_)
 case HO=>exact ⟨fun _ _=>trivial,[],by rw [← hem];exact World.ownsRow_made V6 #[] 0 (Nat.le_refl _) (Nat.zero_le _) (by simp),Reps.none _ _⟩
 case HR=>exact HCc.out.1
 case hKM=>exact fun x cs h=>h
 case HB=>exact HCc.out.2
 case hbase=>exact HCc.out.2.size
 case hl=>first|(simp;done)|(simp;omega)|omega
 intro v5 w5 hR5 hB5 hg5 hv5
 clear hg5 hv5 HCc
 obtain ⟨SB,sd,rfl⟩:=Kd.R_slice hR5
 obtain ⟨zV,zW,K_o,K_a,HB⟩:=HX1.out
 clear HX1
 replace zV:=zI zV hB5
 replace zW:=zI zW hB5
 replace K_o:=zI K_o hB5
 replace K_a:=zI K_a hB5
 have szw5:V6.heap.size≤w5.heap.size:=hB5.size
 replace HB:=zE HB hB5
 have R_st:=hR5
 clear hR5
 obtain ⟨g,rfl,hgb,hgl⟩:=Stk9.block R_st (by simp)
 have hle:gs.length+1≤sd:=by have:=(Kd.R_reads' R_st).2.1;simpa using this
 rw [List.length_append,List.length_singleton] at R_st ⊢
 obtain ⟨i99,hi99,-⟩:=Option.map_eq_some_iff.1 size99
 have cT:=cut_to (P:=Try.prog) 27 99 .i64 hu27 hi99 (some ⟨g,0,none⟩) (gs.length+1) sd (gs.length:Int) (by omega) (by omega) hle
 simp only [Int.toNat_natCast] at cT
 have hwr:IntKind.i64.wrap (gs.length:Int)=gs.length:=by rw [IntKind.wrap_i64];omega
 have hgc:(0:Int)≤gs.length∧(gs.length:Int)≤sd:=⟨by omega,by omega⟩
 have hn0:((gs.length:Int)+1==0)=false:=by simp;omega
 have hn1:¬ (gs.length:Int)+1=0:=by omega
 have hgn:g≠W.heap.size:=by omega
 have hlt1:(gs.length:Int)<gs.length+1:=by omega
 have c9:w5.cell? ⟨V1.heap.size,0,none⟩=some (zC zD 14):=zJ zW (0)
 have c10:w5.cell? ⟨W.heap.size,18,none⟩=some (.slice SA (gs.length+1) sc):=(zJ zV (18)).trans (cpuC_stk hl)
 have c11:=zK zV (18)
 obtain ⟨V7,hV7⟩:∃ V,w5.setCell ⟨W.heap.size,18,none⟩ (.slice (some ⟨g,0,none⟩) gs.length sd)=V:=⟨_,rfl⟩
 have hOV7:Only W.heap.size w5 V7:=by rw [← hV7];exact Only.set _ _ _
 replace R_st:=R_offs R_st zV (by intro q hq;simp [kF] at hq;subst hq;decide) hOV7
 replace zV:V7.heap[W.heap.size]?=some (.cells (cpuC (wrap64 (pc+1)) (wrap64 (used+1)) rs (.slice (some ⟨g,0,none⟩) gs.length sd)) 29 (0,0)):=by rw [← hV7,← cpuC_setStk _ hl];exact (blk_set zV _ _)
 replace zW:=hOV7.mid zW (by omega) (B:=0)
 replace K_o:=hOV7.mid K_o (by omega) (B:=0)
 replace K_a:=hOV7.mid K_a (by omega) (B:=0)
 have szV7:w5.heap.size≤V7.heap.size:=hOV7.size
 replace HB:=HB.trans (hOV7.below (by omega) HB.size)
 clear hOV7
 have c12:V7.cell? ⟨V1.heap.size,0,none⟩=some (zC zD 14):=zJ zW (0)
 obtain ⟨hf8,hrr⟩:=Stk9.row (i:=gs.length) (f:=f) R_st (by simp)
 have hr0:∀ (j:Nat) (v:Value),(rc f.rs)[j]?=some v→V7.cell? ⟨g,gs.length * 18+2+j,none⟩=some v:=fun j v hj=>by have:=hrr (j+2) v (by simpa [fc] using hj);rw [show gs.length * 18+(j+2)=gs.length * 18+2+j by omega] at this;exact this
 have hLr:=ld_range (P:=Try.prog) (ty:=26) (W:=V7) (g:=g) (off:=gs.length * 18+2) (cs:=rc f.rs) hr0 hu26 rfl (by rw [size26,rc_length,hf8])
 obtain ⟨V8,hSV8,KKV8,hOV8⟩:=st_mid (P:=Try.prog) (ty:=26) (off:=2) (vs:=rc f.rs) zV (by rw [rc_length,hf8,zM hl];omega) (by rw [size26,rc_length,hf8]) (rc_one _)
 rw [cpuC_setRegs _ hl hf8] at KKV8
 replace R_st:=R_offs R_st zV (by intro q hq;simp [kF] at hq;subst hq;decide) hOV8
 replace zV:V8.heap[W.heap.size]?=some (.cells (cpuC (wrap64 (pc+1)) (wrap64 (used+1)) f.rs (.slice (some ⟨g,0,none⟩) gs.length sd)) 29 (0,0)):=KKV8
 replace zW:=hOV8.mid zW (by omega) (B:=0)
 replace K_o:=hOV8.mid K_o (by omega) (B:=0)
 replace K_a:=hOV8.mid K_a (by omega) (B:=0)
 have szV8:V7.heap.size≤V8.heap.size:=hOV8.size
 replace HB:=HB.trans (hOV8.below (by omega) HB.size)
 clear hOV8
 clear KKV8
 clear hrr hr0
 obtain ⟨-,hrr⟩:=Stk9.row (i:=gs.length) (f:=f) R_st (by simp)
 have ct:V8.cell? ⟨g,gs.length * 18,none⟩=some (zC zD f.dest):=hrr 0 _ rfl
 have c13:V8.cell? ⟨W.heap.size,0,none⟩=some (zC zD (wrap64 (pc+1))):=zJ zV (0)
 have c14:=zK zV (0)
 obtain ⟨V9,hV9⟩:∃ V,V8.setCell ⟨W.heap.size,0,none⟩ (zC zD f.dest)=V:=⟨_,rfl⟩
 have hOV9:Only W.heap.size V8 V9:=by rw [← hV9];exact Only.set _ _ _
 replace R_st:=R_offs R_st zV (by intro q hq;simp [kF] at hq;subst hq;decide) hOV9
 replace zV:V9.heap[W.heap.size]?=some (.cells (cpuC f.dest (wrap64 (used+1)) f.rs (.slice (some ⟨g,0,none⟩) gs.length sd)) 29 (0,0)):=by rw [← hV9];exact (blk_set zV _ _)
 replace zW:=hOV9.mid zW (by omega) (B:=0)
 replace K_o:=hOV9.mid K_o (by omega) (B:=0)
 replace K_a:=hOV9.mid K_a (by omega) (B:=0)
 have szV9:V8.heap.size≤V9.heap.size:=hOV9.size
 replace HB:=HB.trans (hOV9.below (by omega) HB.size)
 clear hOV9
 clear hrr
 have HX2:=zP (zU zV (zU zW (zU K_o (zU K_a (zU R_st (HB))))))
 clear HB R_st K_a K_o zW zV
 go_wp2_with (first|refine wpList_st rfl rfl hSV8 ?_|refine wpList_ld rfl rfl hLr ?_)
 obtain ⟨zV,zW,K_o,K_a,R_st,HB⟩:=HX2.out
 clear HX2
 have n3:V2.heap.size≠V3.heap.size:=by omega
 obtain ⟨L,hL⟩:∃ L,L=[(V2.heap.size,[Obj.cells #[zC zD 0,zC zD 0,zC zD 0,zC zD 0,zC zD 0,zC zD 0,zC zD 0,zC zD 0,zC zD 0,zC zD 0,zC zD 0,zC zD 0,zC zD 0,zC zD 0,zC zD 0,zC zD 0,zC zD 0,zC zD 0,.slice none 0 0] 29 (0,0),Obj.cells (cpuC f.dest (wrap64 (used+1)) f.rs (.slice (some ⟨g,0,none⟩) gs.length sd)) 29 (0,0)]),(V3.heap.size,[Obj.cells #[zC zD 0,zC zD 0,zC zD 0,zC zD 0,zC zD 0,zC zD 0,zC zD 0] 46 (0,0),Obj.cells (askC 4 0 0 f.save 0 0 0) 46 (0,0)])]:=⟨_,rfl⟩
 have m1:(V2.heap.size,[Obj.cells #[zC zD 0,zC zD 0,zC zD 0,zC zD 0,zC zD 0,zC zD 0,zC zD 0,zC zD 0,zC zD 0,zC zD 0,zC zD 0,zC zD 0,zC zD 0,zC zD 0,zC zD 0,zC zD 0,zC zD 0,zC zD 0,.slice none 0 0] 29 (0,0),Obj.cells (cpuC f.dest (wrap64 (used+1)) f.rs (.slice (some ⟨g,0,none⟩) gs.length sd)) 29 (0,0)])∈L:=by subst hL;simp
 have m2:(V3.heap.size,[Obj.cells #[zC zD 0,zC zD 0,zC zD 0,zC zD 0,zC zD 0,zC zD 0,zC zD 0] 46 (0,0),Obj.cells (askC 4 0 0 f.save 0 0 0) 46 (0,0)])∈L:=by subst hL;simp
 have u1:∀ p∈L,p.1=V2.heap.size→p=(V2.heap.size,[Obj.cells #[zC zD 0,zC zD 0,zC zD 0,zC zD 0,zC zD 0,zC zD 0,zC zD 0,zC zD 0,zC zD 0,zC zD 0,zC zD 0,zC zD 0,zC zD 0,zC zD 0,zC zD 0,zC zD 0,zC zD 0,zC zD 0,.slice none 0 0] 29 (0,0),Obj.cells (cpuC f.dest (wrap64 (used+1)) f.rs (.slice (some ⟨g,0,none⟩) gs.length sd)) 29 (0,0)]):=by subst hL;simp;intro h;exact absurd h.symm n3
 have u2:∀ p∈L,p.1=V3.heap.size→p=(V3.heap.size,[Obj.cells #[zC zD 0,zC zD 0,zC zD 0,zC zD 0,zC zD 0,zC zD 0,zC zD 0] 46 (0,0),Obj.cells (askC 4 0 0 f.save 0 0 0) 46 (0,0)]):=by subst hL;simp;intro h;exact absurd h n3
 have o1:∀ W',Chain L V9 W'→At (V2.heap.size) [Obj.cells #[zC zD 0,zC zD 0,zC zD 0,zC zD 0,zC zD 0,zC zD 0,zC zD 0,zC zD 0,zC zD 0,zC zD 0,zC zD 0,zC zD 0,zC zD 0,zC zD 0,zC zD 0,zC zD 0,zC zD 0,zC zD 0,.slice none 0 0] 29 (0,0),Obj.cells (cpuC f.dest (wrap64 (used+1)) f.rs (.slice (some ⟨g,0,none⟩) gs.length sd)) 29 (0,0)] 0 W':=fun W' hB=>hB.on _ m1 0 ⟨0,_,Nat.le_refl _,rfl,K_o⟩
 have a1:∀ W',Chain L V9 W'→At (V3.heap.size) [Obj.cells #[zC zD 0,zC zD 0,zC zD 0,zC zD 0,zC zD 0,zC zD 0,zC zD 0] 46 (0,0),Obj.cells (askC 4 0 0 f.save 0 0 0) 46 (0,0)] 0 W':=fun W' hB=>hB.on _ m2 0 ⟨0,_,Nat.le_refl _,rfl,K_a⟩
 have d1:∀ W',Chain L V9 W'→W'.heap[W.heap.size]?=some (.cells (cpuC f.dest (wrap64 (used+1)) f.rs (.slice (some ⟨g,0,none⟩) gs.length sd)) 29 (0,0)):=fun W' hB=>hB.mid zV (by subst hL;simp;omega)
 obtain ⟨-,hrr⟩:=Stk9.row (i:=gs.length) (f:=f) R_st (by simp)
 have hblk:=Stk9.blk R_st (by simp)
 obtain ⟨cur,hcur⟩:=hblk
 have dS:∀ W',Chain L V9 W'→W'.cell? ⟨g,gs.length * 18+1,none⟩=some (zC zD f.save):=fun W' hB=>(blk_same (hB.mid hcur (by subst hL;simp;omega)) hcur _).trans (hrr 1 _ rfl)
 have HRst:=zP (zU R_st (zU K_o K_a))
 apply GR.wp_region_grows (R:=Chain L) (by kernel_rfl) (by kernel_rfl)
 ·
  intro c a d v w h;cases d <;> exact h
 apply GR.gw_val (by rfl)
 ·
  (intro W' hB hD;exact exec_ld rfl (ld_whole (d1 W' hB) hu29 rfl (by rw [size29,zM (pc:=f.dest) (used:=(wrap64 (used+1))) (stk:=.slice (some ⟨g,0,none⟩) gs.length sd) hf8])))
 simp only [Act.put,zQ,zS,zT]
 apply GR.gw_val (by rfl)
 ·
  (intro W' hB hD;go_simp;first|done|rfl)
 simp only [Act.put,zQ,zS,zT]
 apply GR.gw_val (by rfl)
 ·
  (intro W' hB hD;go_simp;first|done|rfl)
 simp only [Act.put,zQ,zS,zT]
 apply GR.gw_val (by rfl)
 ·
  (intro W' hB hD;go_simp;first|done|rfl)
 simp only [Act.put,zQ,zS,zT]
 apply GR.gw_val (by rfl)
 ·
  (intro W' hB hD;go_simp;first|done|rfl)
 simp only [Act.put,zQ,zS,zT]
 apply GR.gw_val (by rfl)
 ·
  (intro W' hB hD;have ds:=dS W' hB;go_simp;first|done|rfl)
 simp only [Act.put,zQ,zS,zT]
 apply GR.gw_val (by rfl)
 ·
  (intro W' hB hD;have ds:=dS W' hB;go_simp;first|done|rfl)
 simp only [Act.put,zQ,zS,zT]
 apply GR.gw_val (by rfl)
 ·
  (intro W' hB hD;go_simp;first|done|rfl)
 simp only [Act.put,zQ,zS,zT]
 apply GR.gw_skp (stable_At m1 1) (by rfl) (by rfl)
 ·
  intro W' hB hD
  obtain ⟨W'',e1,e2,e3⟩:=chain_whole (ty:=29) m1 u1 (o1 W' hB) (by rw [zM (pc:=f.dest) (used:=(wrap64 (used+1))) (stk:=.slice (some ⟨g,0,none⟩) gs.length sd) hf8];rfl) (by rw [size29,zM (pc:=f.dest) (used:=(wrap64 (used+1))) (stk:=.slice (some ⟨g,0,none⟩) gs.length sd) hf8]) (cpuC_one1 _ _ _ rfl)
  exact ⟨W'',exec_st rfl e1,e2,e3⟩
 rintro v -
 apply GR.gw_skp (stable_At m2 1) (by rfl) (by rfl)
 ·
  intro W' hB hD
  obtain ⟨W'',e1,e2,e3⟩:=chain_whole (ty:=46) m2 u2 (a1 W' hB) (by rfl) (by rw [size46];rfl) (by simp [Value.oneCell'])
  exact ⟨W'',exec_st rfl e1,e2,e3⟩
 rintro v' -
 apply GR.gw_nil
 intro Wa hW hF hP
 simp [List.forall_mem_append] at hF
 subst hL
 have hT:=Two.of_chain hW hF.1 hF.2
 have HE:=zP (zU hT.o (zU hT.a (zU (Stk9.two HRst.out.1 HRst.out.2.1 HRst.out.2.2 hT) ((HB).trans (show Below W.heap.size _ Wa from ⟨hT.os,hT.tape,hT.output,hT.size,fun k hk=>hT.block k (by omega) (by omega) (by omega)⟩)))))
 clear hT hW hF hP o1 a1 m1 m2 u1 u2 d1 dS hcur hrr zV zW K_o K_a R_st HB
 go_wp2_with fail
 exact bodyPost_ret (results_cc rfl _ rfl HE.out.1 hu29 rfl (by rw [size29,zM (pc:=f.dest) (used:=(wrap64 (used+1))) (stk:=.slice (some ⟨g,0,none⟩) gs.length sd) hf8]) rfl HE.out.2.1 hu46 rfl (by rw [size46];rfl)) rfl ⟨_,_,rfl,(Kd.R_lower (by have h1:=Kd.R_take HE.out.2.2.1 (m:=gs.length) (by simp);simpa using h1) (by omega)),HE.out.2.2.2⟩
theorem rch12_room (pc used:Int) (rs:List S32) (o:S97) (W:World) (hl:rs.length=8) (h8:o.f0=12) (SA:Option Addr) (sc:Nat) (fs:List FrameD) (hf:¬ 16≤fs.length) (hC:Kd.C kF W SA fs.length fs) :
  Calls Try.prog 40 #[.agg (cpuC pc used rs (.slice SA fs.length sc)),.agg #[zC zD o.f0,zC zD o.f1,zC zD o.f2,zC zD o.f3,zC zD o.f4]] W (fun x w'=>∃ A c,x=.returned (.tuple #[.agg (cpuC (wrap64 (pc+1)) (wrap64 (used+1)) rs (.slice A (fs++[(⟨o.f3,0,rs⟩:FrameD)]).length c)),.agg (askC 3 0 0 0 0 0 0)])∧Kd.R kF 99 w' W.heap.size (fun _=>True) (.slice A (fs++[(⟨o.f3,0,rs⟩:FrameD)]).length c) (fs++[(⟨o.f3,0,rs⟩:FrameD)])∧Below W.heap.size W w'):=by
 have hu29:=Try.underlying29
 have hu46:=Try.underlying46
 have hu26:=Try.underlying26
 have hu24:=Try.underlying24
 have hu97:=Try.underlying97
 have hu27:=Try.underlying27
 have hu99:=Try.underlying99
 obtain ⟨a0,b0,a1,b1,a2,b2,a3,b3,a4,b4,a5,b5,a6,b6,a7,b7,rfl⟩:=eight hl
 obtain ⟨V1,hV1,KV1,hBV1⟩:=alz W (cpuC pc used [⟨a0,b0⟩,⟨a1,b1⟩,⟨a2,b2⟩,⟨a3,b3⟩,⟨a4,b4⟩,⟨a5,b5⟩,⟨a6,b6⟩,⟨a7,b7⟩] (.slice SA fs.length sc)) 29
 have ltV1:W.heap.size<V1.heap.size:=zL KV1
 have zV:=KV1
 have HB:=hBV1
 clear KV1 hBV1
 obtain ⟨V2,hV2,KV2,hBV2⟩:=alz V1 #[zC zD o.f0,zC zD o.f1,zC zD o.f2,zC zD o.f3,zC zD o.f4] 97
 have ltV2:V1.heap.size<V2.heap.size:=zL KV2
 replace zV:=zI zV hBV2
 have zW:=KV2
 replace HB:=zE HB hBV2
 clear KV2 hBV2
 obtain ⟨V3,hV3,KV3,hBV3⟩:=alz0 V2
 have ltV3:V2.heap.size<V3.heap.size:=zL KV3
 replace zV:=zI zV hBV3
 replace zW:=zI zW hBV3
 have K_o:=KV3
 replace HB:=zE HB hBV3
 clear KV3 hBV3
 obtain ⟨V4,hV4,KV4,hBV4⟩:=alz1 V3
 have ltV4:V3.heap.size<V4.heap.size:=zL KV4
 replace zV:=zI zV hBV4
 replace zW:=zI zW hBV4
 replace K_o:=zI K_o hBV4
 have K_a:=KV4
 replace HB:=zE HB hBV4
 clear KV4 hBV4
 rw [h8] at zW hV2
 have c1:V4.cell? ⟨W.heap.size,18,none⟩=some (.slice SA fs.length sc):=(zJ zV (18)).trans (cpuC_stk hl)
 have c2:V4.cell? ⟨V1.heap.size,0,none⟩=some (zC zD 12):=zJ zW (0)
 have m0:¬ (16:Int)≤fs.length:=by omega
 have c3:V4.cell? ⟨V1.heap.size,0,none⟩=some (zC zD 12):=zJ zW (0)
 have c4:V4.cell? ⟨W.heap.size,1,none⟩=some (zC zD used):=zJ zV (1)
 have c5:=zK zV (1)
 obtain ⟨V5,hV5⟩:∃ V,V4.setCell ⟨W.heap.size,1,none⟩ (zC zD (wrap64 (used+1)))=V:=⟨_,rfl⟩
 have hOV5:Only W.heap.size V4 V5:=by rw [← hV5];exact Only.set _ _ _
 replace zV:V5.heap[W.heap.size]?=some (.cells (cpuC pc (wrap64 (used+1)) [⟨a0,b0⟩,⟨a1,b1⟩,⟨a2,b2⟩,⟨a3,b3⟩,⟨a4,b4⟩,⟨a5,b5⟩,⟨a6,b6⟩,⟨a7,b7⟩] (.slice SA fs.length sc)) 29 (0,0)):=by rw [← hV5];exact (blk_set zV _ _)
 replace zW:=hOV5.mid zW (by omega) (B:=0)
 replace K_o:=hOV5.mid K_o (by omega) (B:=0)
 replace K_a:=hOV5.mid K_a (by omega) (B:=0)
 have szV5:V4.heap.size≤V5.heap.size:=hOV5.size
 replace HB:=HB.trans (hOV5.below (by omega) HB.size)
 clear hOV5
 have c6:V5.cell? ⟨W.heap.size,0,none⟩=some (zC zD pc):=zJ zV (0)
 have c7:=zK zV (0)
 obtain ⟨V6,hV6⟩:∃ V,V5.setCell ⟨W.heap.size,0,none⟩ (zC zD (wrap64 (pc+1)))=V:=⟨_,rfl⟩
 have hOV6:Only W.heap.size V5 V6:=by rw [← hV6];exact Only.set _ _ _
 replace zV:V6.heap[W.heap.size]?=some (.cells (cpuC (wrap64 (pc+1)) (wrap64 (used+1)) [⟨a0,b0⟩,⟨a1,b1⟩,⟨a2,b2⟩,⟨a3,b3⟩,⟨a4,b4⟩,⟨a5,b5⟩,⟨a6,b6⟩,⟨a7,b7⟩] (.slice SA fs.length sc)) 29 (0,0)):=by rw [← hV6];exact (blk_set zV _ _)
 replace zW:=hOV6.mid zW (by omega) (B:=0)
 replace K_o:=hOV6.mid K_o (by omega) (B:=0)
 replace K_a:=hOV6.mid K_a (by omega) (B:=0)
 have szV6:V5.heap.size≤V6.heap.size:=hOV6.size
 replace HB:=HB.trans (hOV6.below (by omega) HB.size)
 clear hOV6
 have c8:V6.cell? ⟨W.heap.size,18,none⟩=some (.slice SA fs.length sc):=(zJ zV (18)).trans (cpuC_stk hl)
 obtain ⟨em,hem,-,hBe⟩:=alz7 V6
 have cem:em.cell? ⟨W.heap.size,18,none⟩=some (.slice SA (fs.length) sc):=(zJ (zI zV hBe) 18).trans (cpuC_stk hl)
 have HCc:=zP (zU (Kd.C_below hC (zE HB hBe)) hBe)
 clear hBe
 have HX1:=zP (zU zV (zU zW (zU K_o (zU K_a (HB)))))
 clear HB K_a K_o zW zV
 go_enter Try.func40,Try.ntmps40
 go_wp2_with (at_builtin;refine Kd.R_append_rows kF (w0:=V6) (Rr:=kF.K em) V6.heap.size rfl _ _ 27 99 _ _ rfl hu27 info99 rfl (by decide) (by decide) _ [] (fs) SA (fs.length) sc (fun _=>True) (fun _=>False) rfl rfl ?HO ?HR ?hKM (fun _ h=>h.elim) (fun _ _=>trivial) ?HB ?hbase ?hl ?_)
 case HO=>exact ⟨fun _ _=>trivial,[],by rw [← hem];exact World.ownsRow_made V6 #[] 0 (Nat.le_refl _) (Nat.zero_le _) (by simp),Reps.none _ _⟩
 case HR=>exact HCc.out.1
 case hKM=>exact fun x cs h=>h
 case HB=>exact HCc.out.2
 case hbase=>exact HCc.out.2.size
 case hl=>first|(simp;done)|(simp;omega)|omega
 intro v5 w5 hR5 hB5 hg5 hv5
 clear hg5 hv5 HCc
 obtain ⟨SB,sd,rfl⟩:=Kd.R_slice hR5
 obtain ⟨zV,zW,K_o,K_a,HB⟩:=HX1.out
 clear HX1
 replace zV:=zI zV hB5
 replace zW:=zI zW hB5
 replace K_o:=zI K_o hB5
 replace K_a:=zI K_a hB5
 have szw5:V6.heap.size≤w5.heap.size:=hB5.size
 replace HB:=zE HB hB5
 have R_st:=hR5
 clear hR5
 have c9:w5.cell? ⟨V1.heap.size,0,none⟩=some (zC zD 12):=zJ zW (0)
 have c10:w5.cell? ⟨V1.heap.size,3,none⟩=some (zC zD o.f3):=zJ zW (3)
 have hLr:(Instr.loadAt 26 (.pointer (some ⟨W.heap.size,2,none⟩))).run Try.prog w5=.ok (.agg #[zC zD a0,zC zD b0,zC zD a1,zC zD b1,zC zD a2,zC zD b2,zC zD a3,zC zD b3,zC zD a4,zC zD b4,zC zD a5,zC zD b5,zC zD a6,zC zD b6,zC zD a7,zC zD b7]) w5:=ld_range (P:=Try.prog) (ty:=26) (W:=w5) (cs:=rc [⟨a0,b0⟩,⟨a1,b1⟩,⟨a2,b2⟩,⟨a3,b3⟩,⟨a4,b4⟩,⟨a5,b5⟩,⟨a6,b6⟩,⟨a7,b7⟩]) (range_of (W:=w5) (g:=W.heap.size) (pre:=[zC zD (wrap64 (pc+1)),zC zD (wrap64 (used+1))]) (cs:=rc [⟨a0,b0⟩,⟨a1,b1⟩,⟨a2,b2⟩,⟨a3,b3⟩,⟨a4,b4⟩,⟨a5,b5⟩,⟨a6,b6⟩,⟨a7,b7⟩]) (post:=[.slice SA fs.length sc]) (t:=29) (fr:=(0,0)) (by simpa [cpuC] using zV)) hu26 rfl (by rw [size26];rfl)
 obtain ⟨V7,hV7,KV7,hBV7⟩:=alz w5 #[zC zD o.f3,zC zD 0,zC zD a0,zC zD b0,zC zD a1,zC zD b1,zC zD a2,zC zD b2,zC zD a3,zC zD b3,zC zD a4,zC zD b4,zC zD a5,zC zD b5,zC zD a6,zC zD b6,zC zD a7,zC zD b7] 99
 have ltV7:w5.heap.size<V7.heap.size:=zL KV7
 replace zV:=zI zV hBV7
 replace zW:=zI zW hBV7
 replace K_o:=zI K_o hBV7
 replace K_a:=zI K_a hBV7
 replace R_st:=Kd.R_below R_st hBV7
 have K_fr:=KV7
 replace HB:=zE HB hBV7
 clear KV7 hBV7
 have c11:V7.cell? ⟨W.heap.size,18,none⟩=some (.slice SA fs.length sc):=(zJ zV (18)).trans (cpuC_stk hl)
 have c12:=zK zV (18)
 have HX2:=zP (zU zV (zU zW (zU K_o (zU K_a (zU K_fr (zU R_st (HB)))))))
 clear HB R_st K_fr K_a K_o zW zV
 go_wp2_with (first|refine wpList_ld rfl rfl hLr ?_|at_builtin;refine Kd.R_append_rows kF (w0:=V7) (Rr:=kF.K V7) V6.heap.size rfl _ _ 27 99 _ _ rfl hu27 info99 rfl (by decide) (by decide) _ fs [(⟨o.f3,0,[⟨a0,b0⟩,⟨a1,b1⟩,⟨a2,b2⟩,⟨a3,b3⟩,⟨a4,b4⟩,⟨a5,b5⟩,⟨a6,b6⟩,⟨a7,b7⟩]⟩:FrameD)] (some ⟨w5.heap.size,0,none⟩) 1 1 (fun _=>True) (fun _=>False) rfl rfl ?HO ?HR ?hKM (fun _ h=>h.elim) (fun _ _=>trivial) ?HB ?hbase ?hl ?_)
 case HO=>exact HX2.out.2.2.2.2.2.1
 case HR => exact ⟨rfl, by decide, fun _ => ⟨_, rfl, fun j p hj => by
    rcases j with _|j
    ·
     have:(⟨o.f3,0,[⟨a0,b0⟩,⟨a1,b1⟩,⟨a2,b2⟩,⟨a3,b3⟩,⟨a4,b4⟩,⟨a5,b5⟩,⟨a6,b6⟩,⟨a7,b7⟩]⟩:FrameD)=p:=by simpa using hj
     subst this
     exact ⟨fc ⟨o.f3,0,[⟨a0,b0⟩,⟨a1,b1⟩,⟨a2,b2⟩,⟨a3,b3⟩,⟨a4,b4⟩,⟨a5,b5⟩,⟨a6,b6⟩,⟨a7,b7⟩]⟩,rfl,⟨rfl,rfl⟩,fun q u hu=>by
      rw [Addr.add_lit]
      show (V7).cell? ⟨w5.heap.size,0+(0 * 18+q),none⟩=_
      rw [Nat.zero_mul,Nat.zero_add,Nat.zero_add]
      exact (zJ HX2.out.2.2.2.2.1 q).trans (by simpa [fc,rc] using hu)⟩
    ·
     simp at hj⟩⟩
 case hKM=>exact fun x cs h=>h
 case HB=>exact Below.refl _ _
 case hbase=>have:=HX2.out.2.2.2.2.2.2.size;omega
 case hl=>omega
 intro v6 w6 hR6 hB6 hg6 hv6
 clear hg6 hv6
 obtain ⟨zV,zW,K_o,K_a,K_fr,R_st,HB⟩:=HX2.out
 clear HX2
 clear K_fr R_st
 replace zV:=(hB6.block _ (by omega)).trans zV
 replace zW:=(hB6.block _ (by omega)).trans zW
 replace K_o:=(hB6.block _ (by omega)).trans K_o
 replace K_a:=(hB6.block _ (by omega)).trans K_a
 have szw6:V7.heap.size≤w6.heap.size:=hB6.size
 replace HB:=HB.trans (below_le hB6 (by omega))
 obtain ⟨SC,se,rfl⟩:=Kd.R_slice hR6
 have hse:(fs++[(⟨o.f3,0,[⟨a0,b0⟩,⟨a1,b1⟩,⟨a2,b2⟩,⟨a3,b3⟩,⟨a4,b4⟩,⟨a5,b5⟩,⟨a6,b6⟩,⟨a7,b7⟩]⟩:FrameD)]).length≤se:=(Kd.R_reads' hR6).2.1
 obtain ⟨L,hL⟩:∃ L,fs++[(⟨o.f3,0,[⟨a0,b0⟩,⟨a1,b1⟩,⟨a2,b2⟩,⟨a3,b3⟩,⟨a4,b4⟩,⟨a5,b5⟩,⟨a6,b6⟩,⟨a7,b7⟩]⟩:FrameD)]=L:=⟨_,rfl⟩
 rw [hL] at hR6 hse ⊢
 have R_st:=hR6
 clear hR6 hB6
 have c13:w6.cell? ⟨W.heap.size,18,none⟩=some (.slice SA fs.length sc):=(zJ zV (18)).trans (cpuC_stk hl)
 have c14:=zK zV (18)
 obtain ⟨V8,hV8⟩:∃ V,w6.setCell ⟨W.heap.size,18,none⟩ (.slice SC L.length se)=V:=⟨_,rfl⟩
 have hOV8:Only W.heap.size w6 V8:=by rw [← hV8];exact Only.set _ _ _
 replace R_st:=R_offs R_st zV (by intro q hq;simp [kF] at hq;subst hq;decide) hOV8
 replace zV:V8.heap[W.heap.size]?=some (.cells (cpuC (wrap64 (pc+1)) (wrap64 (used+1)) [⟨a0,b0⟩,⟨a1,b1⟩,⟨a2,b2⟩,⟨a3,b3⟩,⟨a4,b4⟩,⟨a5,b5⟩,⟨a6,b6⟩,⟨a7,b7⟩] (.slice SC L.length se)) 29 (0,0)):=by rw [← hV8,← cpuC_setStk _ hl];exact (blk_set zV _ _)
 replace zW:=hOV8.mid zW (by omega) (B:=0)
 replace K_o:=hOV8.mid K_o (by omega) (B:=0)
 replace K_a:=hOV8.mid K_a (by omega) (B:=0)
 have szV8:w6.heap.size≤V8.heap.size:=hOV8.size
 replace HB:=HB.trans (hOV8.below (by omega) HB.size)
 clear hOV8
 have hL15:=ld_whole (P:=Try.prog) (ty:=29) zV Try.underlying29 rfl (by first|rfl|(rw [size29];rfl)|(rw [size29];have:=zM hl;simp [this])|(rw [size29,zM hl]))
 have hz:=zM (pc:=(wrap64 (pc+1))) (used:=(wrap64 (used+1))) (stk:=.slice SC L.length se) hl
 obtain ⟨V9,hSV9,KKV9,hOV9⟩:=st_arr (cs:=cpuC (wrap64 (pc+1)) (wrap64 (used+1)) [⟨a0,b0⟩,⟨a1,b1⟩,⟨a2,b2⟩,⟨a3,b3⟩,⟨a4,b4⟩,⟨a5,b5⟩,⟨a6,b6⟩,⟨a7,b7⟩] (.slice SC L.length se)) size29 K_o (by first|rfl|simp [hz]) (by first|rfl|simp [hz]) (cpuC_one1 _ _ _ rfl)
 clear hz
 replace R_st:=R_offs R_st K_o (by intro q hq;simp [kF] at hq;subst hq;decide) hOV9
 replace K_o:V9.heap[V2.heap.size]?=some (.cells (cpuC (wrap64 (pc+1)) (wrap64 (used+1)) [⟨a0,b0⟩,⟨a1,b1⟩,⟨a2,b2⟩,⟨a3,b3⟩,⟨a4,b4⟩,⟨a5,b5⟩,⟨a6,b6⟩,⟨a7,b7⟩] (.slice SC L.length se)) 29 (0,0)):=KKV9
 replace zV:=hOV9.mid zV (by omega) (B:=0)
 replace zW:=hOV9.mid zW (by omega) (B:=0)
 replace K_a:=hOV9.mid K_a (by omega) (B:=0)
 have szV9:V8.heap.size≤V9.heap.size:=hOV9.size
 replace HB:=HB.trans (hOV9.below (by omega) HB.size)
 clear hOV9
 clear KKV9
 obtain ⟨V10,hSV10,KKV10,hOV10⟩:=st_arr (cs:=askC 3 0 0 0 0 0 0) size46 K_a (by first|rfl|simp) rfl (by simp [Value.oneCell'])
 replace R_st:=R_offs R_st K_a (by intro q hq;simp [kF] at hq;subst hq;decide) hOV10
 replace K_a:V10.heap[V3.heap.size]?=some (.cells (askC 3 0 0 0 0 0 0) 46 (0,0)):=KKV10
 replace zV:=hOV10.mid zV (by omega) (B:=0)
 replace zW:=hOV10.mid zW (by omega) (B:=0)
 replace K_o:=hOV10.mid K_o (by omega) (B:=0)
 have szV10:V9.heap.size≤V10.heap.size:=hOV10.size
 replace HB:=HB.trans (hOV10.below (by omega) HB.size)
 clear hOV10
 clear KKV10
 have HX3:=zP (zU zV (zU zW (zU K_o (zU K_a (zU R_st (HB))))))
 clear HB R_st K_a K_o zW zV
 go_wp2_with (first|refine wpList_st rfl rfl hSV9 ?_|refine wpList_st rfl rfl hSV10 ?_|refine wpList_ld rfl rfl hL15 ?_)
 obtain ⟨zV,zW,K_o,K_a,R_st,HB⟩:=HX3.out
 exact bodyPost_ret (results_cc rfl _ rfl K_o hu29 rfl (by rw [size29,zM (pc:=(wrap64 (pc+1))) (used:=(wrap64 (used+1))) (stk:=.slice SC L.length se) hl]) rfl K_a hu46 rfl (by rw [size46];rfl)) rfl (by rw [hL];exact ⟨_,_,rfl,Kd.R_lower R_st (by omega),HB⟩)
end Go.Proofs.Ytgnjkegnddekeaa.Q
