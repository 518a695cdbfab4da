/- The deferred function of a step: what ends a block is told. By hand. -/
import Derived.Test.YtgnjkegnddekeaaXFrameM
import Derived.Test.YtgnjkegnddekeaaXQ2
import Derived.Defers
import Derived.Recover
import Derived.Laws.Pointers
import Derived.Test.YtgnjkegnddekeaaXHDoes
import Derived.Test.YtgnjkegnddekeaaXRightM
import Derived.Test.YtgnjkegnddekeaaXGrowQ
open List renaming setIfInBounds_toArray → zJ, set_cons_zero → zK, set_cons_succ → zL
open And renaming intro → zM
namespace Go.Proofs.Ytgnjkegnddekeaa.Q
open Go.RowKit Go.Lib Go.Proofs.Ytgnjkegnddekeaa Go.Proofs.YtgnjkegnddekeaaW.PrintWords Go.Proofs.YtgnjkegnddekeaaW.PrintLast Go.Proofs.YtgnjkegnddekeaaW.PrintMore
set_option linter.unusedVariables false
set_option linter.unusedSimpArgs false
theorem ended_calls (e:Int) (W:World):Calls Try.prog 30 #[.int .i64 e] W fun x w' => x=.returned (.agg (askC 5 0 0 0 0 0 e))∧Below W.heap.size W w' :=
  block_ended.calls e 5 0 0 0 0 0 e W rfl
set_option maxRecDepth 100000 in
theorem step1_idle (cb ob ab:Nat) (W:World) :
    CallsD Try.prog 31 #[ptr cb,ptr ob,ptr ab] .returning W fun x u' w' => x=.returned (.tuple #[])∧u'=.returning∧w'=W:=by
  refine callsD_of_wpS Try.func31 rfl fun c₀ cs hu => ?_
  apply wpS_seq
  apply wpS_region
  simp [wpOpsS,go_sem,recoverD,hu,Try.ntmps31,Exit.thenS]
  refine wpS_of_wp ?_
  go_wp2_with fail
  cases c₀
  simp_all [bodyPostS,results,Try.results31]
/-- Two blocks are laid, one whole value each; nothing else turns. -/
structure Two (ob ab:Nat) (X Y:Obj) (W W':World):Prop where
  o:W'.heap[ob]?=some X
  a:W'.heap[ab]?=some Y
  os:W'.os=W.os
  tape:W'.tape=W.tape
  output:W'.output=W.output
  size:W.heap.size ≤ W'.heap.size
  block:∀ k,k < W.heap.size → k ≠ ob → k ≠ ab → W'.heap[k]?=W.heap[k]?
theorem Two.of_chain {ob ab:Nat} {X0 X Y0 Y:Obj} {W W':World} (h:Chain [(ob,[X0,X]),(ab,[Y0,Y])] W W') (ho:At ob [X0,X] 1 W') (ha:At ab [Y0,Y] 1 W'):Two ob ab X Y W W':=by
  obtain ⟨i,x,hi,hx,hw⟩:=ho
  obtain ⟨j,y,hj,hy,hv⟩:=ha
  refine ⟨?_,?_,h.os,h.tape,h.output,h.size,fun k hk h1 h2 => h.block k hk (by simp [h1,h2])⟩
  · rcases i with _ | _ | i
    · omega
    · simp at hx;rw [hw,hx]
    · simp at hx
  · rcases j with _ | _ | j
    · omega
    · simp at hy;rw [hv,hy]
    · simp at hy
/-- A store of a whole value into one of two blocks. -/
theorem chain_whole {L:List (Nat × List Obj)} {b:Nat} {t:TypeId} {xs ys:Array Value} {ty:TypeId} {W:World} (hm:(b,[Obj.cells xs t (0,0),Obj.cells ys t (0,0)]) ∈ L) (hu:∀ p ∈ L,p.1=b → p=(b,[Obj.cells xs t (0,0),Obj.cells ys t (0,0)]))
    (hA:At b [Obj.cells xs t (0,0),Obj.cells ys t (0,0)] 0 W) (hl:xs.size=ys.size) (hi:(Try.prog.info? ty).map (·.size)=some ys.size) (h1:∀ v ∈ ys.toList,v.oneCell'=true) :
    ∃ W',(Instr.storeAt ty (.pointer (some ⟨b,0,none⟩)) (.agg ys)).run Try.prog W=.ok () W'∧Chain L W W'∧At b [Obj.cells xs t (0,0),Obj.cells ys t (0,0)] 1 W':=by
  have key:∀ zs:Array Value,zs.size=ys.size → setL zs 0 ys.toList=ys:=by
    intro zs hz
    obtain ⟨l⟩:=zs
    obtain ⟨m⟩:=ys
    simp at hz
    rw [setL_list _ _ _ (by simp;omega)]
    simp [hz]
  obtain ⟨h3,i,hi0,hix,y,hy,hw⟩:=chain_sets (W:=W) (off:=0) (vs:=ys.toList) (fun _ => 1) 0 hm hu hA (fun i x _ hx => by
    rcases i with _ | _ | i
    · simp at hx;exact ⟨xs,t,hx.symm,by omega,by simp [key xs hl]⟩
    · simp at hx;exact ⟨ys,t,hx.symm,by omega,by simp [key ys rfl]⟩
    · simp at hx)
  obtain ⟨j,x,hj,hx,hwx⟩:=hA
  have hr:(Instr.storeAt ty (.pointer (some ⟨b,0,none⟩)) (.agg ys.toList.toArray)).run Try.prog W=.ok () (W.setCells b 0 ys.toList):=by
    rcases j with _ | _ | j
    · simp at hx
      subst hx
      exact st_run hwx (by simp;omega) (by simpa using hi) h1
    · simp at hx
      subst hx
      exact st_run hwx (by simp) (by simpa using hi) h1
    · simp at hx
  exact ⟨_,by simpa using hr,h3,1,y,Nat.le_refl _,hy,hw⟩
set_option maxRecDepth 100000 in
set_option maxHeartbeats 1000000 in
theorem step1_panicking (cb ob ab:Nat) (W:World) (e:Int) (older:List PanicEntry) (xs ys zs:Array Value) (hx:xs.size=19) (hy:ys.size=19) (hz:zs.size=7) (h1:∀ v ∈ xs.toList,v.oneCell'=true)
    (hc:W.heap[cb]?=some (.cells xs 37 (0,0))) (ho:W.heap[ob]?=some (.cells ys 37 (0,0))) (ha:W.heap[ab]?=some (.cells zs 39 (0,0))) (n1:cb ≠ ob) (n2:cb ≠ ab) (n3:ob ≠ ab) :
    CallsD Try.prog 31 #[ptr cb,ptr ob,ptr ab] (.panicking ({ v:=.iface 91 (.int .i64 e),recovered:=false } :: older)) W fun x u' w' => x=.returned (.tuple #[])∧u'=.panicking ({ v:=.iface 91 (.int .i64 e),recovered:=true } :: older)∧Two ob ab (.cells xs 37 (0,0)) (.cells (askC 5 0 0 0 0 0 e) 39 (0,0)) W w':=by
  have hta:∀ W,(Instr.typeAssert (.iface 91 (.int .i64 e)) 20 91 true).run Try.prog W=.ok (.tuple #[.int .i64 e,.bool true]) W:=by
    intro W
    simp [Instr.typeAssert,run_underlying Try.underlying91,go_sem]
  obtain ⟨L,hL⟩:∃ L,L=[(ob,[Obj.cells ys 37 (0,0),Obj.cells xs 37 (0,0)]),(ab,[Obj.cells zs 39 (0,0),Obj.cells (askC 5 0 0 0 0 0 e) 39 (0,0)])]:=⟨_,rfl⟩
  have m1:(ob,[Obj.cells ys 37 (0,0),Obj.cells xs 37 (0,0)]) ∈ L:=by subst hL;simp
  have m2:(ab,[Obj.cells zs 39 (0,0),Obj.cells (askC 5 0 0 0 0 0 e) 39 (0,0)]) ∈ L:=by subst hL;simp
  have u1:∀ p ∈ L,p.1=ob → p=(ob,[Obj.cells ys 37 (0,0),Obj.cells xs 37 (0,0)]):=by subst hL;simp;intro h;exact absurd h.symm n3
  have u2:∀ p ∈ L,p.1=ab → p=(ab,[Obj.cells zs 39 (0,0),Obj.cells (askC 5 0 0 0 0 0 e) 39 (0,0)]):=by subst hL;simp;intro h;exact absurd h n3
  have c1:∀ W',Chain L W W' → W'.heap[cb]?=some (.cells xs 37 (0,0)):=fun W' hB => hB.mid hc (by subst hL;simp [n1,n2])
  have o1:∀ W',Chain L W W' → At ob [Obj.cells ys 37 (0,0),Obj.cells xs 37 (0,0)] 0 W':=fun W' hB => hB.on _ m1 0 ⟨0,_,Nat.le_refl _,rfl,ho⟩
  have a1:∀ W',Chain L W W' → At ab [Obj.cells zs 39 (0,0),Obj.cells (askC 5 0 0 0 0 0 e) 39 (0,0)] 0 W':=fun W' hB => hB.on _ m2 0 ⟨0,_,Nat.le_refl _,rfl,ha⟩
  clear hc ho ha
  refine callsD_of_wpS Try.func31 rfl fun c₀ cs hu => ?_
  apply wpS_seq
  apply wpS_region
  have hrep:Array.replicate 12 undef=#[undef,undef,undef,undef,undef,undef,undef,undef,undef,undef,undef,undef]:=rfl
  simp [wpOpsS,go_sem,recoverD,hu,Try.ntmps31,Exit.thenS,hrep]
  refine wpS_of_wp ?_
  go_wp2_with fail
  apply GR.wp_region_grows (R:=Chain L) (by kernel_rfl) (by kernel_rfl)
  · intro c a d v w h;cases d <;> exact h
  apply GR.gw_val (by rfl)
  · (intro W' hB hD;exact exec_ld rfl (ld_whole (c1 W' hB) Try.underlying37 rfl (by rw [size37,hx])))
  simp only [Act.put,zJ,zK,zL]
  apply GR.gw_val (by rfl)
  · (intro W' hB hD;go_simp;first | done | rfl)
  simp only [Act.put,zJ,zK,zL]
  apply GR.gw_call (by rfl)
  · (intro W' hB hD;go_simp;first | done | rfl | exact ⟨rfl,rfl⟩)
  · (intro W' hB hD;exact (ended_calls e W').mono fun x w' hh => ⟨hh.1,GR.Rel.ofB hh.2⟩)
  simp only [Act.put,zJ,zK,zL]
  apply GR.gw_skp (stable_At m1 1) (by rfl) (by rfl)
  · intro W' hB hD
    obtain ⟨W'',e1,e2,e3⟩:=chain_whole (ty:=37) m1 u1 (o1 W' hB) (by rw [hx,hy]) (by rw [size37,hx]) h1
    exact ⟨W'',exec_st rfl e1,e2,e3⟩
  rintro v -
  apply GR.gw_skp (stable_At m2 1) (by rfl) (by rfl)
  · intro W' hB hD
    obtain ⟨W'',e1,e2,e3⟩:=chain_whole (ty:=39) m2 u2 (a1 W' hB) (by rw [hz];rfl) (by rw [size39];rfl) (by simp [Value.oneCell'])
    exact ⟨W'',exec_st rfl e1,e2,e3⟩
  rintro v' -
  apply GR.gw_nil
  intro Wa hW hF hP
  simp [List.forall_mem_append] at hF hP
  subst hL
  have HT:=Lib.hid (Two.of_chain hW hF.1 hF.2)
  clear hW hF hP c1 o1 a1 m1 m2 u1 u2
  go_wp2_with fail
  have hh:=HT.out
  simp [bodyPostS,results,Try.results31]
  exact hh
theorem leaves_ret {P:Program} {fn:Func} {R:Ending → World → Prop} {tmps:Array Value} {w:World} {v:Value} (h:(results fn tmps).run P w=.ok v w) (hR:R (.returned v) w):bodyPostD P fn R Exit.ret { tmps,defers:=[] } w:=⟨v,h,hR⟩
theorem Stk.two {ob ab base:Nat} {W W':World} {v:Value} {fs:List FrameD} {xs ys:Array Value} {X Y:Obj} (h:Stk W base v fs) (ho:W.heap[ob]?=some (.cells xs 37 (0,0))) (ha:W.heap[ab]?=some (.cells ys 39 (0,0))) (hT:Two ob ab X Y W W'):Stk W' base v fs :=
  Kd.R_mono (Kd.R_step (Kd.R_types (Kd.R_types h ho (fun q hq => by simp [kF] at hq;subst hq;decide)) ha (fun q hq => by simp [kF] at hq;subst hq;decide)) (fun k hk hlt => hT.block k hlt hk.1.2 hk.2)) (fun _ _ => trivial)
def codeR (l:List S74):Bool:=decide ((1:Int) ≤ l.length) && decide ((l.length:Int) ≤ 200) && l.all (fun o => opRight o l.length)
theorem codeRight_calls (A0:Option Addr) (c0:Nat) (l0:List S74) (w:World) (hr0:Kd.C k74 w A0 l0.length l0) (hc0:l0.length ≤ c0) :
    Calls Try.prog 29 #[.slice A0 l0.length c0] w fun e w' => e=.returned (.bool (codeR l0))∧Below w.heap.size w w':=code_Right.calls A0 c0 l0 _ w hr0 hc0 rfl
def over (e:Int):AskD:=⟨5,0,0,0,⟨0,0⟩,e⟩
/-- One step. -/
def stepP (l:List S74) (c:CpuD) (vars fuel:Int):CpuD × AskD :=
  if codeR l=false ∨ c.pc < 0 ∨ (l.length:Int) < c.pc then (c,over 4)
  else if c.pc=l.length then (c,over 0)
  else if fuel ≤ c.used then (c,over 3)
  else match l[c.pc.toNat]? with
    | none => (c,over 4)
    | some o => match doesP ⟨c.pc,wrap64 (c.used + 1),c.rs,c.fs⟩ o vars with
      | .inl e => (⟨c.pc,wrap64 (c.used + 1),c.rs,c.fs⟩,over e)
      | .inr r => r
/-- How a step ends, in memory. -/
def Stepped (W:World) (r:CpuD × AskD) (e:Ending) (w':World):Prop :=
  r.1.rs.length=8∧∃ stk,e=.returned (.tuple #[.agg (cpuC r.1.pc r.1.used r.1.rs stk),.agg r.2.c])∧Stk w' W.heap.size stk r.1.fs∧Below W.heap.size W w'
theorem cpuC_one (pc used:Int) (rs:List S32) (A:Option Addr) (n c:Nat):∀ v ∈ (cpuC pc used rs (.slice A n c)).toList,v.oneCell'=true:=by
  intro u hu
  simp only [cpuC,List.mem_cons,List.mem_append,List.mem_singleton,List.not_mem_nil,or_false] at hu
  rcases hu with rfl | rfl | hu | rfl
  · rfl
  · rfl
  · exact rc_one rs u hu
  · rfl
set_option maxRecDepth 100000 in
set_option maxHeartbeats 2000000 in
theorem step_wrong (W:World) (A:Option Addr) (c:Nat) (l:List S74) (pc used vars fuel:Int) (rs:List S32) (SA:Option Addr) (sc:Nat) (fs:List FrameD) (hC:Kd.C k74 W A l.length l) (hlc:l.length ≤ c) (hl:rs.length=8)
    (hS:Kd.C kF W SA fs.length fs) (hsc:fs.length ≤ sc) (hbig:fs.length ≤ 99999) (h0:codeR l=false) :
    Calls Try.prog 11 #[.slice A l.length c,.agg (cpuC pc used rs (.slice SA fs.length sc)),.int .i64 vars,.int .i64 fuel] W fun e w' => Stepped W (⟨pc,used,rs,fs⟩,over 4) e w':=by
  have hu35:=Try.underlying35
  have hu37:=Try.underlying37
  have hu39:=Try.underlying39
  have hu74:=Try.underlying74
  have hu95:=Try.underlying95
  have hmf:∀ (fn:Fn) (first cap:Array Value) (w:World),(Instr.makeFunc fn first cap).run Try.prog w=.ok (.func fn first cap) w:=fun _ _ _ _ => rfl
  obtain ⟨W1,hW1,K1,hB1⟩:=alz W (cpuC pc used rs (.slice SA fs.length sc)) 37
  obtain ⟨W2,hW2,K2,hB2⟩:=alz2 W1
  obtain ⟨W3,hW3,K3,hB3⟩:=alz0 W2
  have hz1:W1.heap.size=W.heap.size + 1:=by rw [← hW1,World.size_alloc]
  have hz2:W2.heap.size=W.heap.size + 1 + 1:=by rw [← hW2,World.size_alloc,hz1]
  have hz3:W3.heap.size=W.heap.size + 1 + 1 + 1:=by rw [← hW3,World.size_alloc,hz2]
  have hB13:=bAfter hB1 (bAfter hB2 hB3)
  have s3:W3.cell? ⟨W.heap.size,18,none⟩=some (.slice SA fs.length sc):=(zG (zE (zE K1 hB2) hB3) 18).trans (cpuC_stk hl)
  have HCl:=Lib.hid (clone_frames SA sc fs W3 (Kd.C_below hS hB13) (by omega))
  have HC0:=Lib.hid hC
  have H0:=Lib.hid (zM (Kd.C_below hC hB13) (zM (zE (zE K1 hB2) hB3) (zM (zE K2 hB3) (zM K3 (zM hB13 (zM hz1 (zM hz2 hz3)))))))
  clear hC hS K1 K2 K3 hB1 hB2 hB3 hB13 hz1 hz2 hz3
  go_enter_defers Try.func11,Try.ntmps11
  go_wp2_with fail
  refine HCl.out.mono ?_
  rintro e w' ⟨v,rfl,hv,hBv⟩
  obtain ⟨SB,sd,rfl⟩:=Kd.R_slice hv
  obtain ⟨hC3,K1,K2,K3,hB13,hz1,hz2,hz3⟩:=H0.out
  have K1v:=zE K1 hBv
  have s4:=zG K1v 18
  rw [cpuC_stk hl] at s4
  have s5:=zH K1v 18
  obtain ⟨W4,hW4⟩:∃ W4,w'.setCell ⟨W.heap.size,18,none⟩ (.slice SB fs.length sd)=W4:=⟨_,rfl⟩
  have hO4:Only W.heap.size w' W4:=by rw [← hW4];exact Only.set w' 18 _
  have K14:W4.heap[W.heap.size]?=some (.cells (cpuC pc used rs (.slice SB fs.length sd)) 37 (0,0)):=by
    rw [← hW4,← cpuC_setStk _ hl]
    exact blk_set K1v 18 _
  have K24:=hO4.mid (zE K2 hBv) (by omega) (B:=0)
  have K34:=hO4.mid (zE K3 hBv) (by omega) (B:=0)
  have hS4:=Stk.only_lt hv hO4 (by omega)
  have hB4:Below W.heap.size W W4:=(hB13.trans (below_le hBv (by omega))).trans (hO4.below (Nat.le_refl _) (by have:=hBv.size;omega))
  have hC0:=HC0.out
  have hC4:Kd.C k74 W4 A l.length l:=Kd.C_below hC0 hB4
  have HR:=Lib.hid (codeRight_calls A c l W4 hC4 hlc)
  rw [h0] at HR
  have H4:=Lib.hid (zM hC4 (zM K14 (zM K24 (zM K34 (zM hS4 (zM hB4 (zM hz1 (zM hz2 hz3))))))))
  clear hC3 K1 K2 K3 hB13 hz1 hz2 hz3 K1v hO4 K14 K24 K34 hS4 hB4 hC4 hv hBv H0 HCl
  go_wp2_with fail
  refine HR.out.mono ?_
  rintro e w5 ⟨rfl,hB5⟩
  obtain ⟨hC4,K14,K24,K34,hS4,hB4,hz1,hz2,hz3⟩:=H4.out
  have K15:=zE K14 hB5
  have p5:w5.cell? ⟨W.heap.size,0,none⟩=some (.int .i64 pc):=zG K15 0
  have p6:w5.cell? ⟨W.heap.size,1,none⟩=some (.int .i64 used):=zG K15 1
  have p7:=zH K15 1
  have hB45:Below W.heap.size W w5:=hB4.trans (below_le hB5 hB4.size)
  have H5:=Lib.hid (zM (Kd.C_below hC4 hB5) (zM K15 (zM (zE K24 hB5) (zM (zE K34 hB5) (zM (hS4.below hB5) (zM hB45 (zM hz1 (zM hz2 hz3))))))))
  clear hC4 K14 K24 K34 hS4 hB4 K15 hB5 hB45 hz1 hz2 hz3 H4
  obtain ⟨hC5,K15,K25,K35,hS5,hB5,-⟩:=H5.out
  have hlt:W.heap.size < W1.heap.size∧W1.heap.size < W2.heap.size∧W2.heap.size < W3.heap.size:=by have h:=H5.out.2.2.2.2.2.2;omega
  obtain ⟨L,hL⟩:∃ L,L=[(W1.heap.size,[Obj.cells #[.int .i64 0,.int .i64 0,.int .i64 0,.int .i64 0,.int .i64 0,.int .i64 0,.int .i64 0,.int .i64 0,.int .i64 0,.int .i64 0,.int .i64 0,.int .i64 0,.int .i64 0,.int .i64 0,.int .i64 0,.int .i64 0,.int .i64 0,.int .i64 0,.slice none 0 0] 37 (0,0),Obj.cells (cpuC pc used rs (.slice SB fs.length sd)) 37 (0,0)]),(W2.heap.size,[Obj.cells #[.int .i64 0,.int .i64 0,.int .i64 0,.int .i64 0,.int .i64 0,.int .i64 0,.int .i64 0] 39 (0,0),Obj.cells (askC 5 0 0 0 0 0 4) 39 (0,0)])]:=⟨_,rfl⟩
  have n3:W1.heap.size ≠ W2.heap.size:=by omega
  have m1:(W1.heap.size,[Obj.cells #[.int .i64 0,.int .i64 0,.int .i64 0,.int .i64 0,.int .i64 0,.int .i64 0,.int .i64 0,.int .i64 0,.int .i64 0,.int .i64 0,.int .i64 0,.int .i64 0,.int .i64 0,.int .i64 0,.int .i64 0,.int .i64 0,.int .i64 0,.int .i64 0,.slice none 0 0] 37 (0,0),Obj.cells (cpuC pc used rs (.slice SB fs.length sd)) 37 (0,0)]) ∈ L:=by subst hL;simp
  have m2:(W2.heap.size,[Obj.cells #[.int .i64 0,.int .i64 0,.int .i64 0,.int .i64 0,.int .i64 0,.int .i64 0,.int .i64 0] 39 (0,0),Obj.cells (askC 5 0 0 0 0 0 4) 39 (0,0)]) ∈ L:=by subst hL;simp
  have u1:∀ p ∈ L,p.1=W1.heap.size → p=(W1.heap.size,[Obj.cells #[.int .i64 0,.int .i64 0,.int .i64 0,.int .i64 0,.int .i64 0,.int .i64 0,.int .i64 0,.int .i64 0,.int .i64 0,.int .i64 0,.int .i64 0,.int .i64 0,.int .i64 0,.int .i64 0,.int .i64 0,.int .i64 0,.int .i64 0,.int .i64 0,.slice none 0 0] 37 (0,0),Obj.cells (cpuC pc used rs (.slice SB fs.length sd)) 37 (0,0)]):=by subst hL;simp;intro h;exact absurd h.symm n3
  have u2:∀ p ∈ L,p.1=W2.heap.size → p=(W2.heap.size,[Obj.cells #[.int .i64 0,.int .i64 0,.int .i64 0,.int .i64 0,.int .i64 0,.int .i64 0,.int .i64 0] 39 (0,0),Obj.cells (askC 5 0 0 0 0 0 4) 39 (0,0)]):=by subst hL;simp;intro h;exact absurd h n3
  have c1:∀ W',Chain L w5 W' → W'.heap[W.heap.size]?=some (.cells (cpuC pc used rs (.slice SB fs.length sd)) 37 (0,0)):=fun W' hB => hB.mid K15 (by subst hL;simp;omega)
  have o1:∀ W',Chain L w5 W' → At W1.heap.size _ 0 W':=fun W' hB => hB.on _ m1 0 ⟨0,_,Nat.le_refl _,rfl,K25⟩
  have a1:∀ W',Chain L w5 W' → At W2.heap.size _ 0 W':=fun W' hB => hB.on _ m2 0 ⟨0,_,Nat.le_refl _,rfl,K35⟩
  have hcs:(cpuC pc used rs (.slice SB fs.length sd)).size=19:=cpuC_size hl
  go_wp2_with fail
  apply GR.wp_region_growsQ (R:=Chain L) (by kernel_rfl) (by kernel_rfl)
  apply GR.gw_val (by rfl)
  · (intro W' hB hD;exact exec_ld rfl (ld_whole (c1 W' hB) hu37 rfl (by rw [size37,hcs])))
  simp only [Act.put,zJ,zK,zL]
  apply GR.gw_call (by rfl)
  · (intro W' hB hD;go_simp;first | done | rfl | exact ⟨rfl,rfl⟩)
  · (intro W' hB hD;exact (ended_calls 4 W').mono fun x w' hh => ⟨hh.1,GR.Rel.ofB hh.2⟩)
  simp only [Act.put,zJ,zK,zL]
  apply GR.gw_skp (stable_At m1 1) (by rfl) (by rfl)
  · intro W' hB hD
    obtain ⟨W'',e1,e2,e3⟩:=chain_whole (ty:=37) m1 u1 (o1 W' hB) (by rw [hcs];rfl) (by rw [size37,hcs]) (cpuC_one _ _ _ _ _ _)
    exact ⟨W'',exec_st rfl e1,e2,e3⟩
  rintro v -
  apply GR.gw_skp (stable_At m2 1) (by rfl) (by rfl)
  · intro W' hB hD
    obtain ⟨W'',e1,e2,e3⟩:=chain_whole (ty:=39) m2 u2 (a1 W' hB) rfl (by rw [size39];rfl) (by simp [Value.oneCell'])
    exact ⟨W'',exec_st rfl e1,e2,e3⟩
  rintro v' -
  apply GR.gw_end
  intro Wa hW hF
  simp [List.forall_mem_append] at hF
  subst hL
  have hT:=Two.of_chain hW hF.1 hF.2
  have hs6:Stk Wa W.heap.size (.slice SB fs.length sd) fs:=Kd.R_lower (Kd.R_mono (Kd.R_step (Kd.R_bound hS5) (fun k hk hlt2 => hT.block k hlt2 (by have:=hk.2.1;omega) (by have:=hk.2.1;omega))) (fun _ _ => trivial)) (by omega)
  have HE:=Lib.hid (zM hT (zM hs6 (hB5.trans ⟨hT.os,hT.tape,hT.output,hT.size,fun k hk => hT.block k (by have:=hB5.size;omega) (by omega) (by omega)⟩)))
  clear hT hs6 hW hF hC5 K15 K25 K35 hS5 hB5 c1 o1 a1 m1 m2 u1 u2
  go_wp2_with fail
  exact leaves_ret (results_cc rfl _ rfl HE.out.1.o hu37 rfl (by rw [size37,hcs]) rfl HE.out.1.a hu39 rfl (by rw [size39];rfl)) ⟨hl,_,rfl,HE.out.2.1,HE.out.2.2⟩
set_option maxRecDepth 100000 in
set_option maxHeartbeats 2000000 in
theorem step_low (W:World) (A:Option Addr) (c:Nat) (l:List S74) (pc used vars fuel:Int) (rs:List S32) (SA:Option Addr) (sc:Nat) (fs:List FrameD) (hC:Kd.C k74 W A l.length l) (hlc:l.length ≤ c) (hl:rs.length=8)
    (hS:Kd.C kF W SA fs.length fs) (hsc:fs.length ≤ sc) (hbig:fs.length ≤ 99999) (h0:codeR l=true) (h1:pc < 0) :
    Calls Try.prog 11 #[.slice A l.length c,.agg (cpuC pc used rs (.slice SA fs.length sc)),.int .i64 vars,.int .i64 fuel] W fun e w' => Stepped W (⟨pc,used,rs,fs⟩,over 4) e w':=by
  have d1:decide (pc < 0)=true:=by simp;omega
  clear h1
  have hu35:=Try.underlying35
  have hu37:=Try.underlying37
  have hu39:=Try.underlying39
  have hu74:=Try.underlying74
  have hu95:=Try.underlying95
  have hmf:∀ (fn:Fn) (first cap:Array Value) (w:World),(Instr.makeFunc fn first cap).run Try.prog w=.ok (.func fn first cap) w:=fun _ _ _ _ => rfl
  obtain ⟨W1,hW1,K1,hB1⟩:=alz W (cpuC pc used rs (.slice SA fs.length sc)) 37
  obtain ⟨W2,hW2,K2,hB2⟩:=alz2 W1
  obtain ⟨W3,hW3,K3,hB3⟩:=alz0 W2
  have hz1:W1.heap.size=W.heap.size + 1:=by rw [← hW1,World.size_alloc]
  have hz2:W2.heap.size=W.heap.size + 1 + 1:=by rw [← hW2,World.size_alloc,hz1]
  have hz3:W3.heap.size=W.heap.size + 1 + 1 + 1:=by rw [← hW3,World.size_alloc,hz2]
  have hB13:=bAfter hB1 (bAfter hB2 hB3)
  have s3:W3.cell? ⟨W.heap.size,18,none⟩=some (.slice SA fs.length sc):=(zG (zE (zE K1 hB2) hB3) 18).trans (cpuC_stk hl)
  have HCl:=Lib.hid (clone_frames SA sc fs W3 (Kd.C_below hS hB13) (by omega))
  have HC0:=Lib.hid hC
  have H0:=Lib.hid (zM (Kd.C_below hC hB13) (zM (zE (zE K1 hB2) hB3) (zM (zE K2 hB3) (zM K3 (zM hB13 (zM hz1 (zM hz2 hz3)))))))
  clear hC hS K1 K2 K3 hB1 hB2 hB3 hB13 hz1 hz2 hz3
  go_enter_defers Try.func11,Try.ntmps11
  go_wp2_with fail
  refine HCl.out.mono ?_
  rintro e w' ⟨v,rfl,hv,hBv⟩
  obtain ⟨SB,sd,rfl⟩:=Kd.R_slice hv
  obtain ⟨hC3,K1,K2,K3,hB13,hz1,hz2,hz3⟩:=H0.out
  have K1v:=zE K1 hBv
  have s4:=zG K1v 18
  rw [cpuC_stk hl] at s4
  have s5:=zH K1v 18
  obtain ⟨W4,hW4⟩:∃ W4,w'.setCell ⟨W.heap.size,18,none⟩ (.slice SB fs.length sd)=W4:=⟨_,rfl⟩
  have hO4:Only W.heap.size w' W4:=by rw [← hW4];exact Only.set w' 18 _
  have K14:W4.heap[W.heap.size]?=some (.cells (cpuC pc used rs (.slice SB fs.length sd)) 37 (0,0)):=by
    rw [← hW4,← cpuC_setStk _ hl]
    exact blk_set K1v 18 _
  have K24:=hO4.mid (zE K2 hBv) (by omega) (B:=0)
  have K34:=hO4.mid (zE K3 hBv) (by omega) (B:=0)
  have hS4:=Stk.only_lt hv hO4 (by omega)
  have hB4:Below W.heap.size W W4:=(hB13.trans (below_le hBv (by omega))).trans (hO4.below (Nat.le_refl _) (by have:=hBv.size;omega))
  have hC0:=HC0.out
  have hC4:Kd.C k74 W4 A l.length l:=Kd.C_below hC0 hB4
  have HR:=Lib.hid (codeRight_calls A c l W4 hC4 hlc)
  rw [h0] at HR
  have H4:=Lib.hid (zM hC4 (zM K14 (zM K24 (zM K34 (zM hS4 (zM hB4 (zM hz1 (zM hz2 hz3))))))))
  clear hC3 K1 K2 K3 hB13 hz1 hz2 hz3 K1v hO4 K14 K24 K34 hS4 hB4 hC4 hv hBv H0 HCl
  go_wp2_with fail
  refine HR.out.mono ?_
  rintro e w5 ⟨rfl,hB5⟩
  obtain ⟨hC4,K14,K24,K34,hS4,hB4,hz1,hz2,hz3⟩:=H4.out
  have K15:=zE K14 hB5
  have p5:w5.cell? ⟨W.heap.size,0,none⟩=some (.int .i64 pc):=zG K15 0
  have p6:w5.cell? ⟨W.heap.size,1,none⟩=some (.int .i64 used):=zG K15 1
  have p7:=zH K15 1
  have hB45:Below W.heap.size W w5:=hB4.trans (below_le hB5 hB4.size)
  have H5:=Lib.hid (zM (Kd.C_below hC4 hB5) (zM K15 (zM (zE K24 hB5) (zM (zE K34 hB5) (zM (hS4.below hB5) (zM hB45 (zM hz1 (zM hz2 hz3))))))))
  clear hC4 K14 K24 K34 hS4 hB4 K15 hB5 hB45 hz1 hz2 hz3 H4
  obtain ⟨hC5,K15,K25,K35,hS5,hB5,-⟩:=H5.out
  have hlt:W.heap.size < W1.heap.size∧W1.heap.size < W2.heap.size∧W2.heap.size < W3.heap.size:=by have h:=H5.out.2.2.2.2.2.2;omega
  obtain ⟨L,hL⟩:∃ L,L=[(W1.heap.size,[Obj.cells #[.int .i64 0,.int .i64 0,.int .i64 0,.int .i64 0,.int .i64 0,.int .i64 0,.int .i64 0,.int .i64 0,.int .i64 0,.int .i64 0,.int .i64 0,.int .i64 0,.int .i64 0,.int .i64 0,.int .i64 0,.int .i64 0,.int .i64 0,.int .i64 0,.slice none 0 0] 37 (0,0),Obj.cells (cpuC pc used rs (.slice SB fs.length sd)) 37 (0,0)]),(W2.heap.size,[Obj.cells #[.int .i64 0,.int .i64 0,.int .i64 0,.int .i64 0,.int .i64 0,.int .i64 0,.int .i64 0] 39 (0,0),Obj.cells (askC 5 0 0 0 0 0 4) 39 (0,0)])]:=⟨_,rfl⟩
  have n3:W1.heap.size ≠ W2.heap.size:=by omega
  have m1:(W1.heap.size,[Obj.cells #[.int .i64 0,.int .i64 0,.int .i64 0,.int .i64 0,.int .i64 0,.int .i64 0,.int .i64 0,.int .i64 0,.int .i64 0,.int .i64 0,.int .i64 0,.int .i64 0,.int .i64 0,.int .i64 0,.int .i64 0,.int .i64 0,.int .i64 0,.int .i64 0,.slice none 0 0] 37 (0,0),Obj.cells (cpuC pc used rs (.slice SB fs.length sd)) 37 (0,0)]) ∈ L:=by subst hL;simp
  have m2:(W2.heap.size,[Obj.cells #[.int .i64 0,.int .i64 0,.int .i64 0,.int .i64 0,.int .i64 0,.int .i64 0,.int .i64 0] 39 (0,0),Obj.cells (askC 5 0 0 0 0 0 4) 39 (0,0)]) ∈ L:=by subst hL;simp
  have u1:∀ p ∈ L,p.1=W1.heap.size → p=(W1.heap.size,[Obj.cells #[.int .i64 0,.int .i64 0,.int .i64 0,.int .i64 0,.int .i64 0,.int .i64 0,.int .i64 0,.int .i64 0,.int .i64 0,.int .i64 0,.int .i64 0,.int .i64 0,.int .i64 0,.int .i64 0,.int .i64 0,.int .i64 0,.int .i64 0,.int .i64 0,.slice none 0 0] 37 (0,0),Obj.cells (cpuC pc used rs (.slice SB fs.length sd)) 37 (0,0)]):=by subst hL;simp;intro h;exact absurd h.symm n3
  have u2:∀ p ∈ L,p.1=W2.heap.size → p=(W2.heap.size,[Obj.cells #[.int .i64 0,.int .i64 0,.int .i64 0,.int .i64 0,.int .i64 0,.int .i64 0,.int .i64 0] 39 (0,0),Obj.cells (askC 5 0 0 0 0 0 4) 39 (0,0)]):=by subst hL;simp;intro h;exact absurd h n3
  have c1:∀ W',Chain L w5 W' → W'.heap[W.heap.size]?=some (.cells (cpuC pc used rs (.slice SB fs.length sd)) 37 (0,0)):=fun W' hB => hB.mid K15 (by subst hL;simp;omega)
  have o1:∀ W',Chain L w5 W' → At W1.heap.size _ 0 W':=fun W' hB => hB.on _ m1 0 ⟨0,_,Nat.le_refl _,rfl,K25⟩
  have a1:∀ W',Chain L w5 W' → At W2.heap.size _ 0 W':=fun W' hB => hB.on _ m2 0 ⟨0,_,Nat.le_refl _,rfl,K35⟩
  have hcs:(cpuC pc used rs (.slice SB fs.length sd)).size=19:=cpuC_size hl
  go_wp2_with fail
  apply GR.wp_region_growsQ (R:=Chain L) (by kernel_rfl) (by kernel_rfl)
  apply GR.gw_val (by rfl)
  · (intro W' hB hD;exact exec_ld rfl (ld_whole (c1 W' hB) hu37 rfl (by rw [size37,hcs])))
  simp only [Act.put,zJ,zK,zL]
  apply GR.gw_call (by rfl)
  · (intro W' hB hD;go_simp;first | done | rfl | exact ⟨rfl,rfl⟩)
  · (intro W' hB hD;exact (ended_calls 4 W').mono fun x w' hh => ⟨hh.1,GR.Rel.ofB hh.2⟩)
  simp only [Act.put,zJ,zK,zL]
  apply GR.gw_skp (stable_At m1 1) (by rfl) (by rfl)
  · intro W' hB hD
    obtain ⟨W'',e1,e2,e3⟩:=chain_whole (ty:=37) m1 u1 (o1 W' hB) (by rw [hcs];rfl) (by rw [size37,hcs]) (cpuC_one _ _ _ _ _ _)
    exact ⟨W'',exec_st rfl e1,e2,e3⟩
  rintro v -
  apply GR.gw_skp (stable_At m2 1) (by rfl) (by rfl)
  · intro W' hB hD
    obtain ⟨W'',e1,e2,e3⟩:=chain_whole (ty:=39) m2 u2 (a1 W' hB) rfl (by rw [size39];rfl) (by simp [Value.oneCell'])
    exact ⟨W'',exec_st rfl e1,e2,e3⟩
  rintro v' -
  apply GR.gw_end
  intro Wa hW hF
  simp [List.forall_mem_append] at hF
  subst hL
  have hT:=Two.of_chain hW hF.1 hF.2
  have hs6:Stk Wa W.heap.size (.slice SB fs.length sd) fs:=Kd.R_lower (Kd.R_mono (Kd.R_step (Kd.R_bound hS5) (fun k hk hlt2 => hT.block k hlt2 (by have:=hk.2.1;omega) (by have:=hk.2.1;omega))) (fun _ _ => trivial)) (by omega)
  have HE:=Lib.hid (zM hT (zM hs6 (hB5.trans ⟨hT.os,hT.tape,hT.output,hT.size,fun k hk => hT.block k (by have:=hB5.size;omega) (by omega) (by omega)⟩)))
  clear hT hs6 hW hF hC5 K15 K25 K35 hS5 hB5 c1 o1 a1 m1 m2 u1 u2
  go_wp2_with fail
  exact leaves_ret (results_cc rfl _ rfl HE.out.1.o hu37 rfl (by rw [size37,hcs]) rfl HE.out.1.a hu39 rfl (by rw [size39];rfl)) ⟨hl,_,rfl,HE.out.2.1,HE.out.2.2⟩
set_option maxRecDepth 100000 in
set_option maxHeartbeats 2000000 in
theorem step_high (W:World) (A:Option Addr) (c:Nat) (l:List S74) (pc used vars fuel:Int) (rs:List S32) (SA:Option Addr) (sc:Nat) (fs:List FrameD) (hC:Kd.C k74 W A l.length l) (hlc:l.length ≤ c) (hl:rs.length=8)
    (hS:Kd.C kF W SA fs.length fs) (hsc:fs.length ≤ sc) (hbig:fs.length ≤ 99999) (h0:codeR l=true) (h1:0 ≤ pc) (h2:(l.length:Int) < pc) :
    Calls Try.prog 11 #[.slice A l.length c,.agg (cpuC pc used rs (.slice SA fs.length sc)),.int .i64 vars,.int .i64 fuel] W fun e w' => Stepped W (⟨pc,used,rs,fs⟩,over 4) e w':=by
  have d1:decide (pc < 0)=false:=by simp;omega
  have d2:decide (pc > (l.length:Int))=true:=by simp;omega
  clear h1 h2
  have hu35:=Try.underlying35
  have hu37:=Try.underlying37
  have hu39:=Try.underlying39
  have hu74:=Try.underlying74
  have hu95:=Try.underlying95
  have hmf:∀ (fn:Fn) (first cap:Array Value) (w:World),(Instr.makeFunc fn first cap).run Try.prog w=.ok (.func fn first cap) w:=fun _ _ _ _ => rfl
  obtain ⟨W1,hW1,K1,hB1⟩:=alz W (cpuC pc used rs (.slice SA fs.length sc)) 37
  obtain ⟨W2,hW2,K2,hB2⟩:=alz2 W1
  obtain ⟨W3,hW3,K3,hB3⟩:=alz0 W2
  have hz1:W1.heap.size=W.heap.size + 1:=by rw [← hW1,World.size_alloc]
  have hz2:W2.heap.size=W.heap.size + 1 + 1:=by rw [← hW2,World.size_alloc,hz1]
  have hz3:W3.heap.size=W.heap.size + 1 + 1 + 1:=by rw [← hW3,World.size_alloc,hz2]
  have hB13:=bAfter hB1 (bAfter hB2 hB3)
  have s3:W3.cell? ⟨W.heap.size,18,none⟩=some (.slice SA fs.length sc):=(zG (zE (zE K1 hB2) hB3) 18).trans (cpuC_stk hl)
  have HCl:=Lib.hid (clone_frames SA sc fs W3 (Kd.C_below hS hB13) (by omega))
  have HC0:=Lib.hid hC
  have H0:=Lib.hid (zM (Kd.C_below hC hB13) (zM (zE (zE K1 hB2) hB3) (zM (zE K2 hB3) (zM K3 (zM hB13 (zM hz1 (zM hz2 hz3)))))))
  clear hC hS K1 K2 K3 hB1 hB2 hB3 hB13 hz1 hz2 hz3
  go_enter_defers Try.func11,Try.ntmps11
  go_wp2_with fail
  refine HCl.out.mono ?_
  rintro e w' ⟨v,rfl,hv,hBv⟩
  obtain ⟨SB,sd,rfl⟩:=Kd.R_slice hv
  obtain ⟨hC3,K1,K2,K3,hB13,hz1,hz2,hz3⟩:=H0.out
  have K1v:=zE K1 hBv
  have s4:=zG K1v 18
  rw [cpuC_stk hl] at s4
  have s5:=zH K1v 18
  obtain ⟨W4,hW4⟩:∃ W4,w'.setCell ⟨W.heap.size,18,none⟩ (.slice SB fs.length sd)=W4:=⟨_,rfl⟩
  have hO4:Only W.heap.size w' W4:=by rw [← hW4];exact Only.set w' 18 _
  have K14:W4.heap[W.heap.size]?=some (.cells (cpuC pc used rs (.slice SB fs.length sd)) 37 (0,0)):=by
    rw [← hW4,← cpuC_setStk _ hl]
    exact blk_set K1v 18 _
  have K24:=hO4.mid (zE K2 hBv) (by omega) (B:=0)
  have K34:=hO4.mid (zE K3 hBv) (by omega) (B:=0)
  have hS4:=Stk.only_lt hv hO4 (by omega)
  have hB4:Below W.heap.size W W4:=(hB13.trans (below_le hBv (by omega))).trans (hO4.below (Nat.le_refl _) (by have:=hBv.size;omega))
  have hC0:=HC0.out
  have hC4:Kd.C k74 W4 A l.length l:=Kd.C_below hC0 hB4
  have HR:=Lib.hid (codeRight_calls A c l W4 hC4 hlc)
  rw [h0] at HR
  have H4:=Lib.hid (zM hC4 (zM K14 (zM K24 (zM K34 (zM hS4 (zM hB4 (zM hz1 (zM hz2 hz3))))))))
  clear hC3 K1 K2 K3 hB13 hz1 hz2 hz3 K1v hO4 K14 K24 K34 hS4 hB4 hC4 hv hBv H0 HCl
  go_wp2_with fail
  refine HR.out.mono ?_
  rintro e w5 ⟨rfl,hB5⟩
  obtain ⟨hC4,K14,K24,K34,hS4,hB4,hz1,hz2,hz3⟩:=H4.out
  have K15:=zE K14 hB5
  have p5:w5.cell? ⟨W.heap.size,0,none⟩=some (.int .i64 pc):=zG K15 0
  have p6:w5.cell? ⟨W.heap.size,1,none⟩=some (.int .i64 used):=zG K15 1
  have p7:=zH K15 1
  have hB45:Below W.heap.size W w5:=hB4.trans (below_le hB5 hB4.size)
  have H5:=Lib.hid (zM (Kd.C_below hC4 hB5) (zM K15 (zM (zE K24 hB5) (zM (zE K34 hB5) (zM (hS4.below hB5) (zM hB45 (zM hz1 (zM hz2 hz3))))))))
  clear hC4 K14 K24 K34 hS4 hB4 K15 hB5 hB45 hz1 hz2 hz3 H4
  obtain ⟨hC5,K15,K25,K35,hS5,hB5,-⟩:=H5.out
  have hlt:W.heap.size < W1.heap.size∧W1.heap.size < W2.heap.size∧W2.heap.size < W3.heap.size:=by have h:=H5.out.2.2.2.2.2.2;omega
  obtain ⟨L,hL⟩:∃ L,L=[(W1.heap.size,[Obj.cells #[.int .i64 0,.int .i64 0,.int .i64 0,.int .i64 0,.int .i64 0,.int .i64 0,.int .i64 0,.int .i64 0,.int .i64 0,.int .i64 0,.int .i64 0,.int .i64 0,.int .i64 0,.int .i64 0,.int .i64 0,.int .i64 0,.int .i64 0,.int .i64 0,.slice none 0 0] 37 (0,0),Obj.cells (cpuC pc used rs (.slice SB fs.length sd)) 37 (0,0)]),(W2.heap.size,[Obj.cells #[.int .i64 0,.int .i64 0,.int .i64 0,.int .i64 0,.int .i64 0,.int .i64 0,.int .i64 0] 39 (0,0),Obj.cells (askC 5 0 0 0 0 0 4) 39 (0,0)])]:=⟨_,rfl⟩
  have n3:W1.heap.size ≠ W2.heap.size:=by omega
  have m1:(W1.heap.size,[Obj.cells #[.int .i64 0,.int .i64 0,.int .i64 0,.int .i64 0,.int .i64 0,.int .i64 0,.int .i64 0,.int .i64 0,.int .i64 0,.int .i64 0,.int .i64 0,.int .i64 0,.int .i64 0,.int .i64 0,.int .i64 0,.int .i64 0,.int .i64 0,.int .i64 0,.slice none 0 0] 37 (0,0),Obj.cells (cpuC pc used rs (.slice SB fs.length sd)) 37 (0,0)]) ∈ L:=by subst hL;simp
  have m2:(W2.heap.size,[Obj.cells #[.int .i64 0,.int .i64 0,.int .i64 0,.int .i64 0,.int .i64 0,.int .i64 0,.int .i64 0] 39 (0,0),Obj.cells (askC 5 0 0 0 0 0 4) 39 (0,0)]) ∈ L:=by subst hL;simp
  have u1:∀ p ∈ L,p.1=W1.heap.size → p=(W1.heap.size,[Obj.cells #[.int .i64 0,.int .i64 0,.int .i64 0,.int .i64 0,.int .i64 0,.int .i64 0,.int .i64 0,.int .i64 0,.int .i64 0,.int .i64 0,.int .i64 0,.int .i64 0,.int .i64 0,.int .i64 0,.int .i64 0,.int .i64 0,.int .i64 0,.int .i64 0,.slice none 0 0] 37 (0,0),Obj.cells (cpuC pc used rs (.slice SB fs.length sd)) 37 (0,0)]):=by subst hL;simp;intro h;exact absurd h.symm n3
  have u2:∀ p ∈ L,p.1=W2.heap.size → p=(W2.heap.size,[Obj.cells #[.int .i64 0,.int .i64 0,.int .i64 0,.int .i64 0,.int .i64 0,.int .i64 0,.int .i64 0] 39 (0,0),Obj.cells (askC 5 0 0 0 0 0 4) 39 (0,0)]):=by subst hL;simp;intro h;exact absurd h n3
  have c1:∀ W',Chain L w5 W' → W'.heap[W.heap.size]?=some (.cells (cpuC pc used rs (.slice SB fs.length sd)) 37 (0,0)):=fun W' hB => hB.mid K15 (by subst hL;simp;omega)
  have o1:∀ W',Chain L w5 W' → At W1.heap.size _ 0 W':=fun W' hB => hB.on _ m1 0 ⟨0,_,Nat.le_refl _,rfl,K25⟩
  have a1:∀ W',Chain L w5 W' → At W2.heap.size _ 0 W':=fun W' hB => hB.on _ m2 0 ⟨0,_,Nat.le_refl _,rfl,K35⟩
  have hcs:(cpuC pc used rs (.slice SB fs.length sd)).size=19:=cpuC_size hl
  go_wp2_with fail
  apply GR.wp_region_growsQ (R:=Chain L) (by kernel_rfl) (by kernel_rfl)
  apply GR.gw_val (by rfl)
  · (intro W' hB hD;exact exec_ld rfl (ld_whole (c1 W' hB) hu37 rfl (by rw [size37,hcs])))
  simp only [Act.put,zJ,zK,zL]
  apply GR.gw_call (by rfl)
  · (intro W' hB hD;go_simp;first | done | rfl | exact ⟨rfl,rfl⟩)
  · (intro W' hB hD;exact (ended_calls 4 W').mono fun x w' hh => ⟨hh.1,GR.Rel.ofB hh.2⟩)
  simp only [Act.put,zJ,zK,zL]
  apply GR.gw_skp (stable_At m1 1) (by rfl) (by rfl)
  · intro W' hB hD
    obtain ⟨W'',e1,e2,e3⟩:=chain_whole (ty:=37) m1 u1 (o1 W' hB) (by rw [hcs];rfl) (by rw [size37,hcs]) (cpuC_one _ _ _ _ _ _)
    exact ⟨W'',exec_st rfl e1,e2,e3⟩
  rintro v -
  apply GR.gw_skp (stable_At m2 1) (by rfl) (by rfl)
  · intro W' hB hD
    obtain ⟨W'',e1,e2,e3⟩:=chain_whole (ty:=39) m2 u2 (a1 W' hB) rfl (by rw [size39];rfl) (by simp [Value.oneCell'])
    exact ⟨W'',exec_st rfl e1,e2,e3⟩
  rintro v' -
  apply GR.gw_end
  intro Wa hW hF
  simp [List.forall_mem_append] at hF
  subst hL
  have hT:=Two.of_chain hW hF.1 hF.2
  have hs6:Stk Wa W.heap.size (.slice SB fs.length sd) fs:=Kd.R_lower (Kd.R_mono (Kd.R_step (Kd.R_bound hS5) (fun k hk hlt2 => hT.block k hlt2 (by have:=hk.2.1;omega) (by have:=hk.2.1;omega))) (fun _ _ => trivial)) (by omega)
  have HE:=Lib.hid (zM hT (zM hs6 (hB5.trans ⟨hT.os,hT.tape,hT.output,hT.size,fun k hk => hT.block k (by have:=hB5.size;omega) (by omega) (by omega)⟩)))
  clear hT hs6 hW hF hC5 K15 K25 K35 hS5 hB5 c1 o1 a1 m1 m2 u1 u2
  go_wp2_with fail
  exact leaves_ret (results_cc rfl _ rfl HE.out.1.o hu37 rfl (by rw [size37,hcs]) rfl HE.out.1.a hu39 rfl (by rw [size39];rfl)) ⟨hl,_,rfl,HE.out.2.1,HE.out.2.2⟩
set_option maxRecDepth 100000 in
set_option maxHeartbeats 2000000 in
theorem step_end (W:World) (A:Option Addr) (c:Nat) (l:List S74) (pc used vars fuel:Int) (rs:List S32) (SA:Option Addr) (sc:Nat) (fs:List FrameD) (hC:Kd.C k74 W A l.length l) (hlc:l.length ≤ c) (hl:rs.length=8)
    (hS:Kd.C kF W SA fs.length fs) (hsc:fs.length ≤ sc) (hbig:fs.length ≤ 99999) (h0:codeR l=true) (h1:0 ≤ pc) (h2:pc=l.length) :
    Calls Try.prog 11 #[.slice A l.length c,.agg (cpuC pc used rs (.slice SA fs.length sc)),.int .i64 vars,.int .i64 fuel] W fun e w' => Stepped W (⟨pc,used,rs,fs⟩,over 0) e w':=by
  have d1:decide (pc < 0)=false:=by simp;omega
  have d2:decide (pc > (l.length:Int))=false:=by simp;omega
  have d3:(pc == (l.length:Int))=true:=by simp;omega
  clear h1 h2
  have hu35:=Try.underlying35
  have hu37:=Try.underlying37
  have hu39:=Try.underlying39
  have hu74:=Try.underlying74
  have hu95:=Try.underlying95
  have hmf:∀ (fn:Fn) (first cap:Array Value) (w:World),(Instr.makeFunc fn first cap).run Try.prog w=.ok (.func fn first cap) w:=fun _ _ _ _ => rfl
  obtain ⟨W1,hW1,K1,hB1⟩:=alz W (cpuC pc used rs (.slice SA fs.length sc)) 37
  obtain ⟨W2,hW2,K2,hB2⟩:=alz2 W1
  obtain ⟨W3,hW3,K3,hB3⟩:=alz0 W2
  have hz1:W1.heap.size=W.heap.size + 1:=by rw [← hW1,World.size_alloc]
  have hz2:W2.heap.size=W.heap.size + 1 + 1:=by rw [← hW2,World.size_alloc,hz1]
  have hz3:W3.heap.size=W.heap.size + 1 + 1 + 1:=by rw [← hW3,World.size_alloc,hz2]
  have hB13:=bAfter hB1 (bAfter hB2 hB3)
  have s3:W3.cell? ⟨W.heap.size,18,none⟩=some (.slice SA fs.length sc):=(zG (zE (zE K1 hB2) hB3) 18).trans (cpuC_stk hl)
  have HCl:=Lib.hid (clone_frames SA sc fs W3 (Kd.C_below hS hB13) (by omega))
  have HC0:=Lib.hid hC
  have H0:=Lib.hid (zM (Kd.C_below hC hB13) (zM (zE (zE K1 hB2) hB3) (zM (zE K2 hB3) (zM K3 (zM hB13 (zM hz1 (zM hz2 hz3)))))))
  clear hC hS K1 K2 K3 hB1 hB2 hB3 hB13 hz1 hz2 hz3
  go_enter_defers Try.func11,Try.ntmps11
  go_wp2_with fail
  refine HCl.out.mono ?_
  rintro e w' ⟨v,rfl,hv,hBv⟩
  obtain ⟨SB,sd,rfl⟩:=Kd.R_slice hv
  obtain ⟨hC3,K1,K2,K3,hB13,hz1,hz2,hz3⟩:=H0.out
  have K1v:=zE K1 hBv
  have s4:=zG K1v 18
  rw [cpuC_stk hl] at s4
  have s5:=zH K1v 18
  obtain ⟨W4,hW4⟩:∃ W4,w'.setCell ⟨W.heap.size,18,none⟩ (.slice SB fs.length sd)=W4:=⟨_,rfl⟩
  have hO4:Only W.heap.size w' W4:=by rw [← hW4];exact Only.set w' 18 _
  have K14:W4.heap[W.heap.size]?=some (.cells (cpuC pc used rs (.slice SB fs.length sd)) 37 (0,0)):=by
    rw [← hW4,← cpuC_setStk _ hl]
    exact blk_set K1v 18 _
  have K24:=hO4.mid (zE K2 hBv) (by omega) (B:=0)
  have K34:=hO4.mid (zE K3 hBv) (by omega) (B:=0)
  have hS4:=Stk.only_lt hv hO4 (by omega)
  have hB4:Below W.heap.size W W4:=(hB13.trans (below_le hBv (by omega))).trans (hO4.below (Nat.le_refl _) (by have:=hBv.size;omega))
  have hC0:=HC0.out
  have hC4:Kd.C k74 W4 A l.length l:=Kd.C_below hC0 hB4
  have HR:=Lib.hid (codeRight_calls A c l W4 hC4 hlc)
  rw [h0] at HR
  have H4:=Lib.hid (zM hC4 (zM K14 (zM K24 (zM K34 (zM hS4 (zM hB4 (zM hz1 (zM hz2 hz3))))))))
  clear hC3 K1 K2 K3 hB13 hz1 hz2 hz3 K1v hO4 K14 K24 K34 hS4 hB4 hC4 hv hBv H0 HCl
  go_wp2_with fail
  refine HR.out.mono ?_
  rintro e w5 ⟨rfl,hB5⟩
  obtain ⟨hC4,K14,K24,K34,hS4,hB4,hz1,hz2,hz3⟩:=H4.out
  have K15:=zE K14 hB5
  have p5:w5.cell? ⟨W.heap.size,0,none⟩=some (.int .i64 pc):=zG K15 0
  have p6:w5.cell? ⟨W.heap.size,1,none⟩=some (.int .i64 used):=zG K15 1
  have p7:=zH K15 1
  have hB45:Below W.heap.size W w5:=hB4.trans (below_le hB5 hB4.size)
  have H5:=Lib.hid (zM (Kd.C_below hC4 hB5) (zM K15 (zM (zE K24 hB5) (zM (zE K34 hB5) (zM (hS4.below hB5) (zM hB45 (zM hz1 (zM hz2 hz3))))))))
  clear hC4 K14 K24 K34 hS4 hB4 K15 hB5 hB45 hz1 hz2 hz3 H4
  obtain ⟨hC5,K15,K25,K35,hS5,hB5,-⟩:=H5.out
  have hlt:W.heap.size < W1.heap.size∧W1.heap.size < W2.heap.size∧W2.heap.size < W3.heap.size:=by have h:=H5.out.2.2.2.2.2.2;omega
  obtain ⟨L,hL⟩:∃ L,L=[(W1.heap.size,[Obj.cells #[.int .i64 0,.int .i64 0,.int .i64 0,.int .i64 0,.int .i64 0,.int .i64 0,.int .i64 0,.int .i64 0,.int .i64 0,.int .i64 0,.int .i64 0,.int .i64 0,.int .i64 0,.int .i64 0,.int .i64 0,.int .i64 0,.int .i64 0,.int .i64 0,.slice none 0 0] 37 (0,0),Obj.cells (cpuC pc used rs (.slice SB fs.length sd)) 37 (0,0)]),(W2.heap.size,[Obj.cells #[.int .i64 0,.int .i64 0,.int .i64 0,.int .i64 0,.int .i64 0,.int .i64 0,.int .i64 0] 39 (0,0),Obj.cells (askC 5 0 0 0 0 0 0) 39 (0,0)])]:=⟨_,rfl⟩
  have n3:W1.heap.size ≠ W2.heap.size:=by omega
  have m1:(W1.heap.size,[Obj.cells #[.int .i64 0,.int .i64 0,.int .i64 0,.int .i64 0,.int .i64 0,.int .i64 0,.int .i64 0,.int .i64 0,.int .i64 0,.int .i64 0,.int .i64 0,.int .i64 0,.int .i64 0,.int .i64 0,.int .i64 0,.int .i64 0,.int .i64 0,.int .i64 0,.slice none 0 0] 37 (0,0),Obj.cells (cpuC pc used rs (.slice SB fs.length sd)) 37 (0,0)]) ∈ L:=by subst hL;simp
  have m2:(W2.heap.size,[Obj.cells #[.int .i64 0,.int .i64 0,.int .i64 0,.int .i64 0,.int .i64 0,.int .i64 0,.int .i64 0] 39 (0,0),Obj.cells (askC 5 0 0 0 0 0 0) 39 (0,0)]) ∈ L:=by subst hL;simp
  have u1:∀ p ∈ L,p.1=W1.heap.size → p=(W1.heap.size,[Obj.cells #[.int .i64 0,.int .i64 0,.int .i64 0,.int .i64 0,.int .i64 0,.int .i64 0,.int .i64 0,.int .i64 0,.int .i64 0,.int .i64 0,.int .i64 0,.int .i64 0,.int .i64 0,.int .i64 0,.int .i64 0,.int .i64 0,.int .i64 0,.int .i64 0,.slice none 0 0] 37 (0,0),Obj.cells (cpuC pc used rs (.slice SB fs.length sd)) 37 (0,0)]):=by subst hL;simp;intro h;exact absurd h.symm n3
  have u2:∀ p ∈ L,p.1=W2.heap.size → p=(W2.heap.size,[Obj.cells #[.int .i64 0,.int .i64 0,.int .i64 0,.int .i64 0,.int .i64 0,.int .i64 0,.int .i64 0] 39 (0,0),Obj.cells (askC 5 0 0 0 0 0 0) 39 (0,0)]):=by subst hL;simp;intro h;exact absurd h n3
  have c1:∀ W',Chain L w5 W' → W'.heap[W.heap.size]?=some (.cells (cpuC pc used rs (.slice SB fs.length sd)) 37 (0,0)):=fun W' hB => hB.mid K15 (by subst hL;simp;omega)
  have o1:∀ W',Chain L w5 W' → At W1.heap.size _ 0 W':=fun W' hB => hB.on _ m1 0 ⟨0,_,Nat.le_refl _,rfl,K25⟩
  have a1:∀ W',Chain L w5 W' → At W2.heap.size _ 0 W':=fun W' hB => hB.on _ m2 0 ⟨0,_,Nat.le_refl _,rfl,K35⟩
  have hcs:(cpuC pc used rs (.slice SB fs.length sd)).size=19:=cpuC_size hl
  go_wp2_with fail
  apply GR.wp_region_growsQ (R:=Chain L) (by kernel_rfl) (by kernel_rfl)
  apply GR.gw_val (by rfl)
  · (intro W' hB hD;exact exec_ld rfl (ld_whole (c1 W' hB) hu37 rfl (by rw [size37,hcs])))
  simp only [Act.put,zJ,zK,zL]
  apply GR.gw_call (by rfl)
  · (intro W' hB hD;go_simp;first | done | rfl | exact ⟨rfl,rfl⟩)
  · (intro W' hB hD;exact (ended_calls 0 W').mono fun x w' hh => ⟨hh.1,GR.Rel.ofB hh.2⟩)
  simp only [Act.put,zJ,zK,zL]
  apply GR.gw_skp (stable_At m1 1) (by rfl) (by rfl)
  · intro W' hB hD
    obtain ⟨W'',e1,e2,e3⟩:=chain_whole (ty:=37) m1 u1 (o1 W' hB) (by rw [hcs];rfl) (by rw [size37,hcs]) (cpuC_one _ _ _ _ _ _)
    exact ⟨W'',exec_st rfl e1,e2,e3⟩
  rintro v -
  apply GR.gw_skp (stable_At m2 1) (by rfl) (by rfl)
  · intro W' hB hD
    obtain ⟨W'',e1,e2,e3⟩:=chain_whole (ty:=39) m2 u2 (a1 W' hB) rfl (by rw [size39];rfl) (by simp [Value.oneCell'])
    exact ⟨W'',exec_st rfl e1,e2,e3⟩
  rintro v' -
  apply GR.gw_end
  intro Wa hW hF
  simp [List.forall_mem_append] at hF
  subst hL
  have hT:=Two.of_chain hW hF.1 hF.2
  have hs6:Stk Wa W.heap.size (.slice SB fs.length sd) fs:=Kd.R_lower (Kd.R_mono (Kd.R_step (Kd.R_bound hS5) (fun k hk hlt2 => hT.block k hlt2 (by have:=hk.2.1;omega) (by have:=hk.2.1;omega))) (fun _ _ => trivial)) (by omega)
  have HE:=Lib.hid (zM hT (zM hs6 (hB5.trans ⟨hT.os,hT.tape,hT.output,hT.size,fun k hk => hT.block k (by have:=hB5.size;omega) (by omega) (by omega)⟩)))
  clear hT hs6 hW hF hC5 K15 K25 K35 hS5 hB5 c1 o1 a1 m1 m2 u1 u2
  go_wp2_with fail
  exact leaves_ret (results_cc rfl _ rfl HE.out.1.o hu37 rfl (by rw [size37,hcs]) rfl HE.out.1.a hu39 rfl (by rw [size39];rfl)) ⟨hl,_,rfl,HE.out.2.1,HE.out.2.2⟩
set_option maxRecDepth 100000 in
set_option maxHeartbeats 2000000 in
theorem step_fuel (W:World) (A:Option Addr) (c:Nat) (l:List S74) (pc used vars fuel:Int) (rs:List S32) (SA:Option Addr) (sc:Nat) (fs:List FrameD) (hC:Kd.C k74 W A l.length l) (hlc:l.length ≤ c) (hl:rs.length=8)
    (hS:Kd.C kF W SA fs.length fs) (hsc:fs.length ≤ sc) (hbig:fs.length ≤ 99999) (h0:codeR l=true) (h1:0 ≤ pc) (h2:pc < l.length) (h3:fuel ≤ used) :
    Calls Try.prog 11 #[.slice A l.length c,.agg (cpuC pc used rs (.slice SA fs.length sc)),.int .i64 vars,.int .i64 fuel] W fun e w' => Stepped W (⟨pc,used,rs,fs⟩,over 3) e w':=by
  have d1:decide (pc < 0)=false:=by simp;omega
  have d2:decide (pc > (l.length:Int))=false:=by simp;omega
  have d3:(pc == (l.length:Int))=false:=by simp;omega
  have d4:decide (used ≥ fuel)=true:=by simp;omega
  clear h1 h2 h3
  have hu35:=Try.underlying35
  have hu37:=Try.underlying37
  have hu39:=Try.underlying39
  have hu74:=Try.underlying74
  have hu95:=Try.underlying95
  have hmf:∀ (fn:Fn) (first cap:Array Value) (w:World),(Instr.makeFunc fn first cap).run Try.prog w=.ok (.func fn first cap) w:=fun _ _ _ _ => rfl
  obtain ⟨W1,hW1,K1,hB1⟩:=alz W (cpuC pc used rs (.slice SA fs.length sc)) 37
  obtain ⟨W2,hW2,K2,hB2⟩:=alz2 W1
  obtain ⟨W3,hW3,K3,hB3⟩:=alz0 W2
  have hz1:W1.heap.size=W.heap.size + 1:=by rw [← hW1,World.size_alloc]
  have hz2:W2.heap.size=W.heap.size + 1 + 1:=by rw [← hW2,World.size_alloc,hz1]
  have hz3:W3.heap.size=W.heap.size + 1 + 1 + 1:=by rw [← hW3,World.size_alloc,hz2]
  have hB13:=bAfter hB1 (bAfter hB2 hB3)
  have s3:W3.cell? ⟨W.heap.size,18,none⟩=some (.slice SA fs.length sc):=(zG (zE (zE K1 hB2) hB3) 18).trans (cpuC_stk hl)
  have HCl:=Lib.hid (clone_frames SA sc fs W3 (Kd.C_below hS hB13) (by omega))
  have HC0:=Lib.hid hC
  have H0:=Lib.hid (zM (Kd.C_below hC hB13) (zM (zE (zE K1 hB2) hB3) (zM (zE K2 hB3) (zM K3 (zM hB13 (zM hz1 (zM hz2 hz3)))))))
  clear hC hS K1 K2 K3 hB1 hB2 hB3 hB13 hz1 hz2 hz3
  go_enter_defers Try.func11,Try.ntmps11
  go_wp2_with fail
  refine HCl.out.mono ?_
  rintro e w' ⟨v,rfl,hv,hBv⟩
  obtain ⟨SB,sd,rfl⟩:=Kd.R_slice hv
  obtain ⟨hC3,K1,K2,K3,hB13,hz1,hz2,hz3⟩:=H0.out
  have K1v:=zE K1 hBv
  have s4:=zG K1v 18
  rw [cpuC_stk hl] at s4
  have s5:=zH K1v 18
  obtain ⟨W4,hW4⟩:∃ W4,w'.setCell ⟨W.heap.size,18,none⟩ (.slice SB fs.length sd)=W4:=⟨_,rfl⟩
  have hO4:Only W.heap.size w' W4:=by rw [← hW4];exact Only.set w' 18 _
  have K14:W4.heap[W.heap.size]?=some (.cells (cpuC pc used rs (.slice SB fs.length sd)) 37 (0,0)):=by
    rw [← hW4,← cpuC_setStk _ hl]
    exact blk_set K1v 18 _
  have K24:=hO4.mid (zE K2 hBv) (by omega) (B:=0)
  have K34:=hO4.mid (zE K3 hBv) (by omega) (B:=0)
  have hS4:=Stk.only_lt hv hO4 (by omega)
  have hB4:Below W.heap.size W W4:=(hB13.trans (below_le hBv (by omega))).trans (hO4.below (Nat.le_refl _) (by have:=hBv.size;omega))
  have hC0:=HC0.out
  have hC4:Kd.C k74 W4 A l.length l:=Kd.C_below hC0 hB4
  have HR:=Lib.hid (codeRight_calls A c l W4 hC4 hlc)
  rw [h0] at HR
  have H4:=Lib.hid (zM hC4 (zM K14 (zM K24 (zM K34 (zM hS4 (zM hB4 (zM hz1 (zM hz2 hz3))))))))
  clear hC3 K1 K2 K3 hB13 hz1 hz2 hz3 K1v hO4 K14 K24 K34 hS4 hB4 hC4 hv hBv H0 HCl
  go_wp2_with fail
  refine HR.out.mono ?_
  rintro e w5 ⟨rfl,hB5⟩
  obtain ⟨hC4,K14,K24,K34,hS4,hB4,hz1,hz2,hz3⟩:=H4.out
  have K15:=zE K14 hB5
  have p5:w5.cell? ⟨W.heap.size,0,none⟩=some (.int .i64 pc):=zG K15 0
  have p6:w5.cell? ⟨W.heap.size,1,none⟩=some (.int .i64 used):=zG K15 1
  have p7:=zH K15 1
  have hB45:Below W.heap.size W w5:=hB4.trans (below_le hB5 hB4.size)
  have H5:=Lib.hid (zM (Kd.C_below hC4 hB5) (zM K15 (zM (zE K24 hB5) (zM (zE K34 hB5) (zM (hS4.below hB5) (zM hB45 (zM hz1 (zM hz2 hz3))))))))
  clear hC4 K14 K24 K34 hS4 hB4 K15 hB5 hB45 hz1 hz2 hz3 H4
  obtain ⟨hC5,K15,K25,K35,hS5,hB5,-⟩:=H5.out
  have hlt:W.heap.size < W1.heap.size∧W1.heap.size < W2.heap.size∧W2.heap.size < W3.heap.size:=by have h:=H5.out.2.2.2.2.2.2;omega
  obtain ⟨L,hL⟩:∃ L,L=[(W1.heap.size,[Obj.cells #[.int .i64 0,.int .i64 0,.int .i64 0,.int .i64 0,.int .i64 0,.int .i64 0,.int .i64 0,.int .i64 0,.int .i64 0,.int .i64 0,.int .i64 0,.int .i64 0,.int .i64 0,.int .i64 0,.int .i64 0,.int .i64 0,.int .i64 0,.int .i64 0,.slice none 0 0] 37 (0,0),Obj.cells (cpuC pc used rs (.slice SB fs.length sd)) 37 (0,0)]),(W2.heap.size,[Obj.cells #[.int .i64 0,.int .i64 0,.int .i64 0,.int .i64 0,.int .i64 0,.int .i64 0,.int .i64 0] 39 (0,0),Obj.cells (askC 5 0 0 0 0 0 3) 39 (0,0)])]:=⟨_,rfl⟩
  have n3:W1.heap.size ≠ W2.heap.size:=by omega
  have m1:(W1.heap.size,[Obj.cells #[.int .i64 0,.int .i64 0,.int .i64 0,.int .i64 0,.int .i64 0,.int .i64 0,.int .i64 0,.int .i64 0,.int .i64 0,.int .i64 0,.int .i64 0,.int .i64 0,.int .i64 0,.int .i64 0,.int .i64 0,.int .i64 0,.int .i64 0,.int .i64 0,.slice none 0 0] 37 (0,0),Obj.cells (cpuC pc used rs (.slice SB fs.length sd)) 37 (0,0)]) ∈ L:=by subst hL;simp
  have m2:(W2.heap.size,[Obj.cells #[.int .i64 0,.int .i64 0,.int .i64 0,.int .i64 0,.int .i64 0,.int .i64 0,.int .i64 0] 39 (0,0),Obj.cells (askC 5 0 0 0 0 0 3) 39 (0,0)]) ∈ L:=by subst hL;simp
  have u1:∀ p ∈ L,p.1=W1.heap.size → p=(W1.heap.size,[Obj.cells #[.int .i64 0,.int .i64 0,.int .i64 0,.int .i64 0,.int .i64 0,.int .i64 0,.int .i64 0,.int .i64 0,.int .i64 0,.int .i64 0,.int .i64 0,.int .i64 0,.int .i64 0,.int .i64 0,.int .i64 0,.int .i64 0,.int .i64 0,.int .i64 0,.slice none 0 0] 37 (0,0),Obj.cells (cpuC pc used rs (.slice SB fs.length sd)) 37 (0,0)]):=by subst hL;simp;intro h;exact absurd h.symm n3
  have u2:∀ p ∈ L,p.1=W2.heap.size → p=(W2.heap.size,[Obj.cells #[.int .i64 0,.int .i64 0,.int .i64 0,.int .i64 0,.int .i64 0,.int .i64 0,.int .i64 0] 39 (0,0),Obj.cells (askC 5 0 0 0 0 0 3) 39 (0,0)]):=by subst hL;simp;intro h;exact absurd h n3
  have c1:∀ W',Chain L w5 W' → W'.heap[W.heap.size]?=some (.cells (cpuC pc used rs (.slice SB fs.length sd)) 37 (0,0)):=fun W' hB => hB.mid K15 (by subst hL;simp;omega)
  have o1:∀ W',Chain L w5 W' → At W1.heap.size _ 0 W':=fun W' hB => hB.on _ m1 0 ⟨0,_,Nat.le_refl _,rfl,K25⟩
  have a1:∀ W',Chain L w5 W' → At W2.heap.size _ 0 W':=fun W' hB => hB.on _ m2 0 ⟨0,_,Nat.le_refl _,rfl,K35⟩
  have hcs:(cpuC pc used rs (.slice SB fs.length sd)).size=19:=cpuC_size hl
  go_wp2_with fail
  apply GR.wp_region_growsQ (R:=Chain L) (by kernel_rfl) (by kernel_rfl)
  apply GR.gw_val (by rfl)
  · (intro W' hB hD;exact exec_ld rfl (ld_whole (c1 W' hB) hu37 rfl (by rw [size37,hcs])))
  simp only [Act.put,zJ,zK,zL]
  apply GR.gw_call (by rfl)
  · (intro W' hB hD;go_simp;first | done | rfl | exact ⟨rfl,rfl⟩)
  · (intro W' hB hD;exact (ended_calls 3 W').mono fun x w' hh => ⟨hh.1,GR.Rel.ofB hh.2⟩)
  simp only [Act.put,zJ,zK,zL]
  apply GR.gw_skp (stable_At m1 1) (by rfl) (by rfl)
  · intro W' hB hD
    obtain ⟨W'',e1,e2,e3⟩:=chain_whole (ty:=37) m1 u1 (o1 W' hB) (by rw [hcs];rfl) (by rw [size37,hcs]) (cpuC_one _ _ _ _ _ _)
    exact ⟨W'',exec_st rfl e1,e2,e3⟩
  rintro v -
  apply GR.gw_skp (stable_At m2 1) (by rfl) (by rfl)
  · intro W' hB hD
    obtain ⟨W'',e1,e2,e3⟩:=chain_whole (ty:=39) m2 u2 (a1 W' hB) rfl (by rw [size39];rfl) (by simp [Value.oneCell'])
    exact ⟨W'',exec_st rfl e1,e2,e3⟩
  rintro v' -
  apply GR.gw_end
  intro Wa hW hF
  simp [List.forall_mem_append] at hF
  subst hL
  have hT:=Two.of_chain hW hF.1 hF.2
  have hs6:Stk Wa W.heap.size (.slice SB fs.length sd) fs:=Kd.R_lower (Kd.R_mono (Kd.R_step (Kd.R_bound hS5) (fun k hk hlt2 => hT.block k hlt2 (by have:=hk.2.1;omega) (by have:=hk.2.1;omega))) (fun _ _ => trivial)) (by omega)
  have HE:=Lib.hid (zM hT (zM hs6 (hB5.trans ⟨hT.os,hT.tape,hT.output,hT.size,fun k hk => hT.block k (by have:=hB5.size;omega) (by omega) (by omega)⟩)))
  clear hT hs6 hW hF hC5 K15 K25 K35 hS5 hB5 c1 o1 a1 m1 m2 u1 u2
  go_wp2_with fail
  exact leaves_ret (results_cc rfl _ rfl HE.out.1.o hu37 rfl (by rw [size37,hcs]) rfl HE.out.1.a hu39 rfl (by rw [size39];rfl)) ⟨hl,_,rfl,HE.out.2.1,HE.out.2.2⟩
set_option maxRecDepth 100000 in
set_option maxHeartbeats 2000000 in
theorem step_gave (W:World) (A:Option Addr) (c:Nat) (l:List S74) (pc used vars fuel:Int) (rs:List S32) (SA:Option Addr) (sc:Nat) (fs:List FrameD) (hC:Kd.C k74 W A l.length l) (hlc:l.length ≤ c) (hl:rs.length=8)
    (hS:Kd.C kF W SA fs.length fs) (hsc:fs.length ≤ sc) (hbig:fs.length ≤ 99999) (h0:codeR l=true) (hp0:0 ≤ pc) (hp1:pc < l.length) (o:S74) (ho:l[pc.toNat]?=some o) (hok:OpOK o) (h3:used < fuel) (hrg:∀ v ∈ rs,-9223372036854775808 ≤ v.f1∧v.f1 < 9223372036854775808) (x:Int) (hdo:doesP ⟨pc,wrap64 (used + 1),rs,fs⟩ o vars=.inl x) :
    Calls Try.prog 11 #[.slice A l.length c,.agg (cpuC pc used rs (.slice SA fs.length sc)),.int .i64 vars,.int .i64 fuel] W fun e w' => Stepped W (⟨pc,wrap64 (used + 1),rs,fs⟩,over x) e w':=by
  have d1:decide (pc < 0)=false:=by simp;omega
  have d2:decide (pc > (l.length:Int))=false:=by simp;omega
  have d3:(pc == (l.length:Int))=false:=by simp;omega
  have d4:decide (used ≥ fuel)=false:=by simp;omega
  clear h3
  have hu35:=Try.underlying35
  have hu37:=Try.underlying37
  have hu39:=Try.underlying39
  have hu74:=Try.underlying74
  have hu95:=Try.underlying95
  have hmf:∀ (fn:Fn) (first cap:Array Value) (w:World),(Instr.makeFunc fn first cap).run Try.prog w=.ok (.func fn first cap) w:=fun _ _ _ _ => rfl
  obtain ⟨W1,hW1,K1,hB1⟩:=alz W (cpuC pc used rs (.slice SA fs.length sc)) 37
  obtain ⟨W2,hW2,K2,hB2⟩:=alz2 W1
  obtain ⟨W3,hW3,K3,hB3⟩:=alz0 W2
  have hz1:W1.heap.size=W.heap.size + 1:=by rw [← hW1,World.size_alloc]
  have hz2:W2.heap.size=W.heap.size + 1 + 1:=by rw [← hW2,World.size_alloc,hz1]
  have hz3:W3.heap.size=W.heap.size + 1 + 1 + 1:=by rw [← hW3,World.size_alloc,hz2]
  have hB13:=bAfter hB1 (bAfter hB2 hB3)
  have s3:W3.cell? ⟨W.heap.size,18,none⟩=some (.slice SA fs.length sc):=(zG (zE (zE K1 hB2) hB3) 18).trans (cpuC_stk hl)
  have HCl:=Lib.hid (clone_frames SA sc fs W3 (Kd.C_below hS hB13) (by omega))
  have HC0:=Lib.hid hC
  have H0:=Lib.hid (zM (Kd.C_below hC hB13) (zM (zE (zE K1 hB2) hB3) (zM (zE K2 hB3) (zM K3 (zM hB13 (zM hz1 (zM hz2 hz3)))))))
  clear hC hS K1 K2 K3 hB1 hB2 hB3 hB13 hz1 hz2 hz3
  go_enter_defers Try.func11,Try.ntmps11
  go_wp2_with fail
  refine HCl.out.mono ?_
  rintro e w' ⟨v,rfl,hv,hBv⟩
  obtain ⟨SB,sd,rfl⟩:=Kd.R_slice hv
  obtain ⟨hC3,K1,K2,K3,hB13,hz1,hz2,hz3⟩:=H0.out
  have K1v:=zE K1 hBv
  have s4:=zG K1v 18
  rw [cpuC_stk hl] at s4
  have s5:=zH K1v 18
  obtain ⟨W4,hW4⟩:∃ W4,w'.setCell ⟨W.heap.size,18,none⟩ (.slice SB fs.length sd)=W4:=⟨_,rfl⟩
  have hO4:Only W.heap.size w' W4:=by rw [← hW4];exact Only.set w' 18 _
  have K14:W4.heap[W.heap.size]?=some (.cells (cpuC pc used rs (.slice SB fs.length sd)) 37 (0,0)):=by
    rw [← hW4,← cpuC_setStk _ hl]
    exact blk_set K1v 18 _
  have K24:=hO4.mid (zE K2 hBv) (by omega) (B:=0)
  have K34:=hO4.mid (zE K3 hBv) (by omega) (B:=0)
  have hS4:=Stk.only_lt hv hO4 (by omega)
  have hB4:Below W.heap.size W W4:=(hB13.trans (below_le hBv (by omega))).trans (hO4.below (Nat.le_refl _) (by have:=hBv.size;omega))
  have hC0:=HC0.out
  have hC4:Kd.C k74 W4 A l.length l:=Kd.C_below hC0 hB4
  have HR:=Lib.hid (codeRight_calls A c l W4 hC4 hlc)
  rw [h0] at HR
  have H4:=Lib.hid (zM hC4 (zM K14 (zM K24 (zM K34 (zM hS4 (zM hB4 (zM hz1 (zM hz2 hz3))))))))
  clear hC3 K1 K2 K3 hB13 hz1 hz2 hz3 K1v hO4 K14 K24 K34 hS4 hB4 hC4 hv hBv H0 HCl
  go_wp2_with fail
  refine HR.out.mono ?_
  rintro e w5 ⟨rfl,hB5⟩
  obtain ⟨hC4,K14,K24,K34,hS4,hB4,hz1,hz2,hz3⟩:=H4.out
  have K15:=zE K14 hB5
  have p5:w5.cell? ⟨W.heap.size,0,none⟩=some (.int .i64 pc):=zG K15 0
  have p6:w5.cell? ⟨W.heap.size,1,none⟩=some (.int .i64 used):=zG K15 1
  have p7:=zH K15 1
  have hB45:Below W.heap.size W w5:=hB4.trans (below_le hB5 hB4.size)
  have H5:=Lib.hid (zM (Kd.C_below hC4 hB5) (zM K15 (zM (zE K24 hB5) (zM (zE K34 hB5) (zM (hS4.below hB5) (zM hB45 (zM hz1 (zM hz2 hz3))))))))
  clear hC4 K14 K24 K34 hS4 hB4 K15 hB5 hB45 hz1 hz2 hz3 H4
  obtain ⟨hC5,K15,K25,K35,hS5,hB5,hz1,hz2,hz3⟩:=H5.out
  have hC0':=HC0.out
  obtain ⟨W6,hW6⟩:∃ W6,w5.setCell ⟨W.heap.size,1,none⟩ (.int .i64 (wrap64 (used + 1)))=W6:=⟨_,rfl⟩
  have hO6:Only W.heap.size w5 W6:=by rw [← hW6];exact Only.set w5 1 _
  have K16:W6.heap[W.heap.size]?=some (.cells (cpuC pc (wrap64 (used + 1)) rs (.slice SB fs.length sd)) 37 (0,0)):=by rw [← hW6];exact blk_set K15 1 _
  have hL6:=ld_whole (P:=Try.prog) (ty:=37) K16 hu37 rfl (by rw [size37,cpuC_size hl])
  obtain ⟨W7,hW7,K7,hB7⟩:=alz2 W6
  obtain ⟨W8,hS8,K8,hO8⟩:=st_whole (P:=Try.prog) (ty:=37) (vs:=(cpuC pc (wrap64 (used + 1)) rs (.slice SB fs.length sd)).toList) K7 (by have:=cpuC_size (pc:=pc) (used:=wrap64 (used + 1)) (stk:=.slice SB fs.length sd) hl;simp [this]) (by have:=cpuC_size (pc:=pc) (used:=wrap64 (used + 1)) (stk:=.slice SB fs.length sd) hl;rw [size37];simp [this]) (cpuC_one _ _ _ _ _ _)
  simp only [Array.toArray_toList] at hS8 K8
  have hB68:Below W6.heap.size W6 W8:=hB7.trans (hO8.below (Nat.le_refl _) hB7.size)
  have hlt:W.heap.size < W1.heap.size∧W1.heap.size < W2.heap.size∧W2.heap.size < W3.heap.size∧W3.heap.size ≤ w5.heap.size∧w5.heap.size ≤ W6.heap.size:=⟨by omega,by omega,by omega,by have:=blk_lt K35;omega,hO6.size⟩
  have K18:=zE K16 hB68
  have K28:=zE (hO6.mid K25 (by omega) (B:=0)) hB68
  have K38:=zE (hO6.mid K35 (by omega) (B:=0)) hB68
  have hS8':Stk W8 W3.heap.size (.slice SB fs.length sd) fs:=(Stk.only_lt hS5 hO6 (by omega)).below hB68
  have hB8:Below W.heap.size W W8:=(hB5.trans (hO6.below (Nat.le_refl _) hB5.size)).trans (below_le hB68 (by omega))
  have hC8:Kd.C k74 W8 A l.length l:=Kd.C_below hC0' hB8
  obtain ⟨ad,rfl,a0,a1,a2,a3,a4⟩:=at_T74 hC8 pc hp0 hp1
  have hrd:rd_T74 l pc=o:=by unfold rd_T74;rw [List.getD_eq_getElem?_getD,ho];rfl
  rw [hrd] at a0 a1 a2 a3 a4
  obtain ⟨W9,hW9,K9,hB9⟩:=alz W8 #[ptr W6.heap.size,.int .i64 o.f0,.int .i64 o.f1,.int .i64 o.f2,.int .i64 o.f3,.int .i64 o.f4,.int .i64 vars] 95
  have hlt2:W6.heap.size < W8.heap.size:=blk_lt K8
  have hDI:DoesIn W9 W.heap.size W8.heap.size W6.heap.size o vars pc (wrap64 (used + 1)) rs (.slice SB fs.length sd) fs:=⟨K9,zE K8 hB9,hl,by omega,Stk.below (Kd.R_lower hS8' (show W.heap.size ≤ W3.heap.size by omega)) hB9,hbig,by have:=hB9.size;omega,hok,hrg⟩
  have HD:=Lib.hid (does_calls W9 W.heap.size W8.heap.size W6.heap.size o vars pc (wrap64 (used + 1)) rs (.slice SB fs.length sd) fs hDI)
  rw [hdo] at HD
  have p8:W8.cell? ⟨W.heap.size,0,none⟩=some (.int .i64 pc):=zG K18 0
  have H9:=Lib.hid (zM (zE K18 hB9) (zM (zE K28 hB9) (zM (zE K38 hB9) (zM (Stk.below (Kd.R_lower hS8' (show W.heap.size ≤ W3.heap.size by omega)) hB9) (zM (hB8.trans (below_le hB9 (by omega))) (zM hlt (zM (by have:=hB9.size;omega:W6.heap.size < W9.heap.size) (zE K8 hB9))))))))
  clear hC5 K15 K25 K35 hS5 hB5 hO6 K16 K7 hB7 K8 hO8 hB68 K18 K28 K38 hS8' hB8 hC8 K9 hB9 hDI hlt hlt2 hz1 hz2 hz3 H5 hC0 hC0' HC0
  go_wp2_with (first | refine wpList_st rfl rfl hS8 ?_ | refine wpList_ld rfl rfl hL6 ?_)
  refine HD.out.mono ?_
  rintro e w'' ⟨hd,hO⟩
  have he:e=gave x:=hd
  subst he
  obtain ⟨K19,K29,K39,hS9,hB9,hlt,hl69,K89⟩:=H9.out
  have K1:=hO.mid K19 (by omega) (B:=0)
  have K2:=hO.mid K29 (by omega) (B:=0)
  have K3:=hO.mid K39 (by omega) (B:=0)
  have hcs:(cpuC pc (wrap64 (used + 1)) rs (.slice SB fs.length sd)).size=19:=cpuC_size hl
  unfold gave
  refine leaves_cons (f:=31) (args:=#[ptr W.heap.size,ptr W1.heap.size,ptr W2.heap.size]) (by simp) (by simp [go_sem]) ?_
  refine (step1_panicking W.heap.size W1.heap.size W2.heap.size w'' x [] _ _ _ hcs rfl rfl (cpuC_one _ _ _ _ _ _) K1 K2 K3 (by omega) (by omega) (by omega)).mono ?_
  rintro e u' w3 ⟨rfl,rfl,hT⟩
  refine ⟨_,results_cc rfl _ rfl hT.o hu37 rfl (by rw [size37,hcs]) rfl hT.a hu39 rfl (by rw [size39];rfl),hl,_,rfl,?_,?_⟩
  · exact Stk.two (Stk.only hS9 K89 (by decide) hO) K2 K3 hT
  · have hb1:Below W.heap.size W w'':=hB9.trans (hO.below (by omega) hB9.size)
    exact hb1.trans ⟨hT.os,hT.tape,hT.output,hT.size,fun k hk => hT.block k (by have:=hb1.size;omega) (by omega) (by omega)⟩
set_option maxRecDepth 100000 in
set_option maxHeartbeats 2000000 in
theorem step_did (W:World) (A:Option Addr) (c:Nat) (l:List S74) (pc used vars fuel:Int) (rs:List S32) (SA:Option Addr) (sc:Nat) (fs:List FrameD) (hC:Kd.C k74 W A l.length l) (hlc:l.length ≤ c) (hl:rs.length=8)
    (hS:Kd.C kF W SA fs.length fs) (hsc:fs.length ≤ sc) (hbig:fs.length ≤ 99999) (h0:codeR l=true) (hp0:0 ≤ pc) (hp1:pc < l.length) (o:S74) (ho:l[pc.toNat]?=some o) (hok:OpOK o) (h3:used < fuel) (hrg:∀ v ∈ rs,-9223372036854775808 ≤ v.f1∧v.f1 < 9223372036854775808) (cq:CpuD) (aq:AskD) (hdo:doesP ⟨pc,wrap64 (used + 1),rs,fs⟩ o vars=.inr (cq,aq)) :
    Calls Try.prog 11 #[.slice A l.length c,.agg (cpuC pc used rs (.slice SA fs.length sc)),.int .i64 vars,.int .i64 fuel] W fun e w' => Stepped W (cq,aq) e w':=by
  have d1:decide (pc < 0)=false:=by simp;omega
  have d2:decide (pc > (l.length:Int))=false:=by simp;omega
  have d3:(pc == (l.length:Int))=false:=by simp;omega
  have d4:decide (used ≥ fuel)=false:=by simp;omega
  clear h3
  have hu35:=Try.underlying35
  have hu37:=Try.underlying37
  have hu39:=Try.underlying39
  have hu74:=Try.underlying74
  have hu95:=Try.underlying95
  have hmf:∀ (fn:Fn) (first cap:Array Value) (w:World),(Instr.makeFunc fn first cap).run Try.prog w=.ok (.func fn first cap) w:=fun _ _ _ _ => rfl
  obtain ⟨W1,hW1,K1,hB1⟩:=alz W (cpuC pc used rs (.slice SA fs.length sc)) 37
  obtain ⟨W2,hW2,K2,hB2⟩:=alz2 W1
  obtain ⟨W3,hW3,K3,hB3⟩:=alz0 W2
  have hz1:W1.heap.size=W.heap.size + 1:=by rw [← hW1,World.size_alloc]
  have hz2:W2.heap.size=W.heap.size + 1 + 1:=by rw [← hW2,World.size_alloc,hz1]
  have hz3:W3.heap.size=W.heap.size + 1 + 1 + 1:=by rw [← hW3,World.size_alloc,hz2]
  have hB13:=bAfter hB1 (bAfter hB2 hB3)
  have s3:W3.cell? ⟨W.heap.size,18,none⟩=some (.slice SA fs.length sc):=(zG (zE (zE K1 hB2) hB3) 18).trans (cpuC_stk hl)
  have HCl:=Lib.hid (clone_frames SA sc fs W3 (Kd.C_below hS hB13) (by omega))
  have HC0:=Lib.hid hC
  have H0:=Lib.hid (zM (Kd.C_below hC hB13) (zM (zE (zE K1 hB2) hB3) (zM (zE K2 hB3) (zM K3 (zM hB13 (zM hz1 (zM hz2 hz3)))))))
  clear hC hS K1 K2 K3 hB1 hB2 hB3 hB13 hz1 hz2 hz3
  go_enter_defers Try.func11,Try.ntmps11
  go_wp2_with fail
  refine HCl.out.mono ?_
  rintro e w' ⟨v,rfl,hv,hBv⟩
  obtain ⟨SB,sd,rfl⟩:=Kd.R_slice hv
  obtain ⟨hC3,K1,K2,K3,hB13,hz1,hz2,hz3⟩:=H0.out
  have K1v:=zE K1 hBv
  have s4:=zG K1v 18
  rw [cpuC_stk hl] at s4
  have s5:=zH K1v 18
  obtain ⟨W4,hW4⟩:∃ W4,w'.setCell ⟨W.heap.size,18,none⟩ (.slice SB fs.length sd)=W4:=⟨_,rfl⟩
  have hO4:Only W.heap.size w' W4:=by rw [← hW4];exact Only.set w' 18 _
  have K14:W4.heap[W.heap.size]?=some (.cells (cpuC pc used rs (.slice SB fs.length sd)) 37 (0,0)):=by
    rw [← hW4,← cpuC_setStk _ hl]
    exact blk_set K1v 18 _
  have K24:=hO4.mid (zE K2 hBv) (by omega) (B:=0)
  have K34:=hO4.mid (zE K3 hBv) (by omega) (B:=0)
  have hS4:=Stk.only_lt hv hO4 (by omega)
  have hB4:Below W.heap.size W W4:=(hB13.trans (below_le hBv (by omega))).trans (hO4.below (Nat.le_refl _) (by have:=hBv.size;omega))
  have hC0:=HC0.out
  have hC4:Kd.C k74 W4 A l.length l:=Kd.C_below hC0 hB4
  have HR:=Lib.hid (codeRight_calls A c l W4 hC4 hlc)
  rw [h0] at HR
  have H4:=Lib.hid (zM hC4 (zM K14 (zM K24 (zM K34 (zM hS4 (zM hB4 (zM hz1 (zM hz2 hz3))))))))
  clear hC3 K1 K2 K3 hB13 hz1 hz2 hz3 K1v hO4 K14 K24 K34 hS4 hB4 hC4 hv hBv H0 HCl
  go_wp2_with fail
  refine HR.out.mono ?_
  rintro e w5 ⟨rfl,hB5⟩
  obtain ⟨hC4,K14,K24,K34,hS4,hB4,hz1,hz2,hz3⟩:=H4.out
  have K15:=zE K14 hB5
  have p5:w5.cell? ⟨W.heap.size,0,none⟩=some (.int .i64 pc):=zG K15 0
  have p6:w5.cell? ⟨W.heap.size,1,none⟩=some (.int .i64 used):=zG K15 1
  have p7:=zH K15 1
  have hB45:Below W.heap.size W w5:=hB4.trans (below_le hB5 hB4.size)
  have H5:=Lib.hid (zM (Kd.C_below hC4 hB5) (zM K15 (zM (zE K24 hB5) (zM (zE K34 hB5) (zM (hS4.below hB5) (zM hB45 (zM hz1 (zM hz2 hz3))))))))
  clear hC4 K14 K24 K34 hS4 hB4 K15 hB5 hB45 hz1 hz2 hz3 H4
  obtain ⟨hC5,K15,K25,K35,hS5,hB5,hz1,hz2,hz3⟩:=H5.out
  have hC0':=HC0.out
  obtain ⟨W6,hW6⟩:∃ W6,w5.setCell ⟨W.heap.size,1,none⟩ (.int .i64 (wrap64 (used + 1)))=W6:=⟨_,rfl⟩
  have hO6:Only W.heap.size w5 W6:=by rw [← hW6];exact Only.set w5 1 _
  have K16:W6.heap[W.heap.size]?=some (.cells (cpuC pc (wrap64 (used + 1)) rs (.slice SB fs.length sd)) 37 (0,0)):=by rw [← hW6];exact blk_set K15 1 _
  have hL6:=ld_whole (P:=Try.prog) (ty:=37) K16 hu37 rfl (by rw [size37,cpuC_size hl])
  obtain ⟨W7,hW7,K7,hB7⟩:=alz2 W6
  obtain ⟨W8,hS8,K8,hO8⟩:=st_whole (P:=Try.prog) (ty:=37) (vs:=(cpuC pc (wrap64 (used + 1)) rs (.slice SB fs.length sd)).toList) K7 (by have:=cpuC_size (pc:=pc) (used:=wrap64 (used + 1)) (stk:=.slice SB fs.length sd) hl;simp [this]) (by have:=cpuC_size (pc:=pc) (used:=wrap64 (used + 1)) (stk:=.slice SB fs.length sd) hl;rw [size37];simp [this]) (cpuC_one _ _ _ _ _ _)
  simp only [Array.toArray_toList] at hS8 K8
  have hB68:Below W6.heap.size W6 W8:=hB7.trans (hO8.below (Nat.le_refl _) hB7.size)
  have hlt:W.heap.size < W1.heap.size∧W1.heap.size < W2.heap.size∧W2.heap.size < W3.heap.size∧W3.heap.size ≤ w5.heap.size∧w5.heap.size ≤ W6.heap.size:=⟨by omega,by omega,by omega,by have:=blk_lt K35;omega,hO6.size⟩
  have K18:=zE K16 hB68
  have K28:=zE (hO6.mid K25 (by omega) (B:=0)) hB68
  have K38:=zE (hO6.mid K35 (by omega) (B:=0)) hB68
  have hS8':Stk W8 W3.heap.size (.slice SB fs.length sd) fs:=(Stk.only_lt hS5 hO6 (by omega)).below hB68
  have hB8:Below W.heap.size W W8:=(hB5.trans (hO6.below (Nat.le_refl _) hB5.size)).trans (below_le hB68 (by omega))
  have hC8:Kd.C k74 W8 A l.length l:=Kd.C_below hC0' hB8
  obtain ⟨ad,rfl,a0,a1,a2,a3,a4⟩:=at_T74 hC8 pc hp0 hp1
  have hrd:rd_T74 l pc=o:=by unfold rd_T74;rw [List.getD_eq_getElem?_getD,ho];rfl
  rw [hrd] at a0 a1 a2 a3 a4
  obtain ⟨W9,hW9,K9,hB9⟩:=alz W8 #[ptr W6.heap.size,.int .i64 o.f0,.int .i64 o.f1,.int .i64 o.f2,.int .i64 o.f3,.int .i64 o.f4,.int .i64 vars] 95
  have hlt2:W6.heap.size < W8.heap.size:=blk_lt K8
  have hDI:DoesIn W9 W.heap.size W8.heap.size W6.heap.size o vars pc (wrap64 (used + 1)) rs (.slice SB fs.length sd) fs:=⟨K9,zE K8 hB9,hl,by omega,Stk.below (Kd.R_lower hS8' (show W.heap.size ≤ W3.heap.size by omega)) hB9,hbig,by have:=hB9.size;omega,hok,hrg⟩
  have HD:=Lib.hid (does_calls W9 W.heap.size W8.heap.size W6.heap.size o vars pc (wrap64 (used + 1)) rs (.slice SB fs.length sd) fs hDI)
  rw [hdo] at HD
  have p8:W8.cell? ⟨W.heap.size,0,none⟩=some (.int .i64 pc):=zG K18 0
  have H9:=Lib.hid (zM (zE K18 hB9) (zM (zE K28 hB9) (zM (zE K38 hB9) (zM (Stk.below (Kd.R_lower hS8' (show W.heap.size ≤ W3.heap.size by omega)) hB9) (zM (hB8.trans (below_le hB9 (by omega))) (zM hlt (zM (by have:=hB9.size;omega:W6.heap.size < W9.heap.size) (zE K8 hB9))))))))
  clear hC5 K15 K25 K35 hS5 hB5 hO6 K16 K7 hB7 K8 hO8 hB68 K18 K28 K38 hS8' hB8 hC8 K9 hB9 hDI hlt hlt2 hz1 hz2 hz3 H5 hC0 hC0' HC0
  go_wp2_with (first | refine wpList_st rfl rfl hS8 ?_ | refine wpList_ld rfl rfl hL6 ?_)
  refine HD.out.mono ?_
  rintro e w'' ⟨⟨rfl,hl1,stk1,hc1,hs1⟩,hO⟩
  obtain ⟨SD,se,rfl⟩:=Kd.R_slice hs1
  obtain ⟨K19,K29,K39,hS9,hB9,hlt,hl69,K89⟩:=H9.out
  have K2:=hO.mid K29 (by omega) (B:=0)
  have K3:=hO.mid K39 (by omega) (B:=0)
  have hcs:(cpuC cq.pc cq.used cq.rs (.slice SD cq.fs.length se)).size=19:=cpuC_size hl1
  obtain ⟨Wt,hSt,Kt,hOt⟩:=st_whole (P:=Try.prog) (ty:=39) (vs:=aq.c.toList) K3 rfl (by rw [size39];rfl) (by simp [Value.oneCell'])
  simp only [Array.toArray_toList] at hSt Kt
  have hb1:Below W.heap.size W w'':=hB9.trans (hO.below (by omega) hB9.size)
  have HX:=Lib.hid (zM (hOt.mid K2 (by omega) (B:=0)) (zM Kt (zM (hOt.mid hc1 (by omega) (B:=0)) (zM (hb1.trans (hOt.below (by omega) hb1.size)) (zM hlt hl69)))))
  have HS:=Lib.hid (zM hs1 (zM K3 hOt))
  have HS3:=Lib.hid (zM (hOt.mid K2 (by omega) (B:=0)) Kt)
  clear K19 K29 K39 hS9 hB9 hlt hl69 K2 K3 hc1 hs1 hO Kt hOt hb1
  go_wp2_with (refine wpList_st rfl rfl hSt ?_)
  obtain ⟨K2,Kt,hc1,hbt,hlt,hl69⟩:=HX.out
  obtain ⟨L,hL⟩:∃ L,L=[(W1.heap.size,[Obj.cells #[.int .i64 0,.int .i64 0,.int .i64 0,.int .i64 0,.int .i64 0,.int .i64 0,.int .i64 0,.int .i64 0,.int .i64 0,.int .i64 0,.int .i64 0,.int .i64 0,.int .i64 0,.int .i64 0,.int .i64 0,.int .i64 0,.int .i64 0,.int .i64 0,.slice none 0 0] 37 (0,0),Obj.cells (cpuC cq.pc cq.used cq.rs (.slice SD cq.fs.length se)) 37 (0,0)]),(W2.heap.size,[Obj.cells aq.c 39 (0,0),Obj.cells aq.c 39 (0,0)])]:=⟨_,rfl⟩
  have n3:W1.heap.size ≠ W2.heap.size:=by omega
  have m1:(W1.heap.size,[Obj.cells #[.int .i64 0,.int .i64 0,.int .i64 0,.int .i64 0,.int .i64 0,.int .i64 0,.int .i64 0,.int .i64 0,.int .i64 0,.int .i64 0,.int .i64 0,.int .i64 0,.int .i64 0,.int .i64 0,.int .i64 0,.int .i64 0,.int .i64 0,.int .i64 0,.slice none 0 0] 37 (0,0),Obj.cells (cpuC cq.pc cq.used cq.rs (.slice SD cq.fs.length se)) 37 (0,0)]) ∈ L:=by subst hL;simp
  have m2:(W2.heap.size,[Obj.cells aq.c 39 (0,0),Obj.cells aq.c 39 (0,0)]) ∈ L:=by subst hL;simp
  have u1:∀ p ∈ L,p.1=W1.heap.size → p=(W1.heap.size,[Obj.cells #[.int .i64 0,.int .i64 0,.int .i64 0,.int .i64 0,.int .i64 0,.int .i64 0,.int .i64 0,.int .i64 0,.int .i64 0,.int .i64 0,.int .i64 0,.int .i64 0,.int .i64 0,.int .i64 0,.int .i64 0,.int .i64 0,.int .i64 0,.int .i64 0,.slice none 0 0] 37 (0,0),Obj.cells (cpuC cq.pc cq.used cq.rs (.slice SD cq.fs.length se)) 37 (0,0)]):=by subst hL;simp;intro h;exact absurd h.symm n3
  have u2:∀ p ∈ L,p.1=W2.heap.size → p=(W2.heap.size,[Obj.cells aq.c 39 (0,0),Obj.cells aq.c 39 (0,0)]):=by subst hL;simp;intro h;exact absurd h n3
  have c1':∀ W',Chain L Wt W' → W'.heap[W6.heap.size]?=some (.cells (cpuC cq.pc cq.used cq.rs (.slice SD cq.fs.length se)) 37 (0,0)):=fun W' hB => hB.mid hc1 (by subst hL;simp;omega)
  have o1:∀ W',Chain L Wt W' → At W1.heap.size _ 0 W':=fun W' hB => hB.on _ m1 0 ⟨0,_,Nat.le_refl _,rfl,K2⟩
  have a1':∀ W',Chain L Wt W' → At W2.heap.size _ 0 W':=fun W' hB => hB.on _ m2 0 ⟨0,_,Nat.le_refl _,rfl,Kt⟩
  have a2':∀ W',Chain L Wt W' → W'.heap[W2.heap.size]?=some (.cells aq.c 39 (0,0)):=fun W' hB => by
    obtain ⟨i,x,-,hx,hw⟩:=a1' W' hB
    rcases i with _ | _ | i <;> simp at hx
    · rw [hw,hx]
    · rw [hw,hx]
  apply GR.wp_region_growsQ (R:=Chain L) (by kernel_rfl) (by kernel_rfl)
  apply GR.gw_val (by rfl)
  · (intro W' hB hD;exact exec_ld rfl (ld_whole (c1' W' hB) hu37 rfl (by rw [size37,hcs])))
  simp only [Act.put,zJ,zK,zL]
  apply GR.gw_val (by rfl)
  · (intro W' hB hD;exact exec_ld rfl (ld_whole (a2' W' hB) hu39 rfl (by rw [size39];rfl)))
  simp only [Act.put,zJ,zK,zL]
  apply GR.gw_skp (stable_At m1 1) (by rfl) (by rfl)
  · intro W' hB hD
    obtain ⟨W'',e1,e2,e3⟩:=chain_whole (ty:=37) m1 u1 (o1 W' hB) (by rw [hcs];rfl) (by rw [size37,hcs]) (cpuC_one _ _ _ _ _ _)
    exact ⟨W'',exec_st rfl e1,e2,e3⟩
  rintro v -
  apply GR.gw_skp (stable_At m2 1) (by rfl) (by rfl)
  · intro W' hB hD
    obtain ⟨W'',e1,e2,e3⟩:=chain_whole (ty:=39) m2 u2 (a1' W' hB) rfl (by rw [size39];rfl) (by simp [Value.oneCell'])
    exact ⟨W'',exec_st rfl e1,e2,e3⟩
  rintro v' -
  apply GR.gw_end
  intro Wa hW hF
  simp [List.forall_mem_append] at hF
  subst hL
  have hT:=Two.of_chain hW hF.1 hF.2
  have HE:=Lib.hid (zM hT (hbt.trans ⟨hT.os,hT.tape,hT.output,hT.size,fun k hk => hT.block k (by have:=hbt.size;omega) (by omega) (by omega)⟩))
  clear hT hW hF K2 Kt hc1 hbt c1' o1 a1' a2' m1 m2 u1 u2
  go_wp2_with fail
  refine leaves_cons (f:=31) (args:=#[ptr W.heap.size,ptr W1.heap.size,ptr W2.heap.size]) (by simp) (by simp [go_sem]) ?_
  refine (step1_idle W.heap.size W1.heap.size W2.heap.size Wa).mono ?_
  rintro e u' w3 ⟨rfl,rfl,rfl⟩
  refine ⟨_,results_cc rfl _ rfl HE.out.1.o hu37 rfl (by rw [size37,hcs]) rfl HE.out.1.a hu39 rfl (by rw [size39];rfl),hl1,_,rfl,?_,HE.out.2⟩
  exact Stk.two (Stk.only HS.out.1 HS.out.2.1 (by decide) HS.out.2.2) HS3.out.1 HS3.out.2 HE.out.1
set_option maxRecDepth 100000 in
theorem opOK_of {o:S74} {n:Int} (hn:0 ≤ n) (h:opRight o n=true):OpOK o:=by
  unfold opRight at h
  simp only [Bool.and_eq_true] at h
  obtain ⟨⟨h0,hx0⟩,h1,h2,h3⟩:=h
  have hc:0 ≤ o.f0∧o.f0 < 17:=by unfold isCode at h0;simpa using h0
  obtain ⟨c,hcc⟩:∃ c:Nat,o.f0=c:=⟨o.f0.toNat,by omega⟩
  have hc17:c < 17:=by omega
  have fit:∀ {x b:Int},fits x b=true → 0 ≤ x∧(x < 1 ∨ x < b):=by
    intro x b hf
    unfold fits least1 at hf
    simp only [Bool.and_eq_true,decide_eq_true_eq] at hf
    refine ⟨hf.1,?_⟩
    have:=hf.2
    split at this
    · left;omega
    · right;omega
  have f1:=fit h1
  have f2:=fit h2
  have f3:=fit h3
  rw [hcc] at f1 f2 f3 hc
  have key:∀ c:Nat,c < 17 → (sh c).f1 ≤ 8∧(c ≠ 2 → (sh c).f2 ≤ 8)∧(c < 8 → (sh c).f4=false∧(sh c).f3 ≤ 8):=by decide
  obtain ⟨k1,k2,k3⟩:=key c hc17
  exact ⟨by omega,by omega,f1.1,by omega,f2.1,fun h => by have:=k2 (by omega);omega,f3.1,fun h => by
    have:=k3 (by omega)
    have e:third (sh c) n=(sh c).f3:=by unfold third;rw [this.1];rfl
    rw [e] at f3
    omega⟩
theorem step_calls (W:World) (A:Option Addr) (c:Nat) (l:List S74) (pc used vars fuel:Int) (rs:List S32) (SA:Option Addr) (sc:Nat) (fs:List FrameD) (hC:Kd.C k74 W A l.length l) (hlc:l.length ≤ c) (hl:rs.length=8)
    (hS:Kd.C kF W SA fs.length fs) (hsc:fs.length ≤ sc) (hbig:fs.length ≤ 99999) (hrg:∀ v ∈ rs,-9223372036854775808 ≤ v.f1∧v.f1 < 9223372036854775808) :
    Calls Try.prog 11 #[.slice A l.length c,.agg (cpuC pc used rs (.slice SA fs.length sc)),.int .i64 vars,.int .i64 fuel] W (Stepped W (stepP l ⟨pc,used,rs,fs⟩ vars fuel)):=by
  unfold stepP
  dsimp only
  by_cases h0:codeR l=false
  · rw [if_pos (.inl h0)]
    exact step_wrong W A c l pc used vars fuel rs SA sc fs hC hlc hl hS hsc hbig h0
  have h0':codeR l=true:=by simpa using h0
  by_cases h1:pc < 0
  · rw [if_pos (.inr (.inl h1))]
    exact step_low W A c l pc used vars fuel rs SA sc fs hC hlc hl hS hsc hbig h0' h1
  by_cases h2:(l.length:Int) < pc
  · rw [if_pos (.inr (.inr h2))]
    exact step_high W A c l pc used vars fuel rs SA sc fs hC hlc hl hS hsc hbig h0' (by omega) h2
  rw [if_neg (by rintro (h | h | h) <;> contradiction)]
  by_cases h3:pc=l.length
  · rw [if_pos h3]
    exact step_end W A c l pc used vars fuel rs SA sc fs hC hlc hl hS hsc hbig h0' (by omega) h3
  rw [if_neg h3]
  by_cases h4:fuel ≤ used
  · rw [if_pos h4]
    exact step_fuel W A c l pc used vars fuel rs SA sc fs hC hlc hl hS hsc hbig h0' (by omega) (by omega) h4
  rw [if_neg h4]
  cases ho:l[pc.toNat]? with
  | none =>
    have:=List.getElem?_eq_none_iff.1 ho
    omega
  | some o =>
    dsimp only
    have hok:OpOK o:=by
      unfold codeR at h0'
      simp only [Bool.and_eq_true,List.all_eq_true] at h0'
      exact opOK_of (by omega) (h0'.2 o (List.mem_of_getElem? ho))
    cases hd:doesP ⟨pc,wrap64 (used + 1),rs,fs⟩ o vars with
    | inl x => exact step_gave W A c l pc used vars fuel rs SA sc fs hC hlc hl hS hsc hbig h0' (by omega) (by omega) o ho hok (by omega) hrg x hd
    | inr r => exact step_did W A c l pc used vars fuel rs SA sc fs hC hlc hl hS hsc hbig h0' (by omega) (by omega) o ho hok (by omega) hrg r.1 r.2 hd
end Go.Proofs.Ytgnjkegnddekeaa.Q
