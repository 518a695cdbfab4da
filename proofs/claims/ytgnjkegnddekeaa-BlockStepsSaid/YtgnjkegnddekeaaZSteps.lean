/- Steps: the law. -/
import Derived.Test.YtgnjkegnddekeaaZPlaces
import Derived.Test.YtgnjkegnddekeaaZRefStep
import Derived.Test.YtgnjkegnddekeaaZAliveM
import Derived.Test.YtgnjkegnddekeaaRows
import Derived.ProofKit
import Derived.OpenShut
import Derived.SizedLaws
import Derived.WideLaws
open List renaming setIfInBounds_toArray → zI, set_cons_zero → zJ, set_cons_succ → zK
open And renaming intro → zL
namespace Go.Proofs.Ytgnjkegnddekeaa.Q
open Go.WideShapes Go.ChangeShapes Go.RowKit Go.Lib Go.Proofs.Ytgnjkegnddekeaa Go.Proofs.YtgnjkegnddekeaaW.PrintWords Go.Proofs.YtgnjkegnddekeaaW.PrintLast Go.Proofs.YtgnjkegnddekeaaW.PrintMore
set_option linter.unusedVariables false
set_option linter.unusedSimpArgs false
set_option maxRecDepth 100000
attribute [local go_sem] max2_int min2_int max_two min_two
def fLeaves:List Leaf:=.int .i64 :: .int .i64 :: (List.replicate 8 [Leaf.int .i64,.int .i64]).flatten
theorem flat_frame:Flat Try.prog 99 fLeaves :=
  flat_struct [[.int .i64],[.int .i64],(List.replicate 8 [Leaf.int .i64,.int .i64]).flatten] Try.underlying99 rfl (by kernel_rfl) (by kernel_rfl) fun i f ls hf hl => by
    rcases i with _ | _ | _ | i
    · cases hf;cases hl;exact flat_int (by kernel_rfl)
    · cases hf;cases hl;exact flat_int (by kernel_rfl)
    · cases hf;cases hl;exact flat_array Try.underlying26 flat_val (by kernel_rfl) (by kernel_rfl)
    · simp at hl
theorem frame_of {W:World} {cs:List Value} (h:Fits fLeaves cs):∃ x:FrameD,kF.K W x cs∧True:=by
  obtain ⟨a,r,rfl,ha,h⟩:=fits_int h
  obtain ⟨b,r,rfl,hb,h⟩:=fits_int h
  obtain ⟨rs,h8,rfl,-,-⟩:=regs_of 8 h
  exact ⟨⟨a,b,rs⟩,⟨h8,rfl⟩,trivial⟩
/-- A place that came in. -/
theorem cpu_of {H : Type} {enc : TypeId × Value → H} {W : World} {base : Nat} {v : Value} {dt : DataW H} {p : List MemPlace} (o : Value.okWide Try.prog W .any base 29 v) (h : DataW.Trod enc Try.prog W 0 (fun _ => true) true 29 v dt p) :
    ∃ (SA:Option Addr) (sc:Nat) (fs:List FrameD) (rs:List S32) (pc used:Int),v=.agg (cpuC pc used rs (.slice SA fs.length sc))∧rs.length=8∧fs.length ≤ sc∧Kd.C kF W SA fs.length fs∧(∀ v ∈ rs,R64 v.f1)∧R64 pc∧R64 used:=by
  obtain ⟨cs,rfl,-⟩:=okWide_struct Try.underlying29 o
  obtain ⟨fuel,hf⟩:=h
  obtain ⟨xs,n,rfl,_,hl,hxs,hx⟩:=DataW.trod_struct Try.underlying29 hf
  have c29:Try.prog.cellsOf 29=19:=by kernel_rfl
  have c27:Try.prog.cellsOf 27=1:=by kernel_rfl
  have c26:Try.prog.cellsOf 26=16:=by kernel_rfl
  have c3:Try.prog.cellsOf 3=1:=by kernel_rfl
  rw [c29] at hl
  have hl':cs.toList.length=19:=hl
  have f24:Flat Try.prog 26 (List.replicate 8 [Leaf.int .i64,.int .i64]).flatten:=flat_array Try.underlying26 flat_val (by kernel_rfl) (by kernel_rfl)
  have f3:Flat Try.prog 3 [.int .i64]:=flat_int (by kernel_rfl)
  have x0:=hx 0 _ rfl
  have x1:=hx 1 _ rfl
  have x2:=hx 2 _ rfl
  have x3:=hx 3 _ rfl
  have e4:xs.length=4:=hxs
  rw [List.getElem?_eq_getElem (by omega)] at x0 x1 x2 x3
  have y0:DataW.trod enc Try.prog W 0 (fun _ => true) true n 3 ((cs.toList.drop 0).take (Try.prog.cellsOf 3))=some xs[0]:=x0
  have y1:DataW.trod enc Try.prog W 0 (fun _ => true) true n 3 ((cs.toList.drop 1).take (Try.prog.cellsOf 3))=some xs[1]:=x1
  have y2:DataW.trod enc Try.prog W 0 (fun _ => true) true n 26 ((cs.toList.drop 2).take (Try.prog.cellsOf 26))=some xs[2]:=x2
  have y3:DataW.trod enc Try.prog W 0 (fun _ => true) true n 27 ((cs.toList.drop 18).take (Try.prog.cellsOf 27))=some xs[3]:=x3
  rw [c3] at y0 y1
  rw [c26] at y2
  rw [c27] at y3
  obtain ⟨pc,r,e0,hw0,hn⟩:=fits_int (f3 H enc W 0 _ _ _ _ _ y0)
  obtain rfl:=fits_nil hn
  obtain ⟨us,r,e1,hw1,hn⟩:=fits_int (f3 H enc W 0 _ _ _ _ _ y1)
  obtain rfl:=fits_nil hn
  obtain ⟨rs,r1,e2,r2,-⟩:=regs_of 8 (f24 H enc W 0 _ _ _ _ _ y2)
  obtain ⟨SA,sc,fs,e3,q1,-,q2,-⟩:=open_rowsT kF (fun _ => True) zF Try.underlying27 flat_frame (by kernel_rfl) rfl (fun cs h => frame_of h) y3
  refine ⟨SA,sc,fs,rs,pc,us,?_,r1,q1,q2,r2,word_of hw0,word_of hw1⟩
  congr 1
  apply Array.toList_inj.1
  unfold cpuC
  rw [List.toList_toArray]
  have e0':cs.toList.take 1=[.int .i64 pc]:=by simpa using e0
  have s1:cs.toList=cs.toList.take 1 ++ cs.toList.drop 1:=(List.take_append_drop 1 _).symm
  have s2:cs.toList.drop 1=(cs.toList.drop 1).take 1 ++ (cs.toList.drop 1).drop 1:=(List.take_append_drop 1 _).symm
  have s3:(cs.toList.drop 1).drop 1=cs.toList.drop 2:=by rw [List.drop_drop]
  have s4:cs.toList.drop 2=(cs.toList.drop 2).take 16 ++ (cs.toList.drop 2).drop 16:=(List.take_append_drop 16 _).symm
  have s5:(cs.toList.drop 2).drop 16=(cs.toList.drop 18).take 1:=by
    rw [List.drop_drop,List.take_of_length_le (by rw [List.length_drop,hl'];omega)]
  rw [s1,e0',s2,e1,s3,s4,e2,s5,e3]
  rfl
/-- Two numbers that came in. -/
theorem two_of {H : Type} {enc : TypeId × Value → H} {W : World} {base : Nat} {v : Value} {dt : DataW H} {p : List MemPlace} (o : Value.okWide Try.prog W .any base 30 v) (h : DataW.Trod enc Try.prog W 0 (fun _ => true) true 30 v dt p) :
    ∃ a b:Int,v=.agg #[.int .i64 a,.int .i64 b]∧R64 a∧R64 b:=by
  have o':=o
  simp only [Value.okWide,Try.underlying30] at o'
  obtain ⟨cs,rfl,h2,-⟩:=o'
  obtain ⟨fuel,hf⟩:=h
  have f30:Flat Try.prog 30 (List.replicate 2 [Leaf.int .i64]).flatten:=flat_array Try.underlying30 (flat_int (by kernel_rfl)) (by kernel_rfl) (by kernel_rfl)
  have hF:=f30 H enc W 0 (fun _ => true) true fuel _ _ hf
  have hF':Fits [Leaf.int .i64,.int .i64] cs.toList:=hF
  obtain ⟨a,r,ea,ha,hF'⟩:=fits_int hF'
  obtain ⟨b,r',eb,hb,hF'⟩:=fits_int hF'
  obtain rfl:=fits_nil hF'
  refine ⟨a,b,?_,word_of ha,word_of hb⟩
  congr 1
  apply Array.toList_inj.1
  rw [ea,eb]
theorem does_len {c:CpuD} {o:S74} {vars:Int} {r:CpuD × AskD} (h:doesP c o vars=.inr r):r.1.fs.length ≤ c.fs.length + 1:=by
  unfold doesP at h
  repeat' split at h
  all_goals (first | (injection h with h;subst h;simp;done) | (injection h with h;subst h;simp;omega) | cases h)
theorem step_len (l:List S74) (c:CpuD) (vars fuel:Int):(stepP l c vars fuel).1.fs.length ≤ c.fs.length + 1:=by
  unfold stepP
  split
  · exact Nat.le_succ _
  split
  · exact Nat.le_succ _
  split
  · exact Nat.le_succ _
  split
  · exact Nat.le_succ _
  split
  · exact Nat.le_succ _
  · rename_i h
    have h2:=does_len h
    exact h2
def TCpu (e b0:Nat) (pc used:Int) (rs:List S32) (fs:List FrameD) (W:World) (v:Value):Prop:=∃ A c,v=.agg (cpuC pc used rs (.slice A fs.length c))∧Kd.R kF e W b0 (fun _ => True) (.slice A fs.length c) fs
theorem stable_TCpu (e b0:Nat) (pc used:Int) (rs:List S32) (fs:List FrameD):GR.Stable RB (TCpu e b0 pc used rs fs):=by
  rintro W W' v ⟨A,c,rfl,h⟩ hR
  exact ⟨A,c,rfl,Kd.R_below h hR⟩
def TStep (b0:Nat) (r:CpuD × AskD) (W:World) (v:Value):Prop:=r.1.rs.length=8∧∃ A c,v=.tuple #[.agg (cpuC r.1.pc r.1.used r.1.rs (.slice A r.1.fs.length c)),.agg r.2.c]∧Kd.R kF 88 W b0 (fun _ => True) (.slice A r.1.fs.length c) r.1.fs
theorem stable_TStep (b0:Nat) (r:CpuD × AskD):GR.Stable RB (TStep b0 r):=by
  rintro W W' v ⟨h8,A,c,rfl,h⟩ hR
  exact ⟨h8,A,c,rfl,Kd.R_below h hR⟩
theorem stable_R74 (b0:Nat) (L:List S74):GR.Stable RB (fun W v => Kd.R k74 74 W b0 (fun _ => True) v L):=fun _ _ _ h hb => Kd.R_below h hb
theorem theirs16_rel (A : Option Addr) (c : Nat) (l : List S97) (w : World) (hC : Kd.C k97 w A l.length l) (hc : l.length ≤ c) (hl : l.length ≤ 1000000) :
    Calls Try.prog 12 #[.slice A l.length c] w fun e w' => ∃ v,e=.returned v∧Kd.R k74 74 w' w.heap.size (fun _ => True) v (l.map conv74)∧Below w.heap.size w w' :=
  warpbeamlaw16_Theirs.calls A c l (l.map conv74) w hC hc (by unfold warpbeamlaw16_Theirs.f;rw [if_pos hl])
attribute [local go_sem high] eqA46
theorem cpu_inj {pc used:Int} {rs:List S32} {x y:Value} (h8:rs.length=8) (h:cpuC pc used rs x=cpuC pc used rs y):x=y:=by
  have h1:=cpuC_stk (pc:=pc) (used:=used) (stk:=x) h8
  have h2:=cpuC_stk (pc:=pc) (used:=used) (stk:=y) h8
  rw [h,h2] at h1
  exact (Option.some.inj h1).symm
theorem slice_inj {A B:Option Addr} {n c m d:Nat} (h:Value.slice A n c=.slice B m d):A=B∧c=d:=by
  injection h with h1 h2 h3
  exact ⟨h1,h3⟩
theorem tuple_inj {a b c d:Array Value} (h:Value.tuple #[.agg a,.agg b]=.tuple #[.agg c,.agg d]):a=c:=by
  injection h with h
  simp at h
  exact h.1
set_option maxRecDepth 100000 in
set_option maxHeartbeats 2000000 in
theorem steps_core (l : List S97) (A : Option Addr) (c : Nat) (pc used : Int) (rs : List S32) (SA : Option Addr) (sc : Nat) (fs : List FrameD) (l0 l1 : Int) (W : World) (hC : Kd.C k97 W A l.length l) (hlc : l.length ≤ c) (hS : Kd.C kF W SA fs.length fs) (hsc : fs.length ≤ sc) (hl8 : rs.length = 8) (hrg : ∀ v ∈ rs, -9223372036854775808 ≤ v.f1 ∧ v.f1 < 9223372036854775808) :
    Calls Try.prog 3 #[.slice A l.length c,.agg (cpuC pc used rs (.slice SA fs.length sc)),.agg #[.int .i64 l0,.int .i64 l1]] W fun e w' => e=.returned (.bool true)∧Below W.heap.size W w':=by
  have hu29:=Try.underlying29
  have hu30:=Try.underlying30
  have hu37:=Try.underlying37
  have hu39:=Try.underlying39
  have hu46:=Try.underlying46
  have hu32:=Try.underlying32
  have hu24:=Try.underlying24
  have hu27:=Try.underlying27
  obtain ⟨V1,hV1,KV1,hBV1⟩:=alz W (cpuC pc used rs (.slice SA fs.length sc)) 29
  have ltV1:W.heap.size < V1.heap.size:=zE KV1
  have K_in:=KV1
  have HB:=hBV1
  clear KV1 hBV1
  obtain ⟨V2,hV2,KV2,hBV2⟩:=alz V1 #[.int .i64 l0,.int .i64 l1] 30
  have ltV2:V1.heap.size < V2.heap.size:=zE KV2
  replace K_in:=zB K_in hBV2
  have K_lim:=KV2
  replace HB:=zA HB hBV2
  clear KV2 hBV2
  have HA:=Lib.hid (alive_calls V2)
  have HK:=Lib.hid (zL K_in (zL K_lim HB))
  clear K_in K_lim HB
  go_enter Try.func3,Try.ntmps3
  go_wp2_with fail
  refine HA.out.mono ?_
  rintro e w3 ⟨rfl,hB3⟩
  have K_in:=zB HK.out.1 hB3
  have K_lim:=zB HK.out.2.1 hB3
  have HB:=zA HK.out.2.2 hB3
  have s0:w3.cell? ⟨W.heap.size,18,none⟩=some (.slice SA fs.length sc):=(zC K_in 18).trans (cpuC_stk hl8)
  by_cases h220:220 < l.length
  · have h220':(220:Int) < l.length:=by omega
    have HE:=Lib.hid HB
    clear K_in K_lim HB
    go_wp2_with fail
    go_ret
    exact ⟨rfl,HE.out⟩
  have h220':¬ (220:Int) < l.length:=by omega
  by_cases h40:40 < fs.length
  · have h40':(40:Int) < fs.length:=by omega
    have HE:=Lib.hid HB
    clear K_in K_lim HB
    go_wp2_with fail
    go_ret
    exact ⟨rfl,HE.out⟩
  have h40':¬ (40:Int) < fs.length:=by omega
  obtain ⟨⟨⟨pc2,used2,rs2,fs2⟩,⟨ak,ax,aa,at',⟨av0,av1⟩,ae⟩⟩,hrr⟩:∃ r,stepP (l.map conv74) ⟨pc,used,rs,fs⟩ l0 l1=r:=⟨_,rfl⟩
  have hrl:fs2.length ≤ 41:=by have:=step_len (l.map conv74) ⟨pc,used,rs,fs⟩ l0 l1;rw [hrr] at this;have h2:fs2.length ≤ fs.length + 1:=this;omega
  have k0:∀ W',Below w3.heap.size w3 W' → W'.heap[W.heap.size]?=some (.cells (cpuC pc used rs (.slice SA fs.length sc)) 29 (0,0)):=fun W' hB => zB K_in hB
  have k1:∀ W',Below w3.heap.size w3 W' → W'.cell? ⟨V1.heap.size,0,none⟩=some (.int .i64 l0):=fun W' hB => zC (zB K_lim hB) 0
  have k2:∀ W',Below w3.heap.size w3 W' → W'.cell? ⟨V1.heap.size,1,none⟩=some (.int .i64 l1):=fun W' hB => zC (zB K_lim hB) 1
  have HC0:=Lib.hid fun W' (hB:Below w3.heap.size w3 W') => zL (Kd.C_below hC (zA HB hB)) (Kd.C_below hS (zA HB hB))
  have HH:=Lib.hid (zL K_in (zL K_lim HB))
  clear K_in K_lim HB HK
  go_wp2_with fail
  apply GR.wp_region_grow (R:=RB) 14 (by kernel_rfl) (by kernel_rfl) (by kernel_rfl)
  · intro c a d v w h;cases d <;> exact h
  simp only [List.take_succ_cons,List.take_zero,List.drop_succ_cons,List.drop_zero]
  apply GR.gw_val (by rfl)
  · (intro W' hB hD;go_simp;first | done | rfl)
  simp only [Act.put,zI,zJ,zK]
  apply GR.gw_callR (stable_R74 w3.heap.size (l.map conv74)) (by rfl)
  · (intro W' hB hD;go_simp;first | done | rfl | exact ⟨rfl,rfl⟩)
  · (intro W' hB hD; exact (theirs16_rel A c l W' (HC0.out W' hB).1 hlc (by omega)).mono fun e w' hh => by
      obtain ⟨v,he,hv,hb⟩:=hh
      exact ⟨v,he,hb,Kd.R_lower hv hB.size⟩)
  rintro v ⟨Wv,hv⟩
  obtain ⟨B,d,rfl⟩:=Kd.R_slice hv
  clear hv Wv
  simp only [Act.put,zI,zJ,zK]
  apply GR.gw_val (by rfl)
  · (intro W' hB hD;exact exec_ld rfl (ld_whole (k0 W' hB) hu29 rfl (by rw [sz29,zG hl8])))
  simp only [Act.put,zI,zJ,zK]
  apply GR.gw_callR (stable_TCpu 88 w3.heap.size pc used rs fs) (by rfl)
  · (intro W' hB hD;go_simp;first | done | rfl | exact ⟨rfl,rfl⟩)
  · (intro W' hB hD; exact (theirs17_calls pc used rs SA sc fs W' (HC0.out W' hB).2 hsc hl8 (by omega)).mono fun e w' hh => by
      obtain ⟨SB,sd,he,hv,hb⟩:=hh
      exact ⟨_,he,hb,SB,sd,rfl,Kd.R_lower hv hB.size⟩)
  rintro v ⟨Wv,SB,sd,rfl,hv⟩
  clear hv Wv
  simp only [Act.put,zI,zJ,zK]
  apply GR.gw_val (by rfl)
  · (intro W' hB hD;have q1:=k1 W' hB;have q2:=k2 W' hB;go_simp;first | done | rfl)
  simp only [Act.put,zI,zJ,zK]
  apply GR.gw_val (by rfl)
  · (intro W' hB hD;have q1:=k1 W' hB;have q2:=k2 W' hB;go_simp;first | done | rfl)
  simp only [Act.put,zI,zJ,zK]
  apply GR.gw_val (by rfl)
  · (intro W' hB hD;have q1:=k1 W' hB;have q2:=k2 W' hB;go_simp;first | done | rfl)
  simp only [Act.put,zI,zJ,zK]
  apply GR.gw_val (by rfl)
  · (intro W' hB hD;have q1:=k1 W' hB;have q2:=k2 W' hB;go_simp;first | done | rfl)
  simp only [Act.put,zI,zJ,zK]
  apply GR.gw_callR (stable_TStep w3.heap.size (⟨pc2,used2,rs2,fs2⟩,⟨ak,ax,aa,at',⟨av0,av1⟩,ae⟩)) (by rfl)
  · (intro W' hB hD;go_simp;first | done | rfl | exact ⟨rfl,rfl⟩)
  · intro W' hB hD
    simp [GR.depFacts,Region.binds] at hD
    obtain ⟨hD1,hD2⟩:=hD
    obtain ⟨A1,c1,e1,hc1,hC1⟩:=Kd.R_reads hD1
    injection e1 with e1a e1b e1c
    subst e1a;subst e1c
    have hD3:Kd.R kF 88 W' w3.heap.size (fun _ => True) (.slice SB fs.length sd) fs:=by
      obtain ⟨A2,c2,e2,hR2⟩:=hD2
      injection e2 with e2
      obtain ⟨rfl,rfl⟩:=slice_inj (cpu_inj hl8 e2)
      exact hR2
    have hstep:=step_calls W' B d (l.map conv74) pc used l0 l1 rs SB sd fs hC1 hc1 hl8 (Kd.R_reads' hD3).2.2 (Kd.R_reads' hD3).2.1 (by omega) hrg
    rw [hrr] at hstep
    rw [List.length_map] at hstep
    exact hstep.mono fun e w' hh => by
      obtain ⟨h8,stk,he,hR,hb⟩:=hh
      obtain ⟨A3,c3,rfl⟩:=Kd.R_slice hR
      exact ⟨_,he,hb,h8,A3,c3,rfl,Kd.R_lower hR hB.size⟩
  rintro v ⟨Wv,hr8,SD,se,rfl,hv⟩
  clear hv Wv
  dsimp only [AskD.c] at hr8 ⊢
  simp only [Act.put,zI,zJ,zK]
  apply GR.gw_rel (stable_TStep w3.heap.size (⟨pc2,used2,rs2,fs2⟩,⟨ak,ax,aa,at',⟨av0,av1⟩,ae⟩)) (by rfl)
  · intro W' hB hD
    have hT:TStep w3.heap.size (⟨pc2,used2,rs2,fs2⟩,⟨ak,ax,aa,at',⟨av0,av1⟩,ae⟩) W' (.tuple #[.agg (cpuC pc2 used2 rs2 (.slice SD fs2.length se)),.agg (askC ak ax aa at' av0 av1 ae)]):=by simp [GR.depFacts,Region.binds] at hD;exact hD
    refine ⟨_,W',?_,Below.refl _ _,hT⟩
    go_simp
    first | done | rfl
  rintro v ⟨-,-,SD2,se2,rfl,-⟩
  dsimp only [AskD.c]
  simp only [Act.put,zI,zJ,zK]
  apply GR.gw_rel (stable_TCpu 88 w3.heap.size pc2 used2 rs2 fs2) (by rfl)
  · intro W' hB hD
    have hT:TStep w3.heap.size (⟨pc2,used2,rs2,fs2⟩,⟨ak,ax,aa,at',⟨av0,av1⟩,ae⟩) W' (.tuple #[.agg (cpuC pc2 used2 rs2 (.slice SD2 fs2.length se2)),.agg (askC ak ax aa at' av0 av1 ae)]):=by simp [GR.depFacts,Region.binds] at hD;exact hD
    obtain ⟨-,A9,c9,e9,hR9⟩:=hT
    dsimp only at e9 hR9
    have e9':=tuple_inj e9
    obtain ⟨rfl,rfl⟩:=slice_inj (cpu_inj hr8 e9')
    refine ⟨.agg (cpuC pc2 used2 rs2 (.slice SD2 fs2.length se2)),W',?_,Below.refl _ _,SD2,se2,rfl,hR9⟩
    go_simp
    first | done | rfl
  rintro v ⟨-,SD3,se3,rfl,-⟩
  simp only [Act.put,zI,zJ,zK]
  apply GR.gw_val (c:=.agg (askC ak ax aa at' av0 av1 ae)) (by rfl)
  · (intro W' hB hD;go_simp;first | done | rfl)
  simp only [Act.put,zI,zJ,zK]
  apply GR.gw_rel (stable_TZ w3.heap.size (.cells #[.int .i64 0,.int .i64 0,.int .i64 0,.int .i64 0,.int .i64 0,.int .i64 0,.int .i64 0,.int .i64 0,.int .i64 0,.int .i64 0,.int .i64 0,.int .i64 0,.int .i64 0,.int .i64 0,.int .i64 0,.int .i64 0,.int .i64 0,.int .i64 0,.slice none 0 0] 37)) (by rfl)
  · intro W' hB hD
    refine ⟨_,_,?_,bOne (.cells #[.int .i64 0,.int .i64 0,.int .i64 0,.int .i64 0,.int .i64 0,.int .i64 0,.int .i64 0,.int .i64 0,.int .i64 0,.int .i64 0,.int .i64 0,.int .i64 0,.int .i64 0,.int .i64 0,.int .i64 0,.int .i64 0,.int .i64 0,.int .i64 0,.slice none 0 0] 37),W'.heap.size,rfl,hB.size,heap_alloc_new _ _⟩
    go_simp
    first | done | rfl
  rintro v ⟨-,p1,rfl,-,-⟩
  simp only [Act.put,zI,zJ,zK]
  apply GR.gw_rel (stable_TZ w3.heap.size (.cells #[.int .i64 0,.int .i64 0,.int .i64 0,.int .i64 0,.int .i64 0,.int .i64 0,.int .i64 0] 39)) (by rfl)
  · intro W' hB hD
    refine ⟨_,_,?_,bOne (.cells #[.int .i64 0,.int .i64 0,.int .i64 0,.int .i64 0,.int .i64 0,.int .i64 0,.int .i64 0] 39),W'.heap.size,rfl,hB.size,heap_alloc_new _ _⟩
    go_simp
    first | done | rfl
  rintro v ⟨-,p2,rfl,-,-⟩
  simp only [Act.put,zI,zJ,zK]
  apply GR.gw_nil
  intro Wa hW hF hP
  have hRow:=hF (fun W => TCpu 88 w3.heap.size pc2 used2 rs2 fs2 W (.agg (cpuC pc2 used2 rs2 (.slice SD3 fs2.length se3)))) (by simp)
  obtain ⟨A9,c9,e9,hR9⟩:=hRow
  injection e9 with e9
  obtain ⟨rfl,rfl⟩:=slice_inj (cpu_inj hr8 e9)
  have hx1:=hF (fun W => TZ w3.heap.size (.cells #[.int .i64 0,.int .i64 0,.int .i64 0,.int .i64 0,.int .i64 0,.int .i64 0,.int .i64 0,.int .i64 0,.int .i64 0,.int .i64 0,.int .i64 0,.int .i64 0,.int .i64 0,.int .i64 0,.int .i64 0,.int .i64 0,.int .i64 0,.int .i64 0,.slice none 0 0] 37) W (ptr p1)) (by simp)
  have hx2:=hF (fun W => TZ w3.heap.size (.cells #[.int .i64 0,.int .i64 0,.int .i64 0,.int .i64 0,.int .i64 0,.int .i64 0,.int .i64 0] 39) W (ptr p2)) (by simp)
  rw [TZ_ptr] at hx1 hx2
  have hne:p1 ≠ p2:=by
    intro e1
    have:=hx1.2
    rw [e1,hx2.2] at this
    simp at this
  clear hF hP
  obtain ⟨q1,K_x⟩:=hx1
  obtain ⟨q2,K_ak⟩:=hx2
  have K_in:=zB HH.out.1 hW
  have K_lim:=zB HH.out.2.1 hW
  have HB:=zA HH.out.2.2 hW
  have R_st:=hR9
  have szw:=HH.out.2.2.size
  have szn:=hW.size
  have lp1:=zE K_x
  have lp2:=zE K_ak
  have li:=zE HH.out.1
  have ll:=zE HH.out.2.1
  have nlm:W.heap.size ≠ V1.heap.size:=by omega
  clear hR9 hW HH k0 k1 k2 HC0
  obtain ⟨zV1,hSzV1,KKzV1,hOzV1⟩:=st_whole (P:=Try.prog) (ty:=37) (vs:=(cpuC pc2 used2 rs2 (.slice SD3 fs2.length se3):Array Value).toList) K_x (by first | rfl | (have:=zG (pc:=pc2) (used:=used2) (stk:=.slice SD3 fs2.length se3) hr8;simp [this]) | (simp;exact (zG (pc:=pc2) (used:=used2) (stk:=.slice SD3 fs2.length se3) hr8).symm)) (by rw [sz37];first | rfl | (have:=zG (pc:=pc2) (used:=used2) (stk:=.slice SD3 fs2.length se3) hr8;simp [this]) | (simp;exact (zG (pc:=pc2) (used:=used2) (stk:=.slice SD3 fs2.length se3) hr8).symm)) (cpuC_one1 _ _ _ rfl)
  simp only [Array.toArray_toList] at hSzV1 KKzV1
  replace R_st:=R_offs R_st K_x (by intro q hq;simp [kF] at hq;subst hq;decide) hOzV1
  replace K_x:zV1.heap[p1]?=some (.cells (cpuC pc2 used2 rs2 (.slice SD3 fs2.length se3)) 37 (0,0)):=KKzV1
  replace K_in:=hOzV1.mid K_in (by omega) (B:=0)
  replace K_lim:=hOzV1.mid K_lim (by omega) (B:=0)
  replace K_ak:=hOzV1.mid K_ak (by omega) (B:=0)
  have szzV1:Wa.heap.size ≤ zV1.heap.size:=hOzV1.size
  replace HB:=HB.trans (hOzV1.below (by omega) HB.size)
  clear hOzV1
  clear KKzV1
  obtain ⟨zV2,hSzV2,KKzV2,hOzV2⟩:=st_whole (P:=Try.prog) (ty:=39) (vs:=(askC ak ax aa at' av0 av1 ae:Array Value).toList) K_ak (by first | rfl | (have:=rfl;simp [this]) | (simp;exact (rfl).symm)) (by rw [size39];first | rfl | (have:=rfl;simp [this]) | (simp;exact (rfl).symm)) (by simp [Value.oneCell'])
  simp only [Array.toArray_toList] at hSzV2 KKzV2
  replace R_st:=R_offs R_st K_ak (by intro q hq;simp [kF] at hq;subst hq;decide) hOzV2
  replace K_ak:zV2.heap[p2]?=some (.cells (askC ak ax aa at' av0 av1 ae) 39 (0,0)):=KKzV2
  replace K_in:=hOzV2.mid K_in (by omega) (B:=0)
  replace K_lim:=hOzV2.mid K_lim (by omega) (B:=0)
  replace K_x:=hOzV2.mid K_x (by omega) (B:=0)
  have szzV2:zV1.heap.size ≤ zV2.heap.size:=hOzV2.size
  replace HB:=HB.trans (hOzV2.below (by omega) HB.size)
  clear hOzV2
  clear KKzV2
  have zhL1:=ld_whole (P:=Try.prog) (ty:=29) K_in Try.underlying29 rfl (by first | rfl | (rw [sz29];rfl) | (rw [sz29];have:=zG hl8;simp [this]) | (rw [sz29,zG hl8]))
  have zc2:zV2.cell? ⟨V1.heap.size,0,none⟩=some (.int .i64 l0):=zC K_lim (0)
  have zc3:zV2.cell? ⟨V1.heap.size,1,none⟩=some (.int .i64 l1):=zC K_lim (1)
  have HF:=Lib.hid (rstep_calls A c l pc used rs SA sc fs l0 l1 zV2 (Kd.C_below hC HB) hlc (Kd.C_below hS HB) hsc hl8 (by omega) (by omega))
  rw [hrr] at HF
  have HXz1:=Lib.hid (zL K_in (zL K_lim (zL K_x (zL K_ak (zL R_st (HB))))))
  clear HB R_st K_ak K_x K_lim K_in
  go_wp2_with (first | refine wpList_st rfl rfl hSzV1 ?_ | refine wpList_st rfl rfl hSzV2 ?_ | refine wpList_ld rfl rfl zhL1 ?_)
  refine HF.out.mono ?_
  rintro e w9 ⟨-,SE,sf,rfl,hrow,hB9⟩
  dsimp only [AskD.c] at hrow ⊢
  clear HF
  obtain ⟨K_in,K_lim,K_x,K_ak,R_st,HB⟩:=HXz1.out
  clear HXz1
  replace K_in:=zB K_in hB9
  replace K_lim:=zB K_lim hB9
  replace K_x:=zB K_x hB9
  replace K_ak:=zB K_ak hB9
  replace R_st:=Kd.R_below R_st hB9
  have szw9:zV2.heap.size ≤ w9.heap.size:=hB9.size
  replace HB:=zA HB hB9
  have R_y:=hrow
  clear hrow
  obtain ⟨zV3,hzV3,KzV3,hBzV3⟩:=alz1 w9
  have ltzV3:w9.heap.size < zV3.heap.size:=zE KzV3
  replace K_in:=zB K_in hBzV3
  replace K_lim:=zB K_lim hBzV3
  replace K_x:=zB K_x hBzV3
  replace K_ak:=zB K_ak hBzV3
  replace R_st:=Kd.R_below R_st hBzV3
  replace R_y:=R_y.imp id (fun h_ => Kd.R_below h_ hBzV3)
  have K_yb:=KzV3
  replace HB:=zA HB hBzV3
  clear KzV3 hBzV3
  obtain ⟨zV4,hzV4,KzV4,hBzV4⟩:=alz0 zV3
  have ltzV4:zV3.heap.size < zV4.heap.size:=zE KzV4
  replace K_in:=zB K_in hBzV4
  replace K_lim:=zB K_lim hBzV4
  replace K_x:=zB K_x hBzV4
  replace K_ak:=zB K_ak hBzV4
  replace K_yb:=zB K_yb hBzV4
  replace R_st:=Kd.R_below R_st hBzV4
  replace R_y:=R_y.imp id (fun h_ => Kd.R_below h_ hBzV4)
  have K_bk:=KzV4
  replace HB:=zA HB hBzV4
  clear KzV4 hBzV4
  obtain ⟨zV5,hSzV5,KKzV5,hOzV5⟩:=st_whole (P:=Try.prog) (ty:=29) (vs:=(cpuC pc2 used2 rs2 (.slice SE fs2.length sf):Array Value).toList) K_yb (by first | rfl | (have:=zG (pc:=pc2) (used:=used2) (stk:=.slice SE fs2.length sf) hr8;simp [this]) | (simp;exact (zG (pc:=pc2) (used:=used2) (stk:=.slice SE fs2.length sf) hr8).symm)) (by rw [sz29];first | rfl | (have:=zG (pc:=pc2) (used:=used2) (stk:=.slice SE fs2.length sf) hr8;simp [this]) | (simp;exact (zG (pc:=pc2) (used:=used2) (stk:=.slice SE fs2.length sf) hr8).symm)) (cpuC_one1 _ _ _ rfl)
  simp only [Array.toArray_toList] at hSzV5 KKzV5
  replace R_st:=R_offs R_st K_yb (by intro q hq;simp [kF] at hq;subst hq;decide) hOzV5
  replace R_y:=R_y.imp id (fun h_ => R_offs h_ K_yb (by intro q hq;simp [kF] at hq;subst hq;decide) hOzV5)
  replace K_yb:zV5.heap[w9.heap.size]?=some (.cells (cpuC pc2 used2 rs2 (.slice SE fs2.length sf)) 29 (0,0)):=KKzV5
  replace K_in:=hOzV5.mid K_in (by omega) (B:=0)
  replace K_lim:=hOzV5.mid K_lim (by omega) (B:=0)
  replace K_x:=hOzV5.mid K_x (by omega) (B:=0)
  replace K_ak:=hOzV5.mid K_ak (by omega) (B:=0)
  replace K_bk:=hOzV5.mid K_bk (by omega) (B:=0)
  have szzV5:zV4.heap.size ≤ zV5.heap.size:=hOzV5.size
  replace HB:=HB.trans (hOzV5.below (by omega) HB.size)
  clear hOzV5
  clear KKzV5
  obtain ⟨zV6,hSzV6,KKzV6,hOzV6⟩:=st_whole (P:=Try.prog) (ty:=46) (vs:=(askC ak ax aa at' av0 av1 ae:Array Value).toList) K_bk (by first | rfl | (have:=rfl;simp [this]) | (simp;exact (rfl).symm)) (by rw [size46];first | rfl | (have:=rfl;simp [this]) | (simp;exact (rfl).symm)) (by simp [Value.oneCell'])
  simp only [Array.toArray_toList] at hSzV6 KKzV6
  replace R_st:=R_offs R_st K_bk (by intro q hq;simp [kF] at hq;subst hq;decide) hOzV6
  replace R_y:=R_y.imp id (fun h_ => R_offs h_ K_bk (by intro q hq;simp [kF] at hq;subst hq;decide) hOzV6)
  replace K_bk:zV6.heap[zV3.heap.size]?=some (.cells (askC ak ax aa at' av0 av1 ae) 46 (0,0)):=KKzV6
  replace K_in:=hOzV6.mid K_in (by omega) (B:=0)
  replace K_lim:=hOzV6.mid K_lim (by omega) (B:=0)
  replace K_x:=hOzV6.mid K_x (by omega) (B:=0)
  replace K_ak:=hOzV6.mid K_ak (by omega) (B:=0)
  replace K_yb:=hOzV6.mid K_yb (by omega) (B:=0)
  have szzV6:zV5.heap.size ≤ zV6.heap.size:=hOzV6.size
  replace HB:=HB.trans (hOzV6.below (by omega) HB.size)
  clear hOzV6
  clear KKzV6
  have zc4:zV6.cell? ⟨p2,0,none⟩=some (.int .i64 ak):=zC K_ak (0)
  have zc5:zV6.cell? ⟨p2,1,none⟩=some (.int .i64 ax):=zC K_ak (1)
  have zc6:zV6.cell? ⟨p2,2,none⟩=some (.int .i64 aa):=zC K_ak (2)
  have zc7:zV6.cell? ⟨p2,3,none⟩=some (.int .i64 at'):=zC K_ak (3)
  have zc8:zV6.cell? ⟨p2,4,none⟩=some (.int .i64 av0):=zC K_ak (4)
  have zc9:zV6.cell? ⟨p2,5,none⟩=some (.int .i64 av1):=zC K_ak (5)
  have zc10:zV6.cell? ⟨p2,6,none⟩=some (.int .i64 ae):=zC K_ak (6)
  obtain ⟨zV7,hzV7,KzV7,hBzV7⟩:=alz0 zV6
  have ltzV7:zV6.heap.size < zV7.heap.size:=zE KzV7
  replace K_in:=zB K_in hBzV7
  replace K_lim:=zB K_lim hBzV7
  replace K_x:=zB K_x hBzV7
  replace K_ak:=zB K_ak hBzV7
  replace K_yb:=zB K_yb hBzV7
  replace K_bk:=zB K_bk hBzV7
  replace R_st:=Kd.R_below R_st hBzV7
  replace R_y:=R_y.imp id (fun h_ => Kd.R_below h_ hBzV7)
  have K_ask:=KzV7
  replace HB:=zA HB hBzV7
  clear KzV7 hBzV7
  obtain ⟨zV8,hSzV8,KKzV8,hOzV8⟩:=st_whole (P:=Try.prog) (ty:=46) (vs:=(askC ak ax aa at' av0 av1 ae:Array Value).toList) K_ask (by first | rfl | (have:=rfl;simp [this]) | (simp;exact (rfl).symm)) (by rw [size46];first | rfl | (have:=rfl;simp [this]) | (simp;exact (rfl).symm)) (by simp [Value.oneCell'])
  simp only [Array.toArray_toList] at hSzV8 KKzV8
  replace R_st:=R_offs R_st K_ask (by intro q hq;simp [kF] at hq;subst hq;decide) hOzV8
  replace R_y:=R_y.imp id (fun h_ => R_offs h_ K_ask (by intro q hq;simp [kF] at hq;subst hq;decide) hOzV8)
  replace K_ask:zV8.heap[zV6.heap.size]?=some (.cells (askC ak ax aa at' av0 av1 ae) 46 (0,0)):=KKzV8
  replace K_in:=hOzV8.mid K_in (by omega) (B:=0)
  replace K_lim:=hOzV8.mid K_lim (by omega) (B:=0)
  replace K_x:=hOzV8.mid K_x (by omega) (B:=0)
  replace K_ak:=hOzV8.mid K_ak (by omega) (B:=0)
  replace K_yb:=hOzV8.mid K_yb (by omega) (B:=0)
  replace K_bk:=hOzV8.mid K_bk (by omega) (B:=0)
  have szzV8:zV7.heap.size ≤ zV8.heap.size:=hOzV8.size
  replace HB:=HB.trans (hOzV8.below (by omega) HB.size)
  clear hOzV8
  clear KKzV8
  have HXz2:=Lib.hid (zL K_in (zL K_lim (zL K_x (zL K_ak (zL K_yb (zL K_bk (zL K_ask (zL R_st (zL R_y (HB))))))))))
  clear HB R_y R_st K_ask K_bk K_yb K_ak K_x K_lim K_in
  go_wp2_with (first | refine wpList_st rfl rfl hSzV5 ?_ | refine wpList_st rfl rfl hSzV6 ?_ | refine wpList_st rfl rfl hSzV8 ?_)
  obtain ⟨K_in,K_lim,K_x,K_ak,K_yb,K_bk,K_ask,R_st,R_y,HB⟩:=HXz2.out
  clear HXz2
  have hY:∀ W',Below zV8.heap.size zV8 W' → Kd.C kF W' SE fs2.length fs2∧fs2.length ≤ sf:=fun W' hB => by
    rcases R_y with ⟨rfl,rfl,rfl⟩ | h
    · exact ⟨Kd.C_below hS (zA HB hB),hsc⟩
    · exact ⟨Kd.C_below (Kd.R_reads' h).2.2 hB,(Kd.R_reads' h).2.1⟩
  have e1:∀ W',Below zV8.heap.size zV8 W' → W'.heap[p1]?=some (.cells (cpuC pc2 used2 rs2 (.slice SD3 fs2.length se3)) 37 (0,0)):=fun W' hB => zB K_x hB
  have e2:∀ W',Below zV8.heap.size zV8 W' → W'.heap[w9.heap.size]?=some (.cells (cpuC pc2 used2 rs2 (.slice SE fs2.length sf)) 29 (0,0)):=fun W' hB => zB K_yb hB
  have e3:∀ W',Below zV8.heap.size zV8 W' → W'.heap[zV6.heap.size]?=some (.cells (askC ak ax aa at' av0 av1 ae) 46 (0,0)):=fun W' hB => zB K_ask hB
  have e4:∀ W',Below zV8.heap.size zV8 W' → W'.heap[zV3.heap.size]?=some (.cells (askC ak ax aa at' av0 av1 ae) 46 (0,0)):=fun W' hB => zB K_bk hB
  have HY:=Lib.hid (zL hY R_st)
  have HE:=Lib.hid HB
  clear K_in K_lim K_x K_ak K_yb K_bk K_ask R_st R_y HB hY
  apply GR.wp_region_grows (R:=RB) (by kernel_rfl) (by kernel_rfl)
  · intro c a d v w h;cases d <;> exact h
  apply GR.gw_val (by rfl)
  · (intro W' hB hD;exact exec_ld rfl (ld_whole (e1 W' hB) hu37 rfl (by rw [sz37,zG (pc:=pc2) (used:=used2) (stk:=.slice SD3 fs2.length se3) hr8])))
  simp only [Act.put,zI,zJ,zK]
  apply GR.gw_callR (stable_TCpu 99 zV8.heap.size pc2 used2 rs2 fs2) (by rfl)
  · (intro W' hB hD;go_simp;first | done | rfl | exact ⟨rfl,rfl⟩)
  · (intro W' hB hD; exact (ours17_calls pc2 used2 rs2 SD3 se3 fs2 W' (Kd.C_below (Kd.R_reads' HY.out.2).2.2 hB) (Kd.R_reads' HY.out.2).2.1 hr8 (by omega)).mono fun e w' hh => by
      obtain ⟨SB,sd,he,hv,hb⟩:=hh
      exact ⟨_,he,hb,SB,sd,rfl,Kd.R_lower hv hB.size⟩)
  rintro v ⟨-,SG,sg,rfl,-⟩
  simp only [Act.put,zI,zJ,zK]
  apply GR.gw_val (by rfl)
  · (intro W' hB hD;exact exec_ld rfl (ld_whole (e2 W' hB) hu29 rfl (by rw [sz29,zG (pc:=pc2) (used:=used2) (stk:=.slice SE fs2.length sf) hr8])))
  simp only [Act.put,zI,zJ,zK]
  apply GR.gw_call (c:=.bool true) (by rfl)
  · (intro W' hB hD;go_simp;first | done | rfl | exact ⟨rfl,rfl⟩)
  · intro W' hB hD
    have hT:TCpu 99 zV8.heap.size pc2 used2 rs2 fs2 W' (.agg (cpuC pc2 used2 rs2 (.slice SG fs2.length sg))):=by simp [GR.depFacts,Region.binds] at hD;exact hD
    obtain ⟨A9,c9,e9,hR9⟩:=hT
    injection e9 with e9
    obtain ⟨rfl,rfl⟩:=slice_inj (cpu_inj hr8 e9)
    have hy:=HY.out.1 W' hB
    exact same17_calls pc2 used2 rs2 SG SE sg sf fs2 W' (Kd.R_reads' hR9).2.2 hy.1 (Kd.R_reads' hR9).2.1 hy.2 hr8 (by omega)
  simp only [Act.put,zI,zJ,zK]
  apply GR.gw_val (c:=.bool true) (by rfl)
  · (intro W' hB hD;go_simp;first | done | rfl)
  simp only [Act.put,zI,zJ,zK]
  apply GR.gw_val (by rfl)
  · (intro W' hB hD;exact exec_ld rfl (ld_whole (e3 W' hB) hu46 rfl (by rw [size46];rfl)))
  simp only [Act.put,zI,zJ,zK]
  apply GR.gw_val (by rfl)
  · (intro W' hB hD;exact exec_ld rfl (ld_whole (e4 W' hB) hu46 rfl (by rw [size46];rfl)))
  simp only [Act.put,zI,zJ,zK]
  apply GR.gw_val (c:=.bool true) (by rfl)
  · (intro W' hB hD;clear e1 e2 e3 e4;go_simp;first | done | rfl)
  simp only [Act.put,zI,zJ,zK]
  apply GR.gw_val (c:=.bool true) (by rfl)
  · (intro W' hB hD;go_simp;first | done | rfl)
  simp only [Act.put,zI,zJ,zK]
  apply GR.gw_val (c:=.bool true) (by rfl)
  · (intro W' hB hD;go_simp;first | done | rfl)
  simp only [Act.put,zI,zJ,zK]
  apply GR.gw_nil
  intro Wz hBz hF hP
  clear hF hP
  have HZ:=Lib.hid (zA HE.out hBz)
  clear hBz e1 e2 e3 e4
  go_wp2_with fail
  go_ret
  exact ⟨rfl,HZ.out⟩
end Go.Proofs.Ytgnjkegnddekeaa.Q
namespace Go.Proofs.Ytgnjkegnddekeaa
open Go.ChangeShapes Go.WideShapes Go.ChangeAt Go.RowKit Go.Proofs.Ytgnjkegnddekeaa.Q Go.Proofs.YtgnjkegnddekeaaW.PrintWords Go.Proofs.YtgnjkegnddekeaaW.PrintLast Go.Proofs.YtgnjkegnddekeaaW.PrintMore
set_option maxRecDepth 100000 in
theorem walk_BlockSteps {H : Type} {enc : TypeId × Value → H} (W : World) (base : Nat) (v0 : Value) (d0 : DataW H) (p0 : List MemPlace) (o0 : Value.okWide Try.prog W .any base 22 v0) (h0 : DataW.Trod enc Try.prog W 0 (fun _ => true) true 22 v0 d0 p0) (v1 : Value) (d1 : DataW H) (p1 : List MemPlace) (o1 : Value.okWide Try.prog W .any base 29 v1) (h1 : DataW.Trod enc Try.prog W 0 (fun _ => true) true 29 v1 d1 p1) (v2 : Value) (d2 : DataW H) (p2 : List MemPlace) (o2 : Value.okWide Try.prog W .any base 30 v2) (h2 : DataW.Trod enc Try.prog W 0 (fun _ => true) true 30 v2 d2 p2) (_hsz : (DataW.weightsEach Try.prog (Try.f3.params.toList ++ Rows.blockStepsSpec.plain.varTypes Try.prog) ([d0, d1, d2] ++ [])).all (· ≤ reachBytes) = true) :
    Calls Try.prog 3 #[v0,v1,v2] W fun e w' => e=.returned (.bool true)∧Below W.heap.size W w':=by
  obtain ⟨A,c,l,rfl,hlc,hC,-⟩:=ops_of o0 h0
  obtain ⟨SA,sc,fs,rs,pc,used,rfl,h8,hsc,hS,hrg,-,-⟩:=cpu_of o1 h1
  obtain ⟨a,b,rfl,-,-⟩:=two_of o2 h2
  exact steps_core l A c pc used rs SA sc fs a b W hC hlc hS hsc h8 hrg
end Go.Proofs.Ytgnjkegnddekeaa
