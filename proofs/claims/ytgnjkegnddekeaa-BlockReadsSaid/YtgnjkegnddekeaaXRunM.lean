/- A runner in memory; what a block asks for is answered, by hand: nothing, and a save. -/
import Derived.Test.YtgnjkegnddekeaaXStepM
import Derived.Test.YtgnjkegnddekeaaXTxnT
import Derived.Test.YtgnjkegnddekeaaXFrameM
open List renaming setIfInBounds_toArray → zJ, set_cons_zero → zK, set_cons_succ → zL
open And renaming intro → zM
namespace Go.Proofs.Ytgnjkegnddekeaa.Q
open Go.RowKit Go.Lib Go.Proofs.Ytgnjkegnddekeaa Go.Proofs.YtgnjkegnddekeaaW.PrintWords Go.Proofs.YtgnjkegnddekeaaW.PrintLast Go.Proofs.YtgnjkegnddekeaaW.PrintMore
set_option linter.unusedVariables false
set_option linter.unusedSimpArgs false
/-- A runner. -/
def runC (pc used:Int) (rs:List S32) (stk tv nv:Value):Array Value:=(.int .i64 pc :: .int .i64 used :: (rc rs ++ [stk,tv,nv])).toArray
theorem size59:(Try.prog.info? 59).map (·.size)=some 19:=by kernel_rfl
theorem runC_size {pc used:Int} {rs:List S32} {stk tv nv:Value} (h:rs.length=8):(runC pc used rs stk tv nv).size=21:=by
  have e1:=rc_length rs
  simp [runC]
  omega
theorem runC_reg {pc used:Int} {rs:List S32} {stk tv nv:Value} {r:Nat} {v:S32} (h:rs[r]?=some v):(runC pc used rs stk tv nv)[2 + r * 2]?=some (.int .i64 v.f0)∧(runC pc used rs stk tv nv)[2 + r * 2 + 1]?=some (.int .i64 v.f1):=by
  obtain ⟨h1,h2⟩:=rc_get rs r v h
  have hl:=(List.getElem?_eq_some_iff.1 h1).1
  have hl2:=(List.getElem?_eq_some_iff.1 h2).1
  unfold runC
  rw [show 2 + r * 2=r * 2 + 1 + 1 by omega,show r * 2 + 1 + 1 + 1=r * 2 + 1 + 1 + 1 by omega]
  simp only [List.getElem?_toArray,List.getElem?_cons_succ]
  rw [List.getElem?_append_left hl,List.getElem?_append_left hl2]
  exact ⟨h1,h2⟩
theorem runC_tail {pc used:Int} {rs:List S32} {stk tv nv:Value} (h:rs.length=8):(runC pc used rs stk tv nv)[18]?=some stk∧(runC pc used rs stk tv nv)[19]?=some tv∧(runC pc used rs stk tv nv)[20]?=some nv:=by
  have hl:=rc_length rs
  unfold runC
  simp only [List.getElem?_toArray,List.getElem?_cons_succ]
  rw [List.getElem?_append_right (by omega),List.getElem?_append_right (by omega),List.getElem?_append_right (by omega)]
  simp [hl,h]
theorem runC_set {pc used:Int} {rs:List S32} {stk tv nv:Value} {r:Nat} (x y:Int) (h:r < rs.length):((runC pc used rs stk tv nv).setIfInBounds (2 + r * 2) (.int .i64 x)).setIfInBounds (2 + r * 2 + 1) (.int .i64 y)=runC pc used (rs.set r ⟨x,y⟩) stk tv nv:=by
  have h1:=rc_set rs r x y
  rw [if_pos h] at h1
  have hl:=rc_length rs
  unfold runC
  rw [zJ,zJ,show 2 + r * 2=r * 2 + 1 + 1 by omega]
  simp only [zL]
  rw [List.set_append_left _ _ (by omega),List.set_append_left _ _ (by simp;omega),h1]
theorem runC_setT {pc used:Int} {rs:List S32} {stk tv nv:Value} (t:Value) (h:rs.length=8):(runC pc used rs stk tv nv).setIfInBounds 19 t=runC pc used rs stk t nv:=by
  have hl:=rc_length rs
  unfold runC
  rw [zJ]
  simp only [zL]
  rw [List.set_append_right _ _ (by omega)]
  simp [hl,h]
theorem runC_split {pc used:Int} {rs:List S32} {stk tv nv:Value}:runC pc used rs stk tv nv=([] ++ (cpuC pc used rs stk).toList ++ [tv,nv]).toArray:=by
  simp [runC,cpuC]
theorem runC_setCpu {pc used pc' used':Int} {rs rs':List S32} {stk stk' tv nv:Value} (h:rs.length=8) (h':rs'.length=8):setL (runC pc used rs stk tv nv) 0 (cpuC pc' used' rs' stk').toList=runC pc' used' rs' stk' tv nv:=by
  have e1:=rc_length rs
  have e2:=rc_length rs'
  have e3:=cpuC_size (pc:=pc') (used:=used') (stk:=stk') h'
  have e4:=cpuC_size (pc:=pc) (used:=used) (stk:=stk) h
  rw [runC_split,runC_split,setL_list _ _ _ (by simp;omega)]
  simp only [List.nil_append,List.take_zero,Nat.zero_add]
  rw [show ((cpuC pc' used' rs' stk').toList.length)=(cpuC pc used rs stk).toList.length by simp;omega,List.drop_left]
/-- A row, wherever nothing was done to its block. -/
theorem C_only {α:Type} {d:Kd α} (hK:∀ w w' x cs,d.K w x cs → d.K w' x cs) {g:Nat} {W W':World} {A:Option Addr} {n:Nat} {xs:List α} (h:d.C W A n xs) (hO:Only g W W') (hA:∀ ad,A=some ad → ad.block ≠ g):d.C W' A n xs:=by
  obtain ⟨h1,h2,h3⟩:=h
  refine ⟨h1,h2,fun hn => ?_⟩
  obtain ⟨ad,hAd,h4⟩:=h3 hn
  refine ⟨ad,hAd,fun j p hj => ?_⟩
  obtain ⟨c,c1,c2,c3⟩:=h4 j p hj
  refine ⟨c,c1,hK _ _ _ _ c2,fun i u hu => ?_⟩
  have h5:=c3 i u hu
  have hlt:=World.block_lt_of_cell? W _ h5
  have hb:(ad.add (j * d.sz + i)).block=ad.block:=by unfold Addr.add;split <;> simp
  have e:=hO.block _ hlt (by rw [hb];exact hA ad hAd)
  unfold World.cell? at h5 ⊢
  rw [e]
  exact h5
/-- A runner stands so. -/
structure RunAt (W0 W:World) (rb:Nat) (now:List S32) (st:CpuD) (t:List S80) (stk:Value) (TA:Option Addr) (tc:Nat) (NA:Option Addr) (nc:Nat):Prop where
  hl:st.rs.length=8
  hr:W.heap[rb]?=some (.cells (runC st.pc st.used st.rs stk (.slice TA t.length tc) (.slice NA now.length nc)) 108 (0,0))
  hs:Stk W W0.heap.size stk st.fs
  ht:Kd.C k80 W TA t.length t
  htc:t.length ≤ tc
  hta:∀ ad,TA=some ad → rb + 1 < ad.block
  hB:Below W0.heap.size W0 W
  hrb:W0.heap.size ≤ rb
  hsz:rb + 1 < W.heap.size
theorem RunAt.below {W0 W W':World} {rb:Nat} {now:List S32} {st:CpuD} {t:List S80} {stk:Value} {TA:Option Addr} {tc:Nat} {NA:Option Addr} {nc:Nat} (h:RunAt W0 W rb now st t stk TA tc NA nc) (hB:Below W.heap.size W W'):RunAt W0 W' rb now st t stk TA tc NA nc :=
  ⟨h.hl,zE h.hr hB,h.hs.below hB,Kd.C_below h.ht hB,h.htc,h.hta,h.hB.trans (below_le hB h.hB.size),h.hrb,Nat.lt_of_lt_of_le h.hsz hB.size⟩
/-- A transaction that came back from a call. -/
def GotT (TA:Option Addr) (lo:Nat) (t:List S80) (err:Int) (W:World) (v:Value):Prop:=∃ A c,v=.tuple #[.slice A t.length c,.int .i64 err]∧Kd.C k80 W A t.length t∧t.length ≤ c∧(A=TA ∨ ∀ ad,A=some ad → lo ≤ ad.block)
theorem stable_GotT (TA:Option Addr) (lo:Nat) (t:List S80) (err:Int):GR.Stable RB (GotT TA lo t err):=by
  rintro W W' v ⟨A,c,rfl,h1,h2,h3⟩ hR
  exact ⟨A,c,rfl,Kd.C_below h1 hR,h2,h3⟩
theorem GotT.at {TA:Option Addr} {lo:Nat} {t:List S80} {err:Int} {W:World} {A:Option Addr} {c:Nat} (h:GotT TA lo t err W (.tuple #[.slice A t.length c,.int .i64 err])):Kd.C k80 W A t.length t∧t.length ≤ c∧(A=TA ∨ ∀ ad,A=some ad → lo ≤ ad.block):=by
  obtain ⟨A',c',e,h1,h2,h3⟩:=h
  simp at e
  obtain ⟨rfl,rfl⟩:=e
  exact ⟨h1,h2,h3⟩
/-- Its row alone. -/
def GotS (TA:Option Addr) (lo:Nat) (t:List S80) (W:World) (v:Value):Prop:=∃ A c,v=.slice A t.length c∧Kd.C k80 W A t.length t∧t.length ≤ c∧(A=TA ∨ ∀ ad,A=some ad → lo ≤ ad.block)
theorem stable_GotS (TA:Option Addr) (lo:Nat) (t:List S80):GR.Stable RB (GotS TA lo t):=by
  rintro W W' v ⟨A,c,rfl,h1,h2,h3⟩ hR
  exact ⟨A,c,rfl,Kd.C_below h1 hR,h2,h3⟩
theorem GotS.at {TA:Option Addr} {lo:Nat} {t:List S80} {W:World} {A:Option Addr} {c:Nat} (h:GotS TA lo t W (.slice A t.length c)):Kd.C k80 W A t.length t∧t.length ≤ c∧(A=TA ∨ ∀ ad,A=some ad → lo ≤ ad.block):=by
  obtain ⟨A',c',e,h1,h2,h3⟩:=h
  simp at e
  obtain ⟨rfl,rfl⟩:=e
  exact ⟨h1,h2,h3⟩
/-- What is no runner, and no frames, stays. -/
def StaysW (W W':World):Prop:=∀ (b:Nat) (cs:Array Value) (T:Nat),W.heap[b]?=some (Obj.cells cs T (0,0)) → T ≠ 108 → T ≠ 88 → W'.heap[b]?=some (Obj.cells cs T (0,0))
theorem StaysW.only {g T:Nat} {cs:Array Value} {W W':World} (h:W.heap[g]?=some (.cells cs T (0,0))) (hT:T=108 ∨ T=88) (hO:Only g W W'):StaysW W W':=by
  intro b xs T2 hb h1 h2
  refine hO.mid hb ?_ (B:=0)
  rintro rfl
  rw [h] at hb
  have e:T=T2:=by
    simp only [Option.some.injEq,Obj.cells.injEq] at hb
    exact hb.2.1
  rcases hT with hT | hT
  · exact h1 (e.symm.trans hT)
  · exact h2 (e.symm.trans hT)
theorem StaysW.below {W W1 W':World} (h:StaysW W1 W') (hB:Below W.heap.size W W1):StaysW W W':=fun b cs T hb h1 h2 => h b cs T (zE hb hB) h1 h2
theorem StaysW.of_below {W W':World} (hB:Below W.heap.size W W'):StaysW W W':=fun b cs T hb _ _ => zE hb hB
/-- It stands so behind the answer. -/
def Answered (W0 W w':World) (rb:Nat) (now:List S32) (NA:Option Addr) (nc:Nat) (st:CpuD) (t:List S80) (err:Int) (y:Ending):Prop:=y=.returned (.int .i64 err)∧StaysW W w'∧∃ stk TA tc,RunAt W0 w' rb now st t stk TA tc NA nc
theorem RunAt.setT {W0 W W':World} {rb:Nat} {now:List S32} {st:CpuD} {t t':List S80} {stk:Value} {TA TA':Option Addr} {tc tc':Nat} {NA:Option Addr} {nc:Nat} (h:RunAt W0 W rb now st t stk TA tc NA nc) (e:W.setCell ⟨rb,19,none⟩ (.slice TA' t'.length tc')=W') (hC:Kd.C k80 W TA' t'.length t') (hc:t'.length ≤ tc') (hA:TA'=TA ∨ ∀ ad,TA'=some ad → rb + 1 < ad.block):RunAt W0 W' rb now st t' stk TA' tc' NA nc:=by
  subst e
  have hO:Only rb W (W.setCell ⟨rb,19,none⟩ (.slice TA' t'.length tc')):=Only.set W 19 _
  have hta:∀ ad,TA'=some ad → rb + 1 < ad.block:=by
    rcases hA with rfl | hA
    · exact h.hta
    · exact hA
  exact ⟨h.hl,by rw [← runC_setT _ h.hl];exact blk_set h.hr 19 _,h.hs.only h.hr (by decide) hO,C_only (fun w w' x cs hk => flatK80 hk) hC hO (fun ad ha => by have:=hta ad ha;omega),hc,hta,h.hB.trans (hO.below h.hrb h.hB.size),h.hrb,Nat.lt_of_lt_of_le h.hsz hO.size⟩
set_option maxRecDepth 100000 in
set_option maxHeartbeats 2000000 in
theorem answer_go (W0 W:World) (rb:Nat) (now:List S32) (st:CpuD) (t:List S80) (stk:Value) (TA:Option Addr) (tc:Nat) (NA:Option Addr) (nc:Nat) (h:RunAt W0 W rb now st t stk TA tc NA nc) (x a d v0 v1 e:Int)  :
    Calls Try.prog 41 #[ptr rb,.agg (askC 0 x a d v0 v1 e)] W fun y w' => Answered W0 W w' rb now NA nc st t 0 y:=by
  have hu32:=Try.underlying32
  have hu35:=Try.underlying35
  have hu37:=Try.underlying37
  have hu39:=Try.underlying39
  have hu57:=Try.underlying57
  have hu88:=Try.underlying88
  have hu108:=Try.underlying108
  have hrl:=blk_lt h.hr
  obtain ⟨W1,hW1,K1,hB1⟩:=alz W (askC 0 x a d v0 v1 e) 39
  have h1:=h.below hB1
  have a0:=zG K1 0
  have q1:∀ W',Below W1.heap.size W1 W' → W'.cell? ⟨W.heap.size,1,none⟩=some (.int .i64 x):=fun W' hB => zG (zE K1 hB) 1
  have q3:∀ W',Below W1.heap.size W1 W' → W'.cell? ⟨W.heap.size,3,none⟩=some (.int .i64 d):=fun W' hB => zG (zE K1 hB) 3
  have q4:∀ W',Below W1.heap.size W1 W' → W'.cell? ⟨W.heap.size,4,none⟩=some (.int .i64 v0):=fun W' hB => zG (zE K1 hB) 4
  have q5:∀ W',Below W1.heap.size W1 W' → W'.cell? ⟨W.heap.size,5,none⟩=some (.int .i64 v1):=fun W' hB => zG (zE K1 hB) 5
  have q8:∀ W',Below W1.heap.size W1 W' → W'.cell? ⟨rb,18,none⟩=some stk:=fun W' hB => (zG (zE h1.hr hB) 18).trans (runC_tail h1.hl).1
  have q9:∀ W',Below W1.heap.size W1 W' → W'.cell? ⟨rb,19,none⟩=some (.slice TA t.length tc):=fun W' hB => (zG (zE h1.hr hB) 19).trans (runC_tail h1.hl).2.1
  have H1:=Lib.hid (zM h1 (zM hB1 K1))
  clear h h1 hB1 K1
  go_enter Try.func41,Try.ntmps41
  go_wp2_with fail
  go_ret
  exact ⟨rfl,StaysW.of_below H1.out.2.1,_,_,_,H1.out.1⟩
set_option maxRecDepth 100000 in
set_option maxHeartbeats 2000000 in
theorem answer_write (W0 W:World) (rb:Nat) (now:List S32) (st:CpuD) (t:List S80) (stk:Value) (TA:Option Addr) (tc:Nat) (NA:Option Addr) (nc:Nat) (h:RunAt W0 W rb now st t stk TA tc NA nc) (x a d v0 v1 e:Int) (hbig:t.length ≤ 400000) :
    Calls Try.prog 41 #[ptr rb,.agg (askC 2 x a d v0 v1 e)] W fun y w' => Answered W0 W w' rb now NA nc st ((addL t ⟨x,⟨v0,v1⟩,true⟩).1) ((addL t ⟨x,⟨v0,v1⟩,true⟩).2) y:=by
  have hu32:=Try.underlying32
  have hu35:=Try.underlying35
  have hu37:=Try.underlying37
  have hu39:=Try.underlying39
  have hu57:=Try.underlying57
  have hu88:=Try.underlying88
  have hu108:=Try.underlying108
  have hrl:=blk_lt h.hr
  obtain ⟨W1,hW1,K1,hB1⟩:=alz W (askC 2 x a d v0 v1 e) 39
  have h1:=h.below hB1
  have a0:=zG K1 0
  have q1:∀ W',Below W1.heap.size W1 W' → W'.cell? ⟨W.heap.size,1,none⟩=some (.int .i64 x):=fun W' hB => zG (zE K1 hB) 1
  have q3:∀ W',Below W1.heap.size W1 W' → W'.cell? ⟨W.heap.size,3,none⟩=some (.int .i64 d):=fun W' hB => zG (zE K1 hB) 3
  have q4:∀ W',Below W1.heap.size W1 W' → W'.cell? ⟨W.heap.size,4,none⟩=some (.int .i64 v0):=fun W' hB => zG (zE K1 hB) 4
  have q5:∀ W',Below W1.heap.size W1 W' → W'.cell? ⟨W.heap.size,5,none⟩=some (.int .i64 v1):=fun W' hB => zG (zE K1 hB) 5
  have q8:∀ W',Below W1.heap.size W1 W' → W'.cell? ⟨rb,18,none⟩=some stk:=fun W' hB => (zG (zE h1.hr hB) 18).trans (runC_tail h1.hl).1
  have q9:∀ W',Below W1.heap.size W1 W' → W'.cell? ⟨rb,19,none⟩=some (.slice TA t.length tc):=fun W' hB => (zG (zE h1.hr hB) 19).trans (runC_tail h1.hl).2.1
  have H1:=Lib.hid (zM h1 (zM hB1 K1))
  have hbig':t.length ≤ 1000000:=by omega
  clear h h1 hB1 K1
  go_enter Try.func41,Try.ntmps41
  go_wp2_with fail
  apply GR.wp_region_grow (R:=RB) 15 (by kernel_rfl) (by kernel_rfl) (by kernel_rfl)
  · intro c a d v w h;cases d <;> exact h
  simp only [List.take_succ_cons,List.take_zero,List.drop_succ_cons,List.drop_zero]
  iterate 9
    apply GR.gw_val (by rfl)
    · (intro W' hB hD;have e1:=q1 W' hB;have e3:=q3 W' hB;have e4:=q4 W' hB;have e5:=q5 W' hB;have e8:=q8 W' hB;have e9:=q9 W' hB;go_simp;first | done | rfl)
    simp only [Act.put,zJ,zK,zL]
  apply GR.gw_callR (stable_GotT TA W1.heap.size ((addL t ⟨x,⟨v0,v1⟩,true⟩).1) ((addL t ⟨x,⟨v0,v1⟩,true⟩).2)) (by rfl)
  · (intro W' hB hD;go_simp;first | done | rfl | exact ⟨rfl,rfl⟩)
  · (intro W' hB hD
     refine (write_calls TA tc t x ⟨v0,v1⟩ W' (Kd.C_below H1.out.1.ht hB) H1.out.1.htc hbig').mono fun e w' hh => ?_
     obtain ⟨A2,c2,he,h1,h2,h3,h4⟩:=hh
     exact ⟨_,he,h3,A2,c2,rfl,h1,h2,h4.imp id fun hq ad ha => Nat.le_trans hB.size (hq ad ha)⟩)
  rintro v ⟨-,A5,c5,rfl,-⟩
  simp only [Act.put,zJ,zK,zL]
  apply GR.gw_rel (stable_GotT TA W1.heap.size ((addL t ⟨x,⟨v0,v1⟩,true⟩).1) ((addL t ⟨x,⟨v0,v1⟩,true⟩).2)) (by rfl)
  · intro W' hB hD
    have hT:GotT TA W1.heap.size ((addL t ⟨x,⟨v0,v1⟩,true⟩).1) ((addL t ⟨x,⟨v0,v1⟩,true⟩).2) W' (.tuple #[.slice A5 ((addL t ⟨x,⟨v0,v1⟩,true⟩).1).length c5,.int .i64 ((addL t ⟨x,⟨v0,v1⟩,true⟩).2)]):=by simp [GR.depFacts,Region.binds] at hD;exact hD
    refine ⟨_,W',?_,Below.refl _ _,hT⟩
    go_simp
    first | done | rfl
  rintro v ⟨-,A6,c6,rfl,-⟩
  simp only [Act.put,zJ,zK,zL]
  apply GR.gw_rel (stable_GotS TA W1.heap.size ((addL t ⟨x,⟨v0,v1⟩,true⟩).1)) (by rfl)
  · intro W' hB hD
    have hT:GotT TA W1.heap.size ((addL t ⟨x,⟨v0,v1⟩,true⟩).1) ((addL t ⟨x,⟨v0,v1⟩,true⟩).2) W' (.tuple #[.slice A6 ((addL t ⟨x,⟨v0,v1⟩,true⟩).1).length c6,.int .i64 ((addL t ⟨x,⟨v0,v1⟩,true⟩).2)]):=by simp [GR.depFacts,Region.binds] at hD;exact hD
    refine ⟨.slice A6 ((addL t ⟨x,⟨v0,v1⟩,true⟩).1).length c6,W',?_,Below.refl _ _,A6,c6,rfl,hT.at⟩
    go_simp
    first | done | rfl
  rintro v ⟨-,A2,c2,rfl,-⟩
  simp only [Act.put,zJ,zK,zL]
  iterate 3
    apply GR.gw_val (by rfl)
    · (intro W' hB hD;have e1:=q1 W' hB;have e3:=q3 W' hB;have e4:=q4 W' hB;have e5:=q5 W' hB;have e8:=q8 W' hB;have e9:=q9 W' hB;go_simp;first | done | rfl)
    simp only [Act.put,zJ,zK,zL]
  apply GR.gw_nil
  intro Wa hW hF hP
  clear hP
  have hG:=(hF (GotS TA W1.heap.size ((addL t ⟨x,⟨v0,v1⟩,true⟩).1) · (.slice A2 ((addL t ⟨x,⟨v0,v1⟩,true⟩).1).length c2)) (by simp)).at
  clear hF
  obtain ⟨h1,hB1,K1⟩:=H1.out
  have h2:=h1.below hW
  have z1:=q9 Wa hW
  have z2:=zH h2.hr 19
  obtain ⟨Wb,hWb⟩:∃ Wb,Wa.setCell ⟨rb,19,none⟩ (.slice A2 ((addL t ⟨x,⟨v0,v1⟩,true⟩).1).length c2)=Wb:=⟨_,rfl⟩
  have h3:=Lib.hid (h2.setT hWb hG.1 hG.2.1 (hG.2.2.imp id fun hh ad ha => Nat.lt_of_lt_of_le h1.hsz (hh ad ha)))
  have HKp:=Lib.hid (StaysW.below (StaysW.only h2.hr (.inl rfl) (show Only rb Wa Wb by rw [← hWb];exact Only.set Wa 19 _)) (bAfter hB1 hW))
  clear hG h1 hB1 K1 h2
  go_wp2_with fail
  go_ret
  exact ⟨rfl,HKp.out,_,_,_,h3.out⟩
set_option maxRecDepth 100000 in
set_option maxHeartbeats 2000000 in
theorem answer_back (W0 W:World) (rb:Nat) (now:List S32) (st:CpuD) (t:List S80) (stk:Value) (TA:Option Addr) (tc:Nat) (NA:Option Addr) (nc:Nat) (h:RunAt W0 W rb now st t stk TA tc NA nc) (x a d v0 v1 e:Int) (hbig:t.length ≤ 400000) :
    Calls Try.prog 41 #[ptr rb,.agg (askC 4 x a d v0 v1 e)] W fun y w' => Answered W0 W w' rb now NA nc st ((backL t d).1) ((backL t d).2) y:=by
  have hu32:=Try.underlying32
  have hu35:=Try.underlying35
  have hu37:=Try.underlying37
  have hu39:=Try.underlying39
  have hu57:=Try.underlying57
  have hu88:=Try.underlying88
  have hu108:=Try.underlying108
  have hrl:=blk_lt h.hr
  obtain ⟨W1,hW1,K1,hB1⟩:=alz W (askC 4 x a d v0 v1 e) 39
  have h1:=h.below hB1
  have a0:=zG K1 0
  have q1:∀ W',Below W1.heap.size W1 W' → W'.cell? ⟨W.heap.size,1,none⟩=some (.int .i64 x):=fun W' hB => zG (zE K1 hB) 1
  have q3:∀ W',Below W1.heap.size W1 W' → W'.cell? ⟨W.heap.size,3,none⟩=some (.int .i64 d):=fun W' hB => zG (zE K1 hB) 3
  have q4:∀ W',Below W1.heap.size W1 W' → W'.cell? ⟨W.heap.size,4,none⟩=some (.int .i64 v0):=fun W' hB => zG (zE K1 hB) 4
  have q5:∀ W',Below W1.heap.size W1 W' → W'.cell? ⟨W.heap.size,5,none⟩=some (.int .i64 v1):=fun W' hB => zG (zE K1 hB) 5
  have q8:∀ W',Below W1.heap.size W1 W' → W'.cell? ⟨rb,18,none⟩=some stk:=fun W' hB => (zG (zE h1.hr hB) 18).trans (runC_tail h1.hl).1
  have q9:∀ W',Below W1.heap.size W1 W' → W'.cell? ⟨rb,19,none⟩=some (.slice TA t.length tc):=fun W' hB => (zG (zE h1.hr hB) 19).trans (runC_tail h1.hl).2.1
  have H1:=Lib.hid (zM h1 (zM hB1 K1))
  have hbig':t.length ≤ 1000000:=by omega
  clear h h1 hB1 K1
  go_enter Try.func41,Try.ntmps41
  go_wp2_with fail
  apply GR.wp_region_grow (R:=RB) 13 (by kernel_rfl) (by kernel_rfl) (by kernel_rfl)
  · intro c a d v w h;cases d <;> exact h
  simp only [List.take_succ_cons,List.take_zero,List.drop_succ_cons,List.drop_zero]
  iterate 7
    apply GR.gw_val (by rfl)
    · (intro W' hB hD;have e1:=q1 W' hB;have e3:=q3 W' hB;have e4:=q4 W' hB;have e5:=q5 W' hB;have e8:=q8 W' hB;have e9:=q9 W' hB;go_simp;first | done | rfl)
    simp only [Act.put,zJ,zK,zL]
  apply GR.gw_callR (stable_GotT TA W1.heap.size ((backL t d).1) ((backL t d).2)) (by rfl)
  · (intro W' hB hD;go_simp;first | done | rfl | exact ⟨rfl,rfl⟩)
  · (intro W' hB hD
     refine (back_calls TA tc t d W' (Kd.C_below H1.out.1.ht hB) H1.out.1.htc hbig).mono fun e w' hh => ?_
     obtain ⟨A2,c2,he,h1,h2,h3,h4⟩:=hh
     exact ⟨_,he,h3,A2,c2,rfl,h1,h2,h4.imp id fun hq ad ha => Nat.le_trans hB.size (hq ad ha)⟩)
  rintro v ⟨-,A5,c5,rfl,-⟩
  simp only [Act.put,zJ,zK,zL]
  apply GR.gw_rel (stable_GotT TA W1.heap.size ((backL t d).1) ((backL t d).2)) (by rfl)
  · intro W' hB hD
    have hT:GotT TA W1.heap.size ((backL t d).1) ((backL t d).2) W' (.tuple #[.slice A5 ((backL t d).1).length c5,.int .i64 ((backL t d).2)]):=by simp [GR.depFacts,Region.binds] at hD;exact hD
    refine ⟨_,W',?_,Below.refl _ _,hT⟩
    go_simp
    first | done | rfl
  rintro v ⟨-,A6,c6,rfl,-⟩
  simp only [Act.put,zJ,zK,zL]
  apply GR.gw_rel (stable_GotS TA W1.heap.size ((backL t d).1)) (by rfl)
  · intro W' hB hD
    have hT:GotT TA W1.heap.size ((backL t d).1) ((backL t d).2) W' (.tuple #[.slice A6 ((backL t d).1).length c6,.int .i64 ((backL t d).2)]):=by simp [GR.depFacts,Region.binds] at hD;exact hD
    refine ⟨.slice A6 ((backL t d).1).length c6,W',?_,Below.refl _ _,A6,c6,rfl,hT.at⟩
    go_simp
    first | done | rfl
  rintro v ⟨-,A2,c2,rfl,-⟩
  simp only [Act.put,zJ,zK,zL]
  iterate 3
    apply GR.gw_val (by rfl)
    · (intro W' hB hD;have e1:=q1 W' hB;have e3:=q3 W' hB;have e4:=q4 W' hB;have e5:=q5 W' hB;have e8:=q8 W' hB;have e9:=q9 W' hB;go_simp;first | done | rfl)
    simp only [Act.put,zJ,zK,zL]
  apply GR.gw_nil
  intro Wa hW hF hP
  clear hP
  have hG:=(hF (GotS TA W1.heap.size ((backL t d).1) · (.slice A2 ((backL t d).1).length c2)) (by simp)).at
  clear hF
  obtain ⟨h1,hB1,K1⟩:=H1.out
  have h2:=h1.below hW
  have z1:=q9 Wa hW
  have z2:=zH h2.hr 19
  obtain ⟨Wb,hWb⟩:∃ Wb,Wa.setCell ⟨rb,19,none⟩ (.slice A2 ((backL t d).1).length c2)=Wb:=⟨_,rfl⟩
  have h3:=Lib.hid (h2.setT hWb hG.1 hG.2.1 (hG.2.2.imp id fun hh ad ha => Nat.lt_of_lt_of_le h1.hsz (hh ad ha)))
  have HKp:=Lib.hid (StaysW.below (StaysW.only h2.hr (.inl rfl) (show Only rb Wa Wb by rw [← hWb];exact Only.set Wa 19 _)) (bAfter hB1 hW))
  clear hG h1 hB1 K1 h2
  go_wp2_with fail
  go_ret
  exact ⟨rfl,HKp.out,_,_,_,h3.out⟩
theorem save_calls (TA:Option Addr) (tc:Nat) (t:List S80) (W:World) (hC:Kd.C k80 W TA t.length t) (hc:t.length ≤ tc):Calls Try.prog 61 #[.slice TA t.length tc] W fun e w' => e=.returned (.int .i64 t.length)∧Below W.heap.size W w' :=
  (txn_Save.calls TA tc t _ W hC hc rfl).mono fun e w' hh => by
    obtain ⟨n,rfl⟩:=hh.2
    exact ⟨hh.1,zI (Below.refl _ _) n⟩
theorem C_lt {α:Type} {d:Kd α} (hsz:0 < d.sz) {W:World} {ad:Addr} {n:Nat} {xs:List α} (h:d.C W (some ad) n xs) (hx:xs ≠ []):ad.block < W.heap.size:=by
  obtain ⟨h1,h2,h3⟩:=h
  rcases xs with _ | ⟨x,l⟩
  · exact absurd rfl hx
  · obtain ⟨ad',e,h4⟩:=h3 (by simp at h1;omega)
    injection e with e
    subst e
    obtain ⟨c,c1,c2,c3⟩:=h4 0 x rfl
    rcases c with _ | ⟨u,c⟩
    · simp at c1;omega
    · have h5:=c3 0 u rfl
      have hlt:=World.block_lt_of_cell? W _ h5
      have hb:(ad.add (0 * d.sz + 0)).block=ad.block:=by unfold Addr.add;split <;> simp
      rw [hb] at hlt
      exact hlt
set_option maxRecDepth 100000 in
set_option maxHeartbeats 2000000 in
theorem answer_save (W0 W:World) (rb:Nat) (now:List S32) (st:CpuD) (t:List S80) (stk:Value) (TA:Option Addr) (tc:Nat) (NA:Option Addr) (nc:Nat) (h:RunAt W0 W rb now st t stk TA tc NA nc) (x a d v0 v1 e:Int) (lo:Nat) (gs:List FrameD) (f:FrameD) (hfs:st.fs=gs ++ [f]) (hS:Stk W lo stk (gs ++ [f])) (hlo0:W0.heap.size ≤ lo) (hlo:∀ ad,TA=some ad → t ≠ [] → ad.block < lo) (hgs:gs.length ≤ 99999) :
    Calls Try.prog 41 #[ptr rb,.agg (askC 3 x a d v0 v1 e)] W fun y w' => Answered W0 W w' rb now NA nc ⟨st.pc,st.used,st.rs,gs ++ [⟨f.dest,t.length,f.rs⟩]⟩ t 0 y:=by
  have hu32:=Try.underlying32
  have hu35:=Try.underlying35
  have hu37:=Try.underlying37
  have hu39:=Try.underlying39
  have hu57:=Try.underlying57
  have hu88:=Try.underlying88
  have hu108:=Try.underlying108
  have hrl:=blk_lt h.hr
  obtain ⟨W1,hW1,K1,hB1⟩:=alz W (askC 3 x a d v0 v1 e) 39
  have h1:=h.below hB1
  have a0:=zG K1 0
  have q1:∀ W',Below W1.heap.size W1 W' → W'.cell? ⟨W.heap.size,1,none⟩=some (.int .i64 x):=fun W' hB => zG (zE K1 hB) 1
  have q3:∀ W',Below W1.heap.size W1 W' → W'.cell? ⟨W.heap.size,3,none⟩=some (.int .i64 d):=fun W' hB => zG (zE K1 hB) 3
  have q4:∀ W',Below W1.heap.size W1 W' → W'.cell? ⟨W.heap.size,4,none⟩=some (.int .i64 v0):=fun W' hB => zG (zE K1 hB) 4
  have q5:∀ W',Below W1.heap.size W1 W' → W'.cell? ⟨W.heap.size,5,none⟩=some (.int .i64 v1):=fun W' hB => zG (zE K1 hB) 5
  have q8:∀ W',Below W1.heap.size W1 W' → W'.cell? ⟨rb,18,none⟩=some stk:=fun W' hB => (zG (zE h1.hr hB) 18).trans (runC_tail h1.hl).1
  have q9:∀ W',Below W1.heap.size W1 W' → W'.cell? ⟨rb,19,none⟩=some (.slice TA t.length tc):=fun W' hB => (zG (zE h1.hr hB) 19).trans (runC_tail h1.hl).2.1
  have H1:=Lib.hid (zM h1 (zM hB1 K1))
  rcases hS.open with ⟨h0,-⟩ | ⟨g,cc,rfl,hle,hgb,hgl,⟨cur,hcur⟩,-,hF⟩
  · simp at h0
  obtain ⟨hf8,hfr⟩:=hF gs.length f (by simp)
  simp only [List.length_append,List.length_singleton] at q8 hle
  have hgc:(gs.length:Int) < (gs.length:Int) + 1∧(0:Int) ≤ gs.length:=⟨by omega,by omega⟩
  have hwr:IntKind.i64.wrap (gs.length:Int)=gs.length:=by rw [IntKind.wrap_i64];omega
  have HSv:=Lib.hid fun W' (hB:Below W1.heap.size W1 W') => save_calls TA tc t W' (Kd.C_below h1.ht hB) h1.htc
  have HX:=Lib.hid (zM hS (zM hcur (zM hfr (zM hlo (zM hlo0 (zM hgb (zM hgl h)))))))
  clear hS hcur hfr hF hlo hlo0
  clear h h1 hB1 K1
  go_enter Try.func41,Try.ntmps41
  go_wp2_with fail
  apply GR.wp_region_grow (R:=RB) 19 (by kernel_rfl) (by kernel_rfl) (by kernel_rfl)
  · intro c a d v w h;cases d <;> exact h
  simp only [List.take_succ_cons,List.take_zero,List.drop_succ_cons,List.drop_zero]
  iterate 16
    apply GR.gw_val (by rfl)
    · (intro W' hB hD;have e1:=q1 W' hB;have e3:=q3 W' hB;have e4:=q4 W' hB;have e5:=q5 W' hB;have e8:=q8 W' hB;have e9:=q9 W' hB;go_simp;first | done | rfl)
    simp only [Act.put,zJ,zK,zL]
  apply GR.gw_call (by rfl)
  · (intro W' hB hD;go_simp;first | done | rfl | exact ⟨rfl,rfl⟩)
  · (intro W' hB hD;exact (HSv.out W' hB).mono fun e w' hh => ⟨hh.1,hh.2⟩)
  simp only [Act.put,zJ,zK,zL]
  iterate 2
    apply GR.gw_val (by rfl)
    · (intro W' hB hD;have e1:=q1 W' hB;have e3:=q3 W' hB;have e4:=q4 W' hB;have e5:=q5 W' hB;have e8:=q8 W' hB;have e9:=q9 W' hB;go_simp;first | done | rfl)
    simp only [Act.put,zJ,zK,zL]
  apply GR.gw_nil
  intro Wa hW hF hP
  clear hF hP
  obtain ⟨hS,hcur,hfr,hlo,hlo0,hgb,hgl,h⟩:=HX.out
  obtain ⟨h1,hB1,K1⟩:=H1.out
  have hBa:Below W.heap.size W Wa:=bAfter hB1 hW
  have hSa:=hS.below hBa
  have h2:=h.below hBa
  have hra:rb ≠ g:=by
    intro e
    have:=h.hr
    rw [e,hcur] at this
    injection this with this
    injection this with _ this
    cases this
  simp only [List.length_append,List.length_singleton] at hSa
  have HY:=Lib.hid (zM h2 (zM hlo (zM hlo0 (zM hra hgb))))
  clear hS hcur hlo hlo0 h h1 hB1 K1 h2 q1 q3 q4 q5 q8 q9 hra hgb
  refine Kd.R_store kF (w0:=Wa) lo rfl rfl _ _ _ rfl 88 (gs.length:Int) 1 (gs ++ [f]) ⟨f.dest,t.length,f.rs⟩ (.int .i64 t.length) [.int .i64 t.length] (fc f) (fun _ => True) (fun _ => False) rfl ?ro rfl rfl (by kernel_rfl) (by simp [Value.oneCell']) hSa (by omega) (by omega) (fc_length f hf8) ?rc (by simp [kF]) ?rm (fun _ h => h.elim) (Below.refl _ _) ?_
  case ro => simp [kF]
  case rc =>
    intro j u hj
    have:=pw_cell_below hBa (hfr j u hj)
    simpa [kF] using this
  case rm => exact ⟨hf8,by simp [fc]⟩
  intro w1 hR hBl hg
  obtain ⟨h2,hlo,hlo0,hra,hgb⟩:=HY.out
  have hOg:Only g Wa w1:=⟨hg.os,hg.tape,hg.output,hg.size,fun k hk hne => hg.block k hk (by simpa using hne)⟩
  have hsz:(kF.sz)=18:=rfl
  have hset:(gs ++ [f]).set (gs.length:Int).toNat ⟨f.dest,t.length,f.rs⟩=gs ++ [⟨f.dest,t.length,f.rs⟩]:=by
    rw [Int.toNat_natCast,List.set_append_right _ _ (Nat.le_refl _)]
    simp
  rw [hset] at hR
  have hT:Kd.C k80 w1 TA t.length t:=by
    by_cases ht:t=[]
    · subst ht
      exact ⟨rfl,by simp,fun hn => absurd hn (by simp)⟩
    · exact C_only (fun w w' x cs hk => flatK80 hk) h2.ht hOg (fun ad ha => by have:=hlo ad ha ht;omega)
  have h10:RunAt W0 w1 rb now ⟨st.pc,st.used,st.rs,gs ++ [⟨f.dest,t.length,f.rs⟩]⟩ t (.slice (some ⟨g,0,none⟩) (gs.length + 1) cc) TA tc NA nc:=by
    refine ⟨h2.hl,?_,Kd.R_lower hR hlo0,hT,h2.htc,h2.hta,h2.hB.trans (below_le hBl hlo0),h2.hrb,Nat.lt_of_lt_of_le h2.hsz hBl.size⟩
    have:=hOg.mid h2.hr hra (B:=0)
    simpa using this
  have H10:=Lib.hid h10
  have HKp:=Lib.hid (StaysW.below (StaysW.only (zE HX.out.2.1 hBa) (.inr rfl) hOg) hBa)
  clear h10 hT hR hOg hg hBl h2 hlo hlo0 hSa hBa hfr
  go_wp2_with fail
  go_ret
  exact ⟨rfl,HKp.out,_,_,_,H10.out⟩
theorem only_reg (rb r:Nat) (x y:Int) {W W':World} (e:((W.setCell ⟨rb,2 + r * 2,none⟩ (.int .i64 x)).setCell ⟨rb,2 + r * 2 + 1,none⟩ (.int .i64 y)).drew=W'):Only rb W W':=by
  subst e
  exact (Only.set W _ _).trans ((Only.set _ _ _).trans (Only.of_below (zI (Below.refl _ _) 1)))
theorem RunAt.setReg {W0 W W':World} {rb:Nat} {now:List S32} {st:CpuD} {t:List S80} {stk:Value} {TA:Option Addr} {tc:Nat} {NA:Option Addr} {nc:Nat} (h:RunAt W0 W rb now st t stk TA tc NA nc) (r:Nat) (hr:r < 8) (x y:Int) (e:((W.setCell ⟨rb,2 + r * 2,none⟩ (.int .i64 x)).setCell ⟨rb,2 + r * 2 + 1,none⟩ (.int .i64 y)).drew=W'):RunAt W0 W' rb now ⟨st.pc,st.used,st.rs.set r ⟨x,y⟩,st.fs⟩ t stk TA tc NA nc:=by
  subst e
  have hO:Only rb W ((W.setCell ⟨rb,2 + r * 2,none⟩ (.int .i64 x)).setCell ⟨rb,2 + r * 2 + 1,none⟩ (.int .i64 y)).drew:=(Only.set W _ _).trans ((Only.set _ _ _).trans (Only.of_below (zI (Below.refl _ _) 1)))
  refine ⟨by simpa using h.hl,?_,h.hs.only h.hr (by decide) hO,C_only (fun w w' x cs hk => flatK80 hk) h.ht hO (fun ad ha => by have:=h.hta ad ha;omega),h.htc,h.hta,h.hB.trans (hO.below h.hrb h.hB.size),h.hrb,Nat.lt_of_lt_of_le h.hsz hO.size⟩
  rw [← runC_set x y (by rw [h.hl];exact hr)]
  exact blk_drew (blk_set (blk_set h.hr _ _) _ _)
set_option maxRecDepth 100000 in
set_option maxHeartbeats 2000000 in
theorem read_is (W0 W:World) (rb:Nat) (now:List S32) (st:CpuD) (t:List S80) (stk:Value) (TA:Option Addr) (tc:Nat) (NA:Option Addr) (nc:Nat) (h:RunAt W0 W rb now st t stk TA tc NA nc) (x a d v0 v1 e:Int) (k:Int) (w0 w1:Int) (hq:lookL t x=(⟨w0,w1⟩,true)) (hbig:t.length ≤ 1000000) (r:Nat) (har:a=r) (hr8:r < 8) :
    Calls Try.prog 59 #[ptr rb,.agg (askC k x a d v0 v1 e)] W fun y w' => Answered W0 W w' rb now NA nc ⟨st.pc,st.used,st.rs.set r ⟨w0,w1⟩,st.fs⟩ t 0 y:=by
  have hu32:=Try.underlying32
  have hu35:=Try.underlying35
  have hu37:=Try.underlying37
  have hu39:=Try.underlying39
  have hu57:=Try.underlying57
  have hu88:=Try.underlying88
  have hu108:=Try.underlying108
  have hrl:=blk_lt h.hr
  obtain ⟨W1,hW1,K1,hB1⟩:=alz W (askC k x a d v0 v1 e) 39
  have h1:=h.below hB1
  have a0:=zG K1 0
  have q1:∀ W',Below W1.heap.size W1 W' → W'.cell? ⟨W.heap.size,1,none⟩=some (.int .i64 x):=fun W' hB => zG (zE K1 hB) 1
  have q2:∀ W',Below W1.heap.size W1 W' → W'.cell? ⟨W.heap.size,2,none⟩=some (.int .i64 a):=fun W' hB => zG (zE K1 hB) 2
  have q3:∀ W',Below W1.heap.size W1 W' → W'.cell? ⟨W.heap.size,3,none⟩=some (.int .i64 d):=fun W' hB => zG (zE K1 hB) 3
  have q4:∀ W',Below W1.heap.size W1 W' → W'.cell? ⟨W.heap.size,4,none⟩=some (.int .i64 v0):=fun W' hB => zG (zE K1 hB) 4
  have q5:∀ W',Below W1.heap.size W1 W' → W'.cell? ⟨W.heap.size,5,none⟩=some (.int .i64 v1):=fun W' hB => zG (zE K1 hB) 5
  have q8:∀ W',Below W1.heap.size W1 W' → W'.cell? ⟨rb,18,none⟩=some stk:=fun W' hB => (zG (zE h1.hr hB) 18).trans (runC_tail h1.hl).1
  have q9:∀ W',Below W1.heap.size W1 W' → W'.cell? ⟨rb,19,none⟩=some (.slice TA t.length tc):=fun W' hB => (zG (zE h1.hr hB) 19).trans (runC_tail h1.hl).2.1
  have H1:=Lib.hid (zM h1 (zM hB1 K1))
  subst har
  have HQ:=Lib.hid fun W' (hB:Below W1.heap.size W1 W') => look_calls TA tc t x W' (Kd.C_below h1.ht hB) hbig
  rw [hq] at HQ
  dsimp only at HQ
  clear h h1 hB1 K1
  go_enter Try.func59,Try.ntmps59
  go_wp2_with fail
  apply GR.wp_region_grow (R:=RB) 11 (by kernel_rfl) (by kernel_rfl) (by kernel_rfl)
  · intro c a d v w h;cases d <;> exact h
  simp only [List.take_succ_cons,List.take_zero,List.drop_succ_cons,List.drop_zero]
  iterate 6
    apply GR.gw_val (by rfl)
    · (intro W' hB hD;have e1:=q1 W' hB;have e3:=q3 W' hB;have e4:=q4 W' hB;have e5:=q5 W' hB;have e8:=q8 W' hB;have e9:=q9 W' hB;go_simp;first | done | rfl)
    simp only [Act.put,zJ,zK,zL]
  apply GR.gw_call (by rfl)
  · (intro W' hB hD;go_simp;first | done | rfl | exact ⟨rfl,rfl⟩)
  · (intro W' hB hD;exact (HQ.out W' hB).mono fun e w' hh => ⟨hh.1,hh.2⟩)
  simp only [Act.put,zJ,zK,zL]
  iterate 3
    apply GR.gw_val (by rfl)
    · (intro W' hB hD;have e1:=q1 W' hB;have e3:=q3 W' hB;have e4:=q4 W' hB;have e5:=q5 W' hB;have e8:=q8 W' hB;have e9:=q9 W' hB;go_simp;first | done | rfl)
    simp only [Act.put,zJ,zK,zL]
  apply GR.gw_rel (stable_TZ W1.heap.size (.cells #[.int .i64 0,.int .i64 0] 32 (0,0))) (by rfl)
  · intro W' hB hD
    refine ⟨_,_,?_,bOne (.cells #[.int .i64 0,.int .i64 0] 32),W'.heap.size,rfl,hB.size,heap_alloc_new _ _⟩
    go_simp
    first | done | rfl
  rintro v ⟨-,p1,rfl,-,-⟩
  simp only [Act.put,zJ,zK,zL]
  apply GR.gw_nil
  intro Wa hW hF hP
  simp [List.forall_mem_append,TZ_ptr] at hF hP
  obtain ⟨hp1,hF⟩:=hF
  obtain ⟨h1,hB1,K1⟩:=H1.out
  have f0:=zH hF 0
  have f1:=zH hF 1
  have d0:=zG hF 0
  have d1:=zG hF 1
  obtain ⟨Wb,hWb,K4,hB4⟩:=put2n (B:=W1.heap.size) (.int .i64 w0) (.int .i64 w1) hF hp1
  have hB1b:Below W1.heap.size W1 Wb:=Below.trans hW hB4
  have h2:=h1.below hB1b
  have b2:=q2 Wb hB1b
  have e0:=zG K4 0
  have e1:=zG K4 1
  have h9:=h2
  obtain ⟨y0,y1,c0,c1⟩:∃ y0 y1:Value,Wb.cell? ⟨rb,2 + r * 2,none⟩=some y0∧Wb.cell? ⟨rb,2 + r * 2 + 1,none⟩=some y1:=by
    have hreg:=runC_reg (pc:=st.pc) (used:=st.used) (stk:=stk) (tv:=.slice TA (t).length tc) (nv:=.slice NA now.length nc) (List.getElem?_eq_getElem (show r < st.rs.length by rw [h9.hl];exact hr8))
    exact ⟨_,_,(zG h9.hr (2 + r * 2)).trans hreg.1,(zG h9.hr (2 + r * 2 + 1)).trans hreg.2⟩
  have c2:=zH h9.hr (2 + r * 2)
  have c3:=zH h9.hr (2 + r * 2 + 1)
  obtain ⟨Wc,hWc⟩:∃ Wc,((Wb.setCell ⟨rb,2 + r * 2,none⟩ (.int .i64 w0)).setCell ⟨rb,2 + r * 2 + 1,none⟩ (.int .i64 w1)).drew=Wc:=⟨_,rfl⟩
  have h10:=Lib.hid (h9.setReg r hr8 w0 w1 hWc)
  have HKp:=Lib.hid (StaysW.below (StaysW.only h9.hr (.inl rfl) (only_reg rb r w0 w1 hWc)) (bAfter hB1 hB1b))
  clear h1 hB1 K1 K4 hB4 hB1b h2 h9 hF hW hP q1 q2 q3 q4 q5 q8 q9
  go_wp2_with fail
  go_region
  go_wp2_with fail
  go_ret
  exact ⟨rfl,HKp.out,_,_,_,h10.out⟩
set_option maxRecDepth 100000 in
set_option maxHeartbeats 2000000 in
theorem read_ok (W0 W:World) (rb:Nat) (now:List S32) (st:CpuD) (t:List S80) (stk:Value) (TA:Option Addr) (tc:Nat) (NA:Option Addr) (nc:Nat) (h:RunAt W0 W rb now st t stk TA tc NA nc) (x a d v0 v1 e:Int) (k:Int) (w0 w1 n0 n1:Int) (hq:lookL t x=(⟨w0,w1⟩,false)) (hbig:t.length ≤ 1000000) (r:Nat) (har:a=r) (hr8:r < 8) (hnow:Kd.C k32 W0 NA now.length now) (hx0:0 ≤ x) (hx1:x < now.length) (hv:rd_T32 now x=⟨n0,n1⟩) (t2:List S80) (er:Int) (hg:addL t ⟨x,⟨n0,n1⟩,false⟩=(t2,er)) (he:er=0) :
    Calls Try.prog 59 #[ptr rb,.agg (askC k x a d v0 v1 e)] W fun y w' => Answered W0 W w' rb now NA nc ⟨st.pc,st.used,st.rs.set r ⟨n0,n1⟩,st.fs⟩ t2 0 y:=by
  have hu32:=Try.underlying32
  have hu35:=Try.underlying35
  have hu37:=Try.underlying37
  have hu39:=Try.underlying39
  have hu57:=Try.underlying57
  have hu88:=Try.underlying88
  have hu108:=Try.underlying108
  have hrl:=blk_lt h.hr
  obtain ⟨W1,hW1,K1,hB1⟩:=alz W (askC k x a d v0 v1 e) 39
  have h1:=h.below hB1
  have a0:=zG K1 0
  have q1:∀ W',Below W1.heap.size W1 W' → W'.cell? ⟨W.heap.size,1,none⟩=some (.int .i64 x):=fun W' hB => zG (zE K1 hB) 1
  have q2:∀ W',Below W1.heap.size W1 W' → W'.cell? ⟨W.heap.size,2,none⟩=some (.int .i64 a):=fun W' hB => zG (zE K1 hB) 2
  have q3:∀ W',Below W1.heap.size W1 W' → W'.cell? ⟨W.heap.size,3,none⟩=some (.int .i64 d):=fun W' hB => zG (zE K1 hB) 3
  have q4:∀ W',Below W1.heap.size W1 W' → W'.cell? ⟨W.heap.size,4,none⟩=some (.int .i64 v0):=fun W' hB => zG (zE K1 hB) 4
  have q5:∀ W',Below W1.heap.size W1 W' → W'.cell? ⟨W.heap.size,5,none⟩=some (.int .i64 v1):=fun W' hB => zG (zE K1 hB) 5
  have q8:∀ W',Below W1.heap.size W1 W' → W'.cell? ⟨rb,18,none⟩=some stk:=fun W' hB => (zG (zE h1.hr hB) 18).trans (runC_tail h1.hl).1
  have q9:∀ W',Below W1.heap.size W1 W' → W'.cell? ⟨rb,19,none⟩=some (.slice TA t.length tc):=fun W' hB => (zG (zE h1.hr hB) 19).trans (runC_tail h1.hl).2.1
  have H1:=Lib.hid (zM h1 (zM hB1 K1))
  subst he
  subst har
  have HQ:=Lib.hid fun W' (hB:Below W1.heap.size W1 W') => look_calls TA tc t x W' (Kd.C_below h1.ht hB) hbig
  rw [hq] at HQ
  dsimp only at HQ
  obtain ⟨ad,rfl,-⟩:=at_T32 hnow x hx0 hx1
  have HN:=Lib.hid (zM hnow hbig)
  clear hnow
  clear h h1 hB1 K1
  go_enter Try.func59,Try.ntmps59
  go_wp2_with fail
  apply GR.wp_region_grow (R:=RB) 11 (by kernel_rfl) (by kernel_rfl) (by kernel_rfl)
  · intro c a d v w h;cases d <;> exact h
  simp only [List.take_succ_cons,List.take_zero,List.drop_succ_cons,List.drop_zero]
  iterate 6
    apply GR.gw_val (by rfl)
    · (intro W' hB hD;have e1:=q1 W' hB;have e3:=q3 W' hB;have e4:=q4 W' hB;have e5:=q5 W' hB;have e8:=q8 W' hB;have e9:=q9 W' hB;go_simp;first | done | rfl)
    simp only [Act.put,zJ,zK,zL]
  apply GR.gw_call (by rfl)
  · (intro W' hB hD;go_simp;first | done | rfl | exact ⟨rfl,rfl⟩)
  · (intro W' hB hD;exact (HQ.out W' hB).mono fun e w' hh => ⟨hh.1,hh.2⟩)
  simp only [Act.put,zJ,zK,zL]
  iterate 3
    apply GR.gw_val (by rfl)
    · (intro W' hB hD;have e1:=q1 W' hB;have e3:=q3 W' hB;have e4:=q4 W' hB;have e5:=q5 W' hB;have e8:=q8 W' hB;have e9:=q9 W' hB;go_simp;first | done | rfl)
    simp only [Act.put,zJ,zK,zL]
  apply GR.gw_rel (stable_TZ W1.heap.size (.cells #[.int .i64 0,.int .i64 0] 32 (0,0))) (by rfl)
  · intro W' hB hD
    refine ⟨_,_,?_,bOne (.cells #[.int .i64 0,.int .i64 0] 32),W'.heap.size,rfl,hB.size,heap_alloc_new _ _⟩
    go_simp
    first | done | rfl
  rintro v ⟨-,p1,rfl,-,-⟩
  simp only [Act.put,zJ,zK,zL]
  apply GR.gw_nil
  intro Wa hW hF hP
  simp [List.forall_mem_append,TZ_ptr] at hF hP
  obtain ⟨hp1,hF⟩:=hF
  obtain ⟨h1,hB1,K1⟩:=H1.out
  have f0:=zH hF 0
  have f1:=zH hF 1
  have d0:=zG hF 0
  have d1:=zG hF 1
  obtain ⟨Wb,hWb,K4,hB4⟩:=put2n (B:=W1.heap.size) (.int .i64 w0) (.int .i64 w1) hF hp1
  have hB1b:Below W1.heap.size W1 Wb:=Below.trans hW hB4
  have h2:=h1.below hB1b
  have hCn:Kd.C k32 Wb (some ad) now.length now:=Kd.C_below HN.out.1 h2.hB
  obtain ⟨ad',had,x0,x1⟩:=at_T32 hCn x hx0 hx1
  injection had with had
  subst had
  rw [hv] at x0 x1
  dsimp only at x0 x1
  have b20:Wb.cell? ⟨rb,20,none⟩=some (.slice (some ad) now.length nc):=(zG h2.hr 20).trans (runC_tail h2.hl).2.2
  have b1:=q1 Wb hB1b
  have e0:=zG K4 0
  have e1:=zG K4 1
  have e2:=zH K4 0
  have e3:=zH K4 1
  obtain ⟨Wd,hWd⟩:∃ Wd,((Wb.setCell ⟨p1,0,none⟩ (.int .i64 n0)).setCell ⟨p1,1,none⟩ (.int .i64 n1)).drew=Wd:=⟨_,rfl⟩
  have hBbd:Below W1.heap.size Wb Wd:=by
    rw [← hWd]
    exact zI (((Below.refl _ _).setCell (p:=⟨p1,0,none⟩) hp1 _).setCell (p:=⟨p1,1,none⟩) hp1 _) 1
  have K5:Wd.heap[p1]?=some (.cells #[.int .i64 n0,.int .i64 n1] 32 (0,0)):=by
    rw [← hWd]
    exact blk_drew (blk_set (blk_set K4 0 _) 1 _)
  have hB1d:Below W1.heap.size W1 Wd:=hB1b.trans hBbd
  have HBd:=Lib.hid hB1d
  have q20:∀ W',Below Wd.heap.size Wd W' → W'.cell? ⟨p1,0,none⟩=some (.int .i64 n0):=fun W' hB => zG (zE K5 hB) 0
  have q21:∀ W',Below Wd.heap.size Wd W' → W'.cell? ⟨p1,1,none⟩=some (.int .i64 n1):=fun W' hB => zG (zE K5 hB) 1
  have q22:∀ W',Below Wd.heap.size Wd W' → W'.cell? ⟨W.heap.size,2,none⟩=some (.int .i64 (r:Int)):=fun W' hB => q2 W' (bAfter hB1d hB)
  have hd1:=Lib.hid (h1.below hB1d)
  have hWW:=Lib.hid (bAfter hB1 hB1d)
  have HRd:=Lib.hid fun W' (hB:Below W1.heap.size W1 W') => read_calls TA tc t x ⟨n0,n1⟩ W' (Kd.C_below h1.ht hB) h1.htc HN.out.2
  rw [hg] at HRd
  dsimp only at HRd
  have Hrb:=Lib.hid h1.hsz
  clear h1 hB1 K1 K4 hB4 hB1b h2 hF hW hP hBbd K5 hB1d hCn
  go_wp2_with fail
  go_region
  go_wp2_with fail
  apply GR.wp_region_grow (R:=RB) 14 (by kernel_rfl) (by kernel_rfl) (by kernel_rfl)
  · intro c a d v w h;cases d <;> exact h
  simp only [List.take_succ_cons,List.take_zero,List.drop_succ_cons,List.drop_zero]
  iterate 8
    apply GR.gw_val (by rfl)
    · (intro W' hB0 hD;have hB:=bAfter HBd.out hB0;have e20:=q20 W' hB0;have e21:=q21 W' hB0;have e1:=q1 W' hB;have e3:=q3 W' hB;have e4:=q4 W' hB;have e5:=q5 W' hB;have e8:=q8 W' hB;have e9:=q9 W' hB;go_simp;first | done | rfl)
    simp only [Act.put,zJ,zK,zL]
  apply GR.gw_callR (stable_GotT TA W1.heap.size t2 0) (by rfl)
  · (intro W' hB hD;go_simp;first | done | rfl | exact ⟨rfl,rfl⟩)
  · (intro W' hB0 hD
     have hB:=bAfter HBd.out hB0
     refine (HRd.out W' hB).mono fun e w' hh => ?_
     obtain ⟨A2,c2,he,h1,h2,h3,h4⟩:=hh
     exact ⟨_,he,h3,A2,c2,rfl,h1,h2,h4.imp id fun hq ad ha => Nat.le_trans hB.size (hq ad ha)⟩)
  rintro v ⟨-,A5,c5,rfl,-⟩
  simp only [Act.put,zJ,zK,zL]
  apply GR.gw_rel (stable_GotT TA W1.heap.size (t2) (0)) (by rfl)
  · intro W' hB hD
    have hT:GotT TA W1.heap.size (t2) (0) W' (.tuple #[.slice A5 (t2).length c5,.int .i64 (0)]):=by simp [GR.depFacts,Region.binds] at hD;exact hD
    refine ⟨_,W',?_,Below.refl _ _,hT⟩
    go_simp
    first | done | rfl
  rintro v ⟨-,A6,c6,rfl,-⟩
  simp only [Act.put,zJ,zK,zL]
  apply GR.gw_rel (stable_GotS TA W1.heap.size (t2)) (by rfl)
  · intro W' hB hD
    have hT:GotT TA W1.heap.size (t2) (0) W' (.tuple #[.slice A6 (t2).length c6,.int .i64 (0)]):=by simp [GR.depFacts,Region.binds] at hD;exact hD
    refine ⟨.slice A6 (t2).length c6,W',?_,Below.refl _ _,A6,c6,rfl,hT.at⟩
    go_simp
    first | done | rfl
  rintro v ⟨-,A2,c2,rfl,-⟩
  simp only [Act.put,zJ,zK,zL]
  iterate 3
    apply GR.gw_val (by rfl)
    · (intro W' hB0 hD;have hB:=bAfter HBd.out hB0;have e20:=q20 W' hB0;have e21:=q21 W' hB0;have e1:=q1 W' hB;have e3:=q3 W' hB;have e4:=q4 W' hB;have e5:=q5 W' hB;have e8:=q8 W' hB;have e9:=q9 W' hB;go_simp;first | done | rfl)
    simp only [Act.put,zJ,zK,zL]
  apply GR.gw_nil
  intro We hW hF hP
  clear hP
  have hG:=(hF (GotS TA W1.heap.size t2 · (.slice A2 t2.length c2)) (by simp)).at
  clear hF
  have h2:=hd1.out.below hW
  have z1:We.cell? ⟨rb,19,none⟩=some (.slice TA t.length tc):=(zG h2.hr 19).trans (runC_tail h2.hl).2.1
  have z2:=zH h2.hr 19
  obtain ⟨Wf,hWf⟩:∃ Wf,We.setCell ⟨rb,19,none⟩ (.slice A2 t2.length c2)=Wf:=⟨_,rfl⟩
  have h9:=h2.setT hWf hG.1 hG.2.1 (hG.2.2.imp id fun hh ad ha => Nat.lt_of_lt_of_le Hrb.out (hh ad ha))
  have hOf:Only rb We Wf:=by rw [← hWf];exact Only.set We 19 _
  have hKf:StaysW W Wf:=StaysW.below (StaysW.only h2.hr (.inl rfl) hOf) (bAfter hWW.out hW)
  have k20:=q20 We hW
  have k21:=q21 We hW
  have k22:=q22 We hW
  have hpr:p1 ≠ rb:=by have:=Hrb.out;omega
  have hwr:W.heap.size ≠ rb:=by have:=Hrb.out;omega
  have j20:Wf.cell? ⟨p1,0,none⟩=some (.int .i64 n0):=by rw [← hWf,World.cell?_setCell_other _ _ _ _ (by intro h;injection h with h;exact hpr h.symm)];exact k20
  have j21:Wf.cell? ⟨p1,1,none⟩=some (.int .i64 n1):=by rw [← hWf,World.cell?_setCell_other _ _ _ _ (by intro h;injection h with h;exact hpr h.symm)];exact k21
  have j22:Wf.cell? ⟨W.heap.size,2,none⟩=some (.int .i64 (r:Int)):=by rw [← hWf,World.cell?_setCell_other _ _ _ _ (by intro h;injection h with h;exact hwr h.symm)];exact k22
  obtain ⟨y0,y1,c0,c1⟩:∃ y0 y1:Value,Wf.cell? ⟨rb,2 + r * 2,none⟩=some y0∧Wf.cell? ⟨rb,2 + r * 2 + 1,none⟩=some y1:=by
    have hreg:=runC_reg (pc:=st.pc) (used:=st.used) (stk:=stk) (tv:=.slice A2 (t2).length c2) (nv:=.slice (some ad) now.length nc) (List.getElem?_eq_getElem (show r < st.rs.length by rw [h9.hl];exact hr8))
    exact ⟨_,_,(zG h9.hr (2 + r * 2)).trans hreg.1,(zG h9.hr (2 + r * 2 + 1)).trans hreg.2⟩
  have c2:=zH h9.hr (2 + r * 2)
  have c3:=zH h9.hr (2 + r * 2 + 1)
  obtain ⟨Wc,hWc⟩:∃ Wc,((Wf.setCell ⟨rb,2 + r * 2,none⟩ (.int .i64 n0)).setCell ⟨rb,2 + r * 2 + 1,none⟩ (.int .i64 n1)).drew=Wc:=⟨_,rfl⟩
  have h10:=Lib.hid (h9.setReg r hr8 n0 n1 hWc)
  have HKp:=Lib.hid (StaysW.below (StaysW.only h2.hr (.inl rfl) (hOf.trans (only_reg rb r n0 n1 hWc))) (bAfter hWW.out hW))
  clear hG h2 h9 hOf hW hKf
  go_wp2_with fail
  go_region
  go_wp2_with fail
  go_ret
  exact ⟨rfl,HKp.out,_,_,_,h10.out⟩
set_option maxRecDepth 100000 in
set_option maxHeartbeats 2000000 in
theorem read_full (W0 W:World) (rb:Nat) (now:List S32) (st:CpuD) (t:List S80) (stk:Value) (TA:Option Addr) (tc:Nat) (NA:Option Addr) (nc:Nat) (h:RunAt W0 W rb now st t stk TA tc NA nc) (x a d v0 v1 e:Int) (k:Int) (w0 w1 n0 n1:Int) (hq:lookL t x=(⟨w0,w1⟩,false)) (hbig:t.length ≤ 1000000) (r:Nat) (har:a=r) (hr8:r < 8) (hnow:Kd.C k32 W0 NA now.length now) (hx0:0 ≤ x) (hx1:x < now.length) (hv:rd_T32 now x=⟨n0,n1⟩) (t2:List S80) (er:Int) (hg:addL t ⟨x,⟨n0,n1⟩,false⟩=(t2,er)) (he:¬ er=0) :
    Calls Try.prog 59 #[ptr rb,.agg (askC k x a d v0 v1 e)] W fun y w' => Answered W0 W w' rb now NA nc st t2 er y:=by
  have hu32:=Try.underlying32
  have hu35:=Try.underlying35
  have hu37:=Try.underlying37
  have hu39:=Try.underlying39
  have hu57:=Try.underlying57
  have hu88:=Try.underlying88
  have hu108:=Try.underlying108
  have hrl:=blk_lt h.hr
  obtain ⟨W1,hW1,K1,hB1⟩:=alz W (askC k x a d v0 v1 e) 39
  have h1:=h.below hB1
  have a0:=zG K1 0
  have q1:∀ W',Below W1.heap.size W1 W' → W'.cell? ⟨W.heap.size,1,none⟩=some (.int .i64 x):=fun W' hB => zG (zE K1 hB) 1
  have q2:∀ W',Below W1.heap.size W1 W' → W'.cell? ⟨W.heap.size,2,none⟩=some (.int .i64 a):=fun W' hB => zG (zE K1 hB) 2
  have q3:∀ W',Below W1.heap.size W1 W' → W'.cell? ⟨W.heap.size,3,none⟩=some (.int .i64 d):=fun W' hB => zG (zE K1 hB) 3
  have q4:∀ W',Below W1.heap.size W1 W' → W'.cell? ⟨W.heap.size,4,none⟩=some (.int .i64 v0):=fun W' hB => zG (zE K1 hB) 4
  have q5:∀ W',Below W1.heap.size W1 W' → W'.cell? ⟨W.heap.size,5,none⟩=some (.int .i64 v1):=fun W' hB => zG (zE K1 hB) 5
  have q8:∀ W',Below W1.heap.size W1 W' → W'.cell? ⟨rb,18,none⟩=some stk:=fun W' hB => (zG (zE h1.hr hB) 18).trans (runC_tail h1.hl).1
  have q9:∀ W',Below W1.heap.size W1 W' → W'.cell? ⟨rb,19,none⟩=some (.slice TA t.length tc):=fun W' hB => (zG (zE h1.hr hB) 19).trans (runC_tail h1.hl).2.1
  have H1:=Lib.hid (zM h1 (zM hB1 K1))
  subst har
  have HQ:=Lib.hid fun W' (hB:Below W1.heap.size W1 W') => look_calls TA tc t x W' (Kd.C_below h1.ht hB) hbig
  rw [hq] at HQ
  dsimp only at HQ
  obtain ⟨ad,rfl,-⟩:=at_T32 hnow x hx0 hx1
  have HN:=Lib.hid (zM hnow hbig)
  clear hnow
  clear h h1 hB1 K1
  go_enter Try.func59,Try.ntmps59
  go_wp2_with fail
  apply GR.wp_region_grow (R:=RB) 11 (by kernel_rfl) (by kernel_rfl) (by kernel_rfl)
  · intro c a d v w h;cases d <;> exact h
  simp only [List.take_succ_cons,List.take_zero,List.drop_succ_cons,List.drop_zero]
  iterate 6
    apply GR.gw_val (by rfl)
    · (intro W' hB hD;have e1:=q1 W' hB;have e3:=q3 W' hB;have e4:=q4 W' hB;have e5:=q5 W' hB;have e8:=q8 W' hB;have e9:=q9 W' hB;go_simp;first | done | rfl)
    simp only [Act.put,zJ,zK,zL]
  apply GR.gw_call (by rfl)
  · (intro W' hB hD;go_simp;first | done | rfl | exact ⟨rfl,rfl⟩)
  · (intro W' hB hD;exact (HQ.out W' hB).mono fun e w' hh => ⟨hh.1,hh.2⟩)
  simp only [Act.put,zJ,zK,zL]
  iterate 3
    apply GR.gw_val (by rfl)
    · (intro W' hB hD;have e1:=q1 W' hB;have e3:=q3 W' hB;have e4:=q4 W' hB;have e5:=q5 W' hB;have e8:=q8 W' hB;have e9:=q9 W' hB;go_simp;first | done | rfl)
    simp only [Act.put,zJ,zK,zL]
  apply GR.gw_rel (stable_TZ W1.heap.size (.cells #[.int .i64 0,.int .i64 0] 32 (0,0))) (by rfl)
  · intro W' hB hD
    refine ⟨_,_,?_,bOne (.cells #[.int .i64 0,.int .i64 0] 32),W'.heap.size,rfl,hB.size,heap_alloc_new _ _⟩
    go_simp
    first | done | rfl
  rintro v ⟨-,p1,rfl,-,-⟩
  simp only [Act.put,zJ,zK,zL]
  apply GR.gw_nil
  intro Wa hW hF hP
  simp [List.forall_mem_append,TZ_ptr] at hF hP
  obtain ⟨hp1,hF⟩:=hF
  obtain ⟨h1,hB1,K1⟩:=H1.out
  have f0:=zH hF 0
  have f1:=zH hF 1
  have d0:=zG hF 0
  have d1:=zG hF 1
  obtain ⟨Wb,hWb,K4,hB4⟩:=put2n (B:=W1.heap.size) (.int .i64 w0) (.int .i64 w1) hF hp1
  have hB1b:Below W1.heap.size W1 Wb:=Below.trans hW hB4
  have h2:=h1.below hB1b
  have hCn:Kd.C k32 Wb (some ad) now.length now:=Kd.C_below HN.out.1 h2.hB
  obtain ⟨ad',had,x0,x1⟩:=at_T32 hCn x hx0 hx1
  injection had with had
  subst had
  rw [hv] at x0 x1
  dsimp only at x0 x1
  have b20:Wb.cell? ⟨rb,20,none⟩=some (.slice (some ad) now.length nc):=(zG h2.hr 20).trans (runC_tail h2.hl).2.2
  have b1:=q1 Wb hB1b
  have e0:=zG K4 0
  have e1:=zG K4 1
  have e2:=zH K4 0
  have e3:=zH K4 1
  obtain ⟨Wd,hWd⟩:∃ Wd,((Wb.setCell ⟨p1,0,none⟩ (.int .i64 n0)).setCell ⟨p1,1,none⟩ (.int .i64 n1)).drew=Wd:=⟨_,rfl⟩
  have hBbd:Below W1.heap.size Wb Wd:=by
    rw [← hWd]
    exact zI (((Below.refl _ _).setCell (p:=⟨p1,0,none⟩) hp1 _).setCell (p:=⟨p1,1,none⟩) hp1 _) 1
  have K5:Wd.heap[p1]?=some (.cells #[.int .i64 n0,.int .i64 n1] 32 (0,0)):=by
    rw [← hWd]
    exact blk_drew (blk_set (blk_set K4 0 _) 1 _)
  have hB1d:Below W1.heap.size W1 Wd:=hB1b.trans hBbd
  have HBd:=Lib.hid hB1d
  have q20:∀ W',Below Wd.heap.size Wd W' → W'.cell? ⟨p1,0,none⟩=some (.int .i64 n0):=fun W' hB => zG (zE K5 hB) 0
  have q21:∀ W',Below Wd.heap.size Wd W' → W'.cell? ⟨p1,1,none⟩=some (.int .i64 n1):=fun W' hB => zG (zE K5 hB) 1
  have q22:∀ W',Below Wd.heap.size Wd W' → W'.cell? ⟨W.heap.size,2,none⟩=some (.int .i64 (r:Int)):=fun W' hB => q2 W' (bAfter hB1d hB)
  have hd1:=Lib.hid (h1.below hB1d)
  have hWW:=Lib.hid (bAfter hB1 hB1d)
  have HRd:=Lib.hid fun W' (hB:Below W1.heap.size W1 W') => read_calls TA tc t x ⟨n0,n1⟩ W' (Kd.C_below h1.ht hB) h1.htc HN.out.2
  rw [hg] at HRd
  dsimp only at HRd
  have Hrb:=Lib.hid h1.hsz
  clear h1 hB1 K1 K4 hB4 hB1b h2 hF hW hP hBbd K5 hB1d hCn
  go_wp2_with fail
  go_region
  go_wp2_with fail
  apply GR.wp_region_grow (R:=RB) 14 (by kernel_rfl) (by kernel_rfl) (by kernel_rfl)
  · intro c a d v w h;cases d <;> exact h
  simp only [List.take_succ_cons,List.take_zero,List.drop_succ_cons,List.drop_zero]
  iterate 8
    apply GR.gw_val (by rfl)
    · (intro W' hB0 hD;have hB:=bAfter HBd.out hB0;have e20:=q20 W' hB0;have e21:=q21 W' hB0;have e1:=q1 W' hB;have e3:=q3 W' hB;have e4:=q4 W' hB;have e5:=q5 W' hB;have e8:=q8 W' hB;have e9:=q9 W' hB;go_simp;first | done | rfl)
    simp only [Act.put,zJ,zK,zL]
  apply GR.gw_callR (stable_GotT TA W1.heap.size t2 er) (by rfl)
  · (intro W' hB hD;go_simp;first | done | rfl | exact ⟨rfl,rfl⟩)
  · (intro W' hB0 hD
     have hB:=bAfter HBd.out hB0
     refine (HRd.out W' hB).mono fun e w' hh => ?_
     obtain ⟨A2,c2,he,h1,h2,h3,h4⟩:=hh
     exact ⟨_,he,h3,A2,c2,rfl,h1,h2,h4.imp id fun hq ad ha => Nat.le_trans hB.size (hq ad ha)⟩)
  rintro v ⟨-,A5,c5,rfl,-⟩
  simp only [Act.put,zJ,zK,zL]
  apply GR.gw_rel (stable_GotT TA W1.heap.size (t2) (er)) (by rfl)
  · intro W' hB hD
    have hT:GotT TA W1.heap.size (t2) (er) W' (.tuple #[.slice A5 (t2).length c5,.int .i64 (er)]):=by simp [GR.depFacts,Region.binds] at hD;exact hD
    refine ⟨_,W',?_,Below.refl _ _,hT⟩
    go_simp
    first | done | rfl
  rintro v ⟨-,A6,c6,rfl,-⟩
  simp only [Act.put,zJ,zK,zL]
  apply GR.gw_rel (stable_GotS TA W1.heap.size (t2)) (by rfl)
  · intro W' hB hD
    have hT:GotT TA W1.heap.size (t2) (er) W' (.tuple #[.slice A6 (t2).length c6,.int .i64 (er)]):=by simp [GR.depFacts,Region.binds] at hD;exact hD
    refine ⟨.slice A6 (t2).length c6,W',?_,Below.refl _ _,A6,c6,rfl,hT.at⟩
    go_simp
    first | done | rfl
  rintro v ⟨-,A2,c2,rfl,-⟩
  simp only [Act.put,zJ,zK,zL]
  iterate 3
    apply GR.gw_val (by rfl)
    · (intro W' hB0 hD;have hB:=bAfter HBd.out hB0;have e20:=q20 W' hB0;have e21:=q21 W' hB0;have e1:=q1 W' hB;have e3:=q3 W' hB;have e4:=q4 W' hB;have e5:=q5 W' hB;have e8:=q8 W' hB;have e9:=q9 W' hB;go_simp;first | done | rfl)
    simp only [Act.put,zJ,zK,zL]
  apply GR.gw_nil
  intro We hW hF hP
  clear hP
  have hG:=(hF (GotS TA W1.heap.size t2 · (.slice A2 t2.length c2)) (by simp)).at
  clear hF
  have h2:=hd1.out.below hW
  have z1:We.cell? ⟨rb,19,none⟩=some (.slice TA t.length tc):=(zG h2.hr 19).trans (runC_tail h2.hl).2.1
  have z2:=zH h2.hr 19
  obtain ⟨Wf,hWf⟩:∃ Wf,We.setCell ⟨rb,19,none⟩ (.slice A2 t2.length c2)=Wf:=⟨_,rfl⟩
  have h9:=h2.setT hWf hG.1 hG.2.1 (hG.2.2.imp id fun hh ad ha => Nat.lt_of_lt_of_le Hrb.out (hh ad ha))
  have hOf:Only rb We Wf:=by rw [← hWf];exact Only.set We 19 _
  have hKf:StaysW W Wf:=StaysW.below (StaysW.only h2.hr (.inl rfl) hOf) (bAfter hWW.out hW)
  have h10:=Lib.hid h9
  have HKp:=Lib.hid hKf
  clear hG h2 h9 hOf hW hKf
  have hne:(er == 0)=false:=by simpa using he
  go_wp2_with fail
  go_ret
  exact ⟨rfl,HKp.out,_,_,_,h10.out⟩
set_option maxRecDepth 100000 in
set_option maxHeartbeats 2000000 in
theorem answer_read (W0 W:World) (rb:Nat) (now:List S32) (st:CpuD) (t:List S80) (stk:Value) (TA:Option Addr) (tc:Nat) (NA:Option Addr) (nc:Nat) (h:RunAt W0 W rb now st t stk TA tc NA nc) (x a d v0 v1 e:Int) (st2:CpuD) (t2:List S80) (er:Int) (hread:∀ W' TA tc stk,RunAt W0 W' rb now st t stk TA tc NA nc → Calls Try.prog 59 #[ptr rb,.agg (askC 1 x a d v0 v1 e)] W' fun y w' => Answered W0 W' w' rb now NA nc st2 t2 er y) :
    Calls Try.prog 41 #[ptr rb,.agg (askC 1 x a d v0 v1 e)] W fun y w' => Answered W0 W w' rb now NA nc st2 t2 er y:=by
  have hu32:=Try.underlying32
  have hu35:=Try.underlying35
  have hu37:=Try.underlying37
  have hu39:=Try.underlying39
  have hu57:=Try.underlying57
  have hu88:=Try.underlying88
  have hu108:=Try.underlying108
  have hrl:=blk_lt h.hr
  obtain ⟨W1,hW1,K1,hB1⟩:=alz W (askC 1 x a d v0 v1 e) 39
  have h1:=h.below hB1
  have a0:=zG K1 0
  have q1:∀ W',Below W1.heap.size W1 W' → W'.cell? ⟨W.heap.size,1,none⟩=some (.int .i64 x):=fun W' hB => zG (zE K1 hB) 1
  have q3:∀ W',Below W1.heap.size W1 W' → W'.cell? ⟨W.heap.size,3,none⟩=some (.int .i64 d):=fun W' hB => zG (zE K1 hB) 3
  have q4:∀ W',Below W1.heap.size W1 W' → W'.cell? ⟨W.heap.size,4,none⟩=some (.int .i64 v0):=fun W' hB => zG (zE K1 hB) 4
  have q5:∀ W',Below W1.heap.size W1 W' → W'.cell? ⟨W.heap.size,5,none⟩=some (.int .i64 v1):=fun W' hB => zG (zE K1 hB) 5
  have q8:∀ W',Below W1.heap.size W1 W' → W'.cell? ⟨rb,18,none⟩=some stk:=fun W' hB => (zG (zE h1.hr hB) 18).trans (runC_tail h1.hl).1
  have q9:∀ W',Below W1.heap.size W1 W' → W'.cell? ⟨rb,19,none⟩=some (.slice TA t.length tc):=fun W' hB => (zG (zE h1.hr hB) 19).trans (runC_tail h1.hl).2.1
  have H1:=Lib.hid (zM h1 (zM hB1 K1))
  have a1:=zG K1 1
  have a2:=zG K1 2
  have a3:=zG K1 3
  have a4:=zG K1 4
  have a5:=zG K1 5
  have a6:=zG K1 6
  have HR:=Lib.hid (hread W1 TA tc stk h1)
  clear hread
  clear h h1 hB1 K1
  go_enter Try.func41,Try.ntmps41
  go_wp2_with fail
  refine HR.out.mono ?_
  rintro y w' ⟨rfl,hkp,stk',TA',tc',h'⟩
  have h10:=Lib.hid h'
  have HKp:=Lib.hid (StaysW.below hkp H1.out.2.1)
  clear h' HR hkp
  go_wp2_with fail
  go_ret
  exact ⟨rfl,HKp.out,_,_,_,h10.out⟩
/-- The last frame knows a place. -/
def saveL (fs:List FrameD) (n:Int):List FrameD:=match fs.getLast? with
  | none => fs
  | some f => fs.dropLast ++ [⟨f.dest,n,f.rs⟩]
/-- What is asked for is answered. -/
def answerP (now:List S32) (c:CpuD) (a:AskD) (t:List S80):CpuD × List S80 × Int :=
  if a.k=1 then
    (if (lookL t a.x).2=true then (⟨c.pc,c.used,c.rs.set a.a.toNat (lookL t a.x).1,c.fs⟩,t,0)
     else if (addL t ⟨a.x,rd_T32 now a.x,false⟩).2=0 then (⟨c.pc,c.used,c.rs.set a.a.toNat (rd_T32 now a.x),c.fs⟩,(addL t ⟨a.x,rd_T32 now a.x,false⟩).1,0)
     else (c,(addL t ⟨a.x,rd_T32 now a.x,false⟩).1,(addL t ⟨a.x,rd_T32 now a.x,false⟩).2))
  else if a.k=2 then (c,(addL t ⟨a.x,a.v,true⟩).1,(addL t ⟨a.x,a.v,true⟩).2)
  else if a.k=3 then (⟨c.pc,c.used,c.rs,saveL c.fs t.length⟩,t,0)
  else if a.k=4 then (c,(backL t a.d).1,(backL t a.d).2)
  else (c,t,0)
/-- What may be asked for. -/
structure AskOK (now:List S32) (c:CpuD) (a:AskD):Prop where
  k:a.k=0 ∨ a.k=1 ∨ a.k=2 ∨ a.k=3 ∨ a.k=4
  x:a.k=1 → 0 ≤ a.x∧a.x < now.length∧0 ≤ a.a∧a.a < 8
  s:a.k=3 → c.fs ≠ []
theorem answer_all (W0 W:World) (rb:Nat) (now:List S32) (st:CpuD) (t:List S80) (stk:Value) (TA:Option Addr) (tc:Nat) (NA:Option Addr) (nc:Nat) (h:RunAt W0 W rb now st t stk TA tc NA nc) (a:AskD) (hok:AskOK now st a)
    (hbig:t.length ≤ 400000) (hgs:st.fs.length ≤ 99999) (hnow:Kd.C k32 W0 NA now.length now) (lo:Nat) (hS:Stk W lo stk st.fs) (hlo0:W0.heap.size ≤ lo) (hlo:∀ ad,TA=some ad → t ≠ [] → ad.block < lo) :
    Calls Try.prog 41 #[ptr rb,.agg a.c] W fun y w' => Answered W0 W w' rb now NA nc (answerP now st a t).1 (answerP now st a t).2.1 (answerP now st a t).2.2 y:=by
  obtain ⟨k,x,aa,d,⟨v0,v1⟩,e⟩:=a
  obtain ⟨hk,hx,hs⟩:=hok
  dsimp only at hk hx hs
  unfold answerP
  dsimp only
  rcases hk with rfl | rfl | rfl | rfl | rfl
  · simpa using answer_go W0 W rb now st t stk TA tc NA nc h x aa d v0 v1 e
  · obtain ⟨hx0,hx1,ha0,ha1⟩:=hx rfl
    obtain ⟨r,rfl⟩:∃ r:Nat,aa=r:=⟨aa.toNat,by omega⟩
    have hr8:r < 8:=by omega
    rw [if_pos rfl]
    simp only [Int.toNat_natCast]
    refine answer_read W0 W rb now st t stk TA tc NA nc h x r d v0 v1 e _ _ _ (fun W' TA tc stk h' => ?_)
    cases hq:lookL t x with
    | mk w is =>
      obtain ⟨w0,w1⟩:=w
      cases is with
      | true =>
        rw [if_pos rfl]
        exact read_is W0 W' rb now st t stk TA tc NA nc h' x r d v0 v1 e 1 w0 w1 hq (by omega) r rfl hr8
      | false =>
        rw [if_neg (by simp)]
        obtain ⟨n0,n1,hv⟩:∃ n0 n1,rd_T32 now x=⟨n0,n1⟩:=⟨_,_,rfl⟩
        rw [hv]
        obtain ⟨t2,er,hg⟩:∃ t2 er,addL t ⟨x,⟨n0,n1⟩,false⟩=(t2,er):=⟨_,_,rfl⟩
        rw [hg]
        dsimp only
        by_cases he:er=0
        · rw [if_pos he]
          exact read_ok W0 W' rb now st t stk TA tc NA nc h' x r d v0 v1 e 1 w0 w1 n0 n1 hq (by omega) r rfl hr8 hnow hx0 hx1 hv t2 er hg he
        · rw [if_neg he]
          exact read_full W0 W' rb now st t stk TA tc NA nc h' x r d v0 v1 e 1 w0 w1 n0 n1 hq (by omega) r rfl hr8 hnow hx0 hx1 hv t2 er hg he
  · simpa using answer_write W0 W rb now st t stk TA tc NA nc h x aa d v0 v1 e hbig
  · rcases List.eq_nil_or_concat st.fs with h0 | ⟨gs,f,hgf⟩
    · exact absurd h0 (hs rfl)
    · rw [List.concat_eq_append] at hgf
      rw [if_neg (by decide),if_neg (by decide),if_pos rfl]
      have e1:saveL st.fs t.length=gs ++ [⟨f.dest,t.length,f.rs⟩]:=by
        rw [hgf]
        simp [saveL]
      rw [e1]
      rw [hgf] at hS hgs
      exact answer_save W0 W rb now st t stk TA tc NA nc h x aa d v0 v1 e lo gs f hgf hS hlo0 hlo (by simp at hgs;omega)
  · simpa using answer_back W0 W rb now st t stk TA tc NA nc h x aa d v0 v1 e hbig
/-- How a block ended. -/
structure ResD where
  e:Int
  used:Int
  rs:List S32
  t:List S80
/-- A whole block: n: how many steps there may be yet. -/
def runP (l:List S74) (now:List S32) (fuel:Int):Nat → CpuD → List S80 → ResD
  | 0,c,t => ⟨5,c.used,c.rs,t⟩
  | n + 1,c,t =>
    let r:=stepP l c now.length fuel
    if r.2.k=5 then ⟨r.2.e,r.1.used,r.1.rs,t⟩
    else
      let q:=answerP now r.1 r.2 t
      if q.2.2=0 then runP l now fuel n q.1 q.2.1 else ⟨5,q.1.used,q.1.rs,q.2.1⟩
theorem mem_dl {α:Type} {l:List α} {x:α} (h:x ∈ l.dropLast):x ∈ l:=by
  rw [List.dropLast_eq_take] at h
  exact List.mem_of_mem_take h
def R64 (x:Int):Prop:=-9223372036854775808 ≤ x∧x < 9223372036854775808
theorem R64_wrap (x:Int):R64 (wrap64 x):=by unfold R64 wrap64;omega
/-- Registers that may be. -/
structure RsOK (rs:List S32):Prop where
  len:rs.length=8
  rg:∀ v ∈ rs,R64 v.f1
structure InvC (c:CpuD):Prop where
  rs:RsOK c.rs
  fl:c.fs.length ≤ 16
  fr:∀ f ∈ c.fs,RsOK f.rs
theorem RsOK.set {rs:List S32} (h:RsOK rs) (i:Nat) {v:S32} (hv:R64 v.f1):RsOK (rs.set i v) :=
  ⟨by simpa using h.len,fun u hu => by
    rcases List.mem_or_eq_of_mem_set hu with h1 | rfl
    · exact h.rg u h1
    · exact hv⟩
theorem RsOK.at {rs:List S32} (h:RsOK rs) (i:Int):R64 (regA rs i).f1:=by
  unfold regA
  by_cases hi:i.toNat < rs.length
  · rw [List.getD_eq_getElem?_getD,List.getElem?_eq_getElem hi]
    exact h.rg _ (List.getElem_mem hi)
  · rw [List.getD_eq_getElem?_getD,List.getElem?_eq_none (by omega)]
    exact ⟨by simp,by simp⟩
theorem worth_inv {rs:List S32} {o:S74} (h:RsOK rs) (h2:R64 o.f2) (h4:R64 o.f4) {v:S32} (hw:worthP rs o=some (some v)):R64 v.f1:=by
  unfold worthP at hw
  split at hw
  · cases hw;exact h4
  split at hw
  · cases hw;exact ⟨by simp,by simp⟩
  split at hw
  · cases hw;exact h2
  split at hw
  · cases hw;exact h.at _
  split at hw
  · cases hs:sumsP rs o with
    | none => rw [hs] at hw;cases hw
    | some u =>
      rw [hs] at hw
      cases hw
      unfold sumsP at hs
      split at hs
      · cases hs
        show R64 (doP _ _ _)
        unfold doP
        split
        · exact R64_wrap _
        split
        · exact R64_wrap _
        split
        · exact R64_wrap _
        split <;> exact ⟨by simp,by simp⟩
      · cases hs
  · cases hw
theorem does_inv {c:CpuD} {o:S74} {vars:Int} (h:InvC c) (ho:OpOK o) (h2:R64 o.f2) (h4:R64 o.f4) {c':CpuD} {a:AskD} (hd:doesP c o vars=.inr (c',a)) :
    InvC c'∧c'.used=c.used∧(a.k=0 ∨ a.k=1 ∨ a.k=2 ∨ a.k=3 ∨ a.k=4)∧(a.k=1 → 0 ≤ a.x∧a.x < vars∧0 ≤ a.a∧a.a < 8)∧(a.k=3 → c'.fs ≠ [])∧(a.k=2 → R64 a.v.f1):=by
  have ha0:=ho.a0
  have ha1:=ho.a1
  unfold doesP at hd
  split at hd
  · cases hd
  · rename_i v hw
    simp only [Sum.inr.injEq,Prod.mk.injEq] at hd
    obtain ⟨rfl,rfl⟩:=hd
    exact ⟨⟨h.rs.set _ (worth_inv h.rs h2 h4 hw),h.fl,h.fr⟩,rfl,by simp [ask0],by simp [ask0],by simp [ask0],by simp [ask0]⟩
  · split at hd
    · split at hd
      · rename_i hv
        simp only [Sum.inr.injEq,Prod.mk.injEq] at hd
        obtain ⟨rfl,rfl⟩:=hd
        exact ⟨⟨h.rs,h.fl,h.fr⟩,rfl,by simp,fun _ => ⟨hv.2.1,hv.2.2,ha0,ha1⟩,by simp,by simp⟩
      · cases hd
    split at hd
    · split at hd
      · rename_i hv
        simp only [Sum.inr.injEq,Prod.mk.injEq] at hd
        obtain ⟨rfl,rfl⟩:=hd
        exact ⟨⟨h.rs,h.fl,h.fr⟩,rfl,by simp,by simp,by simp,fun _ => h.rs.at _⟩
      · cases hd
    split at hd
    · simp only [Sum.inr.injEq,Prod.mk.injEq] at hd
      obtain ⟨rfl,rfl⟩:=hd
      exact ⟨⟨h.rs,h.fl,h.fr⟩,rfl,by simp [ask0],by simp [ask0],by simp [ask0],by simp [ask0]⟩
    split at hd
    · split at hd
      · simp only [Sum.inr.injEq,Prod.mk.injEq] at hd
        obtain ⟨rfl,rfl⟩:=hd
        exact ⟨⟨h.rs,h.fl,h.fr⟩,rfl,by simp [ask0],by simp [ask0],by simp [ask0],by simp [ask0]⟩
      · cases hd
    split at hd
    · split at hd
      · cases hd
      · rename_i hf
        simp only [Sum.inr.injEq,Prod.mk.injEq] at hd
        obtain ⟨rfl,rfl⟩:=hd
        refine ⟨⟨h.rs,by simp;omega,fun f hm => ?_⟩,rfl,by simp,by simp,by simp,by simp⟩
        rcases List.mem_append.1 hm with h1 | h1
        · exact h.fr f h1
        · rw [List.mem_singleton.1 h1];exact h.rs
    split at hd
    · simp only [Sum.inr.injEq,Prod.mk.injEq] at hd
      obtain ⟨rfl,rfl⟩:=hd
      exact ⟨⟨h.rs,by have:=h.fl;simp;omega,fun f hm => h.fr f (mem_dl hm)⟩,rfl,by simp [ask0],by simp [ask0],by simp [ask0],by simp [ask0]⟩
    split at hd
    · split at hd
      · cases hd
      · rename_i f hf
        simp only [Sum.inr.injEq,Prod.mk.injEq] at hd
        obtain ⟨rfl,rfl⟩:=hd
        exact ⟨⟨h.fr f (List.mem_of_getLast? hf),by have:=h.fl;simp;omega,fun g hm => h.fr g (mem_dl hm)⟩,rfl,by simp,by simp,by simp,by simp⟩
    split at hd <;> cases hd
/-- What holds ahead of each step. -/
structure InvR (c:CpuD) (t:List S80):Prop where
  ic:InvC c
  u0:0 ≤ c.used
  tl:t.length ≤ 200
  tr:∀ s ∈ t,R64 s.f1.f1
theorem step_inv {l:List S74} {c:CpuD} {vars fuel:Int} (h:InvC c) (hl:∀ o ∈ l,R64 o.f2∧R64 o.f4) :
    InvC (stepP l c vars fuel).1∧((stepP l c vars fuel).2.k ≠ 5 → c.used < fuel∧(stepP l c vars fuel).1.used=wrap64 (c.used + 1) ∧
      ((stepP l c vars fuel).2.k=0 ∨ (stepP l c vars fuel).2.k=1 ∨ (stepP l c vars fuel).2.k=2 ∨ (stepP l c vars fuel).2.k=3 ∨ (stepP l c vars fuel).2.k=4) ∧
      ((stepP l c vars fuel).2.k=1 → 0 ≤ (stepP l c vars fuel).2.x∧(stepP l c vars fuel).2.x < vars∧0 ≤ (stepP l c vars fuel).2.a∧(stepP l c vars fuel).2.a < 8) ∧
      ((stepP l c vars fuel).2.k=3 → (stepP l c vars fuel).1.fs ≠ [])∧((stepP l c vars fuel).2.k=2 → R64 (stepP l c vars fuel).2.v.f1)):=by
  unfold stepP
  split
  · exact ⟨h,fun hk => absurd rfl hk⟩
  rename_i h0
  split
  · exact ⟨h,fun hk => absurd rfl hk⟩
  split
  · exact ⟨h,fun hk => absurd rfl hk⟩
  rename_i hf
  split
  · exact ⟨h,fun hk => absurd rfl hk⟩
  rename_i o ho
  have hR:codeR l=true:=by
    cases hc:codeR l
    · exact absurd (.inl hc) h0
    · rfl
  have hok:OpOK o:=by
    unfold codeR at hR
    simp only [Bool.and_eq_true,List.all_eq_true] at hR
    exact opOK_of (by omega) (hR.2 o (List.mem_of_getElem? ho))
  have hr:=hl o (List.mem_of_getElem? ho)
  split
  · exact ⟨⟨h.rs,h.fl,h.fr⟩,fun hk => absurd rfl hk⟩
  · rename_i r hd
    obtain ⟨h1,h2,h3,h4,h5,h6⟩:=does_inv (c:=⟨c.pc,wrap64 (c.used + 1),c.rs,c.fs⟩) ⟨h.rs,h.fl,h.fr⟩ hok hr.1 hr.2 (c':=r.1) (a:=r.2) hd
    exact ⟨h1,fun _ => ⟨by omega,h2,h3,h4,h5,h6⟩⟩
theorem addL_inv {t:List S80} {s:S80} (h:t.length ≤ 200) (hr:∀ u ∈ t,R64 u.f1.f1) (hs:R64 s.f1.f1):(addL t s).1.length ≤ 200∧∀ u ∈ (addL t s).1,R64 u.f1.f1:=by
  unfold addL
  split
  · exact ⟨h,hr⟩
  split
  · exact ⟨h,hr⟩
  · refine ⟨by simp;omega,fun u hu => ?_⟩
    rcases List.mem_append.1 hu with h1 | h1
    · exact hr u h1
    · rw [List.mem_singleton.1 h1];exact hs
theorem backL_inv {t:List S80} {d:Int} (h:t.length ≤ 200) (hr:∀ u ∈ t,R64 u.f1.f1):(backL t d).1.length ≤ 200∧∀ u ∈ (backL t d).1,R64 u.f1.f1:=by
  unfold backL
  split
  · exact ⟨h,hr⟩
  · refine ⟨?_,fun u hu => ?_⟩
    · have:=List.length_filter_le (fun s:S80 => !s.f2) (t.drop d.toNat)
      simp at this ⊢
      omega
    · rcases List.mem_append.1 hu with h1 | h1
      · exact hr u (List.mem_of_mem_take h1)
      · exact hr u (List.mem_of_mem_drop (List.mem_filter.1 h1).1)
theorem lookR_inv {x:Int}:∀ {r:List (Nat × S80)} {st:S32 × Bool},(∀ p ∈ r,R64 p.2.f1.f1) → R64 st.1.f1 → R64 (lookR x r st).1.f1
  | [],st,_,h => h
  | p :: r,st,hr,h => by
    have h1:=hr p (by simp)
    have h2:∀ p ∈ r,R64 p.2.f1.f1:=fun q hq => hr q (by simp [hq])
    unfold lookR
    split
    · split
      · exact h1
      · exact lookR_inv h2 h1
    · exact lookR_inv h2 h
theorem lookL_inv {t:List S80} {x:Int} (hr:∀ u ∈ t,R64 u.f1.f1):R64 (lookL t x).1.f1:=by
  refine lookR_inv (fun p hp => ?_) ⟨by simp [z32],by simp [z32]⟩
  unfold rz at hp
  obtain ⟨j,hj,rfl⟩:=List.mem_map.1 hp
  have hj':=List.mem_range.1 hj
  show R64 (t.getD (t.length - 1 - j) z80).f1.f1
  rw [List.getD_eq_getElem?_getD,List.getElem?_eq_getElem (by omega)]
  exact hr _ (List.getElem_mem _)
theorem answer_inv {now:List S32} {c:CpuD} {a:AskD} {t:List S80} (h:InvC c) (ht:t.length ≤ 200) (hr:∀ s ∈ t,R64 s.f1.f1) (hn:∀ v ∈ now,R64 v.f1) (hv:a.k=2 → R64 a.v.f1) :
    InvC (answerP now c a t).1∧(answerP now c a t).1.used=c.used∧(answerP now c a t).2.1.length ≤ 200∧∀ s ∈ (answerP now c a t).2.1,R64 s.f1.f1:=by
  have hnow:R64 (rd_T32 now a.x).f1:=by
    unfold rd_T32
    by_cases hi:a.x.toNat < now.length
    · rw [List.getD_eq_getElem?_getD,List.getElem?_eq_getElem hi]
      exact hn _ (List.getElem_mem hi)
    · rw [List.getD_eq_getElem?_getD,List.getElem?_eq_none (by omega)]
      exact ⟨by simp [z32],by simp [z32]⟩
  have hadd:=addL_inv (s:=⟨a.x,rd_T32 now a.x,false⟩) ht hr hnow
  unfold answerP
  split
  · split
    · exact ⟨⟨h.rs.set _ (lookL_inv hr),h.fl,h.fr⟩,rfl,ht,hr⟩
    split
    · exact ⟨⟨h.rs.set _ hnow,h.fl,h.fr⟩,rfl,hadd.1,hadd.2⟩
    · exact ⟨h,rfl,hadd.1,hadd.2⟩
  split
  · rename_i hk
    have:=addL_inv (s:=⟨a.x,a.v,true⟩) ht hr (hv hk)
    exact ⟨h,rfl,this.1,this.2⟩
  split
  · refine ⟨?_,rfl,ht,hr⟩
    unfold saveL
    split
    · exact h
    · rename_i f hf
      refine ⟨h.rs,?_,fun g hg => ?_⟩
      · have h1:=h.fl
        have:c.fs ≠ []:=by rintro e;rw [e] at hf;cases hf
        have h2:=List.length_pos_iff.2 this
        simp
        omega
      · rcases List.mem_append.1 hg with h1 | h1
        · exact h.fr g (mem_dl h1)
        · rw [List.mem_singleton.1 h1];exact h.fr f (List.mem_of_getLast? hf)
  split
  · have:=backL_inv (d:=a.d) ht hr
    exact ⟨h,rfl,this.1,this.2⟩
  · exact ⟨h,rfl,ht,hr⟩
end Go.Proofs.Ytgnjkegnddekeaa.Q
