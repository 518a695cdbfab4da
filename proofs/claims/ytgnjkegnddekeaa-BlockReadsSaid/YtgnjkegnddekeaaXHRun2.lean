/- A whole block, by hand: as run_core, with one thing more told. -/
import Derived.Test.YtgnjkegnddekeaaXHRun
import Derived.ScopeJumps
import Derived.WalkMore
import Derived.Scope
open List renaming setIfInBounds_toArray → zJ, set_cons_zero → zK, set_cons_succ → zL
open And renaming intro → zM
namespace Go.Proofs.Ytgnjkegnddekeaa.Q
open Go.RowKit Go.Lib Go.Proofs.Ytgnjkegnddekeaa Go.Proofs.YtgnjkegnddekeaaW.PrintWords Go.Proofs.YtgnjkegnddekeaaW.PrintLast Go.Proofs.YtgnjkegnddekeaaW.PrintMore
set_option linter.unusedVariables false
set_option linter.unusedSimpArgs false
/-- How a whole block ends, in memory; what it did lies in a block that was not there before. -/
def Ran2 (W:World) (r:ResD) (e:Ending) (w':World):Prop :=
  ∃ TA tc,e=.returned (.agg (.int .i64 r.e :: .int .i64 r.used :: (rc r.rs ++ [.slice TA r.t.length tc])).toArray)∧r.rs.length=8∧Kd.C k80 w' TA r.t.length r.t∧r.t.length ≤ tc∧(∀ ad,TA=some ad → W.heap.size ≤ ad.block)∧Below W.heap.size W w'
set_option maxRecDepth 100000 in
set_option maxHeartbeats 4000000 in
theorem run_core2 (W:World) (A:Option Addr) (c:Nat) (l:List S74) (NA:Option Addr) (nc:Nat) (now:List S32) (fuel:Int) (a0 b0 a1 b1 a2 b2 a3 b3 a4 b4 a5 b5 a6 b6 a7 b7:Int)
    (hC:Kd.C k74 W A l.length l) (hlc:l.length ≤ c) (hnow:Kd.C k32 W NA now.length now) (hnc:now.length ≤ nc) (hlr:∀ o ∈ l,R64 o.f2∧R64 o.f4) (hnr:∀ v ∈ now,R64 v.f1) (hrr:RsOK [⟨a0,b0⟩,⟨a1,b1⟩,⟨a2,b2⟩,⟨a3,b3⟩,⟨a4,b4⟩,⟨a5,b5⟩,⟨a6,b6⟩,⟨a7,b7⟩]) (hfu:fuel ≤ 1000000000) :
    Calls Try.prog 18 #[.slice A l.length c,.slice NA now.length nc,.agg #[.int .i64 a0,.int .i64 b0,.int .i64 a1,.int .i64 b1,.int .i64 a2,.int .i64 b2,.int .i64 a3,.int .i64 b3,.int .i64 a4,.int .i64 b4,.int .i64 a5,.int .i64 b5,.int .i64 a6,.int .i64 b6,.int .i64 a7,.int .i64 b7],.int .i64 fuel] W (Ran2 W (runP l now fuel (fuel.toNat + 1) ⟨0,0,[⟨a0,b0⟩,⟨a1,b1⟩,⟨a2,b2⟩,⟨a3,b3⟩,⟨a4,b4⟩,⟨a5,b5⟩,⟨a6,b6⟩,⟨a7,b7⟩],[]⟩ [])):=by
  have hu34:=Try.underlying34
  have hu37:=Try.underlying37
  have hu39:=Try.underlying39
  have hu57:=Try.underlying57
  have hu59:=Try.underlying59
  have hu108:=Try.underlying108
  obtain ⟨ρ,hρ⟩:∃ ρ,runP l now fuel (fuel.toNat + 1) ⟨0,0,[⟨a0,b0⟩,⟨a1,b1⟩,⟨a2,b2⟩,⟨a3,b3⟩,⟨a4,b4⟩,⟨a5,b5⟩,⟨a6,b6⟩,⟨a7,b7⟩],[]⟩ []=ρ:=⟨_,rfl⟩
  rw [hρ]
  obtain ⟨W1,hW1,hB1⟩:∃ W1,W.alloc (.cells #[.int .i64 a0,.int .i64 b0,.int .i64 a1,.int .i64 b1,.int .i64 a2,.int .i64 b2,.int .i64 a3,.int .i64 b3,.int .i64 a4,.int .i64 b4,.int .i64 a5,.int .i64 b5,.int .i64 a6,.int .i64 b6,.int .i64 a7,.int .i64 b7] 34)=W1∧Below W.heap.size W W1:=⟨_,rfl,bOne _⟩
  have k1:∀ i,W1.cell? ⟨W.heap.size,i,none⟩=(#[.int .i64 a0,.int .i64 b0,.int .i64 a1,.int .i64 b1,.int .i64 a2,.int .i64 b2,.int .i64 a3,.int .i64 b3,.int .i64 a4,.int .i64 b4,.int .i64 a5,.int .i64 b5,.int .i64 a6,.int .i64 b6,.int .i64 a7,.int .i64 b7]:Array Value)[i]?:=fun i => by rw [← hW1];exact zG (heap_alloc_new _ _) i
  obtain ⟨W2,hW2,K2,hB2⟩:=alz3 W1
  have hLr:(Instr.loadAt 34 (.pointer (some ⟨W.heap.size,0,none⟩))).run Try.prog W2=.ok (.agg #[.int .i64 a0,.int .i64 b0,.int .i64 a1,.int .i64 b1,.int .i64 a2,.int .i64 b2,.int .i64 a3,.int .i64 b3,.int .i64 a4,.int .i64 b4,.int .i64 a5,.int .i64 b5,.int .i64 a6,.int .i64 b6,.int .i64 a7,.int .i64 b7]) W2:=ld_whole (zE (by rw [← hW1];exact heap_alloc_new _ _) hB2) hu34 rfl (by rw [size34];rfl)
  obtain ⟨W3,hW3,K3,hB3⟩:=alz W2 (runC 0 0 [⟨a0,b0⟩,⟨a1,b1⟩,⟨a2,b2⟩,⟨a3,b3⟩,⟨a4,b4⟩,⟨a5,b5⟩,⟨a6,b6⟩,⟨a7,b7⟩] (.slice none 0 0) (.slice none 0 0) (.slice NA now.length nc)) 108
  obtain ⟨W4,hW4,K4,hB4⟩:=alz0 W3
  have hB14:Below W.heap.size W W4:=bAfter hB1 (bAfter hB2 (bAfter hB3 hB4))
  have l1:W.heap.size < W1.heap.size∧W1.heap.size < W2.heap.size∧W2.heap.size < W3.heap.size:=⟨by rw [← hW1,World.size_alloc];omega,blk_lt K2,blk_lt K3⟩
  have R0:RunAt W W4 W2.heap.size now ⟨0,0,[⟨a0,b0⟩,⟨a1,b1⟩,⟨a2,b2⟩,⟨a3,b3⟩,⟨a4,b4⟩,⟨a5,b5⟩,⟨a6,b6⟩,⟨a7,b7⟩],[]⟩ [] (.slice none 0 0) none 0 NA nc:=⟨hrr.len,zE K3 hB4,Kd.R_nil _ _ _ _ _,⟨rfl,by simp,fun h => absurd h (by simp)⟩,Nat.le_refl _,(fun ad h => by cases h),hB14,by omega,by have h1:=blk_lt K4;have h2:W3.heap.size=W2.heap.size + 1:=(by rw [← hW3,World.size_alloc]);omega⟩
  have I0:InvR ⟨0,0,[⟨a0,b0⟩,⟨a1,b1⟩,⟨a2,b2⟩,⟨a3,b3⟩,⟨a4,b4⟩,⟨a5,b5⟩,⟨a6,b6⟩,⟨a7,b7⟩],[]⟩ []:=⟨⟨hrr,by simp,by simp⟩,by simp,by simp,by simp⟩
  have L0:=Lib.hid (zM R0 (zM I0 (zM (zE K2 (bAfter hB3 hB4)) (zM K4 (show runP l now fuel ((fuel - 0).toNat + 1) ⟨0,0,[⟨a0,b0⟩,⟨a1,b1⟩,⟨a2,b2⟩,⟨a3,b3⟩,⟨a4,b4⟩,⟨a5,b5⟩,⟨a6,b6⟩,⟨a7,b7⟩],[]⟩ []=ρ by rw [Int.sub_zero];exact hρ)))))
  have HH:=Lib.hid (zM hC (zM hlc (zM hnow (zM hlr (zM hnr (zM hfu (zM l1 (show W3.heap.size=W2.heap.size + 1 by rw [← hW3,World.size_alloc]))))))))
  simp only [runC,rc,List.cons_append,List.nil_append] at hW3
  clear hC hlc hnow hnc hlr hnr hrr hfu hρ K2 K3 K4 hB1 hB2 hB3 hB4 hB14 l1 R0 I0 k1
  go_enter Try.func18,Try.ntmps18
  go_wp2_with (refine wpList_ld rfl rfl hLr ?_)
  refine wp_jumps 0 (Loop W W1.heap.size W2.heap.size W3.heap.size A c l NA nc now fuel ρ) (fun _ V => (fuel - usedAt W2.heap.size V).toNat) (by rfl) ?_ ?_
  case refine_2 =>
    intro hp
    go_wp2_with (refine wpList_ld rfl rfl hLr ?_)
    go_step3
    rename_i KK hK
    obtain ⟨R0,I0,K2,K4,hrun⟩:=L0.out
    refine hK _ _ ?_
    refine hp _ _ ?_
    refine ⟨⟨_,_,_,_,_,_,_,_,_,_,_,_,_,_,_,_,_,_,_,_,_,_,_,_,_,_,_,_,_,_,_,_,_,_,_,_,_,_,_,_,_,_,_,_,_,_,_,_,_,_,_,_,rfl⟩,?_⟩
    exact ⟨_,_,_,_,_,R0,I0,K2,⟨_,rfl,K4⟩,hrun⟩
  case refine_1 =>
    rintro a V ⟨⟨u2,u4,u5,u6,u7,u12,u13,u14,u15,u16,u17,u18,u19,u20,u21,u22,u23,u24,u25,u26,u27,u28,u29,u30,u31,u32,u33,u34,u35,u36,u37,u38,u39,u40,u41,u42,u43,u44,u45,u46,u47,u48,u49,u50,u51,u52,u53,u54,u55,u56,u57,u58,rfl⟩,st,t,stk,TA,tc,hR,hI,K1,⟨zs,hzs,K3⟩,hrun⟩
    obtain ⟨hC,hlc,hnow,hlr,hnr,hfu,l1,hab⟩:=HH.out
    have hus:usedAt W2.heap.size V=st.used:=by
      have:V.cell? ⟨W2.heap.size,1,none⟩=some (.int .i64 st.used):=zG hR.hr 1
      unfold usedAt
      rw [this]
    rw [hus]
    clear hus
    have hLd:(Instr.loadAt 37 (.pointer (some ⟨W2.heap.size,0,none⟩))).run Try.prog V=.ok (.agg (cpuC st.pc st.used st.rs stk)) V:=by
      have:=ld_range (P:=Try.prog) (ty:=37) (range_of (pre:=[]) (cs:=(cpuC st.pc st.used st.rs stk).toList) (post:=[.slice TA t.length tc,.slice NA now.length nc]) (t:=108) (fr:=(0,0)) (by rw [← runC_split];exact hR.hr)) hu37 rfl (by rw [size37];simp [cpuC_size hR.hl])
      simpa using this
    obtain ⟨SA,sc,rfl⟩:=Kd.R_slice hR.hs
    obtain ⟨r,hr⟩:∃ r,stepP l st now.length fuel=r:=⟨_,rfl⟩
    have hst:=step_calls V A c l st.pc st.used now.length fuel st.rs SA sc st.fs (Kd.C_below hC hR.hB) hlc hR.hl (Kd.R_reads' hR.hs).2.2 (Kd.R_reads' hR.hs).2.1 (by have:=hI.ic.fl;omega) hI.ic.rs.rg
    have hst2:stepP l ⟨st.pc,st.used,st.rs,st.fs⟩ now.length fuel=r:=hr
    rw [hst2] at hst
    have hinv:=step_inv (vars:=now.length) (fuel:=fuel) hI.ic hlr
    rw [hr] at hinv
    have hrun2:(if r.2.k=5 then (⟨r.2.e,r.1.used,r.1.rs,t⟩:ResD) else
      if (answerP now r.1 r.2 t).2.2=0 then runP l now fuel (fuel - st.used).toNat (answerP now r.1 r.2 t).1 (answerP now r.1 r.2 t).2.1 else ⟨5,(answerP now r.1 r.2 t).1.used,(answerP now r.1 r.2 t).1.rs,(answerP now r.1 r.2 t).2.1⟩)=ρ:=by
      rw [← hr]
      exact hrun
    clear hst2 hr hrun
    have HS:=Lib.hid hst
    have HV:=Lib.hid (zM hR (zM hI (zM K1 (zM hzs (zM K3 (zM hinv hrun2))))))
    clear hst hR hI K1 hzs K3 hinv hrun2 hC hlc hnow hlr hnr hfu l1 hab
    go_wp2_with (refine wpList_ld rfl rfl hLd ?_)
    refine HS.out.mono ?_
    rintro e V1 ⟨h8,stk1,rfl,hs1,hB1⟩
    obtain ⟨hR,hI,K1,hzs,K3,hinv,hrun2⟩:=HV.out
    obtain ⟨hC,hlc,hnow,hlr,hnr,hfu,l1,hab⟩:=HH.out
    obtain ⟨SB,sd,rfl⟩:=Kd.R_slice hs1
    have hR1:=hR.below hB1
    have hsR:(runC st.pc st.used st.rs (.slice SA st.fs.length sc) (.slice TA t.length tc) (.slice NA now.length nc)).size=21:=runC_size hR.hl
    have hsC:(cpuC r.1.pc r.1.used r.1.rs (.slice SB r.1.fs.length sd)).size=19:=cpuC_size h8
    obtain ⟨V2,hS2,K22,hO2⟩:=st_mid (P:=Try.prog) (ty:=37) (off:=0) (vs:=(cpuC r.1.pc r.1.used r.1.rs (.slice SB r.1.fs.length sd)).toList) hR1.hr (by rw [hsR];simp [hsC]) (by rw [size37];simp [hsC]) (cpuC_one _ _ _ _ _ _)
    rw [runC_setCpu hR.hl h8] at K22
    simp only [Array.toArray_toList] at hS2
    have hs2:Stk V2 V.heap.size (.slice SB r.1.fs.length sd) r.1.fs:=hs1.only hR1.hr (by decide) hO2
    have hBV:W.heap.size ≤ V.heap.size:=hR.hB.size
    have R2:RunAt W V2 W2.heap.size now r.1 t (.slice SB r.1.fs.length sd) TA tc NA nc:=⟨h8,K22,Kd.R_lower hs2 hBV,C_only (fun w w' x cs hk => flatK80 hk) hR1.ht hO2 (fun ad ha => by have:=hR.hta ad ha;omega),hR.htc,hR.hta,hR1.hB.trans (hO2.below hR.hrb hR1.hB.size),hR.hrb,Nat.lt_of_lt_of_le hR1.hsz hO2.size⟩
    have K32:=hO2.mid (zE K3 hB1) (by omega) (B:=0)
    obtain ⟨V3,hS3,K33,hO3⟩:=st_whole (P:=Try.prog) (ty:=39) (vs:=r.2.c.toList) K32 (by rw [hzs];rfl) (by rw [size39];rfl) (by simp [Value.oneCell'])
    simp only [Array.toArray_toList] at hS3 K33
    have hs3:Stk V3 V.heap.size (.slice SB r.1.fs.length sd) r.1.fs:=hs2.only K32 (by decide) hO3
    have R3:RunAt W V3 W2.heap.size now r.1 t (.slice SB r.1.fs.length sd) TA tc NA nc:=⟨h8,hO3.mid K22 (by omega) (B:=0),Kd.R_lower hs3 hBV,C_only (fun w w' x cs hk => flatK80 hk) R2.ht hO3 (fun ad ha => by have:=hR.hta ad ha;omega),hR.htc,hR.hta,R2.hB.trans (hO3.below (by omega) R2.hB.size),hR.hrb,Nat.lt_of_lt_of_le R2.hsz hO3.size⟩
    have K13:=hO3.mid (hO2.mid (zE K1 hB1) (by omega) (B:=0)) (by omega) (B:=0)
    have m0:V3.cell? ⟨W3.heap.size,0,none⟩=some (.int .i64 r.2.k):=zG K33 0
    have m1:V3.cell? ⟨W3.heap.size,1,none⟩=some (.int .i64 r.2.x):=zG K33 1
    have m2:V3.cell? ⟨W3.heap.size,2,none⟩=some (.int .i64 r.2.a):=zG K33 2
    have m3:V3.cell? ⟨W3.heap.size,3,none⟩=some (.int .i64 r.2.d):=zG K33 3
    have m4:V3.cell? ⟨W3.heap.size,4,none⟩=some (.int .i64 r.2.v.f0):=zG K33 4
    have m5:V3.cell? ⟨W3.heap.size,5,none⟩=some (.int .i64 r.2.v.f1):=zG K33 5
    have m6:V3.cell? ⟨W3.heap.size,6,none⟩=some (.int .i64 r.2.e):=zG K33 6
    have HLO:=Lib.hid (show ∀ ad,TA=some ad → t ≠ [] → ad.block < V.heap.size from fun ad ha ht => C_lt (show 0 < k80.sz by decide) (by have:=hR.ht;rw [ha] at this;exact this) ht)
    have H3:=Lib.hid (zM R3 (zM hs3 (zM K13 (zM K33 (zM hI (zM hinv hrun2))))))
    clear hR hI K1 hzs K3 hinv hrun2 hC hlc hnow hlr hnr hfu l1 hab hs1 hB1 hR1 K22 hO2 hs2 R2 K32 K33 hO3 hs3 R3 K13 hsR hsC
    by_cases h5:r.2.k=5
    · have e5:(r.2.k == 5)=true:=by simpa using h5
      go_wp2_with (first | refine wpList_st rfl rfl hS2 ?_ | refine wpList_st rfl rfl hS3 ?_)
      obtain ⟨RX,hs3,K1X,K33,hI,hinv,hrun2⟩:=H3.out
      rw [if_pos h5] at hrun2
      have hρ:=hrun2.symm
      clear hs3 K33 hI hinv hrun2
      obtain ⟨stk2,hstk2⟩:∃ stk2,stk2=Value.slice SB r.1.fs.length sd:=⟨_,rfl⟩
      obtain ⟨TA2,hTA2⟩:∃ TA2,TA2=TA:=⟨_,rfl⟩
      obtain ⟨tc2,htc2⟩:∃ tc2,tc2=tc:=⟨_,rfl⟩
      rw [← hstk2,← hTA2,← htc2] at RX
      clear hstk2 hTA2 htc2
      obtain ⟨c0,d0,c1,d1,c2,d2,c3,d3,c4,d4,c5,d5,c6,d6,c7,d7,hrs⟩:=eight RX.hl
      have n1:∀ W',Below V3.heap.size V3 W' → W'.cell? ⟨W2.heap.size,1,none⟩=some (.int .i64 r.1.used):=fun W' hB => zG (zE RX.hr hB) 1
      have n3:∀ W',Below V3.heap.size V3 W' → W'.cell? ⟨W2.heap.size,19,none⟩=some (.slice TA2 t.length tc2):=fun W' hB => (zG (zE RX.hr hB) 19).trans (runC_tail RX.hl).2.1
      have n2:∀ W',Below V3.heap.size V3 W' → (Instr.loadAt 34 (.pointer (some ⟨W2.heap.size,2,none⟩))).run Try.prog W'=.ok (.agg #[.int .i64 c0,.int .i64 d0,.int .i64 c1,.int .i64 d1,.int .i64 c2,.int .i64 d2,.int .i64 c3,.int .i64 d3,.int .i64 c4,.int .i64 d4,.int .i64 c5,.int .i64 d5,.int .i64 c6,.int .i64 d6,.int .i64 c7,.int .i64 d7]) W':=fun W' hB => by
        have:=ld_range (P:=Try.prog) (ty:=34) (range_of (W:=W') (g:=W2.heap.size) (pre:=[.int .i64 r.1.pc,.int .i64 r.1.used]) (cs:=rc r.1.rs) (post:=[stk2,.slice TA2 t.length tc2,.slice NA now.length nc]) (t:=108) (fr:=(0,0)) (by simpa [runC] using zE RX.hr hB)) hu34 rfl (by rw [size34,rc_length,RX.hl])
        rw [hrs] at this
        exact this
      have HX:=Lib.hid (zM RX (zM K1X (zM hρ hrs)))
      clear RX K1X hρ hrs
      apply GR.wp_region_grow (R:=RB) 16 (by kernel_rfl) (by kernel_rfl) (by kernel_rfl)
      · intro c a d v w h;cases d <;> exact h
      simp only [List.take_succ_cons,List.take_zero,List.drop_succ_cons,List.drop_zero]
      iterate 10
        apply GR.gw_val (by rfl)
        · (intro W' hB hD;have e1:=n1 W' hB;have e3:=n3 W' hB;go_simp;first | done | rfl)
        simp only [Act.put,zJ,zK,zL]
      apply GR.gw_val (by rfl)
      · (intro W' hB hD;exact exec_ld rfl (n2 W' hB))
      simp only [Act.put,zJ,zK,zL]
      iterate 5
        apply GR.gw_val (by rfl)
        · (intro W' hB hD;have e1:=n1 W' hB;have e3:=n3 W' hB;go_simp;first | done | rfl)
        simp only [Act.put,zJ,zK,zL]
      apply GR.gw_nil
      intro Va hW hF hP
      clear hF hP
      obtain ⟨RX,K1X,hρ,hrs⟩:=HX.out
      have RA:=RX.below hW
      have hlt:=HH.out.2.2.2.2.2.2.1
      obtain ⟨Vb,hSb,Kb,hOb⟩:=st_whole (P:=Try.prog) (ty:=59) (vs:=.int .i64 r.2.e :: .int .i64 r.1.used :: (rc [⟨c0,d0⟩,⟨c1,d1⟩,⟨c2,d2⟩,⟨c3,d3⟩,⟨c4,d4⟩,⟨c5,d5⟩,⟨c6,d6⟩,⟨c7,d7⟩] ++ [.slice TA2 t.length tc2])) (zE K1X hW) rfl (by rw [size59];rfl) (by simp [rc,Value.oneCell'])
      have hBb:Below W.heap.size W Vb:=RA.hB.trans (hOb.below (by omega) RA.hB.size)
      have hCb:Kd.C k80 Vb TA2 t.length t:=C_only (fun w w' x cs hk => flatK80 hk) RA.ht hOb (fun ad ha => by have:=RA.hta ad ha;omega)
      have HE:=Lib.hid (zM Kb (zM hBb (zM hCb (zM RA.htc (zM RA.hl (zM (show ∀ ad,TA2=some ad → W.heap.size ≤ ad.block from fun ad ha => by have:=RA.hta ad ha;have:=RA.hrb;omega) (zM hρ hrs)))))))
      simp only [rc,List.cons_append,List.nil_append] at hSb
      clear RX K1X hρ hrs RA hlt Kb hOb hBb hCb hW HX n1 n2 n3
      go_wp2_with (refine wpList_st rfl rfl hSb ?_)
      refine bodyPost_ret (results_c1 rfl _ rfl HE.out.1 hu59 rfl (by rw [size59];rfl)) rfl ?_
      obtain ⟨Kb,hBb,hCb,htc,hl8,hTa,hρ,hrs⟩:=HE.out
      rw [hρ]
      refine ⟨TA2,tc2,?_,hl8,hCb,htc,hTa,hBb⟩
      dsimp only
      rw [hrs]
    · have e5:(r.2.k == 5)=false:=by simpa using h5
      go_wp2_with (first | refine wpList_st rfl rfl hS2 ?_ | refine wpList_st rfl rfl hS3 ?_)
      obtain ⟨R3,hs3,K13,K33,hI,hinv,hrun2⟩:=H3.out
      obtain ⟨hC,hlc,hnow,hlr,hnr,hfu,l1,hab⟩:=HH.out
      obtain ⟨hic,hin⟩:=hinv
      obtain ⟨hu1,hu2,hk,hx,hsv,hwv⟩:=hin h5
      have hau:=answer_inv (a:=r.2) hic hI.tl hI.tr hnr hwv
      have hus2:r.1.used=st.used + 1:=by rw [hu2];have:=hI.u0;unfold wrap64;omega
      have HA:=(answer_all W V3 W2.heap.size now r.1 t (.slice SB r.1.fs.length sd) TA tc NA nc R3 r.2 ⟨hk,hx,hsv⟩ (by have:=hI.tl;omega) (by have:=hic.fl;omega) hnow V.heap.size hs3 HV.out.1.hB.size HLO.out)
      rw [if_neg h5] at hrun2
      generalize hq:answerP now r.1 r.2 t=q at HA hau hrun2
      obtain ⟨s2,t2,er⟩:=q
      dsimp only at HA hau hrun2
      replace HA:=Lib.hid HA
      have HB:=Lib.hid (zM K13 (zM K33 (zM hau (zM hrun2 (zM hus2 (zM hu1 hI))))))
      clear R3 hs3 K13 K33 hI hrun2 hC hlc hnow hlr hnr hfu l1 hab hic hin hu1 hu2 hk hx hsv hwv hau hus2 hq
      by_cases her:er=0
      · subst her
        refine HA.out.mono ?_
        rintro y V5 ⟨rfl,hkp,stk2,TA2,tc2,RX⟩
        have HX:=Lib.hid (zM hkp RX)
        clear hkp RX
        go_wp2_with fail
        go_step3
        refine ⟨rfl,⟨⟨_,_,_,_,_,_,_,_,_,_,_,_,_,_,_,_,_,_,_,_,_,_,_,_,_,_,_,_,_,_,_,_,_,_,_,_,_,_,_,_,_,_,_,_,_,_,_,_,_,_,_,_,rfl⟩,?_⟩,?_⟩
        · obtain ⟨K13,K33,hau,hrun2,hus2,hu1,hI⟩:=HB.out
          obtain ⟨hkp,RX⟩:=HX.out
          rw [if_pos trivial] at hrun2
          refine ⟨s2,t2,stk2,TA2,tc2,RX,⟨hau.1,by have:=hI.u0;omega,hau.2.2.1,hau.2.2.2⟩,hkp _ _ _ K13 (by decide) (by decide),⟨_,rfl,hkp _ _ _ K33 (by decide) (by decide)⟩,?_⟩
          rw [show (fuel - s2.used).toNat + 1=(fuel - st.used).toNat by omega]
          exact hrun2
        · obtain ⟨K13,K33,hau,hrun2,hus2,hu1,hI⟩:=HB.out
          obtain ⟨hkp,RX⟩:=HX.out
          have hus:usedAt W2.heap.size V5=s2.used:=by
            have:V5.cell? ⟨W2.heap.size,1,none⟩=some (.int .i64 s2.used):=zG RX.hr 1
            unfold usedAt
            rw [this]
          show (fuel - usedAt W2.heap.size V5).toNat < (fuel - st.used).toNat
          rw [hus]
          omega
      · have hne:(er == 0)=false:=by simpa using her
        refine HA.out.mono ?_
        rintro y V5 ⟨rfl,hkp,stk2,TA2,tc2,RX⟩
        have HX0:=Lib.hid (zM hkp RX)
        clear hkp RX
        go_wp2_with fail
        obtain ⟨hkp,RX⟩:=HX0.out
        have K1X:=hkp _ _ _ HB.out.1 (by decide) (by decide)
        have hρ:=HB.out.2.2.2.1.symm
        rw [if_neg her] at hρ
        clear hkp
        obtain ⟨c0,d0,c1,d1,c2,d2,c3,d3,c4,d4,c5,d5,c6,d6,c7,d7,hrs⟩:=eight RX.hl
        have n1:∀ W',Below V5.heap.size V5 W' → W'.cell? ⟨W2.heap.size,1,none⟩=some (.int .i64 s2.used):=fun W' hB => zG (zE RX.hr hB) 1
        have n3:∀ W',Below V5.heap.size V5 W' → W'.cell? ⟨W2.heap.size,19,none⟩=some (.slice TA2 t2.length tc2):=fun W' hB => (zG (zE RX.hr hB) 19).trans (runC_tail RX.hl).2.1
        have n2:∀ W',Below V5.heap.size V5 W' → (Instr.loadAt 34 (.pointer (some ⟨W2.heap.size,2,none⟩))).run Try.prog W'=.ok (.agg #[.int .i64 c0,.int .i64 d0,.int .i64 c1,.int .i64 d1,.int .i64 c2,.int .i64 d2,.int .i64 c3,.int .i64 d3,.int .i64 c4,.int .i64 d4,.int .i64 c5,.int .i64 d5,.int .i64 c6,.int .i64 d6,.int .i64 c7,.int .i64 d7]) W':=fun W' hB => by
          have:=ld_range (P:=Try.prog) (ty:=34) (range_of (W:=W') (g:=W2.heap.size) (pre:=[.int .i64 s2.pc,.int .i64 s2.used]) (cs:=rc s2.rs) (post:=[stk2,.slice TA2 t2.length tc2,.slice NA now.length nc]) (t:=108) (fr:=(0,0)) (by simpa [runC] using zE RX.hr hB)) hu34 rfl (by rw [size34,rc_length,RX.hl])
          rw [hrs] at this
          exact this
        have HX:=Lib.hid (zM RX (zM K1X (zM hρ hrs)))
        clear RX K1X hρ hrs
        apply GR.wp_region_grow (R:=RB) 16 (by kernel_rfl) (by kernel_rfl) (by kernel_rfl)
        · intro c a d v w h;cases d <;> exact h
        simp only [List.take_succ_cons,List.take_zero,List.drop_succ_cons,List.drop_zero]
        iterate 10
          apply GR.gw_val (by rfl)
          · (intro W' hB hD;have e1:=n1 W' hB;have e3:=n3 W' hB;go_simp;first | done | rfl)
          simp only [Act.put,zJ,zK,zL]
        apply GR.gw_val (by rfl)
        · (intro W' hB hD;exact exec_ld rfl (n2 W' hB))
        simp only [Act.put,zJ,zK,zL]
        iterate 5
          apply GR.gw_val (by rfl)
          · (intro W' hB hD;have e1:=n1 W' hB;have e3:=n3 W' hB;go_simp;first | done | rfl)
          simp only [Act.put,zJ,zK,zL]
        apply GR.gw_nil
        intro Va hW hF hP
        clear hF hP
        obtain ⟨RX,K1X,hρ,hrs⟩:=HX.out
        have RA:=RX.below hW
        have hlt:=HH.out.2.2.2.2.2.2.1
        obtain ⟨Vb,hSb,Kb,hOb⟩:=st_whole (P:=Try.prog) (ty:=59) (vs:=.int .i64 5 :: .int .i64 s2.used :: (rc [⟨c0,d0⟩,⟨c1,d1⟩,⟨c2,d2⟩,⟨c3,d3⟩,⟨c4,d4⟩,⟨c5,d5⟩,⟨c6,d6⟩,⟨c7,d7⟩] ++ [.slice TA2 t2.length tc2])) (zE K1X hW) rfl (by rw [size59];rfl) (by simp [rc,Value.oneCell'])
        have hBb:Below W.heap.size W Vb:=RA.hB.trans (hOb.below (by omega) RA.hB.size)
        have hCb:Kd.C k80 Vb TA2 t2.length t2:=C_only (fun w w' x cs hk => flatK80 hk) RA.ht hOb (fun ad ha => by have:=RA.hta ad ha;omega)
        have HE:=Lib.hid (zM Kb (zM hBb (zM hCb (zM RA.htc (zM RA.hl (zM (show ∀ ad,TA2=some ad → W.heap.size ≤ ad.block from fun ad ha => by have:=RA.hta ad ha;have:=RA.hrb;omega) (zM hρ hrs)))))))
        simp only [rc,List.cons_append,List.nil_append] at hSb
        clear RX K1X hρ hrs RA hlt Kb hOb hBb hCb hW HX n1 n2 n3
        go_wp2_with (refine wpList_st rfl rfl hSb ?_)
        refine bodyPost_ret (results_c1 rfl _ rfl HE.out.1 hu59 rfl (by rw [size59];rfl)) rfl ?_
        obtain ⟨Kb,hBb,hCb,htc,hl8,hTa,hρ,hrs⟩:=HE.out
        rw [hρ]
        refine ⟨TA2,tc2,?_,hl8,hCb,htc,hTa,hBb⟩
        dsimp only
        rw [hrs]
theorem run_calls2 (W:World) (A:Option Addr) (c:Nat) (l:List S74) (NA:Option Addr) (nc:Nat) (now:List S32) (fuel:Int) (rs:List S32)
    (hC:Kd.C k74 W A l.length l) (hlc:l.length ≤ c) (hnow:Kd.C k32 W NA now.length now) (hnc:now.length ≤ nc) (hlr:∀ o ∈ l,R64 o.f2∧R64 o.f4) (hnr:∀ v ∈ now,R64 v.f1) (hrr:RsOK rs) (hfu:fuel ≤ 1000000000) :
    Calls Try.prog 18 #[.slice A l.length c,.slice NA now.length nc,.agg (rc rs).toArray,.int .i64 fuel] W (Ran2 W (runP l now fuel (fuel.toNat + 1) ⟨0,0,rs,[]⟩ [])):=by
  obtain ⟨a0,b0,a1,b1,a2,b2,a3,b3,a4,b4,a5,b5,a6,b6,a7,b7,rfl⟩:=eight hrr.len
  exact run_core2 W A c l NA nc now fuel _ _ _ _ _ _ _ _ _ _ _ _ _ _ _ _ hC hlc hnow hnc hlr hnr hrr hfu
end Go.Proofs.Ytgnjkegnddekeaa.Q
