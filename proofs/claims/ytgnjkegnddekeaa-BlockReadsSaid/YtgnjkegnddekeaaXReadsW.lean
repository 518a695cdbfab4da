/- What a block reads is what there is; what no read was of does not matter: the walk, by hand. -/
import Derived.Test.YtgnjkegnddekeaaXReadsQ
import Derived.Test.YtgnjkegnddekeaaXHRun2
import Derived.Test.YtgnjkegnddekeaaXOursT
import Derived.Test.YtgnjkegnddekeaaXAliveM
import Derived.Test.YtgnjkegnddekeaaRows
import Derived.Deep.LoopGhost
import Derived.ProofKit
import Derived.OpenShut
import Derived.SizedLaws
import Derived.WideLaws
open List renaming setIfInBounds_toArray → zJ, set_cons_zero → zK, set_cons_succ → zL
open And renaming intro → zM
namespace Go.Proofs.Ytgnjkegnddekeaa.Q
open Go.RowKit Go.Lib Go.ChangeShapes Go.WideShapes Go.Maps Go.Proofs.Ytgnjkegnddekeaa Go.Proofs.YtgnjkegnddekeaaW.PrintWords Go.Proofs.YtgnjkegnddekeaaW.PrintLast Go.Proofs.YtgnjkegnddekeaaW.PrintMore
set_option linter.unusedVariables false
set_option linter.unusedSimpArgs false
attribute [local go_sem high] eqA32
theorem stable_Rr {α:Type} (d:Kd α) (e b0:Nat) (L:List α):GR.Stable RB (fun W v => Kd.R d e W b0 (fun _ => True) v L):=fun _ _ _ h hb => Kd.R_below h hb
/-- A row of the call's own, wherever another block alone was written that holds something else. -/
theorem R_offr {α:Type} {d:Kd α} {e base:Nat} {v:Value} {L:List α} {W W':World} {b:Nat} {cs:Array Value} {t:Nat} (h:Kd.R d e W base (fun _ => True) v L) (hb:W.heap[b]?=some (.cells cs t (0,0))) (ht:∀ q ∈ e :: d.E,q ≠ t) (hO:Only b W W'):Kd.R d e W' base (fun _ => True) v L :=
  Kd.R_mono (Kd.R_step (Kd.R_bound h) fun k hk hlt => by
    refine hO.block k hlt fun e1 => ?_
    obtain ⟨-,-,-,q,hq,cells,hc⟩:=hk
    rw [e1,hb] at hc
    injection hc with hc
    injection hc with _ hc
    exact ht q hq hc.symm) fun _ _ => trivial
theorem res_tail {e u:Int} {rs:List S32} {x:Value} (h:(rc rs).length=16):(Value.int .i64 e :: Value.int .i64 u :: (rc rs ++ [x])).toArray[18]?=some x:=by
  simp only [List.getElem?_toArray,List.getElem?_cons_succ]
  rw [List.getElem?_append_right (by omega),h]
  rfl
/-- A row that another block's store leaves: that block holds no bool. -/
theorem C_off80 {W W':World} {p:Nat} {cs:Array Value} {ty:TypeId} {fr:Nat × Nat} {A:Option Addr} {n:Nat} {t:List S80} (h:Kd.C k80 W A n t) (hp:W.heap[p]?=some (.cells cs ty fr)) (hcs:∀ (i:Nat) (b:Bool),cs[i]? ≠ some (.bool b)) (hO:Only p W W'):Kd.C k80 W' A n t:=by
  obtain ⟨h1,h2,h3⟩:=h
  refine ⟨h1,h2,fun hn => ?_⟩
  obtain ⟨ad,hAd,h4⟩:=h3 hn
  refine ⟨ad,hAd,fun j q hj => ?_⟩
  obtain ⟨c,c1,c2,c3⟩:=h4 j q hj
  have hb:∀ k,(ad.add k).block=ad.block:=fun k => by unfold Addr.add;split <;> simp
  have hne:ad.block ≠ p:=by
    intro e
    have h5:=c3 3 (.bool q.f2) (by rw [k80_open c2];rfl)
    unfold World.cell? at h5
    rw [hb,e,hp] at h5
    dsimp only at h5
    split at h5
    · cases h5
    · exact hcs _ _ h5
  refine ⟨c,c1,(by rw [k80_open c2];exact k80_mk _ _),fun i u hu => ?_⟩
  have h5:=c3 i u hu
  have hlt:=World.block_lt_of_cell? W _ h5
  have e:=hO.block _ hlt (by rw [hb];exact hne)
  unfold World.cell? at h5 ⊢
  rw [e]
  exact h5
theorem no_bool59 (i:Nat) (b:Bool):(#[.int .i64 0,.int .i64 0,.int .i64 0,.int .i64 0,.int .i64 0,.int .i64 0,.int .i64 0,.int .i64 0,.int .i64 0,.int .i64 0,.int .i64 0,.int .i64 0,.int .i64 0,.int .i64 0,.int .i64 0,.int .i64 0,.int .i64 0,.int .i64 0,.slice none 0 0]:Array Value)[i]? ≠ some (.bool b):=by
  intro h
  have hm:=Array.mem_of_getElem? h
  simp at hm
theorem same_calls2 (A:Option Addr) (c:Nat) (A2:Option Addr) (c2:Nat) (T:List S114) (w:World) (g1:Kd.C k114 w A T.length T) (q1:T.length ≤ c) (g2:Kd.C k114 w A2 T.length T) (q2:T.length ≤ c2) (hl:T.length ≤ 1000000) :
    Calls Try.prog 23 #[.slice A T.length c,.slice A2 T.length c2] w fun e w' => e=.returned (.bool true)∧Below w.heap.size w w' :=
  (warpbeamref08_Same.calls (T.length + 1) A c T A2 c2 T true w g1 q1 g2 q2 (same_f T hl _ (by omega))).mono fun e w' h => ⟨h.1,h.2.below⟩
theorem R32_block {W:World} {base n c:Nat} {A:Option Addr} {xs:List S32} (h:Kd.R k32 32 W base (fun _ => True) (.slice A n c) xs) (hn:xs ≠ []):∃ g,A=some ⟨g,0,none⟩∧base ≤ g∧g < W.heap.size:=by
  obtain ⟨h0,inner,ho,hr⟩:=h
  rcases ho.2 with ⟨e,h2⟩ | ⟨g,cap,cur,e,hg,hh,r⟩
  · exact absurd (List.eq_nil_of_length_eq_zero h2) hn
  · injection e with e1 e2 e3
    exact ⟨g,e1,hg,blk_lt hh⟩
/-- How a run ends, as a value. -/
def TRun (lo:Nat) (r:ResD) (W:World) (v:Value):Prop:=∃ TA tc,v=.agg (.int .i64 r.e :: .int .i64 r.used :: (rc r.rs ++ [.slice TA r.t.length tc])).toArray∧r.rs.length=8∧Kd.C k80 W TA r.t.length r.t∧r.t.length ≤ tc∧∀ ad,TA=some ad → lo ≤ ad.block
theorem stable_TRun (lo:Nat) (r:ResD):GR.Stable RB (TRun lo r):=by
  rintro W W' v ⟨A,c,rfl,h1,h2,h3,h4⟩ hR
  exact ⟨A,c,rfl,h1,Kd.C_below h2 hR,h3,h4⟩
theorem TRun_at {lo:Nat} {r:ResD} {W:World} {TA:Option Addr} {tc:Nat} (h:TRun lo r W (.agg (.int .i64 r.e :: .int .i64 r.used :: (rc r.rs ++ [.slice TA r.t.length tc])).toArray)):Kd.C k80 W TA r.t.length r.t∧r.t.length ≤ tc∧∀ ad,TA=some ad → lo ≤ ad.block:=by
  obtain ⟨A,c,e,h8,h1,h2,h3⟩:=h
  injection e with e
  have l18:(rc r.rs).length=16:=by rw [rc_length,h8]
  have x1:=res_tail (e:=r.e) (u:=r.used) (rs:=r.rs) (x:=.slice TA r.t.length tc) l18
  have x2:=res_tail (e:=r.e) (u:=r.used) (rs:=r.rs) (x:=.slice A r.t.length c) l18
  rw [e,x2] at x1
  injection x1 with x1
  injection x1 with x1 _ x3
  subst x1;subst x3
  exact ⟨h1,h2,h3⟩
set_option maxRecDepth 100000 in
set_option maxHeartbeats 4000000 in
theorem reads_core (l:List S97) (A:Option Addr) (c:Nat) (NA:Option Addr) (nc:Nat) (now:List S24) (rs:List S32) (fuel x0 x1:Int) (W:World) (hC:Kd.C k97 W A l.length l) (hlc:l.length ≤ c) (hN:Kd.C k24 W NA now.length now) (hnc:now.length ≤ nc)
    (hgo:∀ x ∈ l,goodOp x) (hgv:∀ v ∈ now,goodVal v) (h8:rs.length=8) (hrr:∀ v ∈ rs,R64 v.f1) (hfu:R64 fuel) (hx1:R64 x1) :
    Calls Try.prog 7 #[.slice A l.length c,.agg (worC (.slice NA now.length nc) rs fuel),.agg #[.int .i64 x0,.int .i64 x1]] W fun e w' => e=.returned (.bool true)∧Below W.heap.size W w':=by
  have hu54:=Try.underlying54
  have hu24:=Try.underlying24
  have hu26:=Try.underlying26
  have hu34:=Try.underlying34
  have hu59:=Try.underlying59
  have hu32:=Try.underlying32
  have hu80:=Try.underlying80
  have hu77:=Try.underlying77
  have hk3:=int_keyed Try.underlying3
  have size54:(Try.prog.info? 54).map (·.size)=some 18:=by kernel_rfl
  have size26:(Try.prog.info? 26).map (·.size)=some 16:=by kernel_rfl
  have size34':(Try.prog.info? 34).map (·.size)=some 16:=by kernel_rfl
  have hwl:(worC (.slice NA now.length nc) rs fuel).size=18:=by have:=rc_length rs;simp [worC,this,h8]
  obtain ⟨V1,hV1,KV1,hBV1⟩:=alz W (worC (.slice NA now.length nc) rs fuel) 54
  obtain ⟨V2,hV2,KV2,hBV2⟩:=alz V1 #[.int .i64 x0,.int .i64 x1] 24
  have lV1:=blk_lt KV1
  have HA:=Lib.hid (alive_calls V2)
  have HH:=Lib.hid (zM hC (zM hN (zM (bAfter hBV1 hBV2) (zM (zE KV1 hBV2) (zM KV2 lV1)))))
  have HP0:=Lib.hid (zM hgo (zM hgv (zM hrr hfu)))
  clear hC hN hBV1 KV1 hBV2 KV2 hgo hgv hrr hfu lV1
  go_enter Try.func7,Try.ntmps7
  go_wp2_with fail
  refine HA.out.mono ?_
  rintro e w2 ⟨rfl,hB2⟩
  have hL:=ld_whole (P:=Try.prog) (ty:=54) (zE HH.out.2.2.2.1 hB2) hu54 rfl (by rw [size54,hwl])
  have HB:=Lib.hid hB2
  have hv:=heavy_calls w2 A NA l.length c now.length nc rs fuel h8
  generalize hhv:heavyP l.length now.length fuel=hvy at hv
  have HV:=Lib.hid hv
  have HHV:=Lib.hid hhv
  clear hv hB2 HA hhv
  go_wp2_with (refine wpList_ld rfl rfl hL ?_)
  refine HV.out.mono ?_
  rintro e w3 ⟨rfl,hB3⟩
  have hW3:=bAfter HB.out hB3
  have k0:w3.cell? ⟨V1.heap.size,0,none⟩=some (.int .i64 x0):=zG (zE HH.out.2.2.2.2.1 hW3) 0
  have k1:w3.cell? ⟨V1.heap.size,1,none⟩=some (.int .i64 x1):=zG (zE HH.out.2.2.2.2.1 hW3) 1
  have HW3:=Lib.hid hW3
  clear hB3 hW3 hL HB HV
  cases hvy with
  | true =>
    have HE:=Lib.hid (bAfter HH.out.2.2.1 HW3.out)
    go_wp2_with fail
    go_ret
    exact ⟨rfl,HE.out⟩
  | false =>
  have HR0:=Lib.hid (warpbeamref06_Right.calls x0 x1 (valR x0 x1) w3 (right_val x0 x1))
  go_wp2_with fail
  refine HR0.out.mono ?_
  rintro e w4 ⟨rfl,hB4⟩
  have HB4:=Lib.hid (bAfter HW3.out hB4)
  clear hB4 HR0 k0 k1
  cases hro:valR x0 x1 with
  | false =>
    have HE:=Lib.hid (bAfter HH.out.2.2.1 HB4.out)
    have HRO:=Lib.hid hro
    clear hro
    go_wp2_with fail
    go_ret
    exact ⟨rfl,HE.out⟩
  | true =>
  have HRO:=Lib.hid hro
  clear hro
  have n0:w4.cell? ⟨W.heap.size,0,none⟩=some (.slice NA now.length nc):=zG (zE HH.out.2.2.2.1 HB4.out) 0
  go_wp2_with fail
  clear n0
  go_loopg [29] now.length (fun kq v29 Wr => ∃ i:Nat,v29=.int .i64 i∧Hid (kq + i=now.length)∧Hid (Below w4.heap.size w4 Wr∧∀ j,j < i → valR (rd_T24 now j).f0 (rd_T24 now j).f1=true))
  case atStart => exact ⟨0,rfl,by simp [Hid],Lib.hid ⟨Below.refl _ _,fun j hj => absurd hj (by omega)⟩⟩
  case round =>
    obtain ⟨i,rfl,hk,hJ⟩:=hrel
    have hnb:now.length ≤ 100∧l.length ≤ 220∧fuel ≤ 3000:=by
      have:=HHV.out
      unfold heavyP at this
      simp only [Bool.or_eq_false_iff,decide_eq_false_iff_not] at this
      omega
    have HNB:=Lib.hid hnb
    clear hnb
    by_cases hi:i < now.length
    · have hi2:(i:Int) < now.length:=by omega
      have hi0:(0:Int) ≤ i:=by omega
      obtain ⟨ad,hNA,a0,a1⟩:=at_T24 (Kd.C_below HH.out.2.1 (bAfter HH.out.2.2.1 (bAfter HB4.out hJ.out.1))) (i:Int) hi0 hi2
      have HX:=Lib.hid (show ∀ b,valR (rd_T24 now i).f0 (rd_T24 now i).f1=b → valR (rd_T24 now i).f0 (rd_T24 now i).f1=b from fun _ h => h)
      have HQ:=Lib.hid (show ∀ v,rd_T24 now i=v → valR v.f0 v.f1=true → ∀ j,j < i + 1 → valR (rd_T24 now j).f0 (rd_T24 now j).f1=true from fun v hv h j hj => by
        by_cases e:j=i
        · rw [e,hv];exact h
        · exact hJ.out.2 j (by omega))
      obtain ⟨v,hv⟩:∃ v,rd_T24 now i=v:=⟨_,rfl⟩
      rw [hv] at a0 a1
      replace HQ:=Lib.hid (HQ.out v hv)
      clear HX hv
      simp only [Int.toNat_natCast] at a0 a1
      subst hNA
      obtain ⟨W5,hW5,K5,hB5⟩:=alz wr #[.int .i64 v.f0,.int .i64 v.f1] 24
      have d0:W5.cell? ⟨wr.heap.size,0,none⟩=some (.int .i64 v.f0):=zG K5 0
      have d1:W5.cell? ⟨wr.heap.size,1,none⟩=some (.int .i64 v.f1):=zG K5 1
      have HB5:=Lib.hid (bAfter hJ.out.1 hB5)
      have HR:=Lib.hid (warpbeamref06_Right.calls v.f0 v.f1 (valR v.f0 v.f1) W5 (right_val v.f0 v.f1))
      clear K5 hB5 hJ
      go_wp2_with fail
      refine HR.out.mono ?_
      rintro e w6 ⟨rfl,hB6⟩
      have HB6:=Lib.hid (bAfter HB5.out hB6)
      clear hB6 HR d0 d1 a0 a1 hW5
      cases hrv:valR v.f0 v.f1 with
      | false =>
        have HE:=Lib.hid (bAfter HH.out.2.2.1 (bAfter HB4.out HB6.out))
        clear hrv
        go_wp2_with fail
        go_ret
        exact ⟨rfl,HE.out⟩
      | true =>
        have HRV:=Lib.hid hrv
        clear hrv
        go_wp2_with fail
        obtain ⟨kk,rfl⟩:∃ m,gk=m + 1:=⟨gk - 1,by have:=hk.out;omega⟩
        go_roundg kk
        case measure => omega
        case rel => exact ⟨i + 1,by first | rfl | rw [wrap_next (by have:=HNB.out;omega)],Lib.hid (by have:=hk.out;omega),Lib.hid ⟨HB6.out,HQ.out HRV.out⟩⟩
    have hi2:¬ (i:Int) < now.length:=by omega
    obtain rfl:i=now.length:=by have:=hk.out;omega
    obtain ⟨wn,rfl⟩:∃ wn:World,wn=wr:=⟨_,rfl⟩
    obtain ⟨gn,rfl⟩:∃ q:Nat,q=gk:=⟨_,rfl⟩
    obtain ⟨hBn,hright⟩:=hJ.out
    have hBn':=bAfter HB4.out hBn
    have n0:wn.cell? ⟨W.heap.size,0,none⟩=some (.slice NA now.length nc):=zG (zE HH.out.2.2.2.1 hBn') 0
    obtain ⟨L,hLd⟩:∃ L,l.map conv74=L:=⟨_,rfl⟩
    obtain ⟨N,hNd⟩:∃ N,now.map conv32=N:=⟨_,rfl⟩
    have hTH:warpbeamlaw16_Theirs.f l=some L:=by unfold warpbeamlaw16_Theirs.f;rw [if_pos (by have:=HNB.out;omega),hLd]
    have hTN:warpbeamlaw10_Theirs.f now=some N:=by unfold warpbeamlaw10_Theirs.f;rw [if_pos (by have:=HNB.out;omega),hNd]
    have hlL:∀ o ∈ L,R64 o.f2∧R64 o.f4:=by
      intro o ho
      rw [← hLd] at ho
      obtain ⟨x,hx,rfl⟩:=List.mem_map.1 ho
      exact ⟨(HP0.out.1 x hx).2.2.1,(HP0.out.1 x hx).2.2.2.2⟩
    have hnN:∀ v ∈ N,R64 v.f1:=by
      intro v hv
      rw [← hNd] at hv
      obtain ⟨x,hx,rfl⟩:=List.mem_map.1 hv
      exact (HP0.out.2.1 x hx).2
    have hvN:∀ x:Int,valR (rd_T32 N x).f0 (rd_T32 N x).f1=true:=by
      intro x
      have e:rd_T32 N x=conv32 (rd_T24 now x):=by
        rw [← hNd]
        unfold rd_T32 rd_T24
        rw [List.getD_eq_getElem?_getD,List.getD_eq_getElem?_getD,List.getElem?_map]
        cases now[x.toNat]? <;> rfl
      rw [e]
      by_cases hx:x.toNat < now.length
      · have:=hright x.toNat hx
        have e2:rd_T24 now (x.toNat:Int)=rd_T24 now x:=by unfold rd_T24;rw [Int.toNat_natCast]
        rw [e2] at this
        exact this
      · have e2:rd_T24 now x=z24:=by unfold rd_T24;rw [List.getD_eq_getElem?_getD,List.getElem?_eq_none (by omega)];rfl
        rw [e2]
        rfl
    have hNl:N.length=now.length:=by rw [← hNd,List.length_map]
    obtain ⟨r,hr⟩:∃ r,runP L N fuel (fuel.toNat + 1) ⟨0,0,rs,[]⟩ []=r:=⟨_,rfl⟩
    have hI0:=inv_first h8 HP0.out.2.2.1
    have hfb:fuel ≤ 1000000000:=by have:=HNB.out;omega
    have hT1:=run_tl L N fuel hlL hnN hfb (fuel.toNat + 1) ⟨0,0,rs,[]⟩ [] hI0
    have hRd:=run_reads L N fuel hlL hnN hfb (fuel.toNat + 1) ⟨0,0,rs,[]⟩ [] hI0 (fun s hs => by cases hs)
    have hSm:∀ N2:List S32,N2.length=N.length → (∀ x:Int,valR (rd_T32 N2 x).f0 (rd_T32 N2 x).f1=true) → (∀ s ∈ r.t,s.f2=false → rd_T32 N2 s.f0=rd_T32 N s.f0) → runP L N2 fuel (fuel.toNat + 1) ⟨0,0,rs,[]⟩ []=r:=fun N2 h1 h2 h3 => by
      rw [← hr]
      exact run_same L N N2 fuel h1 hvN h2 (fuel.toNat + 1) _ _ (by rw [hr];exact h3)
    rw [hr] at hT1 hRd
    have HP:=Lib.hid (zM hlL (zM hnN (zM hTH (zM hTN (zM hr (zM hT1 (zM hRd (zM hvN (zM hNl hfb)))))))))
    have HSM:=Lib.hid hSm
    have HBN:=Lib.hid hBn'
    clear hLd hNd hTH hTN hlL hnN hvN hr hI0 hT1 hRd hSm hBn hBn' hright hJ hk hNl hfb
    have HTN:=Lib.hid (warpbeamlaw10_Theirs.calls NA nc now N wn (Kd.C_below HH.out.2.1 (bAfter HH.out.2.2.1 HBN.out)) hnc HP.out.2.2.2.1)
    go_wp2_with fail
    refine HTN.out.mono ?_
    rintro e wb ⟨v,rfl,hR,hBb⟩
    obtain ⟨B,d,rfl⟩:=Kd.R_slice hR
    clear HTN n0
    have HRW:=Lib.hid hR
    have hgl:0 < N.length → ∀ ad,B=some ad → ad.block < wb.heap.size:=fun hn => C_block_lt (Kd.R_reads' hR).2.2 hn
    have HGL:=Lib.hid hgl
    have HBb:=Lib.hid hBb
    clear hR hgl
    clear hBb
    have hW3:=bAfter HBN.out HBb.out
    have n4:∀ W',Below wb.heap.size wb W' → W'.cell? ⟨W.heap.size,17,none⟩=some (.int .i64 fuel):=fun W' hB => (zG (zE HH.out.2.2.2.1 (bAfter hW3 hB)) 17).trans (worC_fuel h8)
    have n1:∀ W',Below wb.heap.size wb W' → (Instr.loadAt 26 (.pointer (some ⟨W.heap.size,1,none⟩))).run Try.prog W'=.ok (.agg (rc rs).toArray) W':=fun W' hB =>
      ld_range (P:=Try.prog) (ty:=26) (range_of (W:=W') (g:=W.heap.size) (pre:=[.slice NA now.length nc]) (cs:=rc rs) (post:=[.int .i64 fuel]) (t:=54) (fr:=(0,0)) (by simpa [worC] using zE HH.out.2.2.2.1 (bAfter hW3 hB))) hu26 rfl (by rw [size26,rc_length,h8])
    have n2:∀ W',Below wb.heap.size wb W' → Kd.C k97 W' A l.length l:=fun W' hB => Kd.C_below HH.out.1 (bAfter HH.out.2.2.1 (bAfter hW3 hB))
    have NC2:=Lib.hid n2
    have HW3:=Lib.hid hW3
    clear hW3 n2
    go_wp2_with fail
    apply GR.wp_region_grow (R:=RB) 10 (by kernel_rfl) (by kernel_rfl) (by kernel_rfl)
    · intro c a d v w h;cases d <;> exact h
    simp only [List.take_succ_cons,List.take_zero,List.drop_succ_cons,List.drop_zero]
    apply GR.gw_val (by rfl)
    · (intro W' hB hD;go_simp;first | done | rfl)
    simp only [Act.put,zJ,zK,zL]
    apply GR.gw_callR (stable_Rr k74 74 wb.heap.size L) (by rfl)
    · (intro W' hB hD;go_simp;first | done | rfl | exact ⟨rfl,rfl⟩)
    · (intro W' hB hD; exact (warpbeamlaw16_Theirs.calls A c l L W' (NC2.out W' hB) hlc HP.out.2.2.1).mono fun e w' hh => by
        obtain ⟨v,he,hv,hb⟩:=hh
        exact ⟨v,he,hb,Kd.R_lower hv hB.size⟩)
    rintro v ⟨Wv,hv⟩
    obtain ⟨B0,d0,rfl⟩:=Kd.R_slice hv
    clear hv Wv
    simp only [Act.put,zJ,zK,zL]
    apply GR.gw_val (by rfl)
    · (intro W' hB hD;have e4:=n4 W' hB;go_simp;first | done | rfl)
    simp only [Act.put,zJ,zK,zL]
    apply GR.gw_val (by rfl)
    · (intro W' hB hD;have e4:=n4 W' hB;go_simp;first | done | rfl)
    simp only [Act.put,zJ,zK,zL]
    apply GR.gw_val (by rfl)
    · (intro W' hB hD;exact exec_ld rfl (n1 W' hB))
    simp only [Act.put,zJ,zK,zL]
    apply GR.gw_call (c:=.agg (rc rs).toArray) (by rfl)
    · (intro W' hB hD;go_simp;first | done | rfl | exact ⟨rfl,rfl⟩)
    · (intro W' hB hD;exact regs_calls W' rs h8)
    simp only [Act.put,zJ,zK,zL]
    apply GR.gw_val (by rfl)
    · (intro W' hB hD;have e4:=n4 W' hB;go_simp;first | done | rfl)
    simp only [Act.put,zJ,zK,zL]
    apply GR.gw_val (by rfl)
    · (intro W' hB hD;have e4:=n4 W' hB;go_simp;first | done | rfl)
    simp only [Act.put,zJ,zK,zL]
    apply GR.gw_callR (stable_TRun wb.heap.size r) (by rfl)
    · (intro W' hB hD;go_simp;first | done | rfl | exact ⟨rfl,rfl⟩)
    · intro W' hB hD
      simp [GR.depFacts,Region.binds] at hD
      have hD1:Kd.R k74 74 W' wb.heap.size (fun _ => True) (.slice B0 L.length d0) L:=by first | exact hD | exact hD.1
      have hRow:=Kd.C_below (Kd.R_reads' HRW.out).2.2 hB;have hRowc:=(Kd.R_reads' HRW.out).2.1
      have hRc:=run_calls2 W' B0 d0 L B d N fuel rs (Kd.R_reads' hD1).2.2 (Kd.R_reads' hD1).2.1 hRow hRowc HP.out.1 HP.out.2.1 ⟨h8,HP0.out.2.2.1⟩ HP.out.2.2.2.2.2.2.2.2.2
      rw [HP.out.2.2.2.2.1] at hRc
      exact hRc.mono fun e w' hh => by
        obtain ⟨TA,tc,he,h1,h2,h3,h5,h4⟩:=hh
        exact ⟨_,he,h4,TA,tc,rfl,h1,h2,h3,fun ad ha => Nat.le_trans hB.size (h5 ad ha)⟩
    rintro v ⟨Wv,TA,Tc,rfl,hl8T,hv⟩
    clear hv Wv
    simp only [Act.put,zJ,zK,zL]
    apply GR.gw_rel (stable_TZ wb.heap.size (.cells #[.int .i64 0,.int .i64 0,.int .i64 0,.int .i64 0,.int .i64 0,.int .i64 0,.int .i64 0,.int .i64 0,.int .i64 0,.int .i64 0,.int .i64 0,.int .i64 0,.int .i64 0,.int .i64 0,.int .i64 0,.int .i64 0,.int .i64 0,.int .i64 0,.slice none 0 0] 59)) (by rfl)
    · intro W' hB hD
      refine ⟨_,_,?_,bOne (.cells #[.int .i64 0,.int .i64 0,.int .i64 0,.int .i64 0,.int .i64 0,.int .i64 0,.int .i64 0,.int .i64 0,.int .i64 0,.int .i64 0,.int .i64 0,.int .i64 0,.int .i64 0,.int .i64 0,.int .i64 0,.int .i64 0,.int .i64 0,.int .i64 0,.slice none 0 0] 59),W'.heap.size,rfl,hB.size,heap_alloc_new _ _⟩
      go_simp
      first | done | rfl
    rintro v ⟨-,pT,rfl,-,-⟩
    simp only [Act.put,zJ,zK,zL]
    apply GR.gw_nil
    intro VaT hVa hF hP
    have hT:=TRun_at (hF (fun W => TRun wb.heap.size r W (.agg (.int .i64 r.e :: .int .i64 r.used :: (rc r.rs ++ [.slice TA r.t.length Tc])).toArray)) (by simp))
    have hx:=hF (fun W => TZ wb.heap.size (.cells #[.int .i64 0,.int .i64 0,.int .i64 0,.int .i64 0,.int .i64 0,.int .i64 0,.int .i64 0,.int .i64 0,.int .i64 0,.int .i64 0,.int .i64 0,.int .i64 0,.int .i64 0,.int .i64 0,.int .i64 0,.int .i64 0,.int .i64 0,.int .i64 0,.slice none 0 0] 59) W (ptr pT)) (by simp)
    rw [TZ_ptr] at hx
    clear hF hP
    obtain ⟨hp1,f3⟩:=hx
    obtain ⟨VbT,hSbT,Kb,hOb⟩:=st_whole (P:=Try.prog) (ty:=59) (vs:=.int .i64 r.e :: .int .i64 r.used :: (rc r.rs ++ [.slice TA r.t.length Tc])) f3 (by have:=rc_length r.rs;simp [this,hl8T]) (by have:=rc_length r.rs;rw [size59];simp [this,hl8T]) (by
      intro v hv
      simp only [List.mem_cons,List.mem_append,List.not_mem_nil,or_false] at hv
      rcases hv with rfl | rfl | hv | rfl
      · rfl
      · rfl
      · exact rc_one _ v hv
      · rfl)
    have hT9:=C_off80 hT.1 f3 no_bool59 hOb
    have hVb:Below wb.heap.size wb VbT:=Below.trans hVa (hOb.below hp1 (Below.size hVa))
    have hRb:=R_offr (Kd.R_below HRW.out hVa) f3 (by decide) hOb
    have hmm:=@run_makeMap Try.prog
    obtain ⟨Wm,hWm,hD0,hBm⟩:∃ Wm,VbT.alloc (.map #[] 0)=Wm∧ownC Wm VbT.heap.size 0 (.map [])∧Below VbT.heap.size VbT Wm:=⟨_,rfl,World.ownsMap_made VbT Try.prog 3 (plainElem Try.prog 3),bOne _⟩
    have c18:Wm.cell? ⟨pT,18,none⟩=some (.slice TA r.t.length Tc):=(zG (zE Kb hBm) 18).trans (res_tail (by rw [rc_length,hl8T]))
    have HG:=Lib.hid (zM hT9 (zM hT.2.1 (zM hT.2.2 (zM Kb (zM hVb (zM hp1 hRb))))))
    have HD0:=Lib.hid (zM hD0 (zM hBm hD0.lt))
    clear hT hT9 f3 Kb hVa hOb n1 n4 NC2 hVb hp1 hRb hD0 hBm
    go_wp2_with (refine wpList_st rfl rfl hSbT ?_)
    clear hmm
    refine (reads_calls TA Tc r.t Wm (Kd.C_below HG.out.1 HD0.out.2.1) (by have:=HP.out.2.2.2.2.2.1;omega)).mono ?_
    rintro e we ⟨RA,rcap,rfl,hRl,hrc,hBe⟩
    clear c18 hWm
    obtain ⟨rl,hrl⟩:∃ rl,readsL r.t=rl:=⟨_,rfl⟩
    rw [hrl] at hRl hrc ⊢
    have hrlf:∀ s ∈ rl,0 ≤ s.f0∧s.f0 < N.length∧s.f0 < 64∧s.f1=rd_T32 N s.f0:=fun s hs => by
      rw [← hrl] at hs
      obtain ⟨h1,h2⟩:=reads_mem hs
      exact HP.out.2.2.2.2.2.2.1 s h1 h2
    have hrl64:rl.length ≤ 64:=by rw [← hrl];exact reads_len _
    have hall:∀ s ∈ r.t,s.f2=false → s.f0 ∈ rl.map (·.f0):=fun s hs h2 => by
      obtain ⟨q1,q2,q3,q4⟩:=HP.out.2.2.2.2.2.2.1 s hs h2
      rw [← hrl]
      exact reads_of hs h2 q1 q3
    have hDe:ownC we VbT.heap.size 0 (.map []):=map_move HD0.out.1 (hBe.block _ HD0.out.2.2)
    have HL:=Lib.hid (zM hrlf (zM hrl64 (zM hall hrc)))
    have H0:=Lib.hid (zM hDe (zM (bAfter HD0.out.2.1 hBe) hRl))
    have hr64:(rl.length:Int) ≤ 64:=by omega
    clear hrlf hrl64 hall hrl hDe hRl hrc hBe HD0
    go_wp2_with fail
    go_loopg [54] rl.length (fun kq v54 Wr => ∃ i:Nat,v54=.int .i64 i∧Hid (kq + i=rl.length)∧Hid ((∃ D,ownC Wr VbT.heap.size i D∧Cnt D ((rl.take i).map (·.f0)))∧Below VbT.heap.size VbT Wr∧Kd.C k80 Wr RA rl.length rl))
    case atStart => exact ⟨0,rfl,by simp [Hid],Lib.hid ⟨⟨_,H0.out.1,Cnt.nil⟩,H0.out.2⟩⟩
    case round =>
      obtain ⟨i,rfl,hk,hJ⟩:=hrel
      by_cases hi:i < rl.length
      · have hi2:(i:Int) < rl.length:=by omega
        have hi0:(0:Int) ≤ i:=by omega
        obtain ⟨⟨D,hD,hCnt⟩,hBr,hCr⟩:=hJ.out
        obtain ⟨ad,hRA,a0,a1,a2,a3⟩:=at_T80 hCr (i:Int) hi0 hi2
        have hx:rl[i]?=some (rd_T80 rl i):=by unfold rd_T80;simp [List.getD_eq_getElem?_getD,hi]
        have hsf:=HL.out.1 _ (List.mem_of_getElem? hx)
        have HT:=Lib.hid hx
        clear hx
        generalize rd_T80 rl (i:Int)=s at *
        obtain ⟨s0,s1,s2⟩:=s
        dsimp only at hsf a0 a1 a2 a3
        obtain ⟨q0,q1,q2,q3⟩:=hsf
        subst q3
        simp only [Int.toNat_natCast] at a0 a1 a2 a3
        subst hRA
        obtain ⟨W5,hW5,K5,hB5⟩:=alz wr #[.int .i64 s0,.int .i64 (rd_T32 N s0).f0,.int .i64 (rd_T32 N s0).f1,.bool s2] 80
        have hD5:ownC W5 VbT.heap.size i D:=map_move hD (hB5.block _ hD.lt)
        have hC5:=Kd.C_below hCr hB5
        have hBr5:=bAfter hBr hB5
        obtain ⟨adN,hBN,e0,e1⟩:=at_T32 (Kd.R_reads' (Kd.R_below HG.out.2.2.2.2.2.2 hBr5)).2.2 s0 q0 (by omega)
        subst hBN
        generalize rd_T32 N s0=u at *
        obtain ⟨u0,u1⟩:=u
        dsimp only at a1 a2 e0 e1 hW5 K5
        have y0:∀ W',Below W5.heap.size W5 W' → W'.cell? ⟨wr.heap.size,0,none⟩=some (.int .i64 s0):=fun W' hB => zG (zE K5 hB) 0
        have y1:∀ W',Below W5.heap.size W5 W' → W'.cell? ⟨wr.heap.size,1,none⟩=some (.int .i64 u0):=fun W' hB => zG (zE K5 hB) 1
        have y2:∀ W',Below W5.heap.size W5 W' → W'.cell? ⟨wr.heap.size,2,none⟩=some (.int .i64 u1):=fun W' hB => zG (zE K5 hB) 2
        have y3:∀ W',Below W5.heap.size W5 W' → W'.cell? (adN.add (s0.toNat * 2))=some (.int .i64 u0):=fun W' hB => (hB.cell (World.block_lt_of_cell? _ _ e0)).trans e0
        have y4:∀ W',Below W5.heap.size W5 W' → W'.cell? ⟨(adN.add (s0.toNat * 2)).block,(adN.add (s0.toNat * 2)).off + 1,none⟩=some (.int .i64 u1):=fun W' hB => (hB.cell (World.block_lt_of_cell? _ _ e1)).trans e1
        have b0:W5.cell? ⟨wr.heap.size,0,none⟩=some (.int .i64 s0):=y0 _ (Below.refl _ _)
        have q1':¬ (s0 ≥ (N.length:Int)):=by omega
        have HD:=Lib.hid (zM hD5 (zM hCnt (zM hBr5 hC5)))
        clear hD hCnt hBr hCr hD5 hC5 hBr5 hJ e0 e1 K5 hB5
        go_wp2_with fail
        apply GR.wp_region_grows (R:=RB) (by kernel_rfl) (by kernel_rfl)
        · intro c a d v w h;cases d <;> exact h
        apply GR.gw_val (by rfl)
        · (intro W' hB hD;have z0:=y0 W' hB;have z1:=y1 W' hB;have z2:=y2 W' hB;have z3:=y3 W' hB;have z4:=y4 W' hB;go_simp;first | done | rfl)
        simp only [Act.put,zJ,zK,zL]
        apply GR.gw_val (by rfl)
        · (intro W' hB hD;have z0:=y0 W' hB;have z1:=y1 W' hB;have z2:=y2 W' hB;have z3:=y3 W' hB;have z4:=y4 W' hB;go_simp;first | done | rfl)
        simp only [Act.put,zJ,zK,zL]
        apply GR.gw_val (by rfl)
        · (intro W' hB hD;have z0:=y0 W' hB;have z1:=y1 W' hB;have z2:=y2 W' hB;have z3:=y3 W' hB;have z4:=y4 W' hB;go_simp;first | done | rfl)
        simp only [Act.put,zJ,zK,zL]
        apply GR.gw_val (by rfl)
        · (intro W' hB hD;have z0:=y0 W' hB;have z1:=y1 W' hB;have z2:=y2 W' hB;have z3:=y3 W' hB;have z4:=y4 W' hB;go_simp;first | done | rfl)
        simp only [Act.put,zJ,zK,zL]
        apply GR.gw_val (c:=.bool false) (by rfl)
        · (intro W' hB hD;have z0:=y0 W' hB;have z1:=y1 W' hB;have z2:=y2 W' hB;have z3:=y3 W' hB;have z4:=y4 W' hB;go_simp;first | done | rfl)
        simp only [Act.put,zJ,zK,zL]
        apply GR.gw_val (c:=.bool false) (by rfl)
        · (intro W' hB hD;have z0:=y0 W' hB;have z1:=y1 W' hB;have z2:=y2 W' hB;have z3:=y3 W' hB;have z4:=y4 W' hB;go_simp;first | done | rfl)
        simp only [Act.put,zJ,zK,zL]
        apply GR.gw_val (by rfl)
        · (intro W' hB hD;have z0:=y0 W' hB;have z1:=y1 W' hB;have z2:=y2 W' hB;have z3:=y3 W' hB;have z4:=y4 W' hB;go_simp;first | done | rfl)
        simp only [Act.put,zJ,zK,zL]
        apply GR.gw_val (by rfl)
        · (intro W' hB hD;have z0:=y0 W' hB;have z1:=y1 W' hB;have z2:=y2 W' hB;have z3:=y3 W' hB;have z4:=y4 W' hB;go_simp;first | done | rfl)
        simp only [Act.put,zJ,zK,zL]
        apply GR.gw_val (by rfl)
        · (intro W' hB hD;have z0:=y0 W' hB;have z1:=y1 W' hB;have z2:=y2 W' hB;have z3:=y3 W' hB;have z4:=y4 W' hB;go_simp;first | done | rfl)
        simp only [Act.put,zJ,zK,zL]
        apply GR.gw_val (by rfl)
        · (intro W' hB hD;have z0:=y0 W' hB;have z1:=y1 W' hB;have z2:=y2 W' hB;have z3:=y3 W' hB;have z4:=y4 W' hB;go_simp;first | done | rfl)
        simp only [Act.put,zJ,zK,zL]
        apply GR.gw_val (c:=.agg #[.int .i64 u0,.int .i64 u1]) (by rfl)
        · (intro W' hB hD;have z0:=y0 W' hB;have z1:=y1 W' hB;have z2:=y2 W' hB;have z3:=y3 W' hB;have z4:=y4 W' hB;go_simp;first | done | rfl)
        simp only [Act.put,zJ,zK,zL]
        apply GR.gw_val (by rfl)
        · (intro W' hB hD;have z0:=y0 W' hB;have z1:=y1 W' hB;have z2:=y2 W' hB;have z3:=y3 W' hB;have z4:=y4 W' hB;go_simp;first | done | rfl)
        simp only [Act.put,zJ,zK,zL]
        apply GR.gw_val (c:=.agg #[.int .i64 u0,.int .i64 u1]) (by rfl)
        · (intro W' hB hD;have z0:=y0 W' hB;have z1:=y1 W' hB;have z2:=y2 W' hB;have z3:=y3 W' hB;have z4:=y4 W' hB;go_simp;first | done | rfl)
        simp only [Act.put,zJ,zK,zL]
        apply GR.gw_val (c:=.bool false) (by rfl)
        · (intro W' hB hD;have z0:=y0 W' hB;have z1:=y1 W' hB;have z2:=y2 W' hB;have z3:=y3 W' hB;have z4:=y4 W' hB;go_simp;first | done | rfl)
        simp only [Act.put,zJ,zK,zL]
        apply GR.gw_val (c:=.bool false) (by rfl)
        · (intro W' hB hD;have z0:=y0 W' hB;have z1:=y1 W' hB;have z2:=y2 W' hB;have z3:=y3 W' hB;have z4:=y4 W' hB;go_simp;first | done | rfl)
        simp only [Act.put,zJ,zK,zL]
        apply GR.gw_nil
        intro Wd hBd hF hP
        clear hF hP y1 y2 y3 y4
        obtain ⟨hD5,hCnt,hBr5,hC5⟩:=HD.out
        have hDd:ownC Wd VbT.heap.size i D:=map_move hD5 (hBd.block _ hD5.lt)
        have b0:=y0 Wd hBd
        have hkey:keyOf Try.prog 3 (.int .i64 s0)=some (.int .i64 s0):=Maps.keyOf_int_mk Try.underlying3 (wf_i64 (by omega) (by omega))
        obtain ⟨c0,hrun,hat,hwc⟩:=hDd.lookup_int hk3 hu77 Try.underlying3 (zero3 Wd) hkey
        have hc0:c0=(((rl.take i).map (·.f0)).count s0:Nat):=by
          rw [hCnt.2 s0] at hat
          injection hat with hat
          injection hat with _ hat
          exact hat.symm
        have hcl:((rl.take i).map (·.f0)).count s0 ≤ 64:=Nat.le_trans List.count_le_length (by rw [List.length_map,List.length_take];have:=HL.out.2.1;omega)
        have HD2:=Lib.hid (zM hCnt (zM (bAfter hBr5 hBd) (Kd.C_below hC5 hBd)))
        subst hc0
        clear hat hwc hCnt hBr5 hC5 hD5 hBd y0
        generalize hcc:((rl.take i).map (·.f0)).count s0=cc at *
        have HCC:=Lib.hid hcc
        have hc1:(0:Int) ≤ (cc:Nat):=by omega
        have hc2:((cc:Nat):Int) ≤ 64:=by omega
        have hil:i < maxLen:=by have:=HL.out.2.1;simp only [maxLen];omega
        have HIL:=Lib.hid hil
        have HNM:=Lib.hid (not_map hDd)
        have hDd':=hDd
        clear hcc hil hcl hDd
        go_wp2_with (at_mapUpdate;refine wpList_mapUpdate_own _ rfl _ _ _ 77 rfl 3 3 hk3 hu77 (plainElem Try.prog 3) VbT.heap.size i D rfl hDd' HIL.out _ _ _ rfl rfl hkey (.lit (.int .i64 ((cc:Int) + 1))) [] (plainElem_int Try.underlying3 (wf_i64 (by omega) (by omega))) ?_)
        intro w6 hown6 hgrow6
        have HN6:Hid ((∃ D,ownC w6 VbT.heap.size (i + 1) D∧Cnt D ((rl.take (i + 1)).map (·.f0)))∧Below VbT.heap.size VbT w6∧Kd.C k80 w6 (some ad) rl.length rl):=Lib.hid ⟨⟨_,hown6,by
          have:=HD2.out.1.put s0
          rw [HCC.out] at this
          rw [take_next1 HT.out,List.map_append]
          exact this⟩,HD2.out.2.1.grown hgrow6 HD2.out.2.1.size (fun k e => by injection e with e;omega),C80_spare HD2.out.2.2 hgrow6 HNM.out⟩
        clear hown6 hgrow6 hDd' hrun a0 a1 a2 a3 b0
        go_wp2_with fail
        obtain ⟨kk,rfl⟩:∃ q,gk=q + 1:=⟨gk - 1,by have:=hk.out;omega⟩
        go_roundg kk
        case measure => omega
        case rel => exact ⟨i + 1,by first | rfl | rw [wrap_next (by omega)],Lib.hid (by have:=hk.out;omega),HN6⟩
      have hi2:¬ (i:Int) < rl.length:=by omega
      obtain rfl:i=rl.length:=by have:=hk.out;omega
      obtain ⟨wo,rfl⟩:∃ wo:World,wo=wr:=⟨_,rfl⟩
      obtain ⟨go_,rfl⟩:∃ q:Nat,q=gk:=⟨_,rfl⟩
      obtain ⟨⟨D,hD,hCnt⟩,hBr,-⟩:=hJ.out
      rw [List.take_length] at hCnt
      have hRo:=Kd.R_below HG.out.2.2.2.2.2.2 hBr
      have hTo:=Kd.C_below HG.out.1 hBr
      have hKo:=zE HG.out.2.2.2.1 hBr
      have hBo:Below wn.heap.size wn wo:=bAfter HBb.out (bAfter HG.out.2.2.2.2.1 hBr)
      have hmb:wb.heap.size ≤ VbT.heap.size:=HG.out.2.2.2.2.1.size
      obtain ⟨fr,hfr⟩:∃ fr:Nat → Bool,(fun j:Nat => decide ((rl.map (·.f0)).count (j:Int)=0) && decide (j < 64))=fr:=⟨_,rfl⟩
      have H3:=Lib.hid (zM hRo (zM hD (zM hTo (zM hKo hBo))))
      have HC:=Lib.hid (zM hCnt (zM hmb hfr))
      clear hRo hTo hKo hBo hmb hD hCnt hBr hJ hk H0 hfr
      go_wp2_with fail
      go_loopg [81,14] N.length (fun kq v81 _ Wr => ∃ i:Nat,v81=.int .i64 i∧Hid (kq + i=N.length)∧Hid (Kd.R k32 32 Wr wn.heap.size (fun _ => True) (.slice B N.length d) (mix fr ⟨x0,x1⟩ N i)∧ownC Wr VbT.heap.size rl.length D∧Kd.C k80 Wr TA r.t.length r.t∧Wr.heap[pT]?=some (.cells (.int .i64 r.e :: .int .i64 r.used :: (rc r.rs ++ [.slice TA r.t.length Tc])).toArray 59 (0,0))∧Below wn.heap.size wn Wr))
      case atStart => exact ⟨0,rfl,by simp [Hid],Lib.hid ⟨by rw [mix_zero];exact H3.out.1,H3.out.2⟩⟩
      case round =>
        obtain ⟨i,rfl,hk,hJ⟩:=hrel
        have hnl:N.length ≤ 100:=by rw [HP.out.2.2.2.2.2.2.2.2.1];exact HNB.out.1
        have HNL:=Lib.hid hnl
        by_cases hi:i < N.length
        · have hi2:(i:Int) < N.length:=by omega
          have hi0:(0:Int) ≤ i:=by omega
          have hib:(i:Int) ≤ 100:=by omega
          obtain ⟨hRr,hDr,hTr,hKr,hBr⟩:=hJ.out
          have hkey:keyOf Try.prog 3 (.int .i64 (i:Int))=some (.int .i64 (i:Int)):=Maps.keyOf_int_mk Try.underlying3 (wf_i64 (by omega) (by omega))
          obtain ⟨c0,hrun,hat,hwc⟩:=hDr.lookup_int hk3 hu77 Try.underlying3 (zero3 wr) hkey
          have hc0:c0=((rl.map (·.f0)).count (i:Int):Nat):=by
            rw [HC.out.1.2 i] at hat
            injection hat with hat
            injection hat with _ hat
            exact hat.symm
          have hfi:fr i=(decide ((rl.map (·.f0)).count (i:Int)=0) && decide (i < 64)):=by rw [← HC.out.2.2]
          subst hc0
          clear hat hwc hkey hnl
          generalize (rl.map (·.f0)).count (i:Int)=cc at *
          have hskip:fr i=false → Hid (Kd.R k32 32 wr wn.heap.size (fun _ => True) (.slice B N.length d) (mix fr ⟨x0,x1⟩ N (i + 1))∧ownC wr VbT.heap.size rl.length D∧Kd.C k80 wr TA r.t.length r.t∧wr.heap[pT]?=some (.cells (.int .i64 r.e :: .int .i64 r.used :: (rc r.rs ++ [.slice TA r.t.length Tc])).toArray 59 (0,0))∧Below wn.heap.size wn wr):=fun h => by
            rw [← mix_skip h]
            exact hJ
          have HSK:=Lib.hid hskip
          clear hskip
          by_cases hcz:cc=0
          · subst hcz
            by_cases h64:i < 64
            · have h64':(i:Int) < 64:=by omega
              have hft:fr i=true:=by rw [hfi];simp [h64]
              have HFT:=Lib.hid hft
              obtain ⟨g,hBg,hgb,hgl⟩:=R32_block hRr (by intro h;have:=mix_len fr ⟨x0,x1⟩ N i;rw [h] at this;simp at this;omega)
              have hgw:g < wb.heap.size:=HGL.out (by omega) _ hBg
              subst hBg
              obtain ⟨ci,hcil,hMi,hcci,hfzi⟩:=Kd.R_elem hRr z32 (i:Int) hi0 hi2
              have k0:wr.cell? ⟨V1.heap.size,0,none⟩=some (.int .i64 x0):=zG (zE HH.out.2.2.2.2.1 (bAfter HBN.out hBr)) 0
              have k1:wr.cell? ⟨V1.heap.size,1,none⟩=some (.int .i64 x1):=zG (zE HH.out.2.2.2.2.1 (bAfter HBN.out hBr)) 1
              have HCI:=Lib.hid (zM hcil hcci)
              have HS:=Lib.hid (zM hRr (zM hDr (zM hTr (zM hKr (zM hBr hgw)))))
              clear hcil hMi hcci hfzi hRr hDr hTr hKr hBr hgw hgb hgl hJ hfi HSK hft
              go_wp2_with (refine Kd.R_store k32 (w0:=wn) wn.heap.size rfl rfl 32 _ _ rfl 32 (i:Int) 0 (mix fr ⟨x0,x1⟩ N i) ⟨x0,x1⟩ _ [.int .i64 x0,.int .i64 x1] ci (fun _ => True) (fun k => True∧k ≠ g) rfl ?qc0 rfl ?qc1 ?qc2 ?qc3 HS.out.1 hi0 hi2 HCI.out.1 HCI.out.2 (Nat.le_refl _) ?qc4 (fun _ h => h) HS.out.2.2.2.2.1 ?_)
              case qc0 => first | rfl | simp [Kd.int,Kd.scalar]
              case qc1 => rfl
              case qc2 => kernel_rfl
              case qc3 => simp [Value.oneCell']
              case qc4 =>
                have h5:ci.length=2:=HCI.out.1
                show k32.M _ _ _ _ (ci.take 0 ++ _ ++ ci.drop 2)
                rw [List.drop_eq_nil_of_le (by omega),List.take_zero,List.append_nil,List.nil_append]
                exact k32_mkM _ _ _ (⟨x0,x1⟩:S32)
              intro w3s hR3 hB3 hg3
              obtain ⟨-,hDr,hTr,hKr,-,hgw⟩:=HS.out
              have HN3:Hid (Kd.R k32 32 w3s wn.heap.size (fun _ => True) (.slice (some ⟨g,0,none⟩) N.length d) (mix fr ⟨x0,x1⟩ N (i + 1))∧ownC w3s VbT.heap.size rl.length D∧Kd.C k80 w3s TA r.t.length r.t∧w3s.heap[pT]?=some (.cells (.int .i64 r.e :: .int .i64 r.used :: (rc r.rs ++ [.slice TA r.t.length Tc])).toArray 59 (0,0))∧Below wn.heap.size wn w3s):=Lib.hid ⟨by rw [← mix_set hi HFT.out];simpa using hR3,map_move hDr (hg3.block _ hDr.lt (fun e => by injection e with e;have:=HC.out.2.1;omega)),
                C80_but (g:=g) hTr (fun k hk hne => hg3.block k hk (fun e => by injection e with e;exact hne e)) (fun ad ha e => by have:=HG.out.2.2.1 ad ha;omega),(hg3.block _ (blk_lt hKr) (fun e => by injection e with e;have:=HG.out.2.2.2.2.2.1;omega)).trans hKr,hB3⟩
              clear hR3 hB3 hg3 hDr hTr hKr hgw HCI HS k0 k1 hrun
              go_wp2_with fail
              obtain ⟨kk,rfl⟩:∃ q,gk=q + 1:=⟨gk - 1,by have:=hk.out;omega⟩
              go_roundg kk
              case measure => omega
              case rel => exact ⟨i + 1,by first | rfl | rw [wrap_next (by omega)],Lib.hid (by have:=hk.out;omega),HN3⟩
            · have h64':¬ (i:Int) < 64:=by omega
              have HN3:=HSK.out (by rw [hfi];simp [h64])
              clear HSK hfi hRr hDr hTr hKr hBr hJ
              go_wp2_with fail
              obtain ⟨kk,rfl⟩:∃ q,gk=q + 1:=⟨gk - 1,by have:=hk.out;omega⟩
              go_roundg kk
              case measure => omega
              case rel => exact ⟨i + 1,by first | rfl | rw [wrap_next (by omega)],Lib.hid (by have:=hk.out;omega),HN3⟩
          · have hcb:(((cc:Nat):Int) == 0)=false:=by simp;exact hcz
            have HN3:=HSK.out (by rw [hfi];simp [hcz])
            clear HSK hfi hRr hDr hTr hKr hBr hJ hcz
            go_wp2_with fail
            obtain ⟨kk,rfl⟩:∃ q,gk=q + 1:=⟨gk - 1,by have:=hk.out;omega⟩
            go_roundg kk
            case measure => omega
            case rel => exact ⟨i + 1,by first | rfl | rw [wrap_next (by omega)],Lib.hid (by have:=hk.out;omega),HN3⟩
        have hi2:¬ (i:Int) < N.length:=by omega
        obtain rfl:i=N.length:=by have:=hk.out;omega
        obtain ⟨wp,rfl⟩:∃ wp:World,wp=wr:=⟨_,rfl⟩
        obtain ⟨gp,rfl⟩:∃ q:Nat,q=gk:=⟨_,rfl⟩
        obtain ⟨hRr,hDr,hTr,hKr,hBr⟩:=hJ.out
        obtain ⟨N2,hN2⟩:∃ N2,mix fr ⟨x0,x1⟩ N N.length=N2:=⟨_,rfl⟩
        rw [hN2] at hRr
        have hN2l:N2.length=N.length:=by rw [← hN2,mix_len]
        have hrun2:runP L N2 fuel (fuel.toNat + 1) ⟨0,0,rs,[]⟩ []=r:=by
          refine HSM.out N2 hN2l (fun x => ?_) (fun s hs h2 => ?_)
          · rw [← hN2]
            rcases mix_rd (fr:=fr) (o:=⟨x0,x1⟩) (N:=N) (i:=N.length) x with e | ⟨e,-⟩
            · rw [e];exact HP.out.2.2.2.2.2.2.2.1 x
            · rw [e];exact HRO.out
          · rw [← hN2]
            rcases mix_rd (fr:=fr) (o:=⟨x0,x1⟩) (N:=N) (i:=N.length) s.f0 with e | ⟨e,hf⟩
            · exact e
            · exfalso
              have hin:=HL.out.2.2.1 s hs h2
              have h0:=(HP.out.2.2.2.2.2.2.1 s hs h2).1
              rw [← HC.out.2.2] at hf
              simp only [Bool.and_eq_true,decide_eq_true_eq] at hf
              have e3:((s.f0.toNat:Nat):Int)=s.f0:=Int.toNat_of_nonneg h0
              rw [e3] at hf
              exact absurd hf.1 (by have:=List.count_pos_iff.2 hin;omega)
        have hr64:∀ v ∈ N2,R64 v.f1:=fun v hv => by
          rw [← hN2] at hv
          rcases mix_mem hv with h | rfl
          · exact HP.out.2.1 v h
          · exact hx1
        have HN2:=Lib.hid (zM hrun2 (zM hr64 hN2l))
        have HRP:=Lib.hid hRr
        have HKP:=Lib.hid (zM hTr (zM hKr hBr))
        clear hrun2 hr64 hN2l hN2 hRr hDr hTr hKr hBr hJ hk hnl H3 HC
        have hW3:=bAfter HBN.out HKP.out.2.2
        have n4:∀ W',Below wp.heap.size wp W' → W'.cell? ⟨W.heap.size,17,none⟩=some (.int .i64 fuel):=fun W' hB => (zG (zE HH.out.2.2.2.1 (bAfter hW3 hB)) 17).trans (worC_fuel h8)
        have n1:∀ W',Below wp.heap.size wp W' → (Instr.loadAt 26 (.pointer (some ⟨W.heap.size,1,none⟩))).run Try.prog W'=.ok (.agg (rc rs).toArray) W':=fun W' hB =>
          ld_range (P:=Try.prog) (ty:=26) (range_of (W:=W') (g:=W.heap.size) (pre:=[.slice NA now.length nc]) (cs:=rc rs) (post:=[.int .i64 fuel]) (t:=54) (fr:=(0,0)) (by simpa [worC] using zE HH.out.2.2.2.1 (bAfter hW3 hB))) hu26 rfl (by rw [size26,rc_length,h8])
        have n2:∀ W',Below wp.heap.size wp W' → Kd.C k97 W' A l.length l:=fun W' hB => Kd.C_below HH.out.1 (bAfter HH.out.2.2.1 (bAfter hW3 hB))
        have NC2:=Lib.hid n2
        have HW3:=Lib.hid hW3
        clear hW3 n2
        go_wp2_with fail
        apply GR.wp_region_grow (R:=RB) 10 (by kernel_rfl) (by kernel_rfl) (by kernel_rfl)
        · intro c a d v w h;cases d <;> exact h
        simp only [List.take_succ_cons,List.take_zero,List.drop_succ_cons,List.drop_zero]
        apply GR.gw_val (by rfl)
        · (intro W' hB hD;go_simp;first | done | rfl)
        simp only [Act.put,zJ,zK,zL]
        apply GR.gw_callR (stable_Rr k74 74 wp.heap.size L) (by rfl)
        · (intro W' hB hD;go_simp;first | done | rfl | exact ⟨rfl,rfl⟩)
        · (intro W' hB hD; exact (warpbeamlaw16_Theirs.calls A c l L W' (NC2.out W' hB) hlc HP.out.2.2.1).mono fun e w' hh => by
            obtain ⟨v,he,hv,hb⟩:=hh
            exact ⟨v,he,hb,Kd.R_lower hv hB.size⟩)
        rintro v ⟨Wv,hv⟩
        obtain ⟨B0,d0,rfl⟩:=Kd.R_slice hv
        clear hv Wv
        simp only [Act.put,zJ,zK,zL]
        apply GR.gw_val (by rfl)
        · (intro W' hB hD;have e4:=n4 W' hB;go_simp;first | done | rfl)
        simp only [Act.put,zJ,zK,zL]
        apply GR.gw_val (by rfl)
        · (intro W' hB hD;have e4:=n4 W' hB;go_simp;first | done | rfl)
        simp only [Act.put,zJ,zK,zL]
        apply GR.gw_val (by rfl)
        · (intro W' hB hD;exact exec_ld rfl (n1 W' hB))
        simp only [Act.put,zJ,zK,zL]
        apply GR.gw_call (c:=.agg (rc rs).toArray) (by rfl)
        · (intro W' hB hD;go_simp;first | done | rfl | exact ⟨rfl,rfl⟩)
        · (intro W' hB hD;exact regs_calls W' rs h8)
        simp only [Act.put,zJ,zK,zL]
        apply GR.gw_val (by rfl)
        · (intro W' hB hD;have e4:=n4 W' hB;go_simp;first | done | rfl)
        simp only [Act.put,zJ,zK,zL]
        apply GR.gw_val (by rfl)
        · (intro W' hB hD;have e4:=n4 W' hB;go_simp;first | done | rfl)
        simp only [Act.put,zJ,zK,zL]
        apply GR.gw_callR (stable_TRun 0 r) (by rfl)
        · (intro W' hB hD;go_simp;first | done | rfl | exact ⟨rfl,rfl⟩)
        · intro W' hB hD
          simp [GR.depFacts,Region.binds] at hD
          have hD1:Kd.R k74 74 W' wp.heap.size (fun _ => True) (.slice B0 L.length d0) L:=by first | exact hD | exact hD.1
          have hRow:=Kd.C_below (Kd.R_reads' HRP.out).2.2 hB;have hRowc:N2.length ≤ d:=by rw [HN2.out.2.2];exact (Kd.R_reads' HRP.out).2.1
          have hRc:=run_calls2 W' B0 d0 L B d N2 fuel rs (Kd.R_reads' hD1).2.2 (Kd.R_reads' hD1).2.1 hRow hRowc HP.out.1 HN2.out.2.1 ⟨h8,HP0.out.2.2.1⟩ HP.out.2.2.2.2.2.2.2.2.2
          rw [HN2.out.1,HN2.out.2.2] at hRc
          exact hRc.mono fun e w' hh => by
            obtain ⟨TA,tc,he,h1,h2,h3,h5,h4⟩:=hh
            exact ⟨_,he,h4,TA,tc,rfl,h1,h2,h3,fun ad ha => Nat.le_trans (Nat.zero_le W'.heap.size) (h5 ad ha)⟩
        rintro v ⟨Wv,SA,Sc,rfl,hl8S,hv⟩
        clear hv Wv
        simp only [Act.put,zJ,zK,zL]
        apply GR.gw_rel (stable_TZ wp.heap.size (.cells #[.int .i64 0,.int .i64 0,.int .i64 0,.int .i64 0,.int .i64 0,.int .i64 0,.int .i64 0,.int .i64 0,.int .i64 0,.int .i64 0,.int .i64 0,.int .i64 0,.int .i64 0,.int .i64 0,.int .i64 0,.int .i64 0,.int .i64 0,.int .i64 0,.slice none 0 0] 59)) (by rfl)
        · intro W' hB hD
          refine ⟨_,_,?_,bOne (.cells #[.int .i64 0,.int .i64 0,.int .i64 0,.int .i64 0,.int .i64 0,.int .i64 0,.int .i64 0,.int .i64 0,.int .i64 0,.int .i64 0,.int .i64 0,.int .i64 0,.int .i64 0,.int .i64 0,.int .i64 0,.int .i64 0,.int .i64 0,.int .i64 0,.slice none 0 0] 59),W'.heap.size,rfl,hB.size,heap_alloc_new _ _⟩
          go_simp
          first | done | rfl
        rintro v ⟨-,pS,rfl,-,-⟩
        simp only [Act.put,zJ,zK,zL]
        apply GR.gw_nil
        intro VaS hVa hF hP
        have hT:=TRun_at (hF (fun W => TRun 0 r W (.agg (.int .i64 r.e :: .int .i64 r.used :: (rc r.rs ++ [.slice SA r.t.length Sc])).toArray)) (by simp))
        have hx:=hF (fun W => TZ wp.heap.size (.cells #[.int .i64 0,.int .i64 0,.int .i64 0,.int .i64 0,.int .i64 0,.int .i64 0,.int .i64 0,.int .i64 0,.int .i64 0,.int .i64 0,.int .i64 0,.int .i64 0,.int .i64 0,.int .i64 0,.int .i64 0,.int .i64 0,.int .i64 0,.int .i64 0,.slice none 0 0] 59) W (ptr pS)) (by simp)
        rw [TZ_ptr] at hx
        clear hF hP
        obtain ⟨hp1,f3⟩:=hx
        obtain ⟨VbS,hSbS,Kb,hOb⟩:=st_whole (P:=Try.prog) (ty:=59) (vs:=.int .i64 r.e :: .int .i64 r.used :: (rc r.rs ++ [.slice SA r.t.length Sc])) f3 (by have:=rc_length r.rs;simp [this,hl8S]) (by have:=rc_length r.rs;rw [size59];simp [this,hl8S]) (by
          intro v hv
          simp only [List.mem_cons,List.mem_append,List.not_mem_nil,or_false] at hv
          rcases hv with rfl | rfl | hv | rfl
          · rfl
          · rfl
          · exact rc_one _ v hv
          · rfl)
        have hT9:=C_off80 hT.1 f3 no_bool59 hOb
        have hVb:Below wp.heap.size wp VbS:=Below.trans hVa (hOb.below hp1 (Below.size hVa))
        have hTT9:=C_off80 (Kd.C_below HKP.out.1 hVa) f3 no_bool59 hOb
        have hKK9:=hOb.mid (zE HKP.out.2.1 hVa) (by have:=blk_lt HKP.out.2.1;omega) (B:=0)
        have l18:(rc r.rs).length=16:=by rw [rc_length,hl8S]
        have c0:∀ W',Below VbS.heap.size VbS W' → W'.cell? ⟨pS,0,none⟩=some (.int .i64 r.e):=fun W' hB => zG (zE Kb hB) 0
        have c1:∀ W',Below VbS.heap.size VbS W' → W'.cell? ⟨pS,1,none⟩=some (.int .i64 r.used):=fun W' hB => zG (zE Kb hB) 1
        have c2:∀ W',Below VbS.heap.size VbS W' → W'.cell? ⟨pT,0,none⟩=some (.int .i64 r.e):=fun W' hB => zG (zE hKK9 hB) 0
        have c3:∀ W',Below VbS.heap.size VbS W' → W'.cell? ⟨pT,1,none⟩=some (.int .i64 r.used):=fun W' hB => zG (zE hKK9 hB) 1
        have c4:∀ W',Below VbS.heap.size VbS W' → W'.cell? ⟨pS,18,none⟩=some (.slice SA r.t.length Sc):=fun W' hB => (zG (zE Kb hB) 18).trans (res_tail l18)
        have c5:∀ W',Below VbS.heap.size VbS W' → W'.cell? ⟨pT,18,none⟩=some (.slice TA r.t.length Tc):=fun W' hB => (zG (zE hKK9 hB) 18).trans (res_tail l18)
        have c6:∀ W',Below VbS.heap.size VbS W' → (Instr.loadAt 34 (.pointer (some ⟨pS,2,none⟩))).run Try.prog W'=.ok (.agg (rc r.rs).toArray) W':=fun W' hB =>
          ld_range (P:=Try.prog) (ty:=34) (range_of (W:=W') (g:=pS) (pre:=[.int .i64 r.e,.int .i64 r.used]) (cs:=rc r.rs) (post:=[.slice SA r.t.length Sc]) (t:=59) (fr:=(0,0)) (by simpa using zE Kb hB)) hu34 rfl (by rw [size34',l18])
        have c7:∀ W',Below VbS.heap.size VbS W' → (Instr.loadAt 34 (.pointer (some ⟨pT,2,none⟩))).run Try.prog W'=.ok (.agg (rc r.rs).toArray) W':=fun W' hB =>
          ld_range (P:=Try.prog) (ty:=34) (range_of (W:=W') (g:=pT) (pre:=[.int .i64 r.e,.int .i64 r.used]) (cs:=rc r.rs) (post:=[.slice TA r.t.length Tc]) (t:=59) (fr:=(0,0)) (by simpa using zE hKK9 hB)) hu34 rfl (by rw [size34',l18])
        have HC8:=Lib.hid (zM hT9 (zM hTT9 (zM hT.2.1 HG.out.2.1)))
        obtain ⟨T,hTT⟩:∃ T,r.t.map our80=T:=⟨_,rfl⟩
        have HTT:=Lib.hid (zM hTT (show T.length ≤ 1000000 by rw [← hTT,List.length_map];have:=HP.out.2.2.2.2.2.1;omega))
        have HE:=Lib.hid (bAfter HW3.out hVb)
        clear hTT hT hT9 hTT9 hKK9 f3 Kb hVa hOb n1 n4 NC2 hVb hp1
        go_wp2_with (refine wpList_st rfl rfl hSbS ?_)
        apply GR.wp_region_grows (R:=RB) (by kernel_rfl) (by kernel_rfl)
        · intro c a d v w h;cases d <;> exact h
        apply GR.gw_val (by rfl)
        · (intro W' hB hD;have e0:=c0 W' hB;have e1:=c1 W' hB;have e2:=c2 W' hB;have e3:=c3 W' hB;have e4:=c4 W' hB;have e5:=c5 W' hB;go_simp;first | done | rfl)
        simp only [Act.put,zJ,zK,zL]
        apply GR.gw_val (by rfl)
        · (intro W' hB hD;have e0:=c0 W' hB;have e1:=c1 W' hB;have e2:=c2 W' hB;have e3:=c3 W' hB;have e4:=c4 W' hB;have e5:=c5 W' hB;go_simp;first | done | rfl)
        simp only [Act.put,zJ,zK,zL]
        apply GR.gw_val (by rfl)
        · (intro W' hB hD;have e0:=c0 W' hB;have e1:=c1 W' hB;have e2:=c2 W' hB;have e3:=c3 W' hB;have e4:=c4 W' hB;have e5:=c5 W' hB;go_simp;first | done | rfl)
        simp only [Act.put,zJ,zK,zL]
        apply GR.gw_val (by rfl)
        · (intro W' hB hD;have e0:=c0 W' hB;have e1:=c1 W' hB;have e2:=c2 W' hB;have e3:=c3 W' hB;have e4:=c4 W' hB;have e5:=c5 W' hB;go_simp;first | done | rfl)
        simp only [Act.put,zJ,zK,zL]
        apply GR.gw_val (c:=.bool true) (by rfl)
        · (intro W' hB hD;have e0:=c0 W' hB;have e1:=c1 W' hB;have e2:=c2 W' hB;have e3:=c3 W' hB;have e4:=c4 W' hB;have e5:=c5 W' hB;go_simp;first | done | rfl)
        simp only [Act.put,zJ,zK,zL]
        apply GR.gw_val (c:=.bool true) (by rfl)
        · (intro W' hB hD;have e0:=c0 W' hB;have e1:=c1 W' hB;have e2:=c2 W' hB;have e3:=c3 W' hB;have e4:=c4 W' hB;have e5:=c5 W' hB;go_simp;first | done | rfl)
        simp only [Act.put,zJ,zK,zL]
        apply GR.gw_val (by rfl)
        · (intro W' hB hD;have e0:=c0 W' hB;have e1:=c1 W' hB;have e2:=c2 W' hB;have e3:=c3 W' hB;have e4:=c4 W' hB;have e5:=c5 W' hB;go_simp;first | done | rfl)
        simp only [Act.put,zJ,zK,zL]
        apply GR.gw_val (by rfl)
        · (intro W' hB hD;have e0:=c0 W' hB;have e1:=c1 W' hB;have e2:=c2 W' hB;have e3:=c3 W' hB;have e4:=c4 W' hB;have e5:=c5 W' hB;go_simp;first | done | rfl)
        simp only [Act.put,zJ,zK,zL]
        apply GR.gw_val (by rfl)
        · (intro W' hB hD;have e0:=c0 W' hB;have e1:=c1 W' hB;have e2:=c2 W' hB;have e3:=c3 W' hB;have e4:=c4 W' hB;have e5:=c5 W' hB;go_simp;first | done | rfl)
        simp only [Act.put,zJ,zK,zL]
        apply GR.gw_val (by rfl)
        · (intro W' hB hD;have e0:=c0 W' hB;have e1:=c1 W' hB;have e2:=c2 W' hB;have e3:=c3 W' hB;have e4:=c4 W' hB;have e5:=c5 W' hB;go_simp;first | done | rfl)
        simp only [Act.put,zJ,zK,zL]
        apply GR.gw_val (c:=.bool true) (by rfl)
        · (intro W' hB hD;have e0:=c0 W' hB;have e1:=c1 W' hB;have e2:=c2 W' hB;have e3:=c3 W' hB;have e4:=c4 W' hB;have e5:=c5 W' hB;go_simp;first | done | rfl)
        simp only [Act.put,zJ,zK,zL]
        apply GR.gw_val (c:=.bool true) (by rfl)
        · (intro W' hB hD;have e0:=c0 W' hB;have e1:=c1 W' hB;have e2:=c2 W' hB;have e3:=c3 W' hB;have e4:=c4 W' hB;have e5:=c5 W' hB;go_simp;first | done | rfl)
        simp only [Act.put,zJ,zK,zL]
        apply GR.gw_val (c:=.bool true) (by rfl)
        · (intro W' hB hD;have e0:=c0 W' hB;have e1:=c1 W' hB;have e2:=c2 W' hB;have e3:=c3 W' hB;have e4:=c4 W' hB;have e5:=c5 W' hB;go_simp;first | done | rfl)
        simp only [Act.put,zJ,zK,zL]
        apply GR.gw_val (by rfl)
        · (intro W' hB hD;have e0:=c0 W' hB;have e1:=c1 W' hB;have e2:=c2 W' hB;have e3:=c3 W' hB;have e4:=c4 W' hB;have e5:=c5 W' hB;go_simp;first | done | rfl)
        simp only [Act.put,zJ,zK,zL]
        apply GR.gw_val (by rfl)
        · (intro W' hB hD;exact exec_ld rfl (c6 W' hB))
        simp only [Act.put,zJ,zK,zL]
        apply GR.gw_val (by rfl)
        · (intro W' hB hD;have e0:=c0 W' hB;have e1:=c1 W' hB;have e2:=c2 W' hB;have e3:=c3 W' hB;have e4:=c4 W' hB;have e5:=c5 W' hB;go_simp;first | done | rfl)
        simp only [Act.put,zJ,zK,zL]
        apply GR.gw_val (by rfl)
        · (intro W' hB hD;exact exec_ld rfl (c7 W' hB))
        simp only [Act.put,zJ,zK,zL]
        apply GR.gw_val (c:=.bool true) (by rfl)
        · (intro W' hB hD;clear c0 c1 c2 c3 c4 c5 c6 c7;have eR:(Op.equalIn 10000 34 (.agg (rc r.rs).toArray) (.agg (rc r.rs).toArray)).run Try.prog W'=.ok true W':=eqR_same 9997 W' r.rs hl8S;go_simp;first | done | rfl)
        simp only [Act.put,zJ,zK,zL]
        apply GR.gw_val (c:=.bool true) (by rfl)
        · (intro W' hB hD;have e0:=c0 W' hB;have e1:=c1 W' hB;have e2:=c2 W' hB;have e3:=c3 W' hB;have e4:=c4 W' hB;have e5:=c5 W' hB;go_simp;first | done | rfl)
        simp only [Act.put,zJ,zK,zL]
        apply GR.gw_val (c:=.bool true) (by rfl)
        · (intro W' hB hD;have e0:=c0 W' hB;have e1:=c1 W' hB;have e2:=c2 W' hB;have e3:=c3 W' hB;have e4:=c4 W' hB;have e5:=c5 W' hB;go_simp;first | done | rfl)
        simp only [Act.put,zJ,zK,zL]
        apply GR.gw_val (by rfl)
        · (intro W' hB hD;have e0:=c0 W' hB;have e1:=c1 W' hB;have e2:=c2 W' hB;have e3:=c3 W' hB;have e4:=c4 W' hB;have e5:=c5 W' hB;go_simp;first | done | rfl)
        simp only [Act.put,zJ,zK,zL]
        apply GR.gw_val (by rfl)
        · (intro W' hB hD;have e0:=c0 W' hB;have e1:=c1 W' hB;have e2:=c2 W' hB;have e3:=c3 W' hB;have e4:=c4 W' hB;have e5:=c5 W' hB;go_simp;first | done | rfl)
        simp only [Act.put,zJ,zK,zL]
        apply GR.gw_callR (stable_Rr k114 114 VbS.heap.size T) (by rfl)
        · (intro W' hB hD;go_simp;first | done | rfl | exact ⟨rfl,rfl⟩)
        · (intro W' hB hD; exact (ours_calls SA Sc r.t W' (Kd.C_below HC8.out.1 hB) HC8.out.2.2.1 (by have := HP.out.2.2.2.2.2.1; omega)).mono fun e w' hh => by
            obtain ⟨v,he,hv,hb⟩:=hh
            rw [HTT.out.1] at hv
            exact ⟨v,he,hb,Kd.R_lower hv hB.size⟩)
        rintro v ⟨Wv,hv⟩
        obtain ⟨X1,y1,rfl⟩:=Kd.R_slice hv
        clear hv Wv
        simp only [Act.put,zJ,zK,zL]
        apply GR.gw_val (by rfl)
        · (intro W' hB hD;have e0:=c0 W' hB;have e1:=c1 W' hB;have e2:=c2 W' hB;have e3:=c3 W' hB;have e4:=c4 W' hB;have e5:=c5 W' hB;go_simp;first | done | rfl)
        simp only [Act.put,zJ,zK,zL]
        apply GR.gw_val (by rfl)
        · (intro W' hB hD;have e0:=c0 W' hB;have e1:=c1 W' hB;have e2:=c2 W' hB;have e3:=c3 W' hB;have e4:=c4 W' hB;have e5:=c5 W' hB;go_simp;first | done | rfl)
        simp only [Act.put,zJ,zK,zL]
        apply GR.gw_callR (stable_Rr k114 114 VbS.heap.size T) (by rfl)
        · (intro W' hB hD;go_simp;first | done | rfl | exact ⟨rfl,rfl⟩)
        · (intro W' hB hD; exact (ours_calls TA Tc r.t W' (Kd.C_below HC8.out.2.1 hB) HC8.out.2.2.2 (by have := HP.out.2.2.2.2.2.1; omega)).mono fun e w' hh => by
            obtain ⟨v,he,hv,hb⟩:=hh
            rw [HTT.out.1] at hv
            exact ⟨v,he,hb,Kd.R_lower hv hB.size⟩)
        rintro v ⟨Wv,hv⟩
        obtain ⟨X2,y2,rfl⟩:=Kd.R_slice hv
        clear hv Wv
        simp only [Act.put,zJ,zK,zL]
        apply GR.gw_call (c:=.bool true) (by rfl)
        · (intro W' hB hD;go_simp;first | done | rfl | exact ⟨rfl,rfl⟩)
        · intro W' hB hD
          simp [GR.depFacts,Region.binds] at hD
          have hX1:Kd.R k114 114 W' VbS.heap.size (fun _ => True) (.slice X1 T.length y1) T:=hD.1
          have hX2:Kd.R k114 114 W' VbS.heap.size (fun _ => True) (.slice X2 T.length y2) T:=hD.2
          exact same_calls2 X1 y1 X2 y2 T W' (Kd.R_reads' hX1).2.2 (Kd.R_reads' hX1).2.1 (Kd.R_reads' hX2).2.2 (Kd.R_reads' hX2).2.1 HTT.out.2
        simp only [Act.put,zJ,zK,zL]
        apply GR.gw_val (c:=.bool true) (by rfl)
        · (intro W' hB hD;have e0:=c0 W' hB;have e1:=c1 W' hB;have e2:=c2 W' hB;have e3:=c3 W' hB;have e4:=c4 W' hB;have e5:=c5 W' hB;go_simp;first | done | rfl)
        simp only [Act.put,zJ,zK,zL]
        apply GR.gw_val (c:=.bool true) (by rfl)
        · (intro W' hB hD;have e0:=c0 W' hB;have e1:=c1 W' hB;have e2:=c2 W' hB;have e3:=c3 W' hB;have e4:=c4 W' hB;have e5:=c5 W' hB;go_simp;first | done | rfl)
        simp only [Act.put,zJ,zK,zL]
        apply GR.gw_nil
        intro Wz hBz hF hP
        clear hF hP
        have HZ:=Lib.hid (bAfter HH.out.2.2.1 (bAfter HE.out hBz))
        clear hBz c0 c1 c2 c3 c4 c5 c6 c7
        go_wp2_with fail
        go_ret
        exact ⟨rfl,HZ.out⟩
end Go.Proofs.Ytgnjkegnddekeaa.Q
namespace Go.Proofs.Ytgnjkegnddekeaa
open Go.ChangeShapes Go.WideShapes Go.ChangeAt Go.RowKit Go.Proofs.Ytgnjkegnddekeaa.Q Go.Proofs.YtgnjkegnddekeaaW.PrintWords Go.Proofs.YtgnjkegnddekeaaW.PrintLast Go.Proofs.YtgnjkegnddekeaaW.PrintMore
set_option maxRecDepth 100000 in
theorem walk_BlockReads {H:Type} {enc:TypeId × Value → H} (W:World) (base:Nat) (v0:Value) (d0:DataW H) (p0:List MemPlace) (o0:Value.okWide Try.prog W .any base 22 v0) (h0:DataW.Trod enc Try.prog W 0 (fun _ => true) true 22 v0 d0 p0) (v1:Value) (d1:DataW H) (p1:List MemPlace) (o1:Value.okWide Try.prog W .any base 54 v1) (h1:DataW.Trod enc Try.prog W 0 (fun _ => true) true 54 v1 d1 p1) (v2:Value) (d2:DataW H) (p2:List MemPlace) (o2:Value.okWide Try.prog W .any base 24 v2) (h2:DataW.Trod enc Try.prog W 0 (fun _ => true) true 24 v2 d2 p2) (_hsz:(DataW.weightsEach Try.prog (Try.f7.params.toList ++ Rows.blockReadsSpec.plain.varTypes Try.prog) ([d0,d1,d2] ++ [])).all (· ≤ reachBytes)=true) :
    Calls Try.prog 7 #[v0,v1,v2] W fun e w' => e=.returned (.bool true)∧Below W.heap.size W w':=by
  obtain ⟨A,c,l,rfl,q1,q2,q3⟩:=ops_of o0 h0
  obtain ⟨NA,nc,now,rs,fuel,rfl,g1,g2,g3,g4,g5,g6⟩:=world_of o1 h1
  obtain ⟨x0,x1,rfl,_,hx1⟩:=val_arg o2 h2
  exact reads_core l A c NA nc now rs fuel x0 x1 W q2 q1 g3 g2 q3 g4 g1 g5 g6 hx1
end Go.Proofs.Ytgnjkegnddekeaa
