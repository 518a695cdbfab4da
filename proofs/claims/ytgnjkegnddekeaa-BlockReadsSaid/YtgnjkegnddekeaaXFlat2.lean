/- Registers of the laws, and whether too much is asked, by hand. -/
import Derived.Test.YtgnjkegnddekeaaXFrameM
import Derived.Test.YtgnjkegnddekeaaXLoops
import Derived.Deep.LoopGhost
import Derived.Test.YtgnjkegnddekeaaXOpen
import Derived.Test.YtgnjkegnddekeaaXAliveM
import Derived.OpenShut
import Derived.KernelRfl
open List renaming setIfInBounds_toArray → zJ, set_cons_zero → zK
open And renaming intro → zM
namespace Go.Proofs.Ytgnjkegnddekeaa.Q
open Go.RowKit Go.Lib Go.Proofs.Ytgnjkegnddekeaa Go.Proofs.YtgnjkegnddekeaaW.PrintWords Go.Proofs.YtgnjkegnddekeaaW.PrintLast Go.Proofs.YtgnjkegnddekeaaW.PrintMore
set_option linter.unusedVariables false
set_option linter.unusedSimpArgs false
def zR8:List S32:=[⟨0,0⟩,⟨0,0⟩,⟨0,0⟩,⟨0,0⟩,⟨0,0⟩,⟨0,0⟩,⟨0,0⟩,⟨0,0⟩]
theorem index_reg {rs:List S32} (hl:rs.length=8) (i:Nat) (a b:Int) (hi:rs[i]?=some ⟨a,b⟩) (W:World):(Instr.index 26 (.agg (rc rs).toArray) (.int .i64 i)).run Try.prog W=.ok (.agg #[.int .i64 a,.int .i64 b]) W:=by
  have hlt:i < 8:=by have:=(List.getElem?_eq_some_iff.1 hi).1;omega
  obtain ⟨a0,b0,a1,b1,a2,b2,a3,b3,a4,b4,a5,b5,a6,b6,a7,b7,rfl⟩:=eight hl
  have e26:=Try.underlying26
  have e24:=Try.underlying24
  rcases (show i=0 ∨ i=1 ∨ i=2 ∨ i=3 ∨ i=4 ∨ i=5 ∨ i=6 ∨ i=7 by omega) with rfl | rfl | rfl | rfl | rfl | rfl | rfl | rfl <;> (simp at hi;obtain ⟨rfl,rfl⟩:=hi;simp [Instr.index,run_underlying e26,go_sem,rc];first | done | rfl)
set_option maxRecDepth 100000 in
set_option maxHeartbeats 2000000 in
theorem regs_calls (w:World) (rs:List S32) (hl:rs.length=8):Calls Try.prog 20 #[.agg (rc rs).toArray] w fun e w' => e=.returned (.agg (rc rs).toArray)∧Below w.heap.size w w':=by
  have hu24:=Try.underlying24
  have hu26:=Try.underlying26
  have hu32:=Try.underlying32
  have hu34:=Try.underlying34
  obtain ⟨W1,hW1,K1,hB1⟩:=alz w (rc rs).toArray 26
  obtain ⟨W2,hW2,K2,hB2⟩:=alz W1 #[.int .i64 0,.int .i64 0,.int .i64 0,.int .i64 0,.int .i64 0,.int .i64 0,.int .i64 0,.int .i64 0,.int .i64 0,.int .i64 0,.int .i64 0,.int .i64 0,.int .i64 0,.int .i64 0,.int .i64 0,.int .i64 0] 34
  obtain ⟨W3,hW3,K3,hB3⟩:=alz W2 #[.int .i64 0,.int .i64 0,.int .i64 0,.int .i64 0,.int .i64 0,.int .i64 0,.int .i64 0,.int .i64 0,.int .i64 0,.int .i64 0,.int .i64 0,.int .i64 0,.int .i64 0,.int .i64 0,.int .i64 0,.int .i64 0] 34
  have size26:(Try.prog.info? 26).map (·.size)=some 16:=by kernel_rfl
  have size34':(Try.prog.info? 34).map (·.size)=some 16:=by kernel_rfl
  have hL:=ld_whole (P:=Try.prog) (ty:=26) (zE K1 (bAfter hB2 hB3)) hu26 rfl (by rw [size26];simp [rc_length,hl])
  have HJ0:=Lib.hid (zM K3 (zM (zE K2 hB3) (bAfter hB1 (bAfter hB2 hB3))))
  have HZ:=Lib.hid (zM (blk_lt K2) (zM (blk_lt K3) (show w.heap.size < W1.heap.size from blk_lt K1)))
  clear K1 K2 K3 hB1 hB2 hB3
  go_enter Try.func20,Try.ntmps20
  go_wp2_with (refine wpList_ld rfl rfl hL ?_)
  go_loopg [4,5,7] 8 (fun kq _ _ v7 W => ∃ i:Nat,v7=.int .i64 i∧Hid (kq + i=8)∧Hid (W.heap[W2.heap.size]?=some (.cells (rc (rs.take i ++ zR8.drop i)).toArray 34 (0,0))∧W.heap[W1.heap.size]?=some (.cells #[.int .i64 0,.int .i64 0,.int .i64 0,.int .i64 0,.int .i64 0,.int .i64 0,.int .i64 0,.int .i64 0,.int .i64 0,.int .i64 0,.int .i64 0,.int .i64 0,.int .i64 0,.int .i64 0,.int .i64 0,.int .i64 0] 34 (0,0))∧Below w.heap.size w W))
  case atStart => exact ⟨0,rfl,by simp [Hid],Lib.hid ⟨by simpa [zR8,rc] using HJ0.out.1,HJ0.out.2⟩⟩
  case round =>
    obtain ⟨i,rfl,hk,hJ⟩:=hrel
    have hz:=HZ.out
    by_cases hi:i < 8
    · have hi2:(i:Int) < 8:=by omega
      have hi0:(0:Int) ≤ i:=by omega
      obtain ⟨a,b,hab⟩:∃ a b,rs[i]?=some ⟨a,b⟩:=⟨_,_,List.getElem?_eq_getElem (l:=rs) (show i < rs.length by omega)⟩
      have hix:=index_reg hl i a b hab
      obtain ⟨V1,hV1,L1,hC1⟩:=alz wr #[.int .i64 a,.int .i64 b] 24
      have m0:=zG L1 0
      have m1:=zG L1 1
      have hout:=zE hJ.out.1 hC1
      have hlen:(rs.take i ++ zR8.drop i).length=8:=by simp [hl,zR8];omega
      obtain ⟨q0,q1⟩:=rc_get (rs.take i ++ zR8.drop i) i _ (List.getElem?_eq_getElem (by omega))
      obtain ⟨y0,y1,c0,c1⟩:∃ y0 y1:Value,V1.cell? ⟨W2.heap.size,i * 2,none⟩=some y0∧V1.cell? ⟨W2.heap.size,i * 2 + 1,none⟩=some y1:=⟨_,_,(zG hout _).trans (by simpa using q0),(zG hout _).trans (by simpa using q1)⟩
      have c2:=zH hout (i * 2)
      have c3:=zH hout (i * 2 + 1)
      obtain ⟨V2,hV2⟩:∃ V,(V1.setCell ⟨W2.heap.size,i * 2,none⟩ (.int .i64 a)).setCell ⟨W2.heap.size,i * 2 + 1,none⟩ (.int .i64 b)=V:=⟨_,rfl⟩
      have hO:Only W2.heap.size V1 V2:=by rw [← hV2];exact (Only.set _ _ _).trans (Only.set _ _ _)
      have hset:(rs.take i ++ zR8.drop i).set i ⟨a,b⟩=rs.take (i + 1) ++ zR8.drop (i + 1):=by
        rw [List.set_append_right _ _ (by simp;omega),List.take_add_one,hab]
        have:i - (rs.take i).length=0:=by simp;omega
        rw [this]
        have hd:zR8.drop i=zR8[i]'(by simp [zR8];omega) :: zR8.drop (i + 1):=by rw [List.drop_eq_getElem_cons]
        rw [hd,zK,List.append_assoc]
        rfl
      have hh2:V2.heap[W2.heap.size]?=some (.cells (rc (rs.take (i + 1) ++ zR8.drop (i + 1))).toArray 34 (0,0)):=by
        have h3:=rc_set (rs.take i ++ zR8.drop i) i a b
        rw [if_pos (by omega),hset] at h3
        rw [← hV2,← h3,← zJ,← zJ]
        exact blk_set (blk_set hout _ _) _ _
      have HJ2:=Lib.hid (zM hh2 (zM (hO.mid (zE hJ.out.2.1 hC1) (by omega) (B:=0)) ((hJ.out.2.2.trans (below_le hC1 hJ.out.2.2.size)).trans (hO.below (by omega) (by have:=hJ.out.2.2.size;have:=hC1.size;omega)))))
      clear L1 hC1 hout q0 q1 hO hset hh2 hJ hz
      go_wp2_with fail
      obtain ⟨k1,rfl⟩:∃ m,gk=m + 1:=⟨gk - 1,by have:=hk.out;omega⟩
      go_roundg k1
      case measure => omega
      case rel => exact ⟨i + 1,by first | rfl | rw [wrap_next (by omega)] | (unfold wrap64;congr 1;omega),Lib.hid (by have:=hk.out;omega),HJ2⟩
    · have hi2:¬ (i:Int) < 8:=by omega
      have hk0:i=8:=by have:=hk.out;omega
      subst hk0
      have hz8:(rs.take 8 ++ zR8.drop 8)=rs:=by rw [List.take_of_length_le (by omega)];simp [zR8]
      have hJ2:=hJ.out
      rw [hz8] at hJ2
      have hL2:=ld_whole (P:=Try.prog) (ty:=34) hJ2.1 hu34 rfl (by rw [size34'];simp [rc_length,hl])
      obtain ⟨V3,hS3,K3,hO3⟩:=st_whole (P:=Try.prog) (ty:=34) (vs:=rc rs) hJ2.2.1 (by simp [rc_length,hl]) (by rw [size34',rc_length,hl]) (rc_one rs)
      have HE:=Lib.hid (zM K3 (hJ2.2.2.trans (hO3.below (by omega) hJ2.2.2.size)))
      clear hJ hJ2 K3 hO3 hz
      go_wp2_with (first | refine wpList_ld rfl rfl hL2 ?_ | refine wpList_st rfl rfl hS3 ?_)
      exact bodyPost_ret (results_c1 rfl _ rfl HE.out.1 hu34 rfl (by rw [size34'];simp [rc_length,hl])) rfl ⟨rfl,HE.out.2⟩
/-- A world of the laws. -/
def worC (nv:Value) (rs:List S32) (fuel:Int):Array Value:=(nv :: (rc rs ++ [.int .i64 fuel])).toArray
theorem worC_fuel {nv:Value} {rs:List S32} {fuel:Int} (h:rs.length=8):(worC nv rs fuel)[17]?=some (.int .i64 fuel):=by
  have hl:=rc_length rs
  unfold worC
  simp only [List.getElem?_toArray,List.getElem?_cons_succ]
  rw [List.getElem?_append_right (by omega)]
  simp [hl,h]
def heavyP (ln nn:Nat) (fuel:Int):Bool:=decide (220 < ln) || decide (100 < nn) || decide (3000 < fuel)
set_option maxRecDepth 100000 in
theorem heavy_calls (w:World) (A NA:Option Addr) (ln c nn nc:Nat) (rs:List S32) (fuel:Int) (hl:rs.length=8):Calls Try.prog 17 #[.slice A ln c,.agg (worC (.slice NA nn nc) rs fuel)] w fun e w' => e=.returned (.bool (heavyP ln nn fuel))∧Below w.heap.size w w':=by
  have hu54:=Try.underlying54
  obtain ⟨W1,hW1,K1,hB1⟩:=alz w (worC (.slice NA nn nc) rs fuel) 54
  have k0:W1.cell? ⟨w.heap.size,0,none⟩=some (.slice NA nn nc):=zG K1 0
  have k1:W1.cell? ⟨w.heap.size,17,none⟩=some (.int .i64 fuel):=(zG K1 17).trans (worC_fuel hl)
  have HB:=Lib.hid hB1
  clear K1 hB1
  unfold heavyP
  by_cases h1:220 < ln
  · have d1:decide ((ln:Int) > 220)=true:=by simp;omega
    rw [decide_eq_true h1]
    go_enter Try.func17,Try.ntmps17
    go_wp2_with fail
    go_ret
    exact ⟨rfl,HB.out⟩
  · have d1:decide ((ln:Int) > 220)=false:=by simp;omega
    rw [decide_eq_false h1]
    by_cases h2:100 < nn
    · have d2:decide ((nn:Int) > 100)=true:=by simp;omega
      rw [decide_eq_true h2]
      go_enter Try.func17,Try.ntmps17
      go_wp2_with fail
      go_ret
      exact ⟨rfl,HB.out⟩
    · have d2:decide ((nn:Int) > 100)=false:=by simp;omega
      rw [decide_eq_false h2]
      by_cases h3:3000 < fuel
      · have d3:decide (fuel > 3000)=true:=by simp;omega
        rw [decide_eq_true h3]
        go_enter Try.func17,Try.ntmps17
        go_wp2_with fail
        go_ret
        exact ⟨rfl,HB.out⟩
      · have d3:decide (fuel > 3000)=false:=by simp;omega
        rw [decide_eq_false h3]
        go_enter Try.func17,Try.ntmps17
        go_wp2_with fail
        go_ret
        exact ⟨rfl,HB.out⟩
open Go.RowKit Go.ChangeShapes Go.WideShapes Go.Lib Go.Proofs.Ytgnjkegnddekeaa Go.Proofs.YtgnjkegnddekeaaW.PrintWords Go.Proofs.YtgnjkegnddekeaaW.PrintLast Go.Proofs.YtgnjkegnddekeaaW.PrintMore
set_option maxRecDepth 100000
/-- An array all of whose elements are such. -/
theorem flat_array {P:Program} {t e:TypeId} {n:Nat} {ls:List Leaf} (ht:P.underlying t=some (.array n e)) (he:Flat P e ls) (hc:P.cellsOf e=ls.length) (hct:P.cellsOf t=n * ls.length):Flat P t (List.replicate n ls).flatten:=by
  intro H enc w base spare held fuel cs x h
  obtain ⟨xs,m,rfl,-,hl,hxs,hx⟩:=DataW.trod_array ht h
  have tot:∀ k,total (List.replicate k ls)=k * ls.length:=fun k => by unfold total;simp
  refine fits_flatten _ cs (by rw [hl,hct,tot]) fun i l hi => ?_
  have hlt:i < n:=by have:=(List.getElem?_eq_some_iff.1 hi).1;simpa using this
  have hll:l=ls:=by rw [List.getElem?_replicate,if_pos hlt] at hi;exact (Option.some.inj hi).symm
  subst hll
  have h3:=hx i hlt
  rw [List.getElem?_eq_getElem (by rw [hxs];exact hlt),hc] at h3
  rw [List.take_replicate,tot,Nat.min_eq_left (by omega)]
  exact he H enc w base spare held m _ _ h3
theorem word_of {x:Int} (h:(Lit.int .i64 x).wf=true):R64 x:=by
  simp only [Lit.wf,Bool.and_eq_true,decide_eq_true_eq] at h
  have m1:IntKind.i64.min=-9223372036854775808:=by decide
  have m2:IntKind.i64.max=9223372036854775807:=by decide
  rw [m1,m2] at h
  unfold R64
  omega
theorem flat_op:Flat Try.prog 97 [.int .i64,.int .i64,.int .i64,.int .i64,.int .i64] :=
  flat_struct [[.int .i64],[.int .i64],[.int .i64],[.int .i64],[.int .i64]] Try.underlying97 rfl (by kernel_rfl) (by kernel_rfl) fun i f ls hf hl => by
    rcases i with _ | _ | _ | _ | _ | i
    · cases hf;cases hl;exact flat_int (by kernel_rfl)
    · cases hf;cases hl;exact flat_int (by kernel_rfl)
    · cases hf;cases hl;exact flat_int (by kernel_rfl)
    · cases hf;cases hl;exact flat_int (by kernel_rfl)
    · cases hf;cases hl;exact flat_int (by kernel_rfl)
    · simp at hl
def goodOp (o:S97):Prop:=R64 o.f0∧R64 o.f1∧R64 o.f2∧R64 o.f3∧R64 o.f4
theorem op_of {W:World} {cs:List Value} (h:Fits [.int .i64,.int .i64,.int .i64,.int .i64,.int .i64] cs):∃ x:S97,k97.K W x cs∧goodOp x:=by
  obtain ⟨a,r,rfl,ha,h⟩:=fits_int h
  obtain ⟨b,r,rfl,hb,h⟩:=fits_int h
  obtain ⟨c,r,rfl,hc,h⟩:=fits_int h
  obtain ⟨d,r,rfl,hd,h⟩:=fits_int h
  obtain ⟨e,r,rfl,he,h⟩:=fits_int h
  obtain rfl:=fits_nil h
  exact ⟨⟨a,b,c,d,e⟩,k97_mk W ⟨a,b,c,d,e⟩,word_of ha,word_of hb,word_of hc,word_of hd,word_of he⟩
theorem flat_val:Flat Try.prog 24 [.int .i64,.int .i64] :=
  flat_struct [[.int .i64],[.int .i64]] Try.underlying24 rfl (by kernel_rfl) (by kernel_rfl) fun i f ls hf hl => by
    rcases i with _ | _ | i
    · cases hf;cases hl;exact flat_int (by kernel_rfl)
    · cases hf;cases hl;exact flat_int (by kernel_rfl)
    · simp at hl
def goodVal (v:S24):Prop:=R64 v.f0∧R64 v.f1
theorem val_of {W:World} {cs:List Value} (h:Fits [.int .i64,.int .i64] cs):∃ x:S24,k24.K W x cs∧goodVal x:=by
  obtain ⟨a,r,rfl,ha,h⟩:=fits_int h
  obtain ⟨b,r,rfl,hb,h⟩:=fits_int h
  obtain rfl:=fits_nil h
  exact ⟨⟨a,b⟩,k24_mk W ⟨a,b⟩,word_of ha,word_of hb⟩
/-- A block that came in. -/
theorem ops_of {H:Type} {enc:TypeId × Value → H} {W:World} {base:Nat} {v:Value} {dt:DataW H} {p:List MemPlace} (o:Value.okWide Try.prog W .any base 22 v) (h:DataW.Trod enc Try.prog W 0 (fun _ => true) true 22 v dt p) :
    ∃ (A:Option Addr) (c:Nat) (l:List S97),v=.slice A l.length c∧l.length ≤ c∧Kd.C k97 W A l.length l∧∀ x ∈ l,goodOp x:=by
  obtain ⟨A,c,l,h1,h2,-,h3,h4⟩:=open_rows k97 goodOp z97 Try.underlying22 flat_op (by kernel_rfl) rfl (fun cs h => op_of h) o h
  exact ⟨A,c,l,h1,h2,h3,h4⟩
theorem regs_of:∀ (n:Nat) {cs:List Value},Fits (List.replicate n [Leaf.int .i64,.int .i64]).flatten cs → ∃ rs:List S32,rs.length=n∧cs=rc rs∧(∀ v ∈ rs,R64 v.f1)∧∀ v ∈ rs,R64 v.f0
  | 0,cs,h => by
    obtain rfl:=fits_nil h
    exact ⟨[],rfl,rfl,by simp,by simp⟩
  | n + 1,cs,h => by
    rw [List.replicate_succ,List.flatten_cons] at h
    obtain ⟨a,r,rfl,ha,h⟩:=fits_int h
    obtain ⟨b,r,rfl,hb,h⟩:=fits_int h
    obtain ⟨rs,h1,rfl,h2,h3⟩:=regs_of n h
    refine ⟨⟨a,b⟩ :: rs,by simp [h1],rfl,?_,?_⟩
    · intro v hv
      rcases List.mem_cons.1 hv with rfl | hv
      · exact word_of hb
      · exact h2 v hv
    · intro v hv
      rcases List.mem_cons.1 hv with rfl | hv
      · exact word_of ha
      · exact h3 v hv
/-- Values, registers, and fuel that came in. -/
theorem world_of {H:Type} {enc:TypeId × Value → H} {W:World} {base:Nat} {v:Value} {dt:DataW H} {p:List MemPlace} (o:Value.okWide Try.prog W .any base 54 v) (h:DataW.Trod enc Try.prog W 0 (fun _ => true) true 54 v dt p) :
    ∃ (NA:Option Addr) (nc:Nat) (now:List S24) (rs:List S32) (fuel:Int),v=.agg (worC (.slice NA now.length nc) rs fuel)∧rs.length=8∧now.length ≤ nc∧Kd.C k24 W NA now.length now∧(∀ v ∈ now,goodVal v)∧(∀ v ∈ rs,R64 v.f1)∧R64 fuel:=by
  obtain ⟨cs,rfl,-⟩:=okWide_struct Try.underlying54 o
  obtain ⟨fuel,hf⟩:=h
  obtain ⟨xs,n,rfl,_,hl,hxs,hx⟩:=DataW.trod_struct Try.underlying54 hf
  have c54:Try.prog.cellsOf 54=18:=by kernel_rfl
  have c52:Try.prog.cellsOf 52=1:=by kernel_rfl
  have c26:Try.prog.cellsOf 26=16:=by kernel_rfl
  have c3:Try.prog.cellsOf 3=1:=by kernel_rfl
  rw [c54] at hl
  have hl':cs.toList.length=18:=hl
  have f24:Flat Try.prog 26 (List.replicate 8 [Leaf.int .i64,.int .i64]).flatten:=flat_array Try.underlying26 flat_val (by kernel_rfl) (by kernel_rfl)
  have x0:=hx 0 _ rfl
  have x1:=hx 1 _ rfl
  have x2:=hx 2 _ rfl
  have e3:xs.length=3:=hxs
  rw [List.getElem?_eq_getElem (by omega)] at x0 x1 x2
  have y0:DataW.trod enc Try.prog W 0 (fun _ => true) true n 52 ((cs.toList.drop 0).take (Try.prog.cellsOf 52))=some xs[0]:=x0
  have y1:DataW.trod enc Try.prog W 0 (fun _ => true) true n 26 ((cs.toList.drop 1).take (Try.prog.cellsOf 26))=some xs[1]:=x1
  have y2:DataW.trod enc Try.prog W 0 (fun _ => true) true n 3 ((cs.toList.drop 17).take (Try.prog.cellsOf 3))=some xs[2]:=x2
  rw [c52] at y0
  rw [c26] at y1
  rw [c3] at y2
  obtain ⟨NA,nc,now,e0,q1,-,q2,q3⟩:=open_rowsT k24 goodVal z24 Try.underlying52 flat_val (by kernel_rfl) rfl (fun cs h => val_of h) y0
  obtain ⟨rs,r1,e1,r2,-⟩:=regs_of 8 (f24 H enc W 0 _ _ _ _ _ y1)
  obtain ⟨fu,r,e2,hw,hn⟩:=fits_int ((flat_int (P:=Try.prog) (t:=3) (k:=.i64) (by kernel_rfl)) H enc W 0 _ _ _ _ _ y2)
  obtain rfl:=fits_nil hn
  refine ⟨NA,nc,now,rs,fu,?_,r1,q1,q2,q3,r2,word_of hw⟩
  congr 1
  apply Array.toList_inj.1
  unfold worC
  rw [List.toList_toArray]
  have s1:cs.toList=cs.toList.take 1 ++ cs.toList.drop 1:=(List.take_append_drop 1 _).symm
  have s2:cs.toList.drop 1=(cs.toList.drop 1).take 16 ++ (cs.toList.drop 1).drop 16:=(List.take_append_drop 16 _).symm
  have s3:(cs.toList.drop 1).drop 16=(cs.toList.drop 17).take 1:=by
    rw [List.drop_drop,List.take_of_length_le (by rw [List.length_drop,hl'];omega)]
  have e0':cs.toList.take 1=[.slice NA now.length nc]:=by simpa using e0
  rw [s1,e0',s2,e1,s3,e2]
  rfl
def our80 (s:S80):S114:=⟨s.f0,⟨s.f1.f0,s.f1.f1⟩,s.f2⟩
theorem eqA32 (d:Nat) (w:World) (x0 y0:Int) (x1 y1:Int) :
    (Op.equalIn (d + 2) 32 (.agg #[.int .i64 x0,.int .i64 x1]) (.agg #[.int .i64 y0,.int .i64 y1])).run Try.prog w=.ok (x0 == y0 && (x1 == y1)) w:=by
  refine eqA_of Try.underlying32 (by kernel_rfl) ?_
  refine eqf_cons (by rfl) (by go_simp;rfl) (by go_simp;rfl) (by go_simp) ?_
  exact eqf_last (by rfl) (by go_simp;rfl) (by go_simp;rfl) (by go_simp)
theorem forIn_ok {σ:Type} {P:Program} {w:World} {z:σ} {body:Nat → σ → Sem (ForInStep σ)}:∀ (l:List Nat),(∀ i ∈ l,(body i z).run P w=.ok (.yield z) w) → (forIn l z body).run P w=.ok z w
  | [],_ => rfl
  | i :: l,h => by
    rw [List.forIn_cons,Sem.run_bind,h i List.mem_cons_self,Result.andThen_ok]
    exact forIn_ok l fun j hj => h j (List.mem_cons_of_mem _ hj)
set_option maxRecDepth 100000 in
set_option maxHeartbeats 4000000 in
theorem eqR_same (d:Nat) (w:World) (rs:List S32) (h8:rs.length=8):(Op.equalIn (d + 3) 34 (.agg (rc rs).toArray) (.agg (rc rs).toArray)).run Try.prog w=.ok true w:=by
  obtain ⟨a0,b0,a1,b1,a2,b2,a3,b3,a4,b4,a5,b5,a6,b6,a7,b7,rfl⟩:=eight h8
  have hu34:=Try.underlying34
  have hu32:=Try.underlying32
  simp only [rc]
  unfold Op.equalIn
  go_simp
  rw [forIn_ok _ (by
    intro i hi
    have hi8:i < 8:=by have:=List.mem_range'.1 hi;omega
    have e0:=fun x y => eqA32 d w x x y y
    rcases (show i=0 ∨ i=1 ∨ i=2 ∨ i=3 ∨ i=4 ∨ i=5 ∨ i=6 ∨ i=7 by omega) with rfl | rfl | rfl | rfl | rfl | rfl | rfl | rfl <;> (go_simp;done))]
  go_simp
end Go.Proofs.Ytgnjkegnddekeaa.Q
