/- Is it alive? By hand. -/
import Derived.Test.YtgnjkegnddekeaaXHRun
open And renaming intro → zM
namespace Go.Proofs.Ytgnjkegnddekeaa.Q
open Go.RowKit Go.Lib Go.Proofs.Ytgnjkegnddekeaa Go.Proofs.YtgnjkegnddekeaaW.PrintWords Go.Proofs.YtgnjkegnddekeaaW.PrintLast Go.Proofs.YtgnjkegnddekeaaW.PrintMore
set_option linter.unusedVariables false
set_option linter.unusedSimpArgs false
theorem run_calls (W:World) (A:Option Addr) (c:Nat) (l:List S74) (NA:Option Addr) (nc:Nat) (now:List S32) (fuel:Int) (rs:List S32)
    (hC:Kd.C k74 W A l.length l) (hlc:l.length ≤ c) (hnow:Kd.C k32 W NA now.length now) (hnc:now.length ≤ nc) (hlr:∀ o ∈ l,R64 o.f2∧R64 o.f4) (hnr:∀ v ∈ now,R64 v.f1) (hrr:RsOK rs) (hfu:fuel ≤ 1000000000) :
    Calls Try.prog 18 #[.slice A l.length c,.slice NA now.length nc,.agg (rc rs).toArray,.int .i64 fuel] W (Ran W (runP l now fuel (fuel.toNat + 1) ⟨0,0,rs,[]⟩ [])):=by
  obtain ⟨a0,b0,a1,b1,a2,b2,a3,b3,a4,b4,a5,b5,a6,b6,a7,b7,rfl⟩:=eight hrr.len
  exact run_core W A c l NA nc now fuel _ _ _ _ _ _ _ _ _ _ _ _ _ _ _ _ hC hlc hnow hnc hlr hnr hrr hfu
theorem flat_get {α:Type} (enc:α → List Value) (sz:Nat) (he:∀ x,(enc x).length=sz):∀ (xs:List α) (j:Nat) (p:α) (i:Nat) (u:Value),xs[j]?=some p → (enc p)[i]?=some u → (xs.flatMap enc)[j * sz + i]?=some u
  | [],j,p,i,u,h,_ => by simp at h
  | x :: l,0,p,i,u,h,hu => by
    simp at h
    subst h
    rw [List.flatMap_cons,Nat.zero_mul,Nat.zero_add,List.getElem?_append_left (List.getElem?_eq_some_iff.1 hu).1]
    exact hu
  | x :: l,j + 1,p,i,u,h,hu => by
    rw [List.flatMap_cons,List.getElem?_append_right (by rw [he,Nat.succ_mul];omega),he,show (j + 1) * sz + i - sz=j * sz + i by rw [Nat.succ_mul];omega]
    exact flat_get enc sz he l j p i u (by simpa using h) hu
theorem C_lit {α:Type} (d:Kd α) (enc:α → List Value) (hK:∀ W x,d.K W x (enc x)) {W:World} {b:Nat} {t:TypeId} {fr:Nat × Nat} {cs:Array Value} (xs:List α) (h:W.heap[b]?=some (.cells cs t fr)) (hcs:cs=(xs.flatMap enc).toArray) (hl:xs.length ≤ 1000000):d.C W (some ⟨b,0,none⟩) xs.length xs:=by
  subst hcs
  have he:∀ x,(enc x).length=d.sz:=fun x => d.K_len (hK W x)
  refine ⟨rfl,by omega,fun _ => ⟨_,rfl,fun j p hj => ⟨enc p,he p,hK W p,fun i u hu => ?_⟩⟩⟩
  rw [Addr.add_mid,Nat.zero_add,cell_of_row W b _ _ t fr h]
  simpa using flat_get enc d.sz he xs j p i u hj hu
abbrev encO (o:S74):List Value:=[.int .i64 o.f0,.int .i64 o.f1,.int .i64 o.f2,.int .i64 o.f3,.int .i64 o.f4]
abbrev encV (v:S32):List Value:=[.int .i64 v.f0,.int .i64 v.f1]
def zR:List S32:=[⟨0,0⟩,⟨0,0⟩,⟨0,0⟩,⟨0,0⟩,⟨0,0⟩,⟨0,0⟩,⟨0,0⟩,⟨0,0⟩]
theorem zR_ok:RsOK zR:=⟨rfl,by intro v hv;simp [zR] at hv;subst hv;exact ⟨by simp,by simp⟩⟩
theorem C_nil {α:Type} (d:Kd α) (W:World):d.C W none 0 ([]:List α):=⟨rfl,by simp,fun h => absurd h (by simp)⟩
set_option maxRecDepth 100000 in
theorem alive1:runP [⟨0,0,0,0,5⟩,⟨16,0,0,0,0⟩] [] 10 11 ⟨0,0,zR,[]⟩ []=⟨0,2,zR.set 0 ⟨1,5⟩,[]⟩:=by kernel_rfl
set_option maxRecDepth 100000 in
theorem alive2:runP [⟨14,0,0,0,0⟩] [] 10 11 ⟨0,0,zR,[]⟩ []=⟨1,1,zR,[]⟩:=by kernel_rfl
set_option maxRecDepth 100000 in
theorem alive3:runP [⟨2,0,1,0,0⟩,⟨8,1,0,0,0⟩] [⟨0,0⟩,⟨1,7⟩] 10 11 ⟨0,0,zR,[]⟩ []=⟨0,2,(zR.set 0 ⟨2,1⟩).set 1 ⟨1,7⟩,[⟨1,⟨1,7⟩,false⟩]⟩:=by kernel_rfl
set_option maxRecDepth 100000 in
theorem alive4:stepP [⟨0,0,0,0,5⟩,⟨16,0,0,0,0⟩] ⟨0,0,zR,[]⟩ 0 10=(⟨1,1,zR.set 0 ⟨1,5⟩,[]⟩,ask0):=by kernel_rfl
set_option maxRecDepth 100000 in
theorem alive5:runP [] [] 1 2 ⟨0,0,zR,[]⟩ []=⟨4,0,zR,[]⟩:=by kernel_rfl
theorem rng {l:List S74} (h:l.all (fun o => decide (-9223372036854775808 ≤ o.f2) && decide (o.f2 < 9223372036854775808) && decide (-9223372036854775808 ≤ o.f4) && decide (o.f4 < 9223372036854775808))=true):∀ o ∈ l,R64 o.f2∧R64 o.f4:=by
  intro o ho
  have:=List.all_eq_true.1 h o ho
  simp only [Bool.and_eq_true,decide_eq_true_eq] at this
  exact ⟨⟨this.1.1.1,this.1.1.2⟩,⟨this.1.2,this.2⟩⟩
set_option maxRecDepth 100000 in
theorem run1 (W:World) (A NA:Option Addr) (hC:Kd.C k74 W A 2 ([⟨0,0,0,0,5⟩,⟨16,0,0,0,0⟩]:List S74)) (hN:Kd.C k32 W NA 0 ([]:List S32)) :
    Calls Try.prog 18 #[.slice A 2 2,.slice NA 0 0,.agg #[.int .i64 0,.int .i64 0,.int .i64 0,.int .i64 0,.int .i64 0,.int .i64 0,.int .i64 0,.int .i64 0,.int .i64 0,.int .i64 0,.int .i64 0,.int .i64 0,.int .i64 0,.int .i64 0,.int .i64 0,.int .i64 0],.int .i64 10] W fun e w' => ∃ TA tc,e=.returned (.agg #[.int .i64 0,.int .i64 2,.int .i64 1,.int .i64 5,.int .i64 0,.int .i64 0,.int .i64 0,.int .i64 0,.int .i64 0,.int .i64 0,.int .i64 0,.int .i64 0,.int .i64 0,.int .i64 0,.int .i64 0,.int .i64 0,.int .i64 0,.int .i64 0,.slice TA 0 tc])∧Below W.heap.size W w':=by
  have h:=run_calls W A 2 [⟨0,0,0,0,5⟩,⟨16,0,0,0,0⟩] NA 0 [] 10 zR hC (Nat.le_refl _) hN (Nat.le_refl _) (rng (by decide)) (by intro v hv;simp at hv;done) zR_ok (by decide)
  rw [show ((10:Int).toNat + 1)=11 from rfl,alive1] at h
  refine h.mono fun e w' hh => ?_
  obtain ⟨TA,tc,he,-,-,-,hB⟩:=hh
  exact ⟨TA,tc,he,hB⟩
set_option maxRecDepth 100000 in
theorem run2 (W:World) (A NA:Option Addr) (hC:Kd.C k74 W A 1 ([⟨14,0,0,0,0⟩]:List S74)) (hN:Kd.C k32 W NA 0 ([]:List S32)) :
    Calls Try.prog 18 #[.slice A 1 1,.slice NA 0 0,.agg #[.int .i64 0,.int .i64 0,.int .i64 0,.int .i64 0,.int .i64 0,.int .i64 0,.int .i64 0,.int .i64 0,.int .i64 0,.int .i64 0,.int .i64 0,.int .i64 0,.int .i64 0,.int .i64 0,.int .i64 0,.int .i64 0],.int .i64 10] W fun e w' => ∃ TA tc,e=.returned (.agg #[.int .i64 1,.int .i64 1,.int .i64 0,.int .i64 0,.int .i64 0,.int .i64 0,.int .i64 0,.int .i64 0,.int .i64 0,.int .i64 0,.int .i64 0,.int .i64 0,.int .i64 0,.int .i64 0,.int .i64 0,.int .i64 0,.int .i64 0,.int .i64 0,.slice TA 0 tc])∧Below W.heap.size W w':=by
  have h:=run_calls W A 1 [⟨14,0,0,0,0⟩] NA 0 [] 10 zR hC (Nat.le_refl _) hN (Nat.le_refl _) (rng (by decide)) (by intro v hv;simp at hv;done) zR_ok (by decide)
  rw [show ((10:Int).toNat + 1)=11 from rfl,alive2] at h
  refine h.mono fun e w' hh => ?_
  obtain ⟨TA,tc,he,-,-,-,hB⟩:=hh
  exact ⟨TA,tc,he,hB⟩
set_option maxRecDepth 100000 in
theorem run3 (W:World) (A NA:Option Addr) (hC:Kd.C k74 W A 2 ([⟨2,0,1,0,0⟩,⟨8,1,0,0,0⟩]:List S74)) (hN:Kd.C k32 W NA 2 ([⟨0,0⟩,⟨1,7⟩]:List S32)) :
    Calls Try.prog 18 #[.slice A 2 2,.slice NA 2 2,.agg #[.int .i64 0,.int .i64 0,.int .i64 0,.int .i64 0,.int .i64 0,.int .i64 0,.int .i64 0,.int .i64 0,.int .i64 0,.int .i64 0,.int .i64 0,.int .i64 0,.int .i64 0,.int .i64 0,.int .i64 0,.int .i64 0],.int .i64 10] W fun e w' => ∃ TA tc,e=.returned (.agg #[.int .i64 0,.int .i64 2,.int .i64 2,.int .i64 1,.int .i64 1,.int .i64 7,.int .i64 0,.int .i64 0,.int .i64 0,.int .i64 0,.int .i64 0,.int .i64 0,.int .i64 0,.int .i64 0,.int .i64 0,.int .i64 0,.int .i64 0,.int .i64 0,.slice TA 1 tc])∧Below W.heap.size W w':=by
  have h:=run_calls W A 2 [⟨2,0,1,0,0⟩,⟨8,1,0,0,0⟩] NA 2 [⟨0,0⟩,⟨1,7⟩] 10 zR hC (Nat.le_refl _) hN (Nat.le_refl _) (rng (by decide)) (by intro v hv;simp at hv;rcases hv with rfl | rfl <;> exact ⟨by simp,by simp⟩) zR_ok (by decide)
  rw [show ((10:Int).toNat + 1)=11 from rfl,alive3] at h
  refine h.mono fun e w' hh => ?_
  obtain ⟨TA,tc,he,-,-,-,hB⟩:=hh
  exact ⟨TA,tc,he,hB⟩
set_option maxRecDepth 100000 in
theorem run5 (W:World) (A NA:Option Addr) (hC:Kd.C k74 W A 0 ([]:List S74)) (hN:Kd.C k32 W NA 0 ([]:List S32)) :
    Calls Try.prog 18 #[.slice A 0 0,.slice NA 0 0,.agg #[.int .i64 0,.int .i64 0,.int .i64 0,.int .i64 0,.int .i64 0,.int .i64 0,.int .i64 0,.int .i64 0,.int .i64 0,.int .i64 0,.int .i64 0,.int .i64 0,.int .i64 0,.int .i64 0,.int .i64 0,.int .i64 0],.int .i64 1] W fun e w' => ∃ TA tc,e=.returned (.agg #[.int .i64 4,.int .i64 0,.int .i64 0,.int .i64 0,.int .i64 0,.int .i64 0,.int .i64 0,.int .i64 0,.int .i64 0,.int .i64 0,.int .i64 0,.int .i64 0,.int .i64 0,.int .i64 0,.int .i64 0,.int .i64 0,.int .i64 0,.int .i64 0,.slice TA 0 tc])∧Below W.heap.size W w':=by
  have h:=run_calls W A 0 [] NA 0 [] 1 zR hC (Nat.le_refl _) hN (Nat.le_refl _) (rng (by decide)) (by intro v hv;simp at hv;done) zR_ok (by decide)
  rw [show ((1:Int).toNat + 1)=2 from rfl,alive5] at h
  refine h.mono fun e w' hh => ?_
  obtain ⟨TA,tc,he,-,-,-,hB⟩:=hh
  exact ⟨TA,tc,he,hB⟩
set_option maxRecDepth 100000 in
theorem step4 (W:World) (A:Option Addr) (hC:Kd.C k74 W A 2 ([⟨0,0,0,0,5⟩,⟨16,0,0,0,0⟩]:List S74)) :
    Calls Try.prog 11 #[.slice A 2 2,.agg #[.int .i64 0,.int .i64 0,.int .i64 0,.int .i64 0,.int .i64 0,.int .i64 0,.int .i64 0,.int .i64 0,.int .i64 0,.int .i64 0,.int .i64 0,.int .i64 0,.int .i64 0,.int .i64 0,.int .i64 0,.int .i64 0,.int .i64 0,.int .i64 0,.slice none 0 0],.int .i64 0,.int .i64 10] W fun e w' => ∃ SA sc,e=.returned (.tuple #[.agg #[.int .i64 1,.int .i64 1,.int .i64 1,.int .i64 5,.int .i64 0,.int .i64 0,.int .i64 0,.int .i64 0,.int .i64 0,.int .i64 0,.int .i64 0,.int .i64 0,.int .i64 0,.int .i64 0,.int .i64 0,.int .i64 0,.int .i64 0,.int .i64 0,.slice SA 0 sc],.agg #[.int .i64 0,.int .i64 0,.int .i64 0,.int .i64 0,.int .i64 0,.int .i64 0,.int .i64 0]])∧Below W.heap.size W w':=by
  have h:=step_calls W A 2 [⟨0,0,0,0,5⟩,⟨16,0,0,0,0⟩] 0 0 0 10 zR none 0 [] hC (Nat.le_refl _) rfl (C_nil _ _) (Nat.le_refl _) (by simp) zR_ok.rg
  rw [alive4] at h
  refine h.mono fun e w' hh => ?_
  obtain ⟨-,stk,he,hs,hB⟩:=hh
  obtain ⟨SA,sc,rfl⟩:=Kd.R_slice hs
  exact ⟨SA,sc,he,hB⟩
set_option maxRecDepth 100000 in
set_option maxHeartbeats 2000000 in
theorem alive_calls (W:World):Calls Try.prog 10 #[] W fun e w' => e=.returned (.bool true)∧Below W.heap.size W w':=by
  have hu32:=Try.underlying32
  have hu34:=Try.underlying34
  have hu37:=Try.underlying37
  have hu39:=Try.underlying39
  have hu42:=Try.underlying42
  have hu57:=Try.underlying57
  have hu59:=Try.underlying59
  have hu61:=Try.underlying61
  have hu74:=Try.underlying74
  obtain ⟨W1,hW1,KW1,hBW1⟩:=alz W #[.int .i64 0,.int .i64 0,.int .i64 0,.int .i64 0,.int .i64 5,.int .i64 16,.int .i64 0,.int .i64 0,.int .i64 0,.int .i64 0] 74
  have hc1:=C_lit k74 encO (fun W x => k74_mk W x) ([⟨0,0,0,0,5⟩,⟨16,0,0,0,0⟩]:List S74) KW1 rfl (by simp)
  have H1:=Lib.hid (run1 W1 _ none hc1 (C_nil _ _))
  have HH:=Lib.hid (zM KW1 hBW1)
  clear KW1 hBW1 hc1
  go_enter Try.func10,Try.ntmps10
  go_wp2_with fail
  refine H1.out.mono ?_
  rintro e w1 ⟨TA,tc,rfl,hB1⟩
  obtain ⟨V1a,hV1a,KV1a,hBV1a⟩:=alz3 w1
  obtain ⟨V1,hSV1,KV1,hOV1⟩:=st_whole (P:=Try.prog) (ty:=59) (vs:=(#[.int .i64 0,.int .i64 2,.int .i64 1,.int .i64 5,.int .i64 0,.int .i64 0,.int .i64 0,.int .i64 0,.int .i64 0,.int .i64 0,.int .i64 0,.int .i64 0,.int .i64 0,.int .i64 0,.int .i64 0,.int .i64 0,.int .i64 0,.int .i64 0,.slice TA 0 tc]:Array Value).toList) KV1a rfl (by rw [size59];rfl) (by simp [Value.oneCell'])
  simp only [Array.toArray_toList] at hSV1 KV1
  have hBV1:Below w1.heap.size w1 V1:=hBV1a.trans (hOV1.below (Nat.le_refl _) hBV1a.size)
  obtain ⟨W3,hW3,KW3,hBW3⟩:=alz V1 #[.int .i64 14,.int .i64 0,.int .i64 0,.int .i64 0,.int .i64 0] 74
  have hc2:=C_lit k74 encO (fun W x => k74_mk W x) ([⟨14,0,0,0,0⟩]:List S74) KW3 rfl (by simp)
  have H2:=Lib.hid (run2 W3 _ none hc2 (C_nil _ _))
  obtain ⟨KW1,hBW1⟩:=HH.out
  have hb1:=bAfter hB1 hBV1
  have HH2:=Lib.hid (zM (zE KW1 (bAfter hb1 hBW3)) (zM (bAfter hBW1 (bAfter hb1 hBW3)) (zE KV1 hBW3)))
  clear KW1 hBW1 KV1a hBV1a KV1 hOV1 hBV1 KW3 hBW3 hc2 hb1 hB1 H1 HH
  go_wp2_with (refine wpList_st rfl rfl hSV1 ?_)
  refine H2.out.mono ?_
  rintro e w2 ⟨TA2,tc2,rfl,hB2⟩
  obtain ⟨V2a,hV2a,KV2a,hBV2a⟩:=alz3 w2
  obtain ⟨V2,hSV2,KV2,hOV2⟩:=st_whole (P:=Try.prog) (ty:=59) (vs:=(#[.int .i64 1,.int .i64 1,.int .i64 0,.int .i64 0,.int .i64 0,.int .i64 0,.int .i64 0,.int .i64 0,.int .i64 0,.int .i64 0,.int .i64 0,.int .i64 0,.int .i64 0,.int .i64 0,.int .i64 0,.int .i64 0,.int .i64 0,.int .i64 0,.slice TA2 0 tc2]:Array Value).toList) KV2a rfl (by rw [size59];rfl) (by simp [Value.oneCell'])
  simp only [Array.toArray_toList] at hSV2 KV2
  have hBV2:Below w2.heap.size w2 V2:=hBV2a.trans (hOV2.below (Nat.le_refl _) hBV2a.size)
  obtain ⟨W5,hW5,KW5,hBW5⟩:=alz V2 #[.int .i64 2,.int .i64 0,.int .i64 1,.int .i64 0,.int .i64 0,.int .i64 8,.int .i64 1,.int .i64 0,.int .i64 0,.int .i64 0] 74
  obtain ⟨W6,hW6,KW6,hBW6⟩:=alz W5 #[.int .i64 0,.int .i64 0,.int .i64 1,.int .i64 7] 32
  have hc3:=C_lit k74 encO (fun W x => k74_mk W x) ([⟨2,0,1,0,0⟩,⟨8,1,0,0,0⟩]:List S74) (zE KW5 hBW6) rfl (by simp)
  have hn3:=C_lit k32 encV (fun W x => k32_mk W x) ([⟨0,0⟩,⟨1,7⟩]:List S32) KW6 rfl (by simp)
  have H3:=Lib.hid (run3 W6 _ _ hc3 hn3)
  obtain ⟨KW1,hBW1,KV1⟩:=HH2.out
  have hb2:=bAfter (bAfter hB2 hBV2) (bAfter hBW5 hBW6)
  have HH3:=Lib.hid (zM (zE KW1 hb2) (zM (bAfter hBW1 hb2) (zM (zE KV1 hb2) (zE KV2 (bAfter hBW5 hBW6)))))
  clear KW1 hBW1 KV1 KV2a hBV2a KV2 hOV2 hBV2 KW5 hBW5 KW6 hBW6 hc3 hn3 hb2 hB2 H2 HH2
  go_wp2_with (refine wpList_st rfl rfl hSV2 ?_)
  refine H3.out.mono ?_
  rintro e w3 ⟨TA3,tc3,rfl,hB3⟩
  obtain ⟨V3a,hV3a,KV3a,hBV3a⟩:=alz3 w3
  obtain ⟨V3,hSV3,KV3,hOV3⟩:=st_whole (P:=Try.prog) (ty:=59) (vs:=(#[.int .i64 0,.int .i64 2,.int .i64 2,.int .i64 1,.int .i64 1,.int .i64 7,.int .i64 0,.int .i64 0,.int .i64 0,.int .i64 0,.int .i64 0,.int .i64 0,.int .i64 0,.int .i64 0,.int .i64 0,.int .i64 0,.int .i64 0,.int .i64 0,.slice TA3 1 tc3]:Array Value).toList) KV3a rfl (by rw [size59];rfl) (by simp [Value.oneCell'])
  simp only [Array.toArray_toList] at hSV3 KV3
  have hBV3:Below w3.heap.size w3 V3:=hBV3a.trans (hOV3.below (Nat.le_refl _) hBV3a.size)
  obtain ⟨KW1,hBW1,KV1,KV2⟩:=HH3.out
  have hb3:=bAfter hB3 hBV3
  have hc4:=C_lit k74 encO (fun W x => k74_mk W x) ([⟨0,0,0,0,5⟩,⟨16,0,0,0,0⟩]:List S74) (zE KW1 hb3) rfl (by simp)
  have H4:=Lib.hid (step4 V3 _ hc4)
  have HH4:=Lib.hid (zM (bAfter hBW1 hb3) (zM (zE KV1 hb3) (zM (zE KV2 hb3) KV3)))
  clear KW1 hBW1 KV1 KV2 KV3a hBV3a KV3 hOV3 hBV3 hb3 hc4 hB3 H3 HH3
  go_wp2_with (refine wpList_st rfl rfl hSV3 ?_)
  refine H4.out.mono ?_
  rintro e w4 ⟨SA,sc,rfl,hB4⟩
  obtain ⟨Va,hVa,KVa,hBVa⟩:=alz2 w4
  obtain ⟨Vb,hVb,KVb,hBVb⟩:=alz0 Va
  obtain ⟨Vc,hSc,Kc,hOc⟩:=st_whole (P:=Try.prog) (ty:=37) (vs:=(#[.int .i64 1,.int .i64 1,.int .i64 1,.int .i64 5,.int .i64 0,.int .i64 0,.int .i64 0,.int .i64 0,.int .i64 0,.int .i64 0,.int .i64 0,.int .i64 0,.int .i64 0,.int .i64 0,.int .i64 0,.int .i64 0,.int .i64 0,.int .i64 0,.slice SA 0 sc]:Array Value).toList) (zE KVa hBVb) rfl (by rw [size37];rfl) (by simp [Value.oneCell'])
  obtain ⟨Vd,hSd,Kd',hOd⟩:=st_whole (P:=Try.prog) (ty:=39) (vs:=(#[.int .i64 0,.int .i64 0,.int .i64 0,.int .i64 0,.int .i64 0,.int .i64 0,.int .i64 0]:Array Value).toList) (hOc.mid KVb (by have:=blk_lt KVa;omega) (B:=0)) rfl (by rw [size39];rfl) (by simp [Value.oneCell'])
  simp only [Array.toArray_toList] at hSc Kc hSd Kd'
  have hlv:=blk_lt KVa
  have hBd:Below w4.heap.size w4 Vd:=((hBVa.trans (below_le hBVb hBVa.size)).trans (hOc.below (Nat.le_refl _) (by have:=hBVb.size;omega))).trans (hOd.below (by omega) (by have:=hOc.size;have:=hBVb.size;omega))
  obtain ⟨hBW1,KV1,KV2,KV3⟩:=HH4.out
  have hb4:=bAfter hB4 hBd
  have J1:=zE KV1 hb4
  have J2:=zE KV2 hb4
  have J3:=zE KV3 hb4
  have J4:=hOd.mid Kc (by omega) (B:=0)
  have r10:=zG J1 0
  have r11:=zG J1 1
  have r13:=zG J1 3
  have r20:=zG J2 0
  have r30:=zG J3 0
  have r35:=zG J3 5
  have r38:=zG J3 18
  have r40:=zG J4 0
  have r50:=zG Kd' 0
  have H5:=Lib.hid (run5 Vd none none (C_nil _ _) (C_nil _ _))
  have hfd:∀ W TA tc,(Instr.field 59 (.agg #[.int .i64 4,.int .i64 0,.int .i64 0,.int .i64 0,.int .i64 0,.int .i64 0,.int .i64 0,.int .i64 0,.int .i64 0,.int .i64 0,.int .i64 0,.int .i64 0,.int .i64 0,.int .i64 0,.int .i64 0,.int .i64 0,.int .i64 0,.int .i64 0,.slice TA 0 tc]) 0).run Try.prog W=.ok (.int .i64 4) W:=by
    intro W TA tc
    simp [Instr.field,run_underlying hu59,go_sem,asAgg]
  have HH5:=Lib.hid (bAfter hBW1 hb4)
  clear KVa hBVa KVb hBVb Kc hOc Kd' hOd hlv hBd hBW1 KV1 KV2 KV3 hb4 J1 J2 J3 J4 hB4 H4 HH4
  go_wp2_with (first | refine wpList_st rfl rfl hSc ?_ | refine wpList_st rfl rfl hSd ?_)
  refine H5.out.mono ?_
  rintro e w5 ⟨TA5,tc5,rfl,hB5⟩
  go_wp2_with fail
  go_ret
  exact ⟨rfl,bAfter HH5.out hB5⟩
end Go.Proofs.Ytgnjkegnddekeaa.Q
