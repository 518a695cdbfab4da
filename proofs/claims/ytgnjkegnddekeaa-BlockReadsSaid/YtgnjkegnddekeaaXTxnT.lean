/- A transaction with one step more, by hand. -/
import Derived.Test.YtgnjkegnddekeaaXHConv
import Derived.Test.YtgnjkegnddekeaaXRightM
import Derived.Test.YtgnjkegnddekeaaXGrowR
import Derived.Test.YtgnjkegnddekeaaXClip
import Derived.Test.YtgnjkegnddekeaaXQ2
import Derived.RegionTactic
import Derived.ChangeAlike
import Derived.BigRegion
import Derived.Lib.SliceRun
import Derived.Test.YtgnjkegnddekeaaXWZeros
import Derived.RangeFuncNested
import Derived.RangeFuncBound
import Derived.RangeFuncCalls
import Derived.RangeFuncLeaves
import Derived.RangeFuncBox
import Derived.Shelf.Abstract
import Derived.Shelf.RegionOpen
import Derived.OwnWalkIn
import Derived.TacticsInMore
import Derived.LoopNIn
import Derived.LoopIn
open List renaming setIfInBounds_toArray → zJ, set_cons_zero → zK, set_cons_succ → zL
open And renaming intro → zM
namespace Go.Proofs.Ytgnjkegnddekeaa.Q
open Go.RowKit Go.Lib Go.Proofs.Ytgnjkegnddekeaa Go.Proofs.YtgnjkegnddekeaaW.PrintWords Go.Proofs.YtgnjkegnddekeaaW.PrintLast Go.Proofs.YtgnjkegnddekeaaW.PrintMore
set_option linter.unusedVariables false
set_option maxRecDepth 100000
set_option linter.unusedSimpArgs false
theorem C_empty {α:Type} {d:Kd α} {w:World} {xs:List α} (h:d.C w none xs.length xs):xs=[]:=by
  rcases xs with _ | ⟨x,xs⟩
  · rfl
  · obtain ⟨ad,h2,_⟩:=h.2.2 (by simp)
    cases h2
/-- What was read in a box stays. -/
theorem stays {w:World} {b o:Nat} {v:Value} (h:w.cell? ⟨b,o,none⟩=some v):∀ W,Below w.heap.size w W → W.cell? ⟨b,o,none⟩=some v:=fun W hB => (hB.cell (p:=⟨b,o,none⟩) (World.block_lt_of_cell? w _ h)).trans h
theorem clip_calls (A:Option Addr) (n c:Nat) (w:World) (hA:A=none → n=0) (hn:n ≤ c) :
    Calls Try.prog 98 #[.slice A n c] w fun e w' => e=.returned (.slice A n n)∧w'=w:=by
  rcases A with _ | ad
  · obtain rfl:=hA rfl
    go_enter Try.func98,Try.ntmps98
    go_wp2
    go_ret
    exact ⟨rfl,rfl⟩
  · go_enter Try.func98,Try.ntmps98
    go_wp2
    go_ret
    exact ⟨rfl,rfl⟩
theorem info80:(Try.prog.info? 80).map (fun i => (i.zero,i.size,i.bytes))=some (some (.agg #[(.int .i64 0),(.int .i64 0),(.int .i64 0),(.bool false)]),4,32):=by kernel_rfl
theorem flat80 {w w':World} {x:S80} {cs:List Value} (h:k80.K w x cs) (base:Nat) (ok:Nat → Prop):k80.M w' base ok x cs:=by
  rw [k80_open h]
  exact k80_mkM w' base ok x
/-- May a value be? -/
def valR (k n:Int):Bool:=if k=0 then (n == 0) else if k=1 then true else if k=2 then (if n ≥ 0 then decide (n < 64) else false) else false
theorem right_f (k n:Int):value_Right.f k n=some (valR k n):=by
  unfold value_Right.f valR
  split
  · rfl
  · split
    · rfl
    · split
      · split <;> rfl
      · rfl
/-- A row told by what may be read of it, with the error. -/
def Got (A0:Option Addr) (w:World) (l:List S80) (err:Int) (e:Ending) (w':World):Prop:=∃ A c,e=.returned (.tuple #[.slice A l.length c,.int .i64 err])∧Kd.C k80 w' A l.length l∧l.length ≤ c∧Below w.heap.size w w'∧(A=A0 ∨ ∀ ad,A=some ad → w.heap.size ≤ ad.block)
abbrev stV (x0 x1 x2:Int) (x3:Bool):Array Value:=#[.int .i64 x0,.int .i64 x1,.int .i64 x2,.bool x3]
/-- A transaction with one step more. -/
def addL (l:List S80) (s:S80):List S80 × Int:=if s.f0 < 0 ∨ 64 ≤ s.f0 ∨ valR s.f1.f0 s.f1.f1=false then (l,2) else if 200 ≤ l.length then (l,4) else (l ++ [s],0)
/-- Memory grows. -/
def RBt (W W':World):Prop:=Below W.heap.size W W'
instance : GR.Rel RBt where
  refl := fun W => Below.refl _ _
  trans := fun h k => bAfter h k
  size := fun h => Below.size h
  ofB := fun h => h
/-- A row of one step, laid by a literal. -/
def Laid (cs:Array Value) (W:World) (v:Value):Prop:=∃ b,v=.slice (some ⟨b,0,none⟩) 1 1∧W.heap[b]?=some (.cells cs 80 (0,0))
theorem stable_laid (cs:Array Value):GR.Stable RBt (Laid cs):=by
  rintro W W' v ⟨b,rfl,hc⟩ h
  exact ⟨b,rfl,(h.block b (Array.getElem?_eq_some_iff.1 hc).1).trans hc⟩
set_option maxRecDepth 100000 in
set_option maxHeartbeats 4000000 in
theorem add_core (A:Option Addr) (c:Nat) (l:List S80) (x0 x1 x2:Int) (x3:Bool) (w:World) (hC:Kd.C k80 w A l.length l) (hc:l.length ≤ c) (hl:l.length ≤ 1000000) :
    Calls Try.prog 81 #[.slice A l.length c,.agg (stV x0 x1 x2 x3)] w (Got A w (addL l ⟨x0,⟨x1,x2⟩,x3⟩).1 (addL l ⟨x0,⟨x1,x2⟩,x3⟩).2):=by
  have hu80:=Try.underlying80
  have hu32:=Try.underlying32
  have C1:Hid (∀ W,Calls Try.prog 97 #[.agg #[.int .i64 x1,.int .i64 x2]] W fun e w' => e=.returned (.bool (valR x1 x2))∧Below W.heap.size W w'):=Lib.hid fun W => value_Right.calls x1 x2 _ W (right_f x1 x2)
  obtain ⟨W0,hW0,K0,hB0⟩:=alz w (stV x0 x1 x2 x3) 80
  have k0:W0.cell? ⟨w.heap.size,0,none⟩=some (.int .i64 x0):=zG K0 0
  have k1:W0.cell? ⟨w.heap.size,1,none⟩=some (.int .i64 x1):=zG K0 1
  have k2:W0.cell? ⟨w.heap.size,2,none⟩=some (.int .i64 x2):=zG K0 2
  have HA:Hid (A=none → l.length=0):=Lib.hid fun h => by subst h;rw [C_empty hC];rfl
  have HC:=Lib.hid (zM hC (zM hc hl))
  have HK:=Lib.hid (zM hB0 K0)
  clear hC hc hl K0 hB0
  have stay:∀ w1:World,Below W0.heap.size W0 w1 → Kd.C k80 w1 A l.length l∧Below w.heap.size w w1∧w1.heap[w.heap.size]?=some (.cells (stV x0 x1 x2 x3) 80 (0,0)):=fun w1 h => ⟨Kd.C_below HC.out.1 (bAfter HK.out.1 h),bAfter HK.out.1 h,zE HK.out.2 h⟩
  have ST:=Lib.hid stay
  clear stay
  by_cases h1:x0 < 0
  · have hf:addL l ⟨x0,⟨x1,x2⟩,x3⟩=(l,2):=by unfold addL;rw [if_pos (.inl h1)]
    rw [hf]
    clear hf C1
    go_enter Try.func81,Try.ntmps81
    go_wp2_with fail
    go_ret2
    have:=ST.out _ (Below.refl _ _)
    exact ⟨A,c,rfl,this.1,HC.out.2.1,this.2.1,.inl rfl⟩
  · by_cases h2:64 ≤ x0
    · have hf:addL l ⟨x0,⟨x1,x2⟩,x3⟩=(l,2):=by unfold addL;rw [if_pos (.inr (.inl h2))]
      rw [hf]
      clear hf C1
      go_enter Try.func81,Try.ntmps81
      go_wp2_with fail
      go_ret2
      have:=ST.out _ (Below.refl _ _)
      exact ⟨A,c,rfl,this.1,HC.out.2.1,this.2.1,.inl rfl⟩
    · cases h3:valR x1 x2 with
      | false =>
        have hf:addL l ⟨x0,⟨x1,x2⟩,x3⟩=(l,2):=by unfold addL;rw [if_pos (.inr (.inr h3))]
        rw [hf]
        rw [h3] at C1
        clear hf h3
        go_enter Try.func81,Try.ntmps81
        go_wp2_with fail
        refine (C1.out _).mono ?_
        rintro e w1 ⟨rfl,hB1⟩
        have HB1:=Lib.hid hB1
        clear hB1 C1
        go_wp2_with fail
        go_ret2
        have:=ST.out _ HB1.out
        exact ⟨A,c,rfl,this.1,HC.out.2.1,this.2.1,.inl rfl⟩
      | true =>
        rw [h3] at C1
        by_cases h4:200 ≤ l.length
        · have hf:addL l ⟨x0,⟨x1,x2⟩,x3⟩=(l,4):=by unfold addL;rw [if_neg (by simp [h1,h2,h3]),if_pos h4]
          rw [hf]
          have h5:(200:Int) ≤ l.length:=by omega
          clear hf h3 h4
          go_enter Try.func81,Try.ntmps81
          go_wp2_with fail
          refine (C1.out _).mono ?_
          rintro e w1 ⟨rfl,hB1⟩
          have HB1:=Lib.hid hB1
          clear hB1 C1
          go_wp2_with fail
          go_ret2
          have:=ST.out _ HB1.out
          exact ⟨A,c,rfl,this.1,HC.out.2.1,this.2.1,.inl rfl⟩
        · have hf:addL l ⟨x0,⟨x1,x2⟩,x3⟩=(l ++ [⟨x0,⟨x1,x2⟩,x3⟩],0):=by unfold addL;rw [if_neg (by simp [h1,h2,h3]),if_neg h4]
          rw [hf]
          have h5:¬ (200:Int) ≤ l.length:=by omega
          clear hf h3 h4
          go_enter Try.func81,Try.ntmps81
          go_wp2_with fail
          refine (C1.out _).mono ?_
          rintro e w1 ⟨rfl,hB1⟩
          have HS:=Lib.hid (ST.out _ hB1)
          have F0:=stays (show w1.cell? ⟨w.heap.size,0,none⟩=some (.int .i64 x0) from zG HS.out.2.2 0)
          have F1:=stays (show w1.cell? ⟨w.heap.size,1,none⟩=some (.int .i64 x1) from zG HS.out.2.2 1)
          have F2:=stays (show w1.cell? ⟨w.heap.size,2,none⟩=some (.int .i64 x2) from zG HS.out.2.2 2)
          have F3:=stays (show w1.cell? ⟨w.heap.size,3,none⟩=some (.bool x3) from zG HS.out.2.2 3)
          clear hB1 C1 k0 k1 k2
          go_wp2_with fail
          apply GR.wp_region_grow (R:=RBt) 4 (by kernel_rfl) (by kernel_rfl) (by kernel_rfl)
          · intro c a d v w h;cases d <;> exact h
          apply GR.gw_val (by rfl)
          · intro W hB hD;have hB:Below w1.heap.size w1 W:=hB;go_simp;try rfl
          simp only [Act.put,zJ,zK,zL]
          apply GR.gw_call (by rfl)
          · intro W hB hD;have hB:Below w1.heap.size w1 W:=hB;go_simp;exact ⟨rfl,rfl⟩
          · intro W hB hD
            exact (clip_calls A l.length c W HA.out HC.out.2.1).mono fun e w' hh => ⟨hh.1,by rw [hh.2];exact Below.refl _ _⟩
          simp only [Act.put,zJ,zK,zL]
          apply GR.gw_val (by rfl)
          · intro W hB hD;have hB:Below w1.heap.size w1 W:=hB;go_simp;try rfl
          simp only [Act.put,zJ,zK,zL]
          apply GR.gw_rel (stable_laid (stV x0 x1 x2 x3)) (by rfl)
          · intro W hB hD
            have hB:Below w1.heap.size w1 W:=hB
            refine ⟨_,W.alloc (.cells (stV x0 x1 x2 x3) 80),?_,bOne _,⟨W.heap.size,rfl,heap_alloc_new _ _⟩⟩
            go_simp
            try rfl
          rintro v ⟨Wv,b,rfl,-⟩
          simp only [Act.put,zJ,zK,zL]
          apply GR.gw_nil
          intro W hB hF hP
          have hB:Below w1.heap.size w1 W:=hB
          have hL:Laid (stV x0 x1 x2 x3) W (.slice (some ⟨b,0,none⟩) 1 1):=hF (fun W => Laid (stV x0 x1 x2 x3) W (.slice (some ⟨b,0,none⟩) 1 1)) (by simp)
          obtain ⟨b',e,hK⟩:=hL
          injection e with e
          injection e with e
          injection e with e
          subst e
          clear hF hP
          have HS2:=Lib.hid (zM (Kd.C_below HS.out.1 hB) (zM (bAfter HS.out.2.1 hB) hK))
          clear hB hK F0 F1 F2 F3
          simp only [List.drop_succ_cons,List.drop_zero]
          refine R_append_clip k80 (w0:=w) w.heap.size rfl _ _ 57 80 _ _ rfl Try.underlying57 info80 rfl (by decide) (by decide) A _ l ⟨x0,⟨x1,x2⟩,x3⟩ [.int .i64 x0,.int .i64 x1,.int .i64 x2,.bool x3] b 1 rfl rfl HS2.out.1 ?qc2 ?qc3 ?qc4 HS2.out.2.1 HS2.out.2.1.size (by have:=HC.out.2.2;omega) ?_
          case qc2 => exact fun j u hj => (zG HS2.out.2.2 j).trans (by simpa using hj)
          case qc3 => exact k80_mk _ ⟨x0,⟨x1,x2⟩,x3⟩
          case qc4 => exact fun _ ok x cs h => flat80 h _ ok
          intro v1 w3 hR hB3 hB4
          obtain ⟨A3,c3,rfl⟩:=Kd.R_slice hR
          have hr:=Kd.R_reads' hR
          have hnew:∀ ad,A3=some ad → w.heap.size ≤ ad.block:=fun ad h => by
            subst h
            have h1:=Kd.R_base hR ad.block (by simp [Value.ownBlock])
            have h2:=HS2.out.2.1.size
            omega
          have HR:=Lib.hid (zM hr.2.2 (zM hr.2.1 (zM hB3 hnew)))
          clear hR hr hB3 hB4
          go_wp2_with fail
          go_ret2
          exact ⟨A3,c3,by rw [List.length_append];rfl,HR.out.1,HR.out.2.1,HR.out.2.2.1,.inr HR.out.2.2.2⟩
theorem write_calls (A:Option Addr) (c:Nat) (l:List S80) (x:Int) (v:S32) (w:World) (hC:Kd.C k80 w A l.length l) (hc:l.length ≤ c) (hl:l.length ≤ 1000000) :
    Calls Try.prog 60 #[.slice A l.length c,.int .i64 x,.agg #[.int .i64 v.f0,.int .i64 v.f1]] w (Got A w (addL l ⟨x,v,true⟩).1 (addL l ⟨x,v,true⟩).2):=by
  rcases v with ⟨v0,v1⟩
  have C:=Lib.hid (add_core A c l x v0 v1 true (w.alloc (.cells #[.int .i64 v0,.int .i64 v1] 32)) (Kd.C_alloc hC _) hc hl)
  generalize (addL l ⟨x,⟨v0,v1⟩,true⟩).1=r at *
  generalize (addL l ⟨x,⟨v0,v1⟩,true⟩).2=er at *
  clear hC hc hl
  go_enter Try.func60,Try.ntmps60
  go_wp2_with fail
  refine C.out.mono ?_
  rintro e w1 ⟨A1,c1,rfl,h1,h2,h3,h4⟩
  have H:=Lib.hid (zM h1 (zM h2 (zM (bAfter (bOne (w:=w) (.cells #[.int .i64 v0,.int .i64 v1] 32)) h3) (h4.imp id fun h ad ha => Nat.le_trans (by simp) (h ad ha):A1=A ∨ ∀ ad,A1=some ad → w.heap.size ≤ ad.block))))
  clear h1 h2 h3 h4 C
  go_wp2_with fail
  go_ret2
  exact ⟨A1,c1,rfl,H.out.1,H.out.2.1,H.out.2.2.1,H.out.2.2.2⟩
theorem read_calls (A:Option Addr) (c:Nat) (l:List S80) (x:Int) (v:S32) (w:World) (hC:Kd.C k80 w A l.length l) (hc:l.length ≤ c) (hl:l.length ≤ 1000000) :
    Calls Try.prog 80 #[.slice A l.length c,.int .i64 x,.agg #[.int .i64 v.f0,.int .i64 v.f1]] w (Got A w (addL l ⟨x,v,false⟩).1 (addL l ⟨x,v,false⟩).2):=by
  rcases v with ⟨v0,v1⟩
  have C:=Lib.hid (add_core A c l x v0 v1 false (w.alloc (.cells #[.int .i64 v0,.int .i64 v1] 32)) (Kd.C_alloc hC _) hc hl)
  generalize (addL l ⟨x,⟨v0,v1⟩,false⟩).1=r at *
  generalize (addL l ⟨x,⟨v0,v1⟩,false⟩).2=er at *
  clear hC hc hl
  go_enter Try.func80,Try.ntmps80
  go_wp2_with fail
  refine C.out.mono ?_
  rintro e w1 ⟨A1,c1,rfl,h1,h2,h3,h4⟩
  have H:=Lib.hid (zM h1 (zM h2 (zM (bAfter (bOne (w:=w) (.cells #[.int .i64 v0,.int .i64 v1] 32)) h3) (h4.imp id fun h ad ha => Nat.le_trans (by simp) (h ad ha):A1=A ∨ ∀ ad,A1=some ad → w.heap.size ≤ ad.block))))
  clear h1 h2 h3 h4 C
  go_wp2_with fail
  go_ret2
  exact ⟨A1,c1,rfl,H.out.1,H.out.2.1,H.out.2.2.1,H.out.2.2.2⟩
theorem flatK80 {w w':World} {x:S80} {cs:List Value} (h:k80.K w x cs):k80.K w' x cs:=by
  rw [k80_open h]
  exact k80_mk w' x
/-- What a search comes to. -/
def FoundT {α:Type} (p:α → Bool) (I:List α → World → Prop) (l:List α) (r:Int) (W:World):Prop :=
  (r=-1∧(∀ x ∈ l,p x=false)∧I l W) ∨ ∃ i:Nat,r=i∧i < l.length∧(l.take i).all (fun x => !p x)=true∧(∃ x,l[i]?=some x∧p x=true)∧I (l.take (i + 1)) W
theorem take_nextT {α:Type} {l:List α} {i:Nat} {x:α} (h:l[i]?=some x):l.take (i + 1)=l.take i ++ [x]:=by
  rw [List.take_add_one,h]
  rfl
set_option maxHeartbeats 2000000 in
theorem indexFunc_step (g:Nat) (lb:Array Value) (p:S80 → Bool) (I:List S80 → World → Prop) (A:Option Addr) (c:Nat) (l:List S80) (w:World)
    (eg:∀ args W,(callFunc g args).run Try.prog W=.ok (.enter g args) W) (hI:∀ pre W,I pre W → Kd.C k80 W A l.length l)
    (hcall:∀ pre x W,pre.length < l.length → I pre W → Calls Try.prog g (#[.agg #[.int .i64 x.f0,.int .i64 x.f1.f0,.int .i64 x.f1.f1,.bool x.f2]] ++ lb) W fun e w' => e=.returned (.bool (p x))∧I (pre ++ [x]) w') (h0:I [] w) (hl:l.length < 1000000000) :
    Calls Try.prog 99 #[.slice A l.length c,.func (.func g) #[] lb] w fun e w' => ∃ r:Int,e=.returned (.int .i64 r)∧FoundT p I l r w':=by
  have hu:=Try.underlying80
  have HI:=Lib.hid hI
  have HC:=Lib.hid hcall
  clear hI hcall
  go_enter Try.func99,Try.ntmps99
  go_wp2_with fail
  go_loopg [5,8] l.length (fun kq _ v8 W => ∃ i:Nat,v8=.int .i64 i∧Hid (kq + i=l.length)∧Hid (I (l.take i) W∧(l.take i).all (fun x => !p x)=true))
  case atStart => exact ⟨0,rfl,by simp [Hid],Lib.hid ⟨by simpa using h0,by simp⟩⟩
  case round =>
    obtain ⟨i,rfl,hk,hJ⟩:=hrel
    by_cases hi:i < l.length
    · have hi2:(i:Int) < l.length:=by omega
      have hi0:(0:Int) ≤ i:=by omega
      obtain ⟨ad,rfl,a0,a1,a2,a3⟩:=at_T80 (HI.out _ _ hJ.out.1) (i:Int) hi0 hi2
      have hx:l[i]?=some (rd_T80 l i):=by
        unfold rd_T80
        simp [List.getD_eq_getElem?_getD,hi]
      have HX:=Lib.hid hx
      clear hx
      generalize rd_T80 l i=x at *
      simp only [Int.toNat_natCast] at a0 a1 a2 a3
      have hc:=HC.out _ x _ (by rw [List.length_take];omega) hJ.out.1
      have HJ:=hJ
      clear hJ
      cases hp:p x with
      | true =>
        rw [hp] at hc
        have hp:=Lib.hid hp
        go_wp2_with fail
        refine hc.mono ?_
        rintro e w' ⟨rfl,hI1⟩
        have HI1:=Lib.hid hI1
        clear hI1 hc
        go_wp2_with fail
        go_ret
        exact ⟨_,rfl,.inr ⟨i,rfl,hi,HJ.out.2,⟨x,HX.out,hp.out⟩,by rw [take_nextT HX.out];exact HI1.out⟩⟩
      | false =>
        rw [hp] at hc
        have hp:=Lib.hid hp
        go_wp2_with fail
        refine hc.mono ?_
        rintro e w' ⟨rfl,hI1⟩
        have HI1:=Lib.hid hI1
        clear hI1 hc
        go_wp2_with fail
        obtain ⟨k1,rfl⟩:∃ m,gk=m + 1:=⟨gk - 1,by have:=hk.out;omega⟩
        go_roundg k1
        case measure => omega
        case rel => exact ⟨i + 1,by first | rfl | rw [wrap_next (by omega)] | (unfold wrap64;congr 1;omega),Lib.hid (by have:=hk.out;omega),Lib.hid ⟨by rw [take_nextT HX.out];exact HI1.out,by rw [take_nextT HX.out,List.all_append,HJ.out.2];simp [hp.out]⟩⟩
    · have hi2:¬ (i:Int) < l.length:=by omega
      have hk0:i=l.length:=by have:=hk.out;omega
      subst hk0
      go_wp2_with fail
      go_ret
      have h2:=hJ.out
      rw [List.take_length] at h2
      exact ⟨_,rfl,.inl ⟨rfl,fun x hx => by have:=List.all_eq_true.1 h2.2 x hx;simpa using this,h2.1⟩⟩
theorem grown_cells (W:World) (g o:Nat) (L:List Value):W.grownBy (W.setCells g o L) (some g):=by
  obtain ⟨s1,s2,s3,s4⟩:=setCells_same g L o W
  exact ⟨s1,s2,s3,by rw [s4];exact Nat.le_refl _,fun k _ hk => setCells_far _ _ k (fun he => hk (by rw [he]))⟩
/-- A row whose elements lead to nothing: its block alone matters. -/
theorem R_same {α:Type} {d:Kd α} {e:Nat} {W W':World} {base g n cap:Nat} {ok:Nat → Prop} {xs:List α} (hE:d.E=[]) (h:d.R e W base ok (.slice (some ⟨g,0,none⟩) n cap) xs) (hg:W'.heap[g]?=W.heap[g]?):d.R e W' base ok (.slice (some ⟨g,0,none⟩) n cap) xs :=
  Kd.R_mono (Kd.R_move (Kd.R_tight2 hE h) (fun k hk => by
    have:k=g:=by simpa [Value.ownBlock] using hk.1
    rw [this];exact hg)) (fun k hk => hk.2)
theorem C_cut {α:Type} {d:Kd α} (hflat:∀ w w' x cs,d.K w x cs → d.K w' x cs) {W:World} {g m:Nat} {xs:List α} (h:d.C W (some ⟨g,0,none⟩) m xs) (L:List Value) {o:Nat} (ho:o=m * d.sz:=by first | rfl | simp [Kd.int,Kd.scalar]):d.C (W.setCells g o L) (some ⟨g,0,none⟩) m xs:=by
  subst ho
  refine ⟨h.1,h.2.1,fun hn => ?_⟩
  obtain ⟨ad,hA,hcell⟩:=h.2.2 hn
  refine ⟨ad,hA,fun j p hj => ?_⟩
  obtain ⟨cs,h1,h2,h3⟩:=hcell j p hj
  refine ⟨cs,h1,hflat _ _ _ _ h2,fun i u hu => ?_⟩
  injection hA with hA
  subst hA
  rw [World.cell?_setCells_out g L _ W _ (fun _ _ => Or.inl ?_)]
  · exact h3 i u hu
  · have hi:=(List.getElem?_eq_some_iff.1 hu).1
    have hjm:=(List.getElem?_eq_some_iff.1 hj).1
    rw [h.1] at hjm
    have h5:(j + 1) * d.sz ≤ m * d.sz:=Nat.mul_le_mul_right _ hjm
    rw [Nat.add_mul] at h5
    rw [Addr.add_lit]
    show 0 + (j * d.sz + i) < m * d.sz
    omega
/-- What the row holds, as far as it has been gone through: what is kept lies ahead. -/
structure Keeps {α:Type} (q:α → Bool) (l cur:List α) (i j:Nat):Prop where
  len:cur.length=l.length
  lt:i < j
  le:j ≤ l.length
  kept:cur.take i=(l.take j).filter q
  rest:cur.drop j=l.drop j
theorem Keeps.at {α:Type} {q:α → Bool} {l cur:List α} {i j:Nat} (h:Keeps q l cur i j) (hj:j < l.length):cur[j]?=l[j]?:=by
  have:=congrArg (fun z => z[0]?) h.rest
  simpa using this
theorem Keeps.skip {α:Type} {q:α → Bool} {l cur:List α} {i j:Nat} {x:α} (h:Keeps q l cur i j) (hx:l[j]?=some x) (hq:q x=false):Keeps q l cur i (j + 1):=by
  have hj:=(List.getElem?_eq_some_iff.1 hx).1
  refine ⟨h.len,by have:=h.lt;omega,by omega,?_,?_⟩
  · rw [take_nextT hx,List.filter_append,h.kept]
    simp [hq]
  · have:=congrArg (fun z => z.drop 1) h.rest
    simpa [List.drop_drop] using this
theorem Keeps.keep {α:Type} {q:α → Bool} {l cur:List α} {i j:Nat} {x:α} (h:Keeps q l cur i j) (hx:l[j]?=some x) (hq:q x=true):Keeps q l (cur.set i x) (i + 1) (j + 1):=by
  have hj:=(List.getElem?_eq_some_iff.1 hx).1
  have hi:=h.lt
  have hlen:=h.len
  refine ⟨by rw [List.length_set];exact h.len,by omega,by omega,?_,?_⟩
  · rw [take_nextT hx,List.filter_append,← h.kept]
    have h1:(cur.set i x)[i]?=some x:=by
      rw [List.getElem?_set_self (by omega)]
    rw [take_nextT h1,List.take_set_of_le (Nat.le_refl _)]
    simp [hq]
  · rw [List.drop_set_of_lt (by omega)]
    have:=congrArg (fun z => z.drop 1) h.rest
    simpa [List.drop_drop] using this
theorem Keeps.start {α:Type} {q:α → Bool} {l:List α} {i:Nat} {x:α} (hx:l[i]?=some x) (hq:q x=false) (ha:(l.take i).all q=true):Keeps q l l i (i + 1):=by
  have hj:=(List.getElem?_eq_some_iff.1 hx).1
  refine ⟨rfl,by omega,by omega,?_,rfl⟩
  rw [take_nextT hx,List.filter_append]
  have h1:(l.take i).filter q=l.take i:=List.filter_eq_self.2 (fun y hy => List.all_eq_true.1 ha y hy)
  rw [h1]
  simp [hq]
theorem Keeps.done {α:Type} {q:α → Bool} {l cur:List α} {i:Nat} (h:Keeps q l cur i l.length):cur.take i=l.filter q∧(l.filter q).length=i:=by
  have h1:=h.kept
  rw [List.take_length] at h1
  have h2:=congrArg List.length h1
  have h3:=h.lt
  have h4:=h.len
  rw [List.length_take] at h2
  exact ⟨h1,by omega⟩
set_option maxHeartbeats 2000000 in
theorem clone_step (A0:Option Addr) (c0:Nat) (l0:List S80) (w:World) (hr:Kd.C k80 w A0 l0.length l0) (hl:l0.length < 1000000000) :
    Calls Try.prog 83 #[.slice A0 l0.length c0] w fun e w' => ∃ v,e=.returned v∧Kd.R k80 80 w' w.heap.size (fun _ => True) v l0∧Below w.heap.size w w':=by
  have tS:=Try.underlying57
  have qS:∀ (W:World) (a:Option Addr) (n c n' c':Nat),(binOp .eql 57 (.slice a n c) (.slice none n' c')).run Try.prog W=.ok (.bool a.isNone) W:=fun W a n c n' c' => Lib.run_eql_slice_nil W _ _ a n c n' c' tS
  rcases A0 with _ | ad
  · obtain rfl:=C_empty hr
    clear hr
    go_enter Try.func83,Try.ntmps83
    go_wp2
    go_ret
    exact ⟨_,rfl,Kd.R_nil _ _ _ _ _,Below.refl _ _⟩
  · have HR:=Aside0.mk hr
    clear hr
    go_enter Try.func83,Try.ntmps83
    go_wp2_with (at_builtin;refine Kd.R_append_rows k80 (w0:=w) (Rr:=k80.K w) w.heap.size rfl _ _ 57 80 _ _ rfl tS info80 rfl (by decide) (by decide) _ [] l0 (some ad) l0.length c0 (fun _ => True) (fun _ => False) rfl rfl ?HO ?HR ?hKM (fun _ h => h.elim) (fun _ _ => trivial) ?HB ?hbase ?hl ?_)
    case HO => exact ⟨fun _ _ => trivial,[],World.ownsRow_made w #[] 0 (Nat.le_refl _) (Nat.zero_le _) (by simp),Reps.none _ _⟩
    case HR => exact ReadsRow.imp_ HR.out (below_alloc (Below.refl _ _) _) (fun _ _ h => h)
    case hKM => exact fun x cs h => flat80 h w.heap.size (fun _ => False)
    case HB => exact below_alloc (Below.refl _ _) _
    case hbase => simp
    case hl => simp;omega
    intro v' w1 hR hB hg hv
    go_wp2
    go_ret
    exact ⟨_,rfl,by simpa using hR,hB⟩
set_option maxHeartbeats 4000000 in
theorem deleteFunc_step (pf:Nat) (lb:Array Value) (p:S80 → Bool) (S:List S80 → World → Prop) (g cap:Nat) (l:List S80) (w:World) (B:Nat)
    (eg:∀ args W,(callFunc pf args).run Try.prog W=.ok (.enter pf args) W) (hR0:Kd.R k80 80 w B (fun _ => True) (.slice (some ⟨g,0,none⟩) l.length cap) l) (hS0:S [] w)
    (hgrow:∀ pre W W',S pre W → W.grownBy W' (some g) → S pre W')
    (hcall:∀ pre x W W1,pre.length < l.length → S pre W → Below W.heap.size W W1 → g < W.heap.size → Calls Try.prog pf (#[.agg #[.int .i64 x.f0,.int .i64 x.f1.f0,.int .i64 x.f1.f1,.bool x.f2]] ++ lb) W1 fun e w' => e=.returned (.bool (p x))∧S (pre ++ [x]) w'∧w'.heap[g]?=W1.heap[g]?∧(∀ k,W.heap.size ≤ k → k < W1.heap.size → w'.heap[k]?=W1.heap[k]?)∧W1.heap.size ≤ w'.heap.size) (hl:l.length < 1000000000) :
    Calls Try.prog 82 #[.slice (some ⟨g,0,none⟩) l.length cap,.func (.func pf) #[] lb] w fun e w' => ∃ m,e=.returned (.slice (some ⟨g,0,none⟩) m cap)∧m=(l.filter fun x => !p x).length∧m ≤ cap∧Kd.C k80 w' (some ⟨g,0,none⟩) m (l.filter fun x => !p x)∧S l w':=by
  have hu:=Try.underlying80
  have hg0:g < w.heap.size:=(Kd.R_bound hR0).1 g (by simp [Value.ownBlock]) |>.2.2.1
  have hcap:=(Kd.R_reads' hR0).2.1
  have C1:=Lib.hid (indexFunc_step pf lb p (fun pre W => S pre W∧Kd.R k80 80 W B (fun _ => True) (.slice (some ⟨g,0,none⟩) l.length cap) l) (some ⟨g,0,none⟩) cap l w eg (fun pre W h => (Kd.R_reads' h.2).2.2) (fun pre x W hpl h => by
    have hlt:g < W.heap.size:=(Kd.R_bound h.2).1 g (by simp [Value.ownBlock]) |>.2.2.1
    refine (hcall pre x W W hpl h.1 (Below.refl _ _) hlt).mono ?_
    rintro e w' ⟨rfl,h1,h2,-,-⟩
    exact ⟨rfl,h1,R_same rfl h.2 h2⟩) ⟨hS0,hR0⟩ hl)
  have HG:=Lib.hid hgrow
  have HC:=Lib.hid hcall
  have HL:=Lib.hid (zM hl hcap)
  clear hgrow hcall hR0 hS0 hl hcap hg0
  go_enter Try.func82,Try.ntmps82
  go_wp2_with fail
  refine C1.out.mono ?_
  rintro e w1 ⟨r,rfl,hF⟩
  clear C1
  rcases hF with ⟨rfl,hn,hS,hR⟩ | ⟨i0,rfl,hi0,ha,⟨x0,hx0,hp0⟩,hS,hR⟩
  · have hfl:(l.filter fun x => !p x)=l:=List.filter_eq_self.2 (fun y hy => by simp [hn y hy])
    have HZ:=Lib.hid (zM hS (zM hR hfl))
    clear hS hR hn hfl
    go_wp2_with fail
    go_ret
    rw [HZ.out.2.2]
    exact ⟨_,rfl,rfl,HL.out.2,(Kd.R_reads' HZ.out.2.1).2.2,HZ.out.1⟩
  · have HS:=Lib.hid (zM hS (zM hR (Keeps.start (q:=fun x => !p x) hx0 (by simp [hp0]) ha)))
    have hne:((i0:Int) == -1)=false:=beq_eq_false_iff_ne.2 (by omega)
    have h63:(i0:Int) < 1000000000:=by have:=HL.out.1;omega
    clear hS hR ha hx0 hp0
    go_wp2_with fail
    go_loopg [5,6,7] (l.length - (i0 + 1)) (fun kq v5 v6 _ W => ∃ (i j:Nat) (cur:List S80),v5=.int .i64 i∧v6=.int .i64 j∧Hid (kq + j=l.length)∧Hid (S (l.take j) W∧Kd.R k80 80 W B (fun _ => True) (.slice (some ⟨g,0,none⟩) l.length cap) cur∧Keeps (fun x => !p x) l cur i j))
    case atStart => exact ⟨i0,i0 + 1,l,rfl,by first | rfl | (rw [show wrap64 ((i0:Int) + 1)=((i0 + 1:Nat):Int) by unfold wrap64;omega]),Lib.hid (by have:=HS.out.2.2.le;omega),Lib.hid HS.out⟩
    case round =>
      obtain ⟨i,j,cur,rfl,rfl,hk,hJ⟩:=hrel
      clear HS
      have hle:=hJ.out.2.2.le
      have hlt:=hJ.out.2.2.lt
      by_cases hj:j < l.length
      · have hj2:(j:Int) < l.length:=by omega
        have hj0:(0:Int) ≤ j:=by omega
        have hi2:(i:Int) < l.length:=by omega
        have hi0:(0:Int) ≤ i:=by omega
        have hlc:(l.length:Int) < 1000000000:=by have:=HL.out.1;omega
        obtain ⟨x,hx⟩:∃ x,l[j]?=some x:=⟨_,List.getElem?_eq_getElem hj⟩
        have hx2:=(hJ.out.2.2.at hj).trans hx
        obtain ⟨c,hcl,hM,hcc,-⟩:=Kd.R_elem hJ.out.2.1 z80 (j:Int) hj0 hj2
        have e2:cur.getD (j:Int).toNat z80=x:=by simp [List.getD_eq_getElem?_getD,hx2]
        rw [e2] at hM
        have e5:=k80_openM hM
        have a0:wr.cell? ⟨g,j * 4,none⟩=some (.int .i64 x.f0):=hcc 0 _ (by rw [e5];rfl)
        have a1:wr.cell? ⟨g,j * 4 + 1,none⟩=some (.int .i64 x.f1.f0):=hcc 1 _ (by rw [e5];rfl)
        have a2:wr.cell? ⟨g,j * 4 + 2,none⟩=some (.int .i64 x.f1.f1):=hcc 2 _ (by rw [e5];rfl)
        have a3:wr.cell? ⟨g,j * 4 + 3,none⟩=some (.bool x.f2):=hcc 3 _ (by rw [e5];rfl)
        clear e5
        have hg0:g < wr.heap.size:=(Kd.R_bound hJ.out.2.1).1 g (by simp [Value.ownBlock]) |>.2.2.1
        have HX:=Lib.hid (zM hx hx2)
        have HJ:=hJ
        clear hcc hM hcl hx hx2 e2 hJ
        go_wp2_with fail
        refine (HC.out (l.take j) x wr _ (by rw [List.length_take];omega) HJ.out.1 (bOne _) hg0).mono ?_
        rintro e w2 ⟨rfl,hS2,hg2,hk2,hz2⟩
        have hb:w2.heap[wr.heap.size]?=some (.cells #[.int .i64 x.f0,.int .i64 x.f1.f0,.int .i64 x.f1.f1,.bool x.f2] 80 (0,0)):=(hk2 _ (Nat.le_refl _) (by simp)).trans (heap_alloc_new _ _)
        have b0:w2.cell? ⟨wr.heap.size,0,none⟩=some (.int .i64 x.f0):=zG hb 0
        have b1:w2.cell? ⟨wr.heap.size,1,none⟩=some (.int .i64 x.f1.f0):=zG hb 1
        have b2:w2.cell? ⟨wr.heap.size,2,none⟩=some (.int .i64 x.f1.f1):=zG hb 2
        have b3:w2.cell? ⟨wr.heap.size,3,none⟩=some (.bool x.f2):=zG hb 3
        have HC0:=True.intro
        clear hb a0 a1 a2 a3
        have hR2:Kd.R k80 80 w2 B (fun _ => True) (.slice (some ⟨g,0,none⟩) l.length cap) cur:=R_same rfl (Kd.R_alloc HJ.out.2.1 _) hg2
        have HK:=HJ.out.2.2
        have HS2:=Lib.hid (zM hS2 (zM hR2 HK))
        obtain ⟨ci,hcil,hMi,hcci,hfzi⟩:=Kd.R_elem hR2 z80 (i:Int) hi0 hi2
        have HCI:=Lib.hid (zM hcil hcci)
        clear hg2 hk2 hz2 hS2 hR2 HK HJ HC0 hcil hMi hcci hfzi
        cases hp:p x with
        | true =>
          have hp2:=Lib.hid hp
          clear hp
          go_wp2_with fail
          obtain ⟨k1,rfl⟩:∃ m,gk=m + 1:=⟨gk - 1,by have:=hk.out;omega⟩
          go_roundg k1
          case measure => omega
          case rel => exact ⟨i,j + 1,cur,rfl,by first | rfl | rw [wrap_next (by omega)],Lib.hid (by have:=hk.out;omega),Lib.hid ⟨by rw [take_nextT HX.out.1];exact HS2.out.1,HS2.out.2.1,HS2.out.2.2.skip HX.out.1 (by simp [hp2.out])⟩⟩
        | false =>
          have hp2:=Lib.hid hp
          clear hp
          go_wp2_with (refine Kd.R_store k80 (w0:=w2) B rfl rfl 80 _ _ rfl 80 (i:Int) 0 cur x _ [.int .i64 x.f0,.int .i64 x.f1.f0,.int .i64 x.f1.f1,.bool x.f2] ci (fun _ => True) (fun k => True∧k ≠ g) rfl ?qc0 rfl ?qc1 ?qc2 ?qc3 HS2.out.2.1 hi0 hi2 HCI.out.1 HCI.out.2 (Nat.le_refl _) ?qc4 (fun _ h => h) (Below.refl _ _) ?_)
          case qc0 => first | rfl | simp [Kd.int,Kd.scalar]
          case qc1 => rfl
          case qc2 => kernel_rfl
          case qc3 => simp [Value.oneCell']
          case qc4 =>
            have h5:ci.length=4:=HCI.out.1
            show k80.M _ _ _ _ (ci.take 0 ++ _ ++ ci.drop 4)
            rw [List.drop_eq_nil_of_le (by omega),List.take_zero,List.append_nil,List.nil_append]
            exact k80_mkM _ _ _ x
          intro w3 hR3 _ hg3
          have HR3:=Lib.hid (zM hR3 (HG.out _ _ _ HS2.out.1 hg3))
          clear hR3 hg3 HCI
          go_wp2_with fail
          obtain ⟨k1,rfl⟩:∃ m,gk=m + 1:=⟨gk - 1,by have:=hk.out;omega⟩
          go_roundg k1
          case measure => omega
          case rel => exact ⟨i + 1,j + 1,cur.set i x,by first | rfl | rw [wrap_next (by omega)],by first | rfl | rw [wrap_next (by omega)],Lib.hid (by have:=hk.out;omega),Lib.hid ⟨by rw [take_nextT HX.out.1];exact HR3.out.2,by simpa using HR3.out.1,HS2.out.2.2.keep HX.out.1 (by simp [hp2.out])⟩⟩
      · obtain rfl:j=l.length:=by omega
        have hn2:¬ (l.length:Int) < l.length:=by omega
        have hlc:(l.length:Int) < 1000000000:=by have:=HL.out.1;omega
        have hil:(i:Int) < l.length:=by omega
        have hcap2:(l.length:Int) ≤ cap:=by have:=HL.out.2;omega
        obtain ⟨hm,hlen⟩:=hJ.out.2.2.done
        have hfz:∀ j,wr.frozen? ⟨g,j,none⟩=false:=by
          obtain ⟨_,_,_,q,_,cells,hcells⟩:=(Kd.R_bound hJ.out.2.1).1 g (by simp [Value.ownBlock])
          intro j
          exact zH hcells j
        have hsome:∀ j,j < (l.length - i) * 4 → (wr.cell? ⟨g,i * 4 + j,none⟩).isSome=true:=by
          intro j hj
          have hq:i * 4 + j=(i + j / 4) * 4 + j % 4:=by
            rw [Nat.add_mul]
            omega
          have hlt2:i + j / 4 < l.length:=by omega
          obtain ⟨c,hcl,-,hcc,-⟩:=Kd.R_elem hJ.out.2.1 z80 ((i + j / 4:Nat):Int) (by omega) (by omega)
          have h5:c.length=4:=hcl
          have h6:=hcc (j % 4) _ (List.getElem?_eq_getElem (by rw [h5];exact Nat.mod_lt _ (by decide)))
          rw [hq]
          have h7:wr.cell? ⟨g,(i + j / 4) * 4 + j % 4,none⟩=_:=h6
          rw [h7]
          rfl
        obtain ⟨L,hL,hclr⟩:=run_clear_sized (P:=Try.prog) wr 57 80 (.agg #[.int .i64 0,.int .i64 0,.int .i64 0,.bool false]) 4 Try.underlying57 (fun _ => rfl) rfl (by decide) (by intro u hu;simp [Value.cells] at hu;rcases hu with rfl | rfl | rfl | rfl <;> rfl) g (i * 4) (l.length - i) (cap - i) (by omega) hsome (fun j _ => hfz _)
        have HZ:=Lib.hid (zM hJ.out (zM hm (zM hlen hL)))
        have HGR:=HG
        clear hJ hm hlen hL hsome hfz HC HG eg
        go_wp2_with fail
        go_ret
        have h1:=(Kd.R_reads' (Kd.R_take HZ.out.1.2.1 (m:=i) (by have:=HZ.out.1.2.2.len;omega))).2.2
        rw [HZ.out.2.1,HZ.out.2.2.1] at h1
        refine ⟨i,rfl,HZ.out.2.2.1.symm,by omega,C_cut (fun _ _ _ _ h => flatK80 h) h1 L,?_⟩
        have h2:=HZ.out.1.1
        rw [List.take_length] at h2
        exact HGR.out _ _ _ h2 (grown_cells _ _ _ _)
set_option maxHeartbeats 1000000 in
theorem deleteFunc_nil_step (fv:Value) (p:S80 → Bool) (I:List S80 → World → Prop) (A:Option Addr) (c:Nat) (w:World)
    (h:Calls Try.prog 99 #[.slice A 0 c,fv] w fun e w' => ∃ r:Int,e=.returned (.int .i64 r)∧FoundT p I [] r w') :
    Calls Try.prog 82 #[.slice A 0 c,fv] w fun e w' => e=.returned (.slice A 0 c)∧I [] w':=by
  have H:=Lib.hid h
  clear h
  go_enter Try.func82,Try.ntmps82
  go_wp2_with fail
  refine H.out.mono ?_
  rintro e w1 ⟨r,rfl,hF⟩
  rcases hF with ⟨rfl,-,hI⟩ | ⟨i,-,hi,-⟩
  · have HI:=Lib.hid hI
    clear hI H
    go_wp2_with fail
    go_ret
    exact ⟨rfl,HI.out⟩
  · simp at hi
set_option maxHeartbeats 2000000 in
theorem grow_nil (n:Nat) (w:World) (hn:n ≤ 1000000) :
    Calls Try.prog 100 #[.slice none 0 0,.int .i64 n] w fun e w' => ∃ A c,e=.returned (.slice A 0 c)∧Kd.R k80 80 w' w.heap.size (fun _ => True) (.slice A 0 c) []∧Below w.heap.size w w':=by
  have hu:=Try.underlying57
  by_cases h0:n=0
  · subst h0
    go_enter Try.func100,Try.ntmps100
    go_wp2_with fail
    go_ret
    exact ⟨none,0,rfl,Kd.R_nil _ _ _ _ _,Below.refl _ _⟩
  · have h1:(0:Int) < n:=by omega
    have h2:¬ (n:Int) < 0:=by omega
    have h3:wrap64 (n:Int)=n:=by unfold wrap64;omega
    have h4:wrap64 ((n:Int) - 0)=n:=by unfold wrap64;omega
    go_enter Try.func100,Try.ntmps100
    go_wp2_with (at_builtin;refine Kd.R_append_zeros k80 (w0:=w) w.heap.size rfl _ _ 57 3 80 _ _ rfl Try.underlying57 Try.underlying3 info80 rfl (by decide) (by decide) (.slice none 0 0) [] z80 (n:Int) (fun _ => True) rfl rfl (k80_mkM _ _ _ z80) (fun _ _ => trivial) (Kd.R_nil _ _ _ _ _) (by omega) (Below.refl _ _) (Nat.le_refl _) (by simp;omega) ?_)
    intro v1 w1 hR hB hg hat
    obtain ⟨A1,c1,rfl⟩:=Kd.R_slice hR
    have hr:=Kd.R_take (m:=0) hR (Nat.zero_le _)
    rw [List.take_zero] at hr
    have HR:=Lib.hid (zM hr hB)
    have hcc:=(Kd.R_reads' hR).2.1
    simp only [List.nil_append,Int.toNat_natCast,List.length_replicate] at hcc ⊢
    clear hR hB hg hat hr
    go_wp2_with fail
    go_ret
    exact ⟨A1,c1,rfl,HR.out.1,HR.out.2⟩
set_option maxHeartbeats 4000000 in
theorem concat_two (g:Nat) (A1 A2:Option Addr) (c1 c2:Nat) (l1 l2:List S80) (w:World) (hK:w.heap[g]?=some (.cells #[.slice A1 l1.length c1,.slice A2 l2.length c2] 57 (0,0))) (h1:Kd.C k80 w A1 l1.length l1) (h2:Kd.C k80 w A2 l2.length l2) (q1:l1.length ≤ 400000) (q2:l2.length ≤ 400000) :
    Calls Try.prog 85 #[.slice (some ⟨g,0,none⟩) 2 2] w fun e w' => ∃ v,e=.returned v∧Kd.R k80 80 w' w.heap.size (fun _ => True) v (l1 ++ l2)∧Below w.heap.size w w':=by
  have hu:=Try.underlying57
  have hu183:=Try.underlying183
  have a0:w.cell? ⟨g,0,none⟩=some (.slice A1 l1.length c1):=zG hK 0
  have a1:w.cell? ⟨g,1,none⟩=some (.slice A2 l2.length c2):=zG hK 1
  have H:=Lib.hid (zM hK (zM h1 (zM h2 (zM q1 q2))))
  have w1:wrap64 (0 + (l1.length:Int))=l1.length:=by unfold wrap64;omega
  have w1':wrap64 (l1.length:Int)=l1.length:=by unfold wrap64;omega
  have w2:wrap64 ((l1.length:Int) + (l2.length:Int))=((l1.length + l2.length:Nat):Int):=by unfold wrap64;omega
  have n1:¬ (l1.length:Int) < 0:=by omega
  have n2:¬ ((l1.length + l2.length:Nat):Int) < 0:=by omega
  clear hK h1 h2 q1 q2
  go_enter Try.func85,Try.ntmps85
  go_wp2_with fail
  go_loopg [3,5,11] 2 (fun kq v3 _ v11 W => W=w∧((kq=2∧v3=.int .i64 0∧v11=.int .i64 0) ∨ (kq=1∧v3=.int .i64 l1.length∧v11=.int .i64 1) ∨ (kq=0∧v3=.int .i64 ((l1.length + l2.length:Nat):Int)∧v11=.int .i64 2)))
  case atStart => exact ⟨rfl,.inl ⟨rfl,rfl,rfl⟩⟩
  case round =>
    obtain ⟨rfl,⟨rfl,rfl,rfl⟩ | ⟨rfl,rfl,rfl⟩ | ⟨rfl,rfl,rfl⟩⟩:=hrel
    · go_wp2_with fail
      go_roundg 1
      case measure => omega
      case rel => exact ⟨rfl,.inr (.inl ⟨rfl,by first | rfl | simp [w1,w1'],rfl⟩)⟩
    · go_wp2_with fail
      go_roundg 0
      case measure => omega
      case rel => exact ⟨rfl,.inr (.inr ⟨rfl,by first | rfl | simp [w2] | (congr 1),rfl⟩)⟩
    · obtain ⟨V,hV⟩:∃ V,V=wr:=⟨_,rfl⟩
      subst hV
      have C:=Lib.hid (grow_nil (l1.length + l2.length) V (by have:=H.out.2.2.2;omega))
      go_wp2_with fail
      refine C.out.mono ?_
      rintro e w4 ⟨A4,c4,rfl,hR4,hB4⟩
      have HL1:Hid (Kd.R k80 80 w4 V.heap.size (fun _ => True) (.slice A4 (([]:List S80)).length c4) []∧Below V.heap.size V w4):=Lib.hid ⟨hR4,hB4⟩
      clear hR4 hB4 C w1 w1' w2 n1 n2 a0 a1
      go_wp2_with fail
      go_loopg [6,8,27] 2 (fun kq v6 _ v27 W => ∃ (j:Nat) (A:Option Addr) (c:Nat) (out:List S80),v6=.slice A out.length c∧v27=.int .i64 j∧Hid (kq + j=2)∧Hid (Kd.R k80 80 W V.heap.size (fun _ => True) (.slice A out.length c) out∧Below V.heap.size V W)∧Hid (out=(if j=0 then [] else if j=1 then l1 else l1 ++ l2)))
      case atStart => exact ⟨0,A4,c4,[],rfl,rfl,by simp [Hid],HL1,Lib.hid rfl⟩
      case round =>
        clear HL1
        obtain ⟨j,A,c,out,rfl,rfl,hj,HJ,HQ⟩:=hrel
        have K:=zE H.out.1 HJ.out.2
        have a0:wr.cell? ⟨g,0,none⟩=some (.slice A1 l1.length c1):=zG K 0
        have a1:wr.cell? ⟨g,1,none⟩=some (.slice A2 l2.length c2):=zG K 1
        clear K
        have hj3:j=0 ∨ j=1 ∨ j=2:=by have:=hj.out;omega
        rcases hj3 with rfl | rfl | rfl
        · go_wp2_with (at_builtin;refine Kd.R_append_rows k80 (w0:=V) (Rr:=k80.K wr) V.heap.size rfl _ _ 57 80 _ _ rfl Try.underlying57 info80 rfl (by decide) (by decide) (.slice A out.length c) out l1 A1 l1.length c1 (fun _ => True) (fun _ => False) rfl rfl HJ.out.1 (Kd.C_below H.out.2.1 HJ.out.2) (fun x cs h => flat80 h _ _) (fun _ h => h.elim) (fun _ _ => trivial) HJ.out.2 HJ.out.2.size ?hl ?_)
          case hl => have h9:=HQ.out;have:=H.out.2.2.2;simp at h9;rw [h9];simp;omega
          intro v2 w5 hR5 hB5 hg5 _
          obtain ⟨A5,c5,rfl⟩:=Kd.R_slice hR5
          generalize ho2:out ++ l1=o2 at *
          have HZ:=Lib.hid (zM hR5 hB5)
          have HO:=Lib.hid ho2
          clear hR5 hB5 hg5 a0 a1 ho2
          go_wp2_with fail
          obtain ⟨k1,rfl⟩:∃ m,gk=m + 1:=⟨gk - 1,by have:=hj.out;omega⟩
          go_roundg k1
          case measure => omega
          case rel => exact ⟨1,A5,c5,o2,rfl,by first | rfl | rw [wrap_next (by omega)],Lib.hid (by have:=hj.out;omega),HZ,Lib.hid (by rw [← HO.out];have h9:=HQ.out;simp at h9;rw [h9];simp)⟩
        · go_wp2_with (at_builtin;refine Kd.R_append_rows k80 (w0:=V) (Rr:=k80.K wr) V.heap.size rfl _ _ 57 80 _ _ rfl Try.underlying57 info80 rfl (by decide) (by decide) (.slice A out.length c) out l2 A2 l2.length c2 (fun _ => True) (fun _ => False) rfl rfl HJ.out.1 (Kd.C_below H.out.2.2.1 HJ.out.2) (fun x cs h => flat80 h _ _) (fun _ h => h.elim) (fun _ _ => trivial) HJ.out.2 HJ.out.2.size ?hl ?_)
          case hl => have h9:=HQ.out;have:=H.out.2.2.2;simp at h9;rw [h9];omega
          intro v2 w5 hR5 hB5 hg5 _
          obtain ⟨A5,c5,rfl⟩:=Kd.R_slice hR5
          generalize ho2:out ++ l2=o2 at *
          have HZ:=Lib.hid (zM hR5 hB5)
          have HO:=Lib.hid ho2
          clear hR5 hB5 hg5 a0 a1 ho2
          go_wp2_with fail
          obtain ⟨k1,rfl⟩:∃ m,gk=m + 1:=⟨gk - 1,by have:=hj.out;omega⟩
          go_roundg k1
          case measure => omega
          case rel => exact ⟨2,A5,c5,o2,rfl,by first | rfl | rw [wrap_next (by omega)],Lib.hid (by have:=hj.out;omega),HZ,Lib.hid (by rw [← HO.out];have h9:=HQ.out;simp at h9;rw [h9];simp)⟩
        · have HO:Hid (out=l1 ++ l2):=Lib.hid (by have h9:=HQ.out;simpa using h9)
          clear a0 a1
          go_wp2_with fail
          go_ret
          exact ⟨_,rfl,by rw [← HO.out];exact HJ.out.1,HJ.out.2⟩
theorem back1_calls (x0 x1 x2:Int) (x3:Bool) (W:World):Calls Try.prog 84 #[.agg #[.int .i64 x0,.int .i64 x1,.int .i64 x2,.bool x3]] W fun e w' => e=.returned (.bool x3)∧Below W.heap.size W w':=by
  have hu:=Try.underlying80
  go_enter Try.func84,Try.ntmps84
  go_wp2
  go_ret
  exact ⟨rfl,bOne _⟩
/-- DeleteFunc of what is written, on a row of one's own. -/
theorem del_writes (l:List S80) (v:Value) (w0 W:World) (hB:Below w0.heap.size w0 W) (hR:Kd.R k80 80 W w0.heap.size (fun _ => True) v l) (hl:l.length ≤ 1000000) :
    Calls Try.prog 82 #[v,.func (.func 84) #[] #[]] W fun e w' => ∃ A c,e=.returned (.slice A (l.filter fun s => !s.f2).length c)∧Kd.C k80 w' A (l.filter fun s => !s.f2).length (l.filter fun s => !s.f2)∧(l.filter fun s => !s.f2).length ≤ c∧Below w0.heap.size w0 w':=by
  by_cases hp:0 < l.length
  · obtain ⟨g,cap,rfl,hg,hgl,-⟩:=Kd.R_form hR hp
    refine (deleteFunc_step 84 #[] (fun s => s.f2) (fun _ V => Below w0.heap.size w0 V) g cap l W w0.heap.size (fun args W => rfl) hR hB (fun pre V V' h hgr => h.grown hgr h.size (fun k hk => by injection hk with hk;omega)) (fun pre x V V1 _ hS hVV hgV => ?_) (by omega)).mono ?_
    · refine (back1_calls x.f0 x.f1.f0 x.f1.f1 x.f2 V1).mono ?_
      rintro e w' ⟨rfl,hb⟩
      have hz:=hVV.size
      exact ⟨rfl,(hS.trans (hVV.mono hS.size)).trans (hb.mono (Nat.le_trans hS.size hz)),hb.block g (by omega),fun k _ h2 => hb.block k h2,hb.size⟩
    · rintro e w' ⟨m,rfl,hm,hmc,hC,hS⟩
      subst hm
      exact ⟨_,_,rfl,hC,hmc,hS⟩
  · have h0:l=[]:=List.eq_nil_of_length_eq_zero (by omega)
    subst h0
    obtain ⟨A,c,rfl⟩:=Kd.R_slice hR
    have hr:=Kd.R_reads' hR
    have hI:=indexFunc_step 84 #[] (fun s => s.f2) (fun _ V => Below W.heap.size W V) A c [] W (fun args W => rfl) (fun pre V h => Kd.C_below hr.2.2 h) (fun pre x V h _ => by simp at h) (Below.refl _ _) (by decide)
    refine (deleteFunc_nil_step _ (fun s => s.f2) _ A c W hI).mono ?_
    rintro e w' ⟨rfl,hb⟩
    exact ⟨A,c,rfl,Kd.C_below hr.2.2 hb,Nat.zero_le _,hB.trans (hb.mono hB.size)⟩
theorem step_info:∃ i,Try.prog.info? 80=some i∧i.size=4:=by
  have h:=info80
  revert h
  cases Try.prog.info? 80 with
  | none => intro h;cases h
  | some i => intro h;exact ⟨i,rfl,(Prod.mk.inj (Prod.mk.inj (Option.some.inj h)).2).1⟩
/-- Back at a place. -/
def backL (l:List S80) (at_:Int):List S80 × Int:=if at_ < 0 ∨ (l.length:Int) < at_ then (l,2) else (l.take at_.toNat ++ (l.drop at_.toNat).filter (fun s => !s.f2),0)
set_option maxHeartbeats 2000000 in
theorem back_calls (A:Option Addr) (c:Nat) (l:List S80) (at_:Int) (w:World) (hC:Kd.C k80 w A l.length l) (hc:l.length ≤ c) (hl:l.length ≤ 400000) :
    Calls Try.prog 62 #[.slice A l.length c,.int .i64 at_] w (Got A w (backL l at_).1 (backL l at_).2):=by
  have hu:=Try.underlying57
  by_cases h1:at_ < 0
  · have hf:backL l at_=(l,2):=by unfold backL;rw [if_pos (.inl h1)]
    rw [hf]
    have HC:=Lib.hid (zM hC hc)
    clear hf hC hc
    go_enter Try.func62,Try.ntmps62
    go_wp2_with fail
    go_ret2
    exact ⟨A,c,rfl,HC.out.1,HC.out.2,Below.refl _ _,.inl rfl⟩
  · by_cases h2:(l.length:Int) < at_
    · have hf:backL l at_=(l,2):=by unfold backL;rw [if_pos (.inr h2)]
      rw [hf]
      have HC:=Lib.hid (zM hC hc)
      clear hf hC hc
      go_enter Try.func62,Try.ntmps62
      go_wp2_with fail
      go_ret2
      exact ⟨A,c,rfl,HC.out.1,HC.out.2,Below.refl _ _,.inl rfl⟩
    · obtain ⟨m,rfl⟩:∃ m:Nat,at_=m:=⟨at_.toNat,by omega⟩
      have hm:m ≤ l.length:=by omega
      have hf:backL l m=(l.take m ++ (l.drop m).filter (fun s => !s.f2),0):=by unfold backL;rw [if_neg (by omega)];rfl
      rw [hf]
      obtain ⟨i,hi,hs⟩:=step_info
      have cF:=cut_from (P:=Try.prog) 57 80 .i64 Try.underlying57 hi 4 hs A l.length c (m:Int) (by omega) (by omega)
      have cT:=cut_to (P:=Try.prog) 57 80 .i64 Try.underlying57 hi A l.length c (m:Int) (by omega) (by omega) hc
      simp only [Int.toNat_natCast] at cF cT
      have hD:Kd.C k80 w (if c=m then A else A.map (·.add (m * 4))) (l.drop m).length (l.drop m):=Kd.C_drop hC hm hc
      have hT:Kd.C k80 w A (l.take m).length (l.take m):=Kd.C_take hC hm
      have e1:l.length - m=(l.drop m).length:=(List.length_drop).symm
      have e2:m=(l.take m).length:=by rw [List.length_take];omega
      have hdl:(l.drop m).length ≤ 400000:=by rw [List.length_drop];omega
      have htl:(l.take m).length ≤ 400000:=by rw [← e2];omega
      rw [e1] at cF
      have cT2:∀ W:World,(Instr.slice 57 (.slice A l.length c) none (some (.int .i64 (m:Int))) none).run Try.prog W=.ok (.slice A (l.take m).length c) W:=fun W => by rw [cT W,← e2]
      generalize (if c=m then A else A.map (·.add (m * 4)))=AD at *
      generalize hdd:l.drop m=d at *
      generalize htt:l.take m=t at *
      generalize hff:d.filter (fun s => !s.f2)=f at *
      have HF:=Lib.hid hff
      have C1:=Lib.hid (clone_step AD (c - m) d w hD (by omega))
      have HT:=Lib.hid (zM hT htl)
      have HD:=Lib.hid hdl
      clear hf hi hs hC hD hT e1 e2 cT hdd htt hdl htl hff i
      go_enter Try.func62,Try.ntmps62
      go_wp2_with fail
      refine C1.out.mono ?_
      rintro e w1 ⟨v,rfl,hR,hB⟩
      have C2:=del_writes d v w w1 hB hR (by have:=HD.out;omega)
      rw [HF.out] at C2
      replace C2:=Lib.hid C2
      clear hR hB C1 cF
      go_wp2_with fail
      refine C2.out.mono ?_
      rintro e w2 ⟨A2,c2,rfl,hC2,hc2,hB2⟩
      obtain ⟨W3,hW3,K3,hB3⟩:=alz w2 #[.slice A t.length c,.slice A2 f.length c2] 57
      have C3:=Lib.hid (concat_two w2.heap.size A A2 c c2 t f W3 K3 (Kd.C_below HT.out.1 (bAfter hB2 hB3)) (Kd.C_below hC2 hB3) HT.out.2 (by rw [← HF.out];have:=HD.out;have:=List.length_filter_le (fun s:S80 => !s.f2) d;omega))
      have HB:=Lib.hid (bAfter hB2 hB3)
      clear hC2 hc2 hB2 K3 hB3 C2
      go_wp2_with fail
      refine C3.out.mono ?_
      rintro e w4 ⟨v4,rfl,hR4,hB4⟩
      obtain ⟨A4,c4,rfl⟩:=Kd.R_slice hR4
      have hr:=Kd.R_reads' hR4
      have hnew:∀ ad,A4=some ad → w.heap.size ≤ ad.block:=fun ad h => by
        subst h
        have h1:=Kd.R_base hR4 ad.block (by simp [Value.ownBlock])
        have h2:=HB.out.size
        omega
      have HR:=Lib.hid (zM hr.2.2 (zM hr.2.1 (zM (bAfter HB.out hB4) hnew)))
      clear hR4 hr hB4 C3
      go_wp2_with fail
      go_ret2
      exact ⟨A4,c4,by rw [List.length_append];rfl,HR.out.1,HR.out.2.1,HR.out.2.2.1,.inr HR.out.2.2.2⟩
open Go.RowKit Go.Lib Go.Shelf Go.Proofs.Ytgnjkegnddekeaa Go.Proofs.YtgnjkegnddekeaaW.PrintWords Go.Proofs.YtgnjkegnddekeaaW.PrintLast Go.Proofs.YtgnjkegnddekeaaW.PrintMore
attribute [local go_sem] Oper.semAt_some
/-- What a round keeps: all below a place, and one box. -/
def KB (n0 Bs:Nat) (A B:World):Prop:=Below n0 A B∧(Bs < A.heap.size → B.heap[Bs]?=A.heap[Bs]?)
theorem KB.refl (n0 Bs:Nat) (A:World):KB n0 Bs A A:=⟨Below.refl _ _,fun _ => rfl⟩
theorem KB.trans {n0 Bs:Nat} {A B C:World} (h:KB n0 Bs A B) (k:KB n0 Bs B C):KB n0 Bs A C:=⟨h.1.trans k.1,fun hb => (k.2 (by have:=h.1.size;omega)).trans (h.2 hb)⟩
/-- Backwards, with the places. -/
def rz (zs:List S80):List (Nat × S80):=(List.range zs.length).map fun j => (zs.length - 1 - j,zs.getD (zs.length - 1 - j) z80)
theorem rz_len (zs:List S80):(rz zs).length=zs.length:=by simp [rz]
theorem rz_take (zs:List S80) {k:Nat} (hk:k < zs.length):(rz zs).take (k + 1)=(rz zs).take k ++ [(zs.length - 1 - k,zs.getD (zs.length - 1 - k) z80)]:=by
  rw [List.take_add_one]
  congr 1
  simp [rz,hk]
abbrev encP (x:Nat × S80):Array Value:=#[.int .i64 (x.1:Int),.agg #[.int .i64 x.2.f0,.int .i64 x.2.f1.f0,.int .i64 x.2.f1.f1,.bool x.2.f2]]
set_option maxRecDepth 100000 in
set_option maxHeartbeats 4000000 in
theorem backward1_in (n:Nat) (hn:1 ≤ n) (l Bs c:Nat) (A:Option Addr) (zs:List S80) (V W:World) (hV:Below V.heap.size V W) (hC:Kd.C k80 V A zs.length zs) (hB:W.heap[Bs]?=some (.cells #[.slice A zs.length c] 57 (0,0))) (hz:zs.length ≤ 1000000)
    (J Jx:List (Nat × S80) → World → Prop)
    (hY:∀ pre x W1,J pre W1 → pre.length < zs.length → YieldAt Fence.wide (n - 1) Try.prog l (encP x) W1 fun e W' =>
      (e=.returned (.bool true)∧J (pre ++ [x]) W'∧KB V.heap.size Bs W1 W') ∨ (e=.returned (.bool false)∧Jx (pre ++ [x]) W')) (h0:J [] W) :
    CallsIn Fence.wide n Try.prog 66 #[.func (.yield l) #[] #[],.pointer (some ⟨Bs,0,none⟩)] W fun e W' => (∃ v,e=.returned v)∧((∃ ys,ys=rz zs∧J ys W') ∨ (∃ pre,(∃ k,k ≤ zs.length∧pre=(rz zs).take k)∧Jx pre W')):=by
  have hu:=Try.underlying80
  have hu57:=Try.underlying57
  have b0:W.cell? ⟨Bs,0,none⟩=some (.slice A zs.length c):=zG hB 0
  have H:=Lib.hid (zM hV (zM hC (zM hB hz)))
  have HY:=Lib.hid hY
  have hwl:wrap64 ((zs.length:Int) - 1)=(zs.length:Int) - 1:=by unfold wrap64;omega
  clear hV hC hB hz hY
  refine callsIn_of_wp Try.func66 rfl trivial ?_ rfl
  simp only [Try.ntmps66,List.size_toArray,List.length_cons,List.length_nil,Nat.reduceAdd,Nat.reduceSub,Array.replicate_succ,Array.replicate_zero,List.push_toArray,List.append_toArray,List.nil_append,List.cons_append]
  gi_wp2
  simp only [hwl]
  gi_loopw [3] (fun i wr => ∃ k:Nat,k ≤ zs.length∧i=.int .i64 ((zs.length:Int) - 1 - k)∧Hid (J ((rz zs).take k) wr∧KB V.heap.size Bs W wr))
    (fun i _ => (intOf i + 1).toNat)
  case atStart => exact ⟨0,Nat.zero_le _,by simp,Lib.hid ⟨by simpa using h0,KB.refl _ _ _⟩⟩
  case round =>
    obtain ⟨k,hk,rfl,hJ⟩:=hrel
    have hb:=(hJ.out.2.2 (blk_lt H.out.2.2.1)).trans H.out.2.2.1
    have b0:wr.cell? ⟨Bs,0,none⟩=some (.slice A zs.length c):=zG hb 0
    have HB:=Lib.hid hb
    clear hb
    by_cases hlt:k < zs.length
    · obtain ⟨i,hi⟩:∃ i:Nat,i=zs.length - 1 - k:=⟨_,rfl⟩
      have hiv:(zs.length:Int) - 1 - k=i:=by omega
      have hi0:(0:Int) ≤ i:=by omega
      have hil:(i:Int) < zs.length:=by omega
      have hw1:wrap64 ((i:Int) - 1)=(i:Int) - 1:=by have:=H.out.2.2.2;unfold wrap64;omega
      have hCw:=Kd.C_below H.out.2.1 (H.out.1.trans hJ.out.2.1)
      obtain ⟨ad,hA,a0,a1,a2,a3⟩:=at_T80 hCw (i:Int) hi0 hil
      subst hA
      obtain ⟨fn,tmps,assign,body,hy,hR⟩:=HY.out _ (i,rd_T80 zs i) wr hJ.out.1 (by rw [List.length_take,rz_len];omega)
      have hx:rd_T80 zs (i:Int)=zs.getD (zs.length - 1 - k) z80:=by unfold rd_T80;rw [Int.toNat_natCast,hi]
      have HT:=Lib.hid (show (rz zs).take (k + 1)=(rz zs).take k ++ [(i,rd_T80 zs i)] by rw [rz_take zs hlt,hx,hi])
      have HR:=Lib.hid hR
      rw [hiv]
      unfold encP at hy
      try dsimp only at hy
      generalize rd_T80 zs (i:Int)=x at *
      simp only [Int.toNat_natCast] at a0 a1 a2 a3
      have HI:=Lib.hid (zM hiv (zM hlt hi))
      clear hCw hiv hi hR hx hlt
      gi_wp2
      refine HR.out.mono ?_
      rintro e W3 (⟨rfl,hJ3,hk3⟩ | ⟨rfl,hJx3⟩)
      · have HN:=Lib.hid (zM hJ3 (hJ.out.2.trans hk3))
        clear hJ3 hk3
        gi_wp2
        go_roundw
        case rel => exact ⟨k + 1,by have:=HI.out.2.1;omega,by first | rfl | (rw [hw1];congr 1;have:=HI.out.1;omega) | (congr 1;have:=HI.out.1;omega),Lib.hid ⟨by rw [HT.out];exact HN.out.1,HN.out.2⟩⟩
        case measure => simp [intOf];omega
      · have HN:=Lib.hid hJx3
        clear hJx3
        gi_wp2
        refine bodyPost_ret (results_none rfl _ _ _) rfl ?_
        exact ⟨⟨_,rfl⟩,.inr ⟨_,⟨k + 1,by have:=HI.out.2.1;omega,HT.out.symm⟩,HN.out⟩⟩
    · obtain rfl:k=zs.length:=by omega
      have hm:(zs.length:Int) - 1 - zs.length=-1:=by omega
      rw [hm]
      gi_wp2
      go_end0
      exact ⟨⟨_,rfl⟩,.inl ⟨_,rfl,by have:=hJ.out.1;rwa [← rz_len zs,List.take_length] at this⟩⟩
theorem backward_calls (A:Option Addr) (m c:Nat) (w:World) :
    Calls Try.prog 43 #[.slice A m c] w fun e w' => e=.returned (.func (.func 66) #[] #[.pointer (some ⟨w.heap.size,0,none⟩)])∧w'=w.alloc (.cells #[.slice A m c] 57):=by
  go_enter Try.func43,Try.ntmps43
  go_wp2
  go_ret
  exact ⟨rfl,rfl⟩
theorem backward_stops (n:Nat) (hn:1 ≤ n) (Bs c:Nat) (A:Option Addr) (zs:List S80) (V w0:World) (hV:Below V.heap.size V w0) (hC:Kd.C k80 V A zs.length zs) (hB:w0.heap[Bs]?=some (.cells #[.slice A zs.length c] 57 (0,0))) (hz:zs.length ≤ 1000000) :
    SeqStopsK Fence.wide n Try.prog 66 #[.pointer (some ⟨Bs,0,none⟩)] encP (KB V.heap.size Bs) (fun ys => ys=rz zs) (fun pre => ∃ k,k ≤ zs.length∧pre=(rz zs).take k) zs.length w0:=fun l J Jx W hW _ _ hY h0 =>
  backward1_in n hn l Bs c A zs V W (hV.trans (hW.mono hV.size)) hC ((hW.block Bs (blk_lt hB)).trans hB) hz J Jx hY h0
theorem KB.put {n0 Bs:Nat} {W:World} (l:Nat) (o o':Obj) (hn:n0 ≤ l) (hb:Bs < l) (h:W.heap[l]?=some o) (hc:o.isCells=false) (hw:o.isWalk=false):KB n0 Bs W (W.putObj l o') :=
  ⟨(Below.refl n0 W).grown (grownBy_putObj' W l o') (by have:=(Array.getElem?_eq_some_iff.1 h).1;omega) (fun k e => by cases e;omega),
    fun hb2 => ((Below.refl (Bs + 1) W).grown (grownBy_putObj' W l o') (by have:=(Array.getElem?_eq_some_iff.1 h).1;omega) (fun k e => by cases e;omega)).block Bs (Nat.lt_succ_self _)⟩
/-- A block of cells is left as it is by the turns of loops. -/
theorem own_cells {β:Type} (B b:Nat) (o:β → Obj) (ho:∀ s,(o s).isCells=true):OwnFrom B (fun (s:β) (W:World) => W.heap[b]?=some (o s)):=fun s X Y row hs hg hr =>
  (hg.block b (blk_lt hs) (fun e => by obtain ⟨_,o',h1,h2⟩:=hr b e.symm;rw [hs] at h1;cases h1;rw [ho s] at h2;cases h2)).trans hs
end Go.Proofs.Ytgnjkegnddekeaa.Q
namespace Go.Proofs.Ytgnjkegnddekeaa.Q
open Go.RowKit Go.Lib Go.Shelf Go.Proofs.Ytgnjkegnddekeaa Go.Proofs.YtgnjkegnddekeaaW.PrintWords Go.Proofs.YtgnjkegnddekeaaW.PrintLast Go.Proofs.YtgnjkegnddekeaaW.PrintMore
set_option linter.unusedVariables false
set_option maxRecDepth 100000
set_option linter.unusedSimpArgs false
attribute [local go_sem] Oper.semAt_some
/-- What is found, backwards. -/
def lookR (x:Int):List (Nat × S80) → S32 × Bool → S32 × Bool
  | [],st => st
  | p :: r,st => if p.2.f0=x then (if p.2.f2=true then (p.2.f1,true) else lookR x r (p.2.f1,true)) else lookR x r st
def lookL (l:List S80) (x:Int):S32 × Bool:=lookR x (rz l) (z32,false)
/-- No write of the variable among these. -/
def noW (x:Int) (l:List (Nat × S80)):Prop:=∀ p ∈ l,p.2.f0=x → p.2.f2=false
theorem noW_app {x:Int} {l:List (Nat × S80)} {p:Nat × S80} (h:noW x l) (k:p.2.f0=x → p.2.f2=false):noW x (l ++ [p]):=fun q hq => by
  rcases List.mem_append.1 hq with h1 | h1
  · exact h q h1
  · cases List.mem_singleton.1 h1;exact k
theorem lookR_app {x:Int} {r:List (Nat × S80)}:∀ {l:List (Nat × S80)} {st:S32 × Bool},noW x l → lookR x (l ++ r) st=lookR x r (lookR x l st)
  | [],st,_ => rfl
  | p :: l,st,h => by
    have hl:noW x l:=fun q hq => h q (List.mem_cons_of_mem _ hq)
    rw [List.cons_append,lookR,lookR]
    by_cases h1:p.2.f0=x
    · have h2:=h p List.mem_cons_self h1
      rw [if_pos h1,if_pos h1,if_neg (by rw [h2];decide),if_neg (by rw [h2];decide)]
      exact lookR_app hl
    · rw [if_neg h1,if_neg h1]
      exact lookR_app hl
abbrev valC (v:S32):Obj:=.cells #[.int .i64 v.f0,.int .i64 v.f1] 32 (0,0)
abbrev boolC (b:Bool):Obj:=.cells #[.bool b] 4 (0,0)
abbrev stepC (s:S80):Obj:=.cells #[.int .i64 s.f0,.int .i64 s.f1.f0,.int .i64 s.f1.f1,.bool s.f2] 80 (0,0)
/-- A value and a bool are put into their boxes. -/
theorem look_put {W:World} {N:Nat} {o:Obj} {v v':S32} {b b':Bool} (c0:W.heap[N]?=some o) (c1:W.heap[N + 1]?=some (valC v)) (c2:W.heap[N + 1 + 1]?=some (boolC b)) {W':World}
    (e:((W.setCell ⟨N + 1,0,none⟩ (.int .i64 v'.f0)).setCell ⟨N + 1,1,none⟩ (.int .i64 v'.f1)).setCell ⟨N + 1 + 1,0,none⟩ (.bool b')=W') :
    W'.heap[N]?=some o∧W'.heap[N + 1]?=some (valC v')∧W'.heap[N + 1 + 1]?=some (boolC b')∧KeepsOthers W W'∧KB N (N + 1 + 1 + 1) W W':=by
  subst e
  refine ⟨?_,?_,?_,?_,?_,?_⟩
  · rw [Below.heap_setCell _ _ _ _ (by show N ≠ N + 1 + 1;omega),Below.heap_setCell _ _ _ _ (by show N ≠ N + 1;omega),Below.heap_setCell _ _ _ _ (by show N ≠ N + 1;omega)];exact c0
  · rw [Below.heap_setCell _ _ _ _ (by show N + 1 ≠ N + 1 + 1;omega)]
    exact blk_put (blk_put c1 0 _ rfl) 1 _ rfl
  · refine blk_put (cs:=#[.bool b]) ?_ 0 _ rfl
    rw [Below.heap_setCell _ _ _ _ (by show N + 1 + 1 ≠ N + 1;omega),Below.heap_setCell _ _ _ _ (by show N + 1 + 1 ≠ N + 1;omega)];exact c2
  · exact ((KeepsOthers.setCell _ _ _).trans (KeepsOthers.setCell _ _ _)).trans (KeepsOthers.setCell _ _ _)
  · exact (((Below.refl N W).setCell (p:=⟨N + 1,0,none⟩) (by show N ≤ N + 1;omega) _).setCell (p:=⟨N + 1,1,none⟩) (by show N ≤ N + 1;omega) _).setCell (p:=⟨N + 1 + 1,0,none⟩) (by show N ≤ N + 1 + 1;omega) _
  · intro _
    rw [Below.heap_setCell _ _ _ _ (by show N + 1 + 1 + 1 ≠ N + 1 + 1;omega),Below.heap_setCell _ _ _ _ (by show N + 1 + 1 + 1 ≠ N + 1;omega),Below.heap_setCell _ _ _ _ (by show N + 1 + 1 + 1 ≠ N + 1;omega)]
/-- A result of two boxes: a struct, and a value of one cell. -/
theorem results_c1c {P:Program} {fn:Func} {p q:Tmp} {ty ty':TypeId} (h:fn.results=#[.cell p ty,.cell q ty']) (tmps:Array Value) (w:World) (g g':Nat) (t t':TypeId) (cs:Array Value) (v:Value) (fr fr':Nat × Nat) (d:TypeDesc)
    (hp:tmps.getD p undef=.pointer (some ⟨g,0,none⟩)) (hg:w.heap[g]?=some (.cells cs t fr))
    (hu:P.underlying ty=some d) (hd:(match d with | .struct _ | .array _ _ => true | _ => false)=true) (hi:(P.info? ty).map (·.size)=some cs.size)
    (hp':tmps.getD q undef=.pointer (some ⟨g',0,none⟩)) (hg':w.cell? ⟨g',0,none⟩=some v)
    (hu':P.underlying ty'=some .bool) :
    (results fn tmps).run P w=.ok (.tuple #[.agg cs,v]) w:=by
  have h1:tmps[p]?.getD undef=.pointer (some ⟨g,0,none⟩):=by simpa using hp
  have h2:tmps[q]?.getD undef=.pointer (some ⟨g',0,none⟩):=by simpa using hp'
  have hl:(loadVar ty' ⟨g',0,none⟩).run P w=.ok v w:=by simp [run_isAgg_plain hu' rfl,go_sem,hg']
  simp [results,h,h1,h2,asAddr,run_loadVar_row w g t ty cs fr d hg hu hd hi,hl]
set_option maxRecDepth 100000 in
set_option maxHeartbeats 4000000 in
theorem look_in (n:Nat) (hn:3 ≤ n) (A:Option Addr) (c:Nat) (l:List S80) (x:Int) (w:World) (hC:Kd.C k80 w A l.length l) (hz:l.length ≤ 1000000) :
    CallsIn Fence.wide n Try.prog 79 #[.slice A l.length c,.int .i64 x] w fun e W' => e=.returned (.tuple #[.agg #[.int .i64 (lookL l x).1.f0,.int .i64 (lookL l x).1.f1],.bool (lookL l x).2])∧Below w.heap.size w W':=by
  have hu:=Try.underlying80
  have hu57:=Try.underlying57
  have hu32:=Try.underlying32
  have h1:1 ≤ n:=by omega
  refine callsIn_of_wp_marks Try.func79 rfl trivial ?_ rfl
  simp only [Try.ntmps79,List.size_toArray,List.length_cons,List.length_nil,Nat.reduceAdd,Nat.reduceSub,Array.replicate_succ,Array.replicate_zero,List.push_toArray,List.append_toArray,List.nil_append,List.cons_append]
  gi_wp2_with (refine ⟨trivial,?_⟩;gi_at_call 43;refine (CallsIn.mono (callsIn_wide.2 (backward_calls A l.length c _)) ?_);rintro e w' ⟨rfl,rfl⟩)
  have k0:=heap_alloc_new w (.cells #[.int .i64 x] 3)
  obtain ⟨W0, hW0, b0, b1, b2, b3, hB0, hsz⟩ : ∃ W0, (((w.alloc (.cells #[.int .i64 x] 3)).alloc (.cells #[.int .i64 0, .int .i64 0] 32)).alloc (.cells #[.bool false] 4)).alloc (.cells #[.slice A l.length c] 57) = W0 ∧
      W0.heap[w.heap.size]?=some (.cells #[.int .i64 x] 3 (0,0))∧W0.heap[w.heap.size + 1]?=some (valC z32)∧W0.heap[w.heap.size + 1 + 1]?=some (boolC false)∧W0.heap[w.heap.size + 1 + 1 + 1]?=some (.cells #[.slice A l.length c] 57 (0,0))∧Below w.heap.size w W0∧W0.heap.size=w.heap.size + 4:=by
    obtain ⟨V,rfl,h1,h2,h3,h4,h5⟩:=three_named w (.cells #[.int .i64 x] 3) (.cells #[.int .i64 0,.int .i64 0] 32) (.cells #[.bool false] 4)
    refine ⟨_,rfl,?_,?_,?_,?_,h4.alloc (by simp;omega) _,by simp⟩
    · exact (heap_alloc_old _ _ (by simp;omega)).trans h1
    · exact (heap_alloc_old _ _ (by simp)).trans h2
    · exact (heap_alloc_old _ _ (by simp)).trans h3
    · have:=heap_alloc_new (((w.alloc (.cells #[.int .i64 x] 3)).alloc (.cells #[.int .i64 0,.int .i64 0] 32)).alloc (.cells #[.bool false] 4)) (.cells #[.slice A l.length c] 57)
      simp only [World.size_alloc] at this
      exact this
  rw [hW0]
  clear hW0 k0
  have hCW:=Kd.C_below hC hB0
  refine wpIn_rangeFunc_ownH rfl h1 (gf:=66) (lb:=#[.pointer (some ⟨w.heap.size + 1 + 1 + 1,0,none⟩)]) rfl trivial (enters_of Try.func66 (by kernel_rfl) rfl)
    (backward_stops (n - 1) (by omega) (w.heap.size + 1 + 1 + 1) c A l w W0 hB0 hC b3 hz) KB.trans (fun W l o o' hl h hc hw => KB.put l o o' (by omega) (by omega) h hc hw) (Below.refl _ _) (fun _ => rfl)
    (fun pre W => ((noW x pre∧W.heap[w.heap.size]?=some (.cells #[.int .i64 x] 3 (0,0)))∧(W.heap[w.heap.size + 1]?=some (valC (lookR x pre (z32,false)).1)∧W.heap[w.heap.size + 1 + 1]?=some (boolC (lookR x pre (z32,false)).2)))∧Below w.heap.size w W)
    (fun c pre W => (c=.ret∧∃ ini last,pre=ini ++ [last]∧noW x ini∧last.2.f0=x∧last.2.f2=true∧W.heap[w.heap.size + 1]?=some (valC last.2.f1)∧W.heap[w.heap.size + 1 + 1]?=some (boolC true))∧Below w.heap.size w W)
    (OwnFrom.and (OwnFrom.and (OwnFrom.and (fun s A B row hs hg hr => hs) (own_cells _ _ (fun _ => .cells #[.int .i64 x] 3 (0,0)) fun _ => rfl)) (OwnFrom.and (own_cells _ _ (fun pre => valC (lookR x pre (z32,false)).1) fun _ => rfl) (own_cells _ _ (fun pre => boolC (lookR x pre (z32,false)).2) fun _ => rfl))) (ownFrom_below (Nat.le_refl _) (by omega)))
    (fun c => OwnFrom.and (fun s A B row hs hg hr => by
      obtain ⟨hc,ini,last,e1,e2,e3,e4,e5,e6⟩:=hs
      exact ⟨hc,ini,last,e1,e2,e3,e4,own_cells W0.heap.size _ (fun _:Unit => valC last.2.f1) (fun _ => rfl) () A B row e5 hg hr,own_cells W0.heap.size _ (fun _:Unit => boolC true) (fun _ => rfl) () A B row e6 hg hr⟩) (ownFrom_below (Nat.le_refl _) (by omega)))
    ⟨⟨⟨(fun p hp => by cases hp),b0⟩,b1,b2⟩,hB0⟩
    (fun y a' W => ∃ Bx,w.heap.size + 1 + 1 < Bx∧W.heap[Bx]?=some (stepC y.2)∧a'={ tmps:=#[.slice A l.length c,.int .i64 x,undef,.pointer (some ⟨w.heap.size,0,none⟩),.pointer (some ⟨w.heap.size + 1,0,none⟩),.pointer (some ⟨w.heap.size + 1 + 1,0,none⟩),undef,.pointer (some ⟨Bx,0,none⟩),.slice A l.length c,.func (.func 66) #[] #[.pointer (some ⟨w.heap.size + 1 + 1 + 1,0,none⟩)],.int .i64 (y.1:Int),.agg #[.int .i64 y.2.f0,.int .i64 y.2.f1.f0,.int .i64 y.2.f1.f1,.bool y.2.f2],undef,undef,undef,undef,undef,undef,undef,undef,undef,undef,undef,undef,undef,undef],defers:=[] })
    (fun y a' _ X Y row hs hg hr => by obtain ⟨Bx,h1,h2,h3⟩:=hs;exact ⟨Bx,h1,own_cells W0.heap.size Bx (fun _:Unit => stepC y.2) (fun _ => rfl) () X Y row h2 hg hr,h3⟩)
    ?assign ?body ?done ?stop
  case assign =>
    rintro ll pre y W K hI hK
    have HK:=Lib.hid hK
    clear hK
    gi_wp2
    refine HK.out _ _ ((KeepsOthers.alloc _ _).from _) ⟨(Below.refl _ W).alloc hI.2.size _,fun hb => heap_alloc_old _ _ hb⟩ ⟨⟨⟨hI.1.1.1,(heap_alloc_old _ _ (blk_lt hI.1.1.2)).trans hI.1.1.2⟩,(heap_alloc_old _ _ (blk_lt hI.1.2.1)).trans hI.1.2.1,(heap_alloc_old _ _ (blk_lt hI.1.2.2)).trans hI.1.2.2⟩,hI.2.alloc hI.2.size _⟩ ⟨W.heap.size,?_,?_,rfl⟩
    · have:=hI.2.size
      have:=blk_lt hI.1.2.2
      omega
    · exact heap_alloc_new _ _
  case body =>
    rintro ll pre y a' W hl ⟨r,hr⟩ ⟨⟨⟨hn0,c0⟩,c1,c2⟩,hB⟩ ⟨Bx,hBx,bX,rfl⟩ hlt
    have d0:=zG c0 0
    have d1:=zG c1 0
    have d1':=zG c1 1
    have d2:=zG c2 0
    have x0:=zG bX 0
    have x1:=zG bX 1
    have x2:=zG bX 2
    have x3:=zG bX 3
    have f1:=zH c1 0
    have f1':=zH c1 1
    have f2:=zH c2 0
    have LP:=fun (v':S32) (b':Bool) => Lib.hid (fun W' e => look_put (v':=v') (b':=b') (W':=W') c0 c1 c2 e)
    have HB:=Lib.hid (zM hB hn0)
    have HK:=Lib.hid (zM c0 (zM c1 c2))
    clear c0 c1 c2 bX hB hn0
    by_cases hx:y.2.f0=x
    · by_cases hw:y.2.f2=true
      · gi_wp2
        obtain ⟨-,k1,k2,k3,k4⟩:=(LP y.2.f1 true).out _ rfl
        exact ⟨k3.from _,⟨rfl,pre,y,rfl,HB.out.2,hx,hw,k1,k2⟩,HB.out.1.trans k4.1⟩
      · gi_wp2
        obtain ⟨k0,k1,k2,k3,k4⟩:=(LP y.2.f1 true).out _ rfl
        exact ⟨k3.from _,k4,⟨⟨noW_app HB.out.2 fun _ => by simpa using hw,k0⟩,by rw [lookR_app HB.out.2,lookR,if_pos hx,if_neg hw];exact k1,by rw [lookR_app HB.out.2,lookR,if_pos hx,if_neg hw];exact k2⟩,HB.out.1.trans k4.1⟩
    · have hx':(y.2.f0 != x)=true:=by simpa using hx
      gi_wp2
      exact ⟨KeepsFrom.refl _ _,KB.refl _ _ _,⟨⟨noW_app HB.out.2 fun h => absurd h hx,HK.out.1⟩,by rw [lookR_app HB.out.2,lookR,if_neg hx];exact HK.out.2.1,by rw [lookR_app HB.out.2,lookR,if_neg hx];exact HK.out.2.2⟩,HB.out.1⟩
  case done =>
    rintro D ys W hD rfl ⟨⟨⟨hn0,c0⟩,c1,c2⟩,hB⟩ hK
    have d1:=zG c1 0
    have d1':=zG c1 1
    have d2:=zG c2 0
    have f1:=zH c1 0
    have f1':=zH c1 1
    have f2:=zH c2 0
    have LP:=fun (v':S32) (b':Bool) => Lib.hid (fun W' e => look_put (v':=v') (b':=b') (W':=W') c0 c1 c2 e)
    have HB:=Lib.hid (zM hB (zM hK (zM hD hsz)))
    clear c0 c1 c2 hB hn0 hK hD
    gi_wp2
    gi_region
    obtain ⟨k0,k1,k2,k3,k4⟩:=(LP (lookR x (rz l) (z32,false)).1 (lookR x (rz l) (z32,false)).2).out _ rfl
    have hK:=k3.same _ _ HB.out.2.1 rfl
    have HL:=Lib.hid (zM k1 (zM k2 (zM hK (HB.out.1.trans k4.1))))
    clear k0 k1 k2 k3 k4 hK
    generalize ((W.setCell ⟨w.heap.size + 1,0,none⟩ (.int .i64 (lookR x (rz l) (z32,false)).1.f0)).setCell ⟨w.heap.size + 1,1,none⟩ (.int .i64 (lookR x (rz l) (z32,false)).1.f1)).setCell ⟨w.heap.size + 1 + 1,0,none⟩ (.bool (lookR x (rz l) (z32,false)).2)=W1 at *
    have hK:W1.drew.heap[D]?=some (.deferred (some [])):=HL.out.2.2.1
    gi_wp2
    refine ⟨by simp,.inl ⟨_,_,rfl,run_takeDeferred hK,?_⟩⟩
    have hg:=grownBy_putObj' W1.drew D (.deferred none)
    have hD:=HB.out.2.2.1
    have hsz:=HB.out.2.2.2
    refine ⟨_,results_c1c rfl _ _ (w.heap.size + 1) (w.heap.size + 1 + 1) 32 4 #[.int .i64 (lookR x (rz l) (z32,false)).1.f0,.int .i64 (lookR x (rz l) (z32,false)).1.f1] (.bool (lookR x (rz l) (z32,false)).2) (0,0) (0,0) _ rfl (blk_grown (blk_drew HL.out.1) hg (by intro h;injection h with h;omega)) hu32 rfl (by kernel_rfl) rfl (zG (blk_grown (blk_drew HL.out.2.1) hg (by intro h;injection h with h;omega)) 0) (by kernel_rfl),rfl,HL.out.2.2.2.trans (((Below.refl _ _).drew).grown hg HL.out.2.2.2.size (fun k e => by injection e with e;omega))⟩
  case stop =>
    rintro D cc pre W hD ⟨k,hk,rfl⟩ ⟨⟨rfl,ini,last,e1,e2,e3,e4,c1,c2⟩,hB⟩ hK
    have hL:lookL l x=(last.2.f1,true):=by
      unfold lookL
      rw [← List.take_append_drop k (rz l),e1,List.append_assoc,lookR_app e2,List.cons_append,lookR,if_pos e3,if_pos e4]
    gi_wp2
    refine ⟨by simp,.inl ⟨_,_,rfl,run_takeDeferred hK,?_⟩⟩
    have hg:=grownBy_putObj' W D (.deferred none)
    refine ⟨_,results_c1c rfl _ _ (w.heap.size + 1) (w.heap.size + 1 + 1) 32 4 #[.int .i64 last.2.f1.f0,.int .i64 last.2.f1.f1] (.bool true) (0,0) (0,0) _ rfl (blk_grown c1 hg (by intro h;injection h with h;omega)) hu32 rfl (by kernel_rfl) rfl (zG (blk_grown c2 hg (by intro h;injection h with h;omega)) 0) (by kernel_rfl),by rw [hL],hB.trans ((Below.refl _ _).grown hg hB.size (fun k e => by injection e with e;omega))⟩
theorem look_calls (A:Option Addr) (c:Nat) (l:List S80) (x:Int) (w:World) (hC:Kd.C k80 w A l.length l) (hz:l.length ≤ 1000000) :
    Calls Try.prog 79 #[.slice A l.length c,.int .i64 x] w fun e W' => e=.returned (.tuple #[.agg #[.int .i64 (lookL l x).1.f0,.int .i64 (lookL l x).1.f1],.bool (lookL l x).2])∧Below w.heap.size w W' :=
  callsIn_wide.1 (look_in 3 (Nat.le_refl _) A c l x w hC hz)
end Go.Proofs.Ytgnjkegnddekeaa.Q
