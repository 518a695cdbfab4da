/- A place in a block, in memory; the small methods of a step. By hand. -/
import Derived.Test.YtgnjkegnddekeaaXQ0
import Derived.Deep.LoopGhost
import Derived.WalkKit
import Derived.BigQuiet
import Derived.WalkLawsBesides
import Derived.Test.YtgnjkegnddekeaaXMem
import Derived.Lib.Hide
import Derived.Test.YtgnjkegnddekeaaXGrowR
open List renaming setIfInBounds_toArray → zJ, set_cons_zero → zK, set_cons_succ → zL
open And renaming intro → zM
namespace Go.Proofs.Ytgnjkegnddekeaa.Q
open Go.RowKit Go.Lib Go.Proofs.Ytgnjkegnddekeaa Go.Proofs.YtgnjkegnddekeaaW.PrintWords Go.Proofs.YtgnjkegnddekeaaW.PrintLast Go.Proofs.YtgnjkegnddekeaaW.PrintMore
set_option linter.unusedVariables false
set_option linter.unusedSimpArgs false
/-- It gives up with an ending. -/
def gave (e:Int):Ending:=.panicked [{ v:=.iface 91 (.int .i64 e),recovered:=false }]
set_option maxRecDepth 100000 in
theorem give_calls (e:Int) (W:World):Calls Try.prog 51 #[.int .i64 e] W fun x w' => x=gave e∧w'=W:=by
  go_enter Try.func51,Try.ntmps51
  go_wp2
  exact ⟨rfl,rfl,rfl⟩
/-- A core of a step in memory: its own block, and where it stands. -/
abbrev ptr (b:Nat):Value:=.pointer (some ⟨b,0,none⟩)
structure Core (W:World) (kb cb:Nat) (o:S74) (vars:Int) (rs:List S32):Prop where
  hk:W.heap[kb]?=some (.cells #[ptr cb,.int .i64 o.f0,.int .i64 o.f1,.int .i64 o.f2,.int .i64 o.f3,.int .i64 o.f4,.int .i64 vars] 95 (0,0))
  len:rs.length=8
  reg:∀ (r:Nat) (v:S32),rs[r]?=some v → W.cell? ⟨cb,2 + r * 2,none⟩=some (.int .i64 v.f0)∧W.cell? ⟨cb,2 + r * 2 + 1,none⟩=some (.int .i64 v.f1)
  ne:kb ≠ cb
  lt:cb < W.heap.size
theorem put2n {W:World} {B g:Nat} {t:TypeId} {a b:Value} (a' b':Value) (h:W.heap[g]?=some (.cells #[a,b] t (0,0))) (hb:B ≤ g):∃ W',(W.setCell ⟨g,0,none⟩ a').setCell ⟨g,1,none⟩ b'=W'∧W'.heap[g]?=some (.cells #[a',b'] t (0,0))∧Below B W W':=by
  refine ⟨_,rfl,?_,((Below.refl _ _).setCell (p:=⟨g,0,none⟩) hb _).setCell (p:=⟨g,1,none⟩) hb _⟩
  have h1:=blk_set h 0 a'
  exact blk_set h1 1 b'
set_option maxRecDepth 100000 in
theorem number_calls (W:World) (kb cb:Nat) (o:S74) (vars:Int) (rs:List S32) (r:Nat) (v:S32) (h:Core W kb cb o vars rs) (hr:rs[r]?=some v) :
    Calls Try.prog 50 #[ptr kb,.int .i64 r] W fun x w' => (x=if v.f0=1 then .returned (.agg #[.int .i64 1,.int .i64 v.f1]) else gave 4)∧Below W.heap.size W w':=by
  have hu32:=Try.underlying32
  have hu34:=Try.underlying34
  have hu95:=Try.underlying95
  have k0:=zG h.hk 0
  obtain ⟨a0,a1⟩:=h.reg r v hr
  have hrl:(r:Int) < 8:=by have:=(List.getElem?_eq_some_iff.1 hr).1;have:=h.len;omega
  have hr0:(0:Int) ≤ r:=by omega
  have HG:=Lib.hid (give_calls 4)
  have hkb:=blk_lt h.hk
  have hcb:=h.lt
  clear hr
  obtain ⟨v0,v1⟩:=v
  dsimp only at a0 a1 ⊢
  obtain ⟨W1,hW1,K1,hB1⟩:=alz1 W
  have k0':=pw_cell_below hB1 k0
  have a0':=pw_cell_below hB1 a0
  have a1':=pw_cell_below hB1 a1
  obtain ⟨W2,hW2,K2,hB2⟩:=alz W1 #[.int .i64 v0,.int .i64 v1] 32
  have d0:=zG K2 0
  have d1:=zG K2 1
  have K1':=zE K1 hB2
  have r0:=zG K1' 0
  have r1:=zG K1' 1
  have f0:=zH K1' 0
  have f1:=zH K1' 1
  obtain ⟨W3,hW3,K3,hB3⟩:=put2n (B:=W.heap.size) (.int .i64 v0) (.int .i64 v1) K1' (Nat.le_refl _)
  have q0:=zG K3 0
  have q1:=zG K3 1
  have H2:=Lib.hid (bAfter hB1 hB2)
  have H3:=Lib.hid ((bAfter hB1 hB2).trans hB3)
  clear h k0 a0 a1 K1 K2 K1' K3 hB1 hB2 hB3
  by_cases hv:v0=1
  · subst hv
    rw [if_pos rfl]
    go_enter Try.func50,Try.ntmps50
    go_wp2_with fail
    refine bodyPost_ret (v:=.agg #[.int .i64 1,.int .i64 v1]) (by simp [results,Try.results50,go_sem,q0,q1]) rfl ⟨rfl,H3.out⟩
  · rw [if_neg hv]
    go_enter Try.func50,Try.ntmps50
    go_wp2_with fail
    refine (HG.out W2).mono ?_
    rintro e w' ⟨rfl,hw⟩
    subst hw
    first | exact ⟨rfl,H2.out⟩ | exact ⟨rfl,rfl,H2.out⟩
set_option maxRecDepth 100000 in
theorem variable_calls (W:World) (kb cb:Nat) (o:S74) (vars:Int) (rs:List S32) (r:Nat) (v:S32) (h:Core W kb cb o vars rs) (hr:rs[r]?=some v) (hi:-9223372036854775808 ≤ v.f1∧v.f1 < 9223372036854775808) :
    Calls Try.prog 49 #[ptr kb,.int .i64 r] W fun x w' => (x=if v.f0=2∧0 ≤ v.f1∧v.f1 < vars then .returned (.int .i64 v.f1) else gave 4)∧Below W.heap.size W w':=by
  have hu32:=Try.underlying32
  have hu34:=Try.underlying34
  have hu95:=Try.underlying95
  have k0:=zG h.hk 0
  have k6:=zG h.hk 6
  obtain ⟨a0,a1⟩:=h.reg r v hr
  have hrl:(r:Int) < 8:=by have:=(List.getElem?_eq_some_iff.1 hr).1;have:=h.len;omega
  have hr0:(0:Int) ≤ r:=by omega
  have HG:=Lib.hid (give_calls 4)
  have hkb:=blk_lt h.hk
  have hcb:=h.lt
  clear hr
  obtain ⟨v0,v1⟩:=v
  dsimp only at a0 a1 hi ⊢
  obtain ⟨W1,hW1,K1,hB1⟩:=alz W #[.int .i64 v0,.int .i64 v1] 32
  have k6':=pw_cell_below hB1 k6
  have d0:=zG K1 0
  have d1:=zG K1 1
  have H1:=Lib.hid hB1
  clear h K1 hB1 k6
  have hw:wrap64 v1=v1:=by unfold wrap64;omega
  by_cases hok:v0=2∧0 ≤ v1∧v1 < vars
  · rw [if_pos hok]
    obtain ⟨rfl,h1,h2⟩:=hok
    have e1:decide (v1 < 0)=false:=by simp;omega
    have e2:decide (v1 ≥ vars)=false:=by simp;omega
    go_enter Try.func49,Try.ntmps49
    go_wp2_with fail
    go_quiet (fail)
    go_wp2_with fail
    go_ret
    exact ⟨rfl,zI H1.out _⟩
  · rw [if_neg hok]
    by_cases h0:v0=2
    · subst h0
      by_cases h1:v1 < 0
      · have e1:decide (v1 < 0)=true:=by simp;omega
        go_enter Try.func49,Try.ntmps49
        go_wp2_with fail
        go_quiet (fail)
        go_wp2_with fail
        refine (HG.out _).mono ?_
        rintro e w' ⟨rfl,hw⟩
        subst hw
        exact ⟨rfl,rfl,zI H1.out _⟩
      · have e1:decide (v1 < 0)=false:=by simp;omega
        have e2:decide (v1 ≥ vars)=true:=by simp;omega
        go_enter Try.func49,Try.ntmps49
        go_wp2_with fail
        go_quiet (fail)
        go_wp2_with fail
        refine (HG.out _).mono ?_
        rintro e w' ⟨rfl,hw⟩
        subst hw
        exact ⟨rfl,rfl,zI H1.out _⟩
    · have e0:(v0 != 2)=true:=by simpa using h0
      go_enter Try.func49,Try.ntmps49
      go_wp2_with fail
      go_quiet (fail)
      go_wp2_with fail
      refine (HG.out _).mono ?_
      rintro e w' ⟨rfl,hw⟩
      subst hw
      exact ⟨rfl,rfl,zI H1.out _⟩
theorem add1_calls (a b:Int) (W:World):Calls Try.prog 93 (#[] ++ #[.int .i64 a,.int .i64 b] ++ #[]) W fun x w' => x=.returned (.int .i64 (wrap64 (a + b)))∧w'=W:=by
  go_enter Try.func93,Try.ntmps93
  go_wp2
  go_ret
  exact ⟨rfl,rfl⟩
theorem sub1_calls (a b:Int) (W:World):Calls Try.prog 94 (#[] ++ #[.int .i64 a,.int .i64 b] ++ #[]) W fun x w' => x=.returned (.int .i64 (wrap64 (a - b)))∧w'=W:=by
  go_enter Try.func94,Try.ntmps94
  go_wp2
  go_ret
  exact ⟨rfl,rfl⟩
theorem mul1_calls (a b:Int) (W:World):Calls Try.prog 95 (#[] ++ #[.int .i64 a,.int .i64 b] ++ #[]) W fun x w' => x=.returned (.int .i64 (wrap64 (a * b)))∧w'=W:=by
  go_enter Try.func95,Try.ntmps95
  go_wp2
  go_ret
  exact ⟨rfl,rfl⟩
theorem less1_calls (a b:Int) (W:World):Calls Try.prog 107 (#[] ++ #[.int .i64 a,.int .i64 b] ++ #[]) W fun x w' => x=.returned (.bool (decide (a < b)))∧w'=W:=by
  go_enter Try.func107,Try.ntmps107
  go_wp2
  go_ret
  exact ⟨rfl,rfl⟩
/-- The closure that makes a value of what two numbers come to. -/
theorem counted1_calls (pf bx:Nat) (a b g:Int) (W:World) (hb:W.heap[bx]?=some (.cells #[.func (.func pf) #[] #[]] 178 (0,0))) (eg:∀ args W,(callFunc pf args).run Try.prog W=.ok (.enter pf args) W)
    (hdo:∀ W',Calls Try.prog pf (#[] ++ #[.int .i64 a,.int .i64 b] ++ #[]) W' fun x w' => x=.returned (.int .i64 g)∧w'=W') :
    Calls Try.prog 105 (#[] ++ #[.int .i64 a,.int .i64 b] ++ #[ptr bx]) W fun x w' => x=.returned (.agg #[.int .i64 1,.int .i64 g])∧Below W.heap.size W w':=by
  have hu32:=Try.underlying32
  obtain ⟨W1,hW1,K1,hB1⟩:=alz1 W
  have k0:=zG (zE hb hB1) 0
  have r0:=zG K1 0
  have r1:=zG K1 1
  have f0:=zH K1 0
  have f1:=zH K1 1
  obtain ⟨W3,hW3,K3,hB3⟩:=put2n (B:=W.heap.size) (.int .i64 1) (.int .i64 g) K1 (Nat.le_refl _)
  have q0:=zG K3 0
  have q1:=zG K3 1
  have H3:=Lib.hid (hB1.trans hB3)
  have HD:=Lib.hid (hdo W1)
  clear hb K1 K3 hB1 hB3 hdo
  go_enter Try.func105,Try.ntmps105
  go_wp2_with fail
  refine HD.out.mono ?_
  rintro e w' ⟨rfl,hw⟩
  subst hw
  go_wp2_with fail
  refine bodyPost_ret (v:=.agg #[.int .i64 1,.int .i64 g]) (by simp [results,Try.results105,go_sem,q0,q1]) rfl ⟨rfl,H3.out⟩
set_option maxRecDepth 100000 in
theorem numbers_calls (pf bx:Nat) (a b g:Int) (W:World) (hb:W.heap[bx]?=some (.cells #[.func (.func pf) #[] #[]] 178 (0,0))) (eg:∀ args W,(callFunc pf args).run Try.prog W=.ok (.enter pf args) W)
    (hdo:∀ W',Calls Try.prog pf (#[] ++ #[.int .i64 a,.int .i64 b] ++ #[]) W' fun x w' => x=.returned (.int .i64 g)∧w'=W') :
    Calls Try.prog 104 #[.agg #[.int .i64 1,.int .i64 a],.agg #[.int .i64 1,.int .i64 b],.func (.func 105) #[] #[ptr bx]] W fun x w' => x=.returned (.tuple #[.agg #[.int .i64 1,.int .i64 g],.int .i64 0])∧Below W.heap.size W w':=by
  have hu32:=Try.underlying32
  have eg2:∀ args W,(callFunc 105 args).run Try.prog W=.ok (.enter 105 args) W:=fun args W => rfl
  obtain ⟨W1,hW1,K1,K2,K3,hB1,hz1⟩:=three_named W (.cells #[.int .i64 1,.int .i64 a] 32) (.cells #[.int .i64 1,.int .i64 b] 32) (.cells #[.int .i64 0,.int .i64 0] 32)
  have a0:=zG K1 0
  have a1:=zG K1 1
  have b0:=zG K2 0
  have b1:=zG K2 1
  have HC:=Lib.hid (counted1_calls pf bx a b g W1 (zE hb hB1) eg hdo)
  have HK:=Lib.hid (zM K3 hB1)
  clear hb K1 K2 K3 hB1 hdo eg
  go_enter Try.func104,Try.ntmps104
  go_wp2_with fail
  refine HC.out.mono ?_
  rintro e w' ⟨rfl,hB⟩
  have K3:=zE HK.out.1 hB
  have r0:=zG K3 0
  have r1:=zG K3 1
  have f0:=zH K3 0
  have f1:=zH K3 1
  obtain ⟨W3,hW3,K4,hB3⟩:=put2n (B:=W.heap.size) (.int .i64 1) (.int .i64 g) K3 (by omega)
  have q0:=zG K4 0
  have q1:=zG K4 1
  have H3:=Lib.hid ((bAfter HK.out.2 hB).trans hB3)
  clear K3 K4 hB3 hB
  go_wp2_with fail
  refine bodyPost_ret (v:=.tuple #[.agg #[.int .i64 1,.int .i64 g],.int .i64 0]) (by simp [results,Try.results104,go_sem,q0,q1]) rfl ⟨rfl,H3.out⟩
set_option maxRecDepth 100000 in
theorem counted_calls (pf:Nat) (a b g:Int) (W:World) (eg:∀ args W,(callFunc pf args).run Try.prog W=.ok (.enter pf args) W)
    (hdo:∀ W',Calls Try.prog pf (#[] ++ #[.int .i64 a,.int .i64 b] ++ #[]) W' fun x w' => x=.returned (.int .i64 g)∧w'=W') :
    Calls Try.prog 92 #[.agg #[.int .i64 1,.int .i64 a],.agg #[.int .i64 1,.int .i64 b],.func (.func pf) #[] #[]] W fun x w' => x=.returned (.tuple #[.agg #[.int .i64 1,.int .i64 g],.int .i64 0])∧Below W.heap.size W w':=by
  have hu32:=Try.underlying32
  have hmf:∀ (fn:Fn) (first cap:Array Value) (w:World),(Instr.makeFunc fn first cap).run Try.prog w=.ok (.func fn first cap) w:=fun _ _ _ _ => rfl
  obtain ⟨W1,hW1,K1,K2,K3,hB1,hz1⟩:=three_named W (.cells #[.int .i64 1,.int .i64 a] 32) (.cells #[.int .i64 1,.int .i64 b] 32) (.cells #[.func (.func pf) #[] #[]] 178)
  obtain ⟨W2,hW2,K4,hB2⟩:=alz1 W1
  have a0:=zG (zE K1 hB2) 0
  have a1:=zG (zE K1 hB2) 1
  have b0:=zG (zE K2 hB2) 0
  have b1:=zG (zE K2 hB2) 1
  have HC:=Lib.hid (numbers_calls pf (W.heap.size + 1 + 1) a b g W2 (zE K3 hB2) eg hdo)
  have HK:=Lib.hid (zM K4 (bAfter hB1 hB2))
  have HZ:=Lib.hid hz1
  clear K1 K2 K3 K4 hB1 hB2 hdo eg hz1
  go_enter Try.func92,Try.ntmps92
  go_wp2_with fail
  refine HC.out.mono ?_
  rintro e w' ⟨rfl,hB⟩
  have K3:=zE HK.out.1 hB
  have r0:=zG K3 0
  have r1:=zG K3 1
  have f0:=zH K3 0
  have f1:=zH K3 1
  obtain ⟨W3,hW3,K4,hB3⟩:=put2n (B:=W.heap.size) (.int .i64 1) (.int .i64 g) K3 (by have:=HZ.out;omega)
  have q0:=zG K4 0
  have q1:=zG K4 1
  have H3:=Lib.hid ((bAfter HK.out.2 hB).trans hB3)
  clear K3 K4 hB3 hB
  go_wp2_with fail
  refine bodyPost_ret (v:=.tuple #[.agg #[.int .i64 1,.int .i64 g],.int .i64 0]) (by simp [results,Try.results92,go_sem,q0,q1]) rfl ⟨rfl,H3.out⟩
set_option maxRecDepth 100000 in
theorem valueAdd_calls (a b:Int) (W:World) :
    Calls Try.prog 75 #[.agg #[.int .i64 1,.int .i64 a],.agg #[.int .i64 1,.int .i64 b]] W fun x w' => x=.returned (.tuple #[.agg #[.int .i64 1,.int .i64 (wrap64 (a + b))],.int .i64 0])∧Below W.heap.size W w':=by
  have hu32:=Try.underlying32
  obtain ⟨W1,hW1,K1,K2,K3,hB1,hz1⟩:=three_named W (.cells #[.int .i64 1,.int .i64 a] 32) (.cells #[.int .i64 1,.int .i64 b] 32) (.cells #[.int .i64 0,.int .i64 0] 32)
  have a0:=zG K1 0
  have a1:=zG K1 1
  have b0:=zG K2 0
  have b1:=zG K2 1
  obtain ⟨g,hg⟩:∃ g,g=wrap64 (a + b):=⟨_,rfl⟩
  rw [← hg]
  have HC:=Lib.hid (counted_calls 93 a b g W1 (fun args W => rfl) (fun W' => by rw [hg];exact add1_calls a b W'))
  clear hg
  have HK:=Lib.hid (zM K3 hB1)
  clear K1 K2 K3 hB1
  go_enter Try.func75,Try.ntmps75
  go_wp2_with fail
  refine HC.out.mono ?_
  rintro e w' ⟨rfl,hB⟩
  have K3:=zE HK.out.1 hB
  have r0:=zG K3 0
  have r1:=zG K3 1
  have f0:=zH K3 0
  have f1:=zH K3 1
  obtain ⟨W3,hW3,K4,hB3⟩:=put2n (B:=W.heap.size) (.int .i64 1) (.int .i64 g) K3 (by omega)
  have q0:=zG K4 0
  have q1:=zG K4 1
  have H3:=Lib.hid ((bAfter HK.out.2 hB).trans hB3)
  clear K3 K4 hB3 hB
  go_wp2_with fail
  refine bodyPost_ret (v:=.tuple #[.agg #[.int .i64 1,.int .i64 g],.int .i64 0]) (by simp [results,Try.results75,go_sem,q0,q1]) rfl ⟨rfl,H3.out⟩
set_option maxRecDepth 100000 in
theorem valueSub_calls (a b:Int) (W:World) :
    Calls Try.prog 76 #[.agg #[.int .i64 1,.int .i64 a],.agg #[.int .i64 1,.int .i64 b]] W fun x w' => x=.returned (.tuple #[.agg #[.int .i64 1,.int .i64 (wrap64 (a - b))],.int .i64 0])∧Below W.heap.size W w':=by
  have hu32:=Try.underlying32
  obtain ⟨W1,hW1,K1,K2,K3,hB1,hz1⟩:=three_named W (.cells #[.int .i64 1,.int .i64 a] 32) (.cells #[.int .i64 1,.int .i64 b] 32) (.cells #[.int .i64 0,.int .i64 0] 32)
  have a0:=zG K1 0
  have a1:=zG K1 1
  have b0:=zG K2 0
  have b1:=zG K2 1
  obtain ⟨g,hg⟩:∃ g,g=wrap64 (a - b):=⟨_,rfl⟩
  rw [← hg]
  have HC:=Lib.hid (counted_calls 94 a b g W1 (fun args W => rfl) (fun W' => by rw [hg];exact sub1_calls a b W'))
  clear hg
  have HK:=Lib.hid (zM K3 hB1)
  clear K1 K2 K3 hB1
  go_enter Try.func76,Try.ntmps76
  go_wp2_with fail
  refine HC.out.mono ?_
  rintro e w' ⟨rfl,hB⟩
  have K3:=zE HK.out.1 hB
  have r0:=zG K3 0
  have r1:=zG K3 1
  have f0:=zH K3 0
  have f1:=zH K3 1
  obtain ⟨W3,hW3,K4,hB3⟩:=put2n (B:=W.heap.size) (.int .i64 1) (.int .i64 g) K3 (by omega)
  have q0:=zG K4 0
  have q1:=zG K4 1
  have H3:=Lib.hid ((bAfter HK.out.2 hB).trans hB3)
  clear K3 K4 hB3 hB
  go_wp2_with fail
  refine bodyPost_ret (v:=.tuple #[.agg #[.int .i64 1,.int .i64 g],.int .i64 0]) (by simp [results,Try.results76,go_sem,q0,q1]) rfl ⟨rfl,H3.out⟩
set_option maxRecDepth 100000 in
theorem valueMul_calls (a b:Int) (W:World) :
    Calls Try.prog 77 #[.agg #[.int .i64 1,.int .i64 a],.agg #[.int .i64 1,.int .i64 b]] W fun x w' => x=.returned (.tuple #[.agg #[.int .i64 1,.int .i64 (wrap64 (a * b))],.int .i64 0])∧Below W.heap.size W w':=by
  have hu32:=Try.underlying32
  obtain ⟨W1,hW1,K1,K2,K3,hB1,hz1⟩:=three_named W (.cells #[.int .i64 1,.int .i64 a] 32) (.cells #[.int .i64 1,.int .i64 b] 32) (.cells #[.int .i64 0,.int .i64 0] 32)
  have a0:=zG K1 0
  have a1:=zG K1 1
  have b0:=zG K2 0
  have b1:=zG K2 1
  obtain ⟨g,hg⟩:∃ g,g=wrap64 (a * b):=⟨_,rfl⟩
  rw [← hg]
  have HC:=Lib.hid (counted_calls 95 a b g W1 (fun args W => rfl) (fun W' => by rw [hg];exact mul1_calls a b W'))
  clear hg
  have HK:=Lib.hid (zM K3 hB1)
  clear K1 K2 K3 hB1
  go_enter Try.func77,Try.ntmps77
  go_wp2_with fail
  refine HC.out.mono ?_
  rintro e w' ⟨rfl,hB⟩
  have K3:=zE HK.out.1 hB
  have r0:=zG K3 0
  have r1:=zG K3 1
  have f0:=zH K3 0
  have f1:=zH K3 1
  obtain ⟨W3,hW3,K4,hB3⟩:=put2n (B:=W.heap.size) (.int .i64 1) (.int .i64 g) K3 (by omega)
  have q0:=zG K4 0
  have q1:=zG K4 1
  have H3:=Lib.hid ((bAfter HK.out.2 hB).trans hB3)
  clear K3 K4 hB3 hB
  go_wp2_with fail
  refine bodyPost_ret (v:=.tuple #[.agg #[.int .i64 1,.int .i64 g],.int .i64 0]) (by simp [results,Try.results77,go_sem,q0,q1]) rfl ⟨rfl,H3.out⟩
set_option maxRecDepth 100000 in
theorem numbersB_calls (a b:Int) (W:World) :
    Calls Try.prog 106 #[.agg #[.int .i64 1,.int .i64 a],.agg #[.int .i64 1,.int .i64 b],.func (.func 107) #[] #[]] W fun x w' => x=.returned (.tuple #[.bool (decide (a < b)),.int .i64 0])∧Below W.heap.size W w':=by
  have hu32:=Try.underlying32
  obtain ⟨W1,hW1,K1,K2,hB1,hz1⟩:=two_named W (.cells #[.int .i64 1,.int .i64 a] 32) (.cells #[.int .i64 1,.int .i64 b] 32)
  have a0:=zG K1 0
  have a1:=zG K1 1
  have b0:=zG K2 0
  have b1:=zG K2 1
  have eg2:∀ args W,(callFunc 107 args).run Try.prog W=.ok (.enter 107 args) W:=fun args W => rfl
  have HC:=Lib.hid (less1_calls a b W1)
  have HK:=Lib.hid hB1
  clear K1 K2 hB1
  go_enter Try.func106,Try.ntmps106
  go_wp2_with fail
  refine HC.out.mono ?_
  rintro e w' ⟨rfl,hw⟩
  subst hw
  go_wp2_with fail
  go_ret2
  exact ⟨rfl,HK.out⟩
set_option maxRecDepth 100000 in
theorem valueLess_calls (a b:Int) (W:World) :
    Calls Try.prog 96 #[.agg #[.int .i64 1,.int .i64 a],.agg #[.int .i64 1,.int .i64 b]] W fun x w' => x=.returned (.tuple #[.bool (decide (a < b)),.int .i64 0])∧Below W.heap.size W w':=by
  have hu32:=Try.underlying32
  obtain ⟨W1,hW1,K1,K2,hB1,hz1⟩:=two_named W (.cells #[.int .i64 1,.int .i64 a] 32) (.cells #[.int .i64 1,.int .i64 b] 32)
  have a0:=zG K1 0
  have a1:=zG K1 1
  have b0:=zG K2 0
  have b1:=zG K2 1
  have HC:=Lib.hid (numbersB_calls a b W1)
  have HK:=Lib.hid hB1
  clear K1 K2 hB1
  go_enter Try.func96,Try.ntmps96
  go_wp2_with fail
  refine HC.out.mono ?_
  rintro e w' ⟨rfl,hB⟩
  have H3:=Lib.hid (bAfter HK.out hB)
  clear hB
  go_wp2_with fail
  go_ret2
  exact ⟨rfl,H3.out⟩
set_option maxRecDepth 100000 in
theorem less_calls (a b:Int) (W:World) :
    Calls Try.prog 78 #[.agg #[.int .i64 1,.int .i64 a],.agg #[.int .i64 1,.int .i64 b]] W fun x w' => x=.returned (.tuple #[.agg #[.int .i64 1,.int .i64 (if a < b then 1 else 0)],.int .i64 0])∧Below W.heap.size W w':=by
  have hu32:=Try.underlying32
  obtain ⟨W1,hW1,K1,K2,K3,hB1,hz1⟩:=three_named W (.cells #[.int .i64 1,.int .i64 a] 32) (.cells #[.int .i64 1,.int .i64 b] 32) (.cells #[.int .i64 0,.int .i64 0] 32)
  have a0:=zG K1 0
  have a1:=zG K1 1
  have b0:=zG K2 0
  have b1:=zG K2 1
  have HC:=Lib.hid (valueLess_calls a b W1)
  have HK:=Lib.hid (zM K3 hB1)
  clear K1 K2 K3 hB1
  by_cases hab:a < b
  · have e1:decide (a < b)=true:=by simpa using hab
    rw [e1] at HC
    rw [if_pos hab]
    go_enter Try.func78,Try.ntmps78
    go_wp2_with fail
    refine HC.out.mono ?_
    rintro e w' ⟨rfl,hB⟩
    have K3:=zE HK.out.1 hB
    have r0:=zG K3 0
    have r1:=zG K3 1
    have f0:=zH K3 0
    have f1:=zH K3 1
    obtain ⟨W3,hW3,K4,hB3⟩:=put2n (B:=W.heap.size) (.int .i64 1) (.int .i64 1) K3 (by omega)
    have q0:=zG K4 0
    have q1:=zG K4 1
    have H3:=Lib.hid ((bAfter HK.out.2 hB).trans hB3)
    clear K3 K4 hB3 hB
    go_wp2_with fail
    refine bodyPost_ret (v:=.tuple #[.agg #[.int .i64 1,.int .i64 1],.int .i64 0]) (by simp [results,Try.results78,go_sem,q0,q1]) rfl ⟨rfl,H3.out⟩
  · have e1:decide (a < b)=false:=by simpa using hab
    rw [e1] at HC
    rw [if_neg hab]
    go_enter Try.func78,Try.ntmps78
    go_wp2_with fail
    refine HC.out.mono ?_
    rintro e w' ⟨rfl,hB⟩
    have K3:=zE HK.out.1 hB
    have r0:=zG K3 0
    have r1:=zG K3 1
    have f0:=zH K3 0
    have f1:=zH K3 1
    obtain ⟨W3,hW3,K4,hB3⟩:=put2n (B:=W.heap.size) (.int .i64 1) (.int .i64 0) K3 (by omega)
    have q0:=zG K4 0
    have q1:=zG K4 1
    have H3:=Lib.hid ((bAfter HK.out.2 hB).trans hB3)
    clear K3 K4 hB3 hB
    go_wp2_with fail
    refine bodyPost_ret (v:=.tuple #[.agg #[.int .i64 1,.int .i64 0],.int .i64 0]) (by simp [results,Try.results78,go_sem,q0,q1]) rfl ⟨rfl,H3.out⟩
theorem Core.below {W W':World} {kb cb:Nat} {o:S74} {vars:Int} {rs:List S32} (h:Core W kb cb o vars rs) (hB:Below W.heap.size W W'):Core W' kb cb o vars rs :=
  ⟨zE h.hk hB,h.len,fun r v hr => ⟨pw_cell_below hB (h.reg r v hr).1,pw_cell_below hB (h.reg r v hr).2⟩,h.ne,Nat.lt_of_lt_of_le h.lt hB.size⟩
theorem number_yes {W:World} {kb cb:Nat} {o:S74} {vars:Int} {rs:List S32} {r:Nat} {a:Int} (h:Core W kb cb o vars rs) (hr:rs[r]?=some ⟨1,a⟩) :
    Calls Try.prog 50 #[ptr kb,.int .i64 r] W fun x w' => x=.returned (.agg #[.int .i64 1,.int .i64 a])∧Below W.heap.size W w':=by
  have:=number_calls W kb cb o vars rs r ⟨1,a⟩ h hr
  rwa [if_pos rfl] at this
/-- Memory grows. -/
def RB (W W':World):Prop:=Below W.heap.size W W'
instance : GR.Rel RB where
  refl := fun W => Below.refl _ _
  trans := fun h k => bAfter h k
  size := fun h => Below.size h
  ofB := fun h => h
/-- A pointer to a block that is so. -/
def TZ (n0:Nat) (s:Obj) (W:World) (v:Value):Prop:=∃ b,v=ptr b∧n0 ≤ b∧W.heap[b]?=some s
theorem stable_TZ (n0:Nat) (s:Obj):GR.Stable RB (TZ n0 s):=by
  rintro W W' v ⟨b,rfl,h0,h⟩ hR
  exact ⟨b,rfl,h0,zE h hR⟩
theorem TZ_ptr {n0:Nat} {s:Obj} {W:World} {b:Nat}:TZ n0 s W (ptr b) ↔ n0 ≤ b∧W.heap[b]?=some s:=by
  constructor
  · rintro ⟨b',e,h0,h⟩
    simp at e
    subst e
    exact ⟨h0,h⟩
  · exact fun h => ⟨b,rfl,h⟩
set_option maxRecDepth 100000 in
set_option maxHeartbeats 1000000 in
theorem sums_yes (W:World) (kb cb pf:Nat) (o:S74) (vars:Int) (rs:List S32) (b c:Nat) (x y g:Int) (h:Core W kb cb o vars rs) (hb:o.f2=b) (hc:o.f3=c) (hx:rs[b]?=some ⟨1,x⟩) (hy:rs[c]?=some ⟨1,y⟩)
    (eg:∀ args W,(callFunc pf args).run Try.prog W=.ok (.enter pf args) W)
    (hdo:∀ W',Calls Try.prog pf (#[] ++ #[.agg #[.int .i64 1,.int .i64 x],.agg #[.int .i64 1,.int .i64 y]] ++ #[]) W' fun e w' => e=.returned (.tuple #[.agg #[.int .i64 1,.int .i64 g],.int .i64 0])∧Below W'.heap.size W' w') :
    Calls Try.prog 74 #[ptr kb,.func (.func pf) #[] #[]] W fun e w' => e=.returned (.agg #[.int .i64 1,.int .i64 g])∧Below W.heap.size W w':=by
  have hu32:=Try.underlying32
  have hu34:=Try.underlying34
  have hu74:=Try.underlying74
  have hu95:=Try.underlying95
  have hkb:=blk_lt h.hk
  obtain ⟨W1,hW1,K1,hB1⟩:=alz1 W
  have h1:=h.below hB1
  obtain ⟨o0,o1,o2,o3,o4⟩:=o
  dsimp only at hb hc
  subst hb;subst hc
  have c2:∀ W',Below W1.heap.size W1 W' → W'.cell? ⟨kb,3,none⟩=some (.int .i64 (b:Int)):=fun W' hB => zG (zE h1.hk hB) 3
  have c3:∀ W',Below W1.heap.size W1 W' → W'.cell? ⟨kb,4,none⟩=some (.int .i64 (c:Int)):=fun W' hB => zG (zE h1.hk hB) 4
  have HN1:=Lib.hid fun W' (hB:Below W1.heap.size W1 W') => number_yes (h1.below hB) hx
  have HN2:=Lib.hid fun W' (hB:Below W1.heap.size W1 W') => number_yes (h1.below hB) hy
  have HD:=Lib.hid hdo
  have HK:=Lib.hid (zM K1 hB1)
  clear h h1 hx hy hdo K1 hB1
  go_enter Try.func74,Try.ntmps74
  go_wp2_with fail
  apply GR.wp_region_grow (R:=RB) 20 (by kernel_rfl) (by kernel_rfl) (by kernel_rfl)
  · intro c a d v w h;cases d <;> exact h
  simp only [List.take_succ_cons,List.take_zero,List.drop_succ_cons,List.drop_zero]
  repeat
    apply GR.gw_val (by rfl)
    · (intro W' hB hD;have k2:=c2 W' hB;have k3:=c3 W' hB;go_simp;first | done | rfl)
    simp only [Act.put,zJ,zK,zL]
  apply GR.gw_call (by rfl)
  · (intro W' hB hD;go_simp;exact ⟨rfl,rfl⟩)
  · (intro W' hB hD;exact (HN1.out W' hB).mono fun e w' h => ⟨h.1,h.2⟩)
  simp only [Act.put,zJ,zK,zL]
  repeat
    apply GR.gw_val (by rfl)
    · (intro W' hB hD;have k2:=c2 W' hB;have k3:=c3 W' hB;go_simp;first | done | rfl)
    simp only [Act.put,zJ,zK,zL]
  apply GR.gw_call (by rfl)
  · (intro W' hB hD;go_simp;exact ⟨rfl,rfl⟩)
  · (intro W' hB hD;exact (HN2.out W' hB).mono fun e w' h => ⟨h.1,h.2⟩)
  simp only [Act.put,zJ,zK,zL]
  apply GR.gw_call (by rfl)
  · (intro W' hB hD;go_simp;exact ⟨rfl,rfl⟩)
  · (intro W' hB hD;exact (HD.out W').mono fun e w' h => ⟨h.1,h.2⟩)
  simp only [Act.put,zJ,zK,zL]
  repeat
    apply GR.gw_val (by rfl)
    · (intro W' hB hD;go_simp;first | done | rfl)
    simp only [Act.put,zJ,zK,zL]
  apply GR.gw_rel (stable_TZ W1.heap.size (.cells #[.int .i64 0,.int .i64 0] 32 (0,0))) (by rfl)
  · intro W' hB hD
    refine ⟨_,_,?_,bOne (.cells #[.int .i64 0,.int .i64 0] 32),W'.heap.size,rfl,hB.size,heap_alloc_new _ _⟩
    go_simp
    first | done | rfl
  rintro v ⟨-,p1,rfl,-,-⟩
  simp only [Act.put,zJ,zK,zL]
  apply GR.gw_nil
  intro Wa hW hF hP
  simp [List.forall_mem_append,TZ_ptr] at hF hP
  obtain ⟨hp1,hF⟩:=hF
  obtain ⟨hK1,hB1⟩:=HK.out
  have r0:=zG (zE hK1 hW) 0
  have r1:=zG (zE hK1 hW) 1
  have z0:=zH (zE hK1 hW) 0
  have z1:=zH (zE hK1 hW) 1
  have f0:=zH hF 0
  have f1:=zH hF 1
  have d0:=zG hF 0
  have d1:=zG hF 1
  have hlt:W.heap.size < W1.heap.size:=blk_lt hK1
  obtain ⟨Wb,hWb,K4,hB4⟩:=put2n (B:=W1.heap.size) (.int .i64 1) (.int .i64 g) hF hp1
  have q0:=zG K4 0
  have q1:=zG K4 1
  have m0:=zG (zE hK1 (hW.trans hB4)) 0
  have m1:=zG (zE hK1 (hW.trans hB4)) 1
  have n0:=zH (zE hK1 (hW.trans hB4)) 0
  have n1:=zH (zE hK1 (hW.trans hB4)) 1
  obtain ⟨Wc,hWc,K5,hB5⟩:=put2n (B:=W.heap.size) (.int .i64 1) (.int .i64 g) (zE hK1 (hW.trans hB4)) (Nat.le_refl _)
  have u0:=zG K5 0
  have u1:=zG K5 1
  have H5:=Lib.hid ((bAfter hB1 (Below.trans hW hB4)).trans hB5)
  clear K4 K5 hB4 hB5 hB1 hK1 hF hW
  go_wp2_with fail
  refine bodyPost_ret (v:=.agg #[.int .i64 1,.int .i64 g]) (by simp [results,Try.results74,go_sem,u0,u1]) rfl ⟨rfl,H5.out⟩
end Go.Proofs.Ytgnjkegnddekeaa.Q
