/- maps.Values of a map of steps by whole numbers, by hand: the iterator's contract. -/
import Derived.Test.YtgnjkegnddekeaaXTxnT
import Derived.Maps.OwnIn
import Derived.RangeFuncMany
import Derived.Shelf.AbstractIn
import Derived.Sort.MapsRangeIn
import Derived.Sort.KeysCollected
import Derived.RegionIn
import Derived.Maps.AppendAt
import Derived.Shelf.SlSortCmp.WholeK
import Derived.Shelf.SlicesG.Cmp
import Derived.Shelf.Lay
import Derived.Ground.SlsfProg
import Derived.Ground.SlgcProg
import Derived.Shelf.SlSortCmp.NoneTotal
import Derived.Maps.OwnSet
open And renaming intro → zM
namespace Go.Proofs.Ytgnjkegnddekeaa.Q
open Go.RowKit Go.Lib Go.Shelf Go.Maps Go.Proofs.Ytgnjkegnddekeaa Go.Proofs.YtgnjkegnddekeaaW.PrintWords Go.Proofs.YtgnjkegnddekeaaW.PrintLast Go.Proofs.YtgnjkegnddekeaaW.PrintMore
set_option linter.unusedVariables false
set_option maxRecDepth 100000
set_option linter.unusedSimpArgs false
attribute [local go_sem] Oper.semAt_some
/-- A step's cells; its value. -/
abbrev c39 (s:S80):List Value:=[.int .i64 s.f0,.int .i64 s.f1.f0,.int .i64 s.f1.f1,.bool s.f2]
abbrev v80 (s:S80):Value:=.agg #[.int .i64 s.f0,.int .i64 s.f1.f0,.int .i64 s.f1.f1,.bool s.f2]
/-- How a step reads in a map. -/
def r80:Value → Option (DataW S80 × List MemPlace)
  | .agg ⟨[.int .i64 a,.int .i64 b,.int .i64 c,.bool d]⟩ => some (.held ⟨a,⟨b,c⟩,d⟩,[])
  | _ => none
theorem r80_mk (s:S80):r80 (v80 s)=some (.held s,[]):=rfl
theorem r80_inv {v:Value} {y:DataW S80 × List MemPlace} (h:r80 v=some y):∃ s,v=v80 s∧y=(.held s,[]):=by
  unfold r80 at h
  split at h
  · rename_i a b c d
    cases h
    exact ⟨⟨a,⟨b,c⟩,d⟩,rfl,rfl⟩
  · cases h
/-- What has come, by its keys. -/
def SoFar (D0:DataW S80) (left:Lit → Bool) (ps:List (Int × S80)):Prop :=
  (ps.map (·.1)).Nodup∧(∀ x,x ∈ ps.map (·.1) ↔ (has D0 (.int .i64 x)=true∧left (.int .i64 x)=false))∧∀ p ∈ ps,∀ zd,D0.atKey (.int .i64 p.1) zd=.held p.2
theorem SoFar.start (D0:DataW S80):SoFar D0 (has D0) []:=⟨List.nodup_nil,(fun x => by cases has D0 (.int .i64 x) <;> simp),fun p hp => by cases hp⟩
theorem SoFar.step {D0:DataW S80} {left:Lit → Bool} {ps:List (Int × S80)} (h:SoFar D0 left ps) {x:Int} {s:S80} (hlk:left (.int .i64 x)=true) (hat:∀ zd,D0.atKey (.int .i64 x) zd=.held s):SoFar D0 (fun z => left z && !z.sameKey (.int .i64 x)) (ps ++ [(x,s)]):=by
  have hhas:has D0 (.int .i64 x)=true:=has_true_of_atKey hat
  have hnew:x ∉ ps.map (·.1):=fun hx => by have:=((h.2.1 x).1 hx).2;rw [hlk] at this;cases this
  refine ⟨?_,fun y => ?_,fun p hp => ?_⟩
  · rw [List.map_append]
    exact List.nodup_append.2 ⟨h.1,by simp,fun a ha b hb => by simp at hb;subst hb;exact fun e => hnew (e ▸ ha)⟩
  · rw [List.map_append,List.mem_append,h.2.1 y]
    by_cases hy:y=x
    · subst hy;simp [hhas,Lit.sameKey]
    · simp [hy,Lit.sameKey]
  · rcases List.mem_append.1 hp with h1 | h1
    · exact h.2.2 p h1
    · cases List.mem_singleton.1 h1;exact hat
/-- All has come: each key once. -/
def AllOf (D0:DataW S80) (xs:List S80):Prop:=∃ ps:List (Int × S80),xs=ps.map (·.2)∧SoFar D0 (fun _ => false) ps
set_option maxRecDepth 100000 in
set_option maxHeartbeats 1000000 in
theorem values1_in (n:Nat) (hn:1 ≤ n) (l Bm b nn:Nat) (D0:DataW S80) (J Jx:List S80 → World → Prop)
    (hY:∀ pre x W,J pre W → pre.length < Maps.size D0 → YieldAt Fence.wide (n - 1) Try.prog l #[v80 x] W fun e W' =>
      (e=.returned (.bool true)∧J (pre ++ [x]) W'∧KeepsWalks W W') ∨ (e=.returned (.bool false)∧Jx (pre ++ [x]) W'))
    (W:World) (hJ:AbidesFrom W.heap.size J) (hm:W.heap[Bm]?=some (.cells #[.map (some b)] 115 (0,0))) (hown:W.ownsMap Try.prog 3 r80 b nn D0) (h0:J [] W) :
    CallsIn Fence.wide n Try.prog 89 #[.func (.yield l) #[] #[],.pointer (some ⟨Bm,0,none⟩)] W fun e W' => (∃ v,e=.returned v) ∧
      ((∃ xs,AllOf D0 xs∧J xs W') ∨ (∃ pre,True∧Jx pre W')):=by
  have hu:=Try.underlying80
  have hu115:=Try.underlying115
  have hk3:=int_keyed Try.underlying3
  have b0:=zG hm 0
  refine callsIn_of_wp Try.func89 rfl trivial ?_ rfl
  simp only [Try.ntmps89,List.size_toArray,List.length_cons,List.length_nil,Nat.reduceAdd,Nat.reduceSub,Array.replicate_succ,Array.replicate_zero,List.push_toArray,List.append_toArray,List.nil_append,List.cons_append]
  gi_wp2_with (first
    | (gi_at_range;refine wpListIn_range_own _ rfl _ 115 rfl 3 80 hk3 hu115 r80 b nn _ rfl hown ?_;intro w0 hrg0 hg0 hs0)
    | gi_in)
  go_frame
  gi_loopw [4] (fun _ wr => ∃ (left:Lit → Bool) (cnt:Nat) (ps:List (Int × S80)),wr.ranges Try.prog 3 r80 b W.heap.size nn D0 left cnt∧ps.length + cnt ≤ Maps.size D0∧SoFar D0 left ps∧J (ps.map (·.2)) wr)
    (fun _ wr => wr.rangeLeft b W.heap.size)
  case atStart =>
    exact ⟨_,_,[],hrg0,by simp,SoFar.start D0,hJ [] W w0 none h0 hg0 (fun r e => by cases e)⟩
  case round =>
    obtain ⟨left,cnt,ps,hrg,hcs,hC,hJs⟩:=hrel
    gi_wp2_with (first
      | (gi_at_next;refine wpListIn_next_ranges _ rfl _ rfl 3 hk3 r80 (Value.int .i64) v80 (fun key kl hk => by obtain ⟨x,hx,_⟩:=Maps.keyOf_int_inv Try.underlying3 hk;exact ⟨x,hx⟩) (fun v y hv => by obtain ⟨c,rfl,_⟩:=r80_inv hv;exact ⟨c,rfl⟩) b W.heap.size nn _ _ _ rfl hrg ?_ ?_)
      | gi_in)
    · intro hc0 hl0
      gi_wp2
      go_end0
      refine ⟨⟨_,rfl⟩,.inl ⟨_,⟨ps,rfl,?_⟩,hJs⟩⟩
      have:left=fun _ => false:=funext hl0
      rw [← this]
      exact hC
    · intro x c kl yd yp w2 cnt2 hkey hlk hv hat hrg2 hlt hg2 hs2 hen
      obtain ⟨x',ex,rfl,_⟩:=Maps.keyOf_int_inv Try.underlying3 hkey
      cases ex
      rw [r80_mk] at hv
      obtain ⟨rfl,rfl⟩:=Prod.mk.inj (Option.some.inj hv)
      have hJ2:J (ps.map (·.2)) w2:=hJ _ wr w2 (some W.heap.size) hJs hg2 (fun r e => by cases e;exact ⟨Nat.le_refl _,hrg.iter_walk⟩)
      have hJ3:=hJ _ w2 (w2.alloc (.cells #[.int .i64 c.f0,.int .i64 c.f1.f0,.int .i64 c.f1.f1,.bool c.f2] 80)) none hJ2 (World.grownBy_alloc _ _ _) (fun r e => by cases e)
      obtain ⟨fn,tmps,assign,body,hy,hR⟩:=hY (ps.map (·.2)) c _ hJ3 (by simp;omega)
      have HR:=Lib.hid hR
      have HX:=Lib.hid (zM hrg (zM hJ3 (zM hJs hrg2)))
      have HC:=Lib.hid (hC.step hlk hat)
      clear hs2 hR hrg hJ2 hJ3 hJs hrg2 hC hat hv hlk
      gi_wp2
      refine HR.out.mono ?_
      rintro e W3 (⟨rfl,hJ4,hk4⟩ | ⟨rfl,hJx4⟩)
      · have HN:=Lib.hid (zM (show J ((ps ++ [(x,c)]).map (·.2)) W3 by simpa using hJ4) (((HX.out.2.2.2.alloc _).of_walks hk4)))
        clear hJ4 hk4
        gi_wp2
        go_roundw
        case rel => exact ⟨_,cnt2,ps ++ [(x,c)],HN.out.2,by simp;omega,HC.out,HN.out.1⟩
        case measure => rw [HN.out.2.left_eq,HX.out.1.left_eq];exact hlt
      · have HN:=Lib.hid hJx4
        clear hJx4
        gi_wp2
        refine bodyPost_ret (results_none rfl _ _ _) rfl ?_
        exact ⟨⟨_,rfl⟩,.inr ⟨_,trivial,HN.out⟩⟩
theorem values_calls (b:Nat) (w:World) :
    Calls Try.prog 68 #[.map (some b)] w fun e w' => e=.returned (.func (.func 89) #[] #[.pointer (some ⟨w.heap.size,0,none⟩)])∧w'=w.alloc (.cells #[.map (some b)] 115):=by
  go_enter Try.func68,Try.ntmps68
  go_wp2
  go_ret
  exact ⟨rfl,rfl⟩
theorem values_stops (n:Nat) (hn:1 ≤ n) (Bm b nn:Nat) (D0:DataW S80) (w:World) (hm:w.heap[Bm]?=some (.cells #[.map (some b)] 115 (0,0))) (hown:w.ownsMap Try.prog 3 r80 b nn D0) :
    SeqStopsK Fence.wide n Try.prog 89 #[.pointer (some ⟨Bm,0,none⟩)] (fun s => #[v80 s]) KeepsWalks (AllOf D0) (fun _ => True) (Maps.size D0) w:=fun l J Jx W hW hJ _ hY h0 => by
  have hown':W.ownsMap Try.prog 3 r80 b nn D0:=by
    have hbl:=hown.lt
    obtain ⟨es,clock,hb,Ft,hs,hD⟩:=hown
    exact ⟨es,clock,(hW.block b hbl).trans hb,Ft,hs,hD⟩
  exact values1_in n hn l Bm b nn D0 J Jx hY W hJ ((hW.block Bm (blk_lt hm)).trans hm) hown' h0
end Go.Proofs.Ytgnjkegnddekeaa.Q
namespace Go.Proofs.Ytgnjkegnddekeaa.Q
open Go.RowKit Go.Lib Go.Shelf Go.Maps Go.Proofs.Ytgnjkegnddekeaa Go.Proofs.YtgnjkegnddekeaaW.PrintWords Go.Proofs.YtgnjkegnddekeaaW.PrintLast Go.Proofs.YtgnjkegnddekeaaW.PrintMore
set_option linter.unusedVariables false
set_option maxRecDepth 100000
set_option linter.unusedSimpArgs false
attribute [local go_sem] Oper.semAt_some
theorem cells_new (w:World) (cs:List Value) (t:TypeId):∀ j u,cs[j]?=some u → (w.alloc (.cells cs.toArray t)).cell? ((⟨w.heap.size,0,none⟩:Addr).add j)=some u:=by
  intro j u hj
  have:(⟨w.heap.size,0,none⟩:Addr).add j=⟨w.heap.size,j,none⟩:=by unfold Addr.add;split <;> simp_all
  rw [this,zG (heap_alloc_new w (.cells cs.toArray t)) j]
  simpa using hj
theorem flat_snoc (pre:List S80) (x:S80):(pre ++ [x]).flatMap c39=pre.flatMap c39 ++ c39 x:=by simp
set_option maxRecDepth 100000 in
set_option maxHeartbeats 2000000 in
theorem appendSeq_in (n:Nat) (hn:3 ≤ n) (gf:Nat) (lb:Array Value) (eg:∀ args w,(callFunc gf args).run Try.prog w=.ok (.enter gf args) w) (w:World) (S:List S80 → Prop) (N:Nat) (hN:N ≤ 1000000)
    (hseq:SeqStopsK Fence.wide (n - 1) Try.prog gf lb (fun s => #[v80 s]) KeepsWalks S (fun _ => True) N w) :
    CallsIn Fence.wide n Try.prog 101 #[.slice none 0 0,.func (.func gf) #[] lb] w fun e w' => ∃ xs v,S xs∧xs.length ≤ N∧e=.returned v∧w'.ownsRow w.heap.size 80 4 v xs.length (xs.flatMap c39)∧Below w.heap.size w w':=by
  have hu:=Try.underlying80
  have hu56:=Try.underlying56
  obtain ⟨i0,hi,hz0,hz1,hz2⟩:=info_parts info80
  have h1:1 ≤ n:=by omega
  refine callsIn_of_wp_marks Try.func101 rfl trivial ?_ rfl
  simp only [Try.ntmps101,List.size_toArray,List.length_cons,List.length_nil,Nat.reduceAdd,Nat.reduceSub,Array.replicate_succ,Array.replicate_zero,List.push_toArray,List.append_toArray,List.nil_append,List.cons_append]
  gi_wp2
  have bX:=Go.Boxed.new w 56 (.slice none 0 0)
  have hB0:Below w.heap.size w (w.alloc (.cells #[.slice none 0 0] 56)):=bOne _
  have hsz:(w.alloc (.cells #[.slice none 0 0] 56)).heap.size=w.heap.size + 1:=by simp
  generalize hW0:w.alloc (.cells #[.slice none 0 0] 56)=W0 at bX hB0 hsz ⊢
  refine wpIn_rangeFunc_ownH rfl h1 (gf:=gf) (lb:=lb) rfl trivial eg hseq walksK_t walksK_b hB0 (fun _ => rfl)
    (fun pre W => (∃ v,Go.Boxed W w.heap.size 56 v∧W.ownsRow w.heap.size 80 4 v pre.length (pre.flatMap c39)∧pre.length ≤ N)∧Below w.heap.size w W)
    (fun _ _ _ => False)
    (OwnFrom.and (Own.from (holdsRow_own w.heap.size w.heap.size 56 80 4 List.length (fun pre => pre.flatMap c39) (fun pre _ => pre.length ≤ N)) _) (ownFrom_below (Nat.le_refl _) (by omega)))
    (fun _ _ _ _ _ hs _ _ => hs)
    ⟨⟨_,bX,World.ownsRow_nil _ _ _ _,Nat.zero_le _⟩,hB0⟩
    (fun x a' W => ∃ Bx,w.heap.size < Bx∧W.heap[Bx]?=some (stepC x)∧a'={ tmps:=#[.slice none 0 0,.func (.func gf) #[] lb,.pointer (some ⟨w.heap.size,0,none⟩),undef,.slice none 0 0,.pointer (some ⟨Bx,0,none⟩),.func (.func gf) #[] lb,v80 x,undef,undef,undef,undef,undef],defers:=[] })
    (fun y a' _ X Y row hs hg hr => by obtain ⟨Bx,h1,h2,h3⟩:=hs;exact ⟨Bx,h1,own_cells W0.heap.size Bx (fun _:Unit => stepC y) (fun _ => rfl) () X Y row h2 hg hr,h3⟩)
    ?assign ?body ?done ?stop
  case assign =>
    rintro ll pre y W K ⟨⟨v,bv,hr,hl⟩,hB⟩ hK
    have HK:=Lib.hid hK
    clear hK
    gi_wp2
    refine HK.out _ _ ((KeepsOthers.alloc _ _).from _) (KeepsWalks.alloc _ _) ⟨⟨v,bv.alloc _,hr.alloc _,hl⟩,hB.alloc hB.size _⟩ ⟨W.heap.size,bv.lt,heap_alloc_new _ _,rfl⟩
  case body =>
    rintro ll pre y a' W hl ⟨r,hr⟩ ⟨⟨v,bv,hrow,hln⟩,hB⟩ ⟨Bx,hBx,bX,rfl⟩ hlt
    have hv:=bv.cell
    have hf:=bv.frozen
    have x0:=zG bX 0
    have x1:=zG bX 1
    have x2:=zG bX 2
    have x3:=zG bX 3
    gi_wp2_with (gi_at_builtin;refine wpListIn_append_own _ rfl _ _ 56 rfl w.heap.size 80 i0 _ 4 32 hu56 hi hz0 hz1 hz2 rfl (by decide) _ _ _ rfl (hrow.alloc _) ⟨W.heap.size,0,none⟩ 1 1 (c39 y) rfl rfl (cells_new _ _ _) (by simp [Value.oneCell']) (by simp only [maxLen];omega) (by omega) (by have:=hB.size;simp;omega) ?_;intro v' w1 hown' hgrow _;obtain ⟨g',cap',rfl⟩:=ownsRow_succ hown';obtain ⟨hv1,hv2,hr2,hk2,hb2⟩:=bv.appended (by decide) hrow hB.size (Nat.le_refl _) hown' hgrow;have hc1:=hv1.cell;have hf1:=hv1.frozen)
    refine ⟨hk2.from _,hk2.walks,⟨⟨_,hv2,?_,?_⟩,hB.trans hb2⟩⟩
    · rw [flat_snoc,List.length_append];exact hr2
    · rw [List.length_append,List.length_singleton];omega
  case done =>
    rintro D xs W hD hS ⟨⟨v,bv,hrow,hln⟩,hB⟩ hK
    have hv:=bv.cell
    gi_wp2
    refine ⟨by simp,.inl ⟨_,_,rfl,run_takeDeferred hK,?_⟩⟩
    exact ⟨_,results_tmp rfl _ _ _,xs,v,hS,hln,rfl,ownsRow_putObj hrow _ hK rfl,hB.trans ((Below.refl _ _).grown (grownBy_putObj' W D _) hB.size (fun k e => by injection e with e;omega))⟩
  case stop =>
    rintro D c pre W _ _ h _
    exact h.elim
theorem collect_in (n:Nat) (hn:4 ≤ n) (gf:Nat) (lb:Array Value) (eg:∀ args w,(callFunc gf args).run Try.prog w=.ok (.enter gf args) w) (w:World) (S:List S80 → Prop) (N:Nat) (hN:N ≤ 1000000)
    (hseq:SeqStopsK Fence.wide (n - 2) Try.prog gf lb (fun s => #[v80 s]) KeepsWalks S (fun _ => True) N w) :
    CallsIn Fence.wide n Try.prog 87 #[.func (.func gf) #[] lb] w fun e w' => ∃ xs v,S xs∧xs.length ≤ N∧e=.returned v∧w'.ownsRow w.heap.size 80 4 v xs.length (xs.flatMap c39)∧Below w.heap.size w w':=by
  have h1:1 ≤ n:=by omega
  have hcon:=Lib.hid (appendSeq_in (n - 1) (by omega) gf lb eg w S N hN (by rw [show n - 1 - 1=n - 2 by omega];exact hseq))
  clear hseq
  refine callsIn_of_wp Try.func87 rfl trivial ?_ rfl
  simp only [Try.ntmps87,List.size_toArray,List.length_cons,List.length_nil,Nat.reduceAdd,Nat.reduceSub,Array.replicate_succ,Array.replicate_zero,List.push_toArray,List.append_toArray,List.nil_append,List.cons_append]
  gi_wp2_with (refine ⟨trivial,?_⟩;gi_at_call 101;refine hcon.out.mono ?_;rintro e w' ⟨xs,v,hS,hl,rfl,hr,hb⟩)
  go_ret
  exact ⟨xs,v,hS,hl,rfl,hr,hb⟩
end Go.Proofs.Ytgnjkegnddekeaa.Q
namespace Go.Proofs.Ytgnjkegnddekeaa.Q
open Go.RowKit Go.Lib Go.Shelf Go.Maps Go.Proofs.Ytgnjkegnddekeaa Go.Proofs.YtgnjkegnddekeaaW.PrintWords Go.Proofs.YtgnjkegnddekeaaW.PrintLast Go.Proofs.YtgnjkegnddekeaaW.PrintMore
set_option linter.unusedVariables false
set_option maxRecDepth 100000
set_option linter.unusedSimpArgs false
/-- A map reads as a function. -/
def Is (D:DataW S80) (f:Int → Option S80):Prop:=IsMap D∧∀ x,(∃ s,f x=some s∧∀ z,D.atKey (.int .i64 x) z=.held s) ∨ (f x=none∧has D (.int .i64 x)=false)
theorem Is.nil:Is (.map []) (fun _ => none):=⟨isMap_empty,fun x => .inr ⟨rfl,rfl⟩⟩
theorem Is.put {D:DataW S80} {f:Int → Option S80} (h:Is D f) (x:Int) (s:S80):Is (D.put (.int .i64 x) (.held s)) (fun y => if y=x then some s else f y):=by
  refine ⟨h.1.put _ _,fun y => ?_⟩
  by_cases hy:y=x
  · subst hy
    exact .inl ⟨s,by simp,fun z => atKey_put_same h.1 (by simp [WideAt.IsKeyLit]) _ z⟩
  · have hne:(Lit.int .i64 y) ≠ .int .i64 x:=fun e => hy (by injection e)
    rcases h.2 y with ⟨s',h1,h2⟩ | ⟨h1,h2⟩
    · exact .inl ⟨s',by simp [hy,h1],fun z => (atKey_put_other hne _ z).trans (h2 z)⟩
    · exact .inr ⟨by simp [hy,h1],(has_put_other hne _).trans h2⟩
/-- Only places there are; each holds its own. -/
def Good (f:Int → Option S80):Prop:=∀ x s,f x=some s → s.f0=x∧0 ≤ x∧x < 64
theorem Good.nil:Good (fun _ => none):=fun x s h => by cases h
theorem Good.put {f:Int → Option S80} (h:Good f) (s:S80) (h0:0 ≤ s.f0) (h1:s.f0 < 64):Good (fun y => if y=s.f0 then some s else f y):=fun x t ht => by
  by_cases hx:x=s.f0
  · simp only [hx,if_true] at ht
    cases ht
    exact ⟨hx.symm,by omega,by omega⟩
  · simp only [if_neg hx] at ht
    exact h x t ht
/-- The values, by their places. -/
def listOf (f:Int → Option S80):List S80:=(List.range 64).filterMap fun i:Nat => f (i:Int)
theorem mem_listOf {f:Int → Option S80} (hG:Good f) {s:S80}:s ∈ listOf f ↔ f s.f0=some s:=by
  unfold listOf
  rw [List.mem_filterMap]
  constructor
  · rintro ⟨i,_,hi⟩
    have:=(hG _ _ hi).1
    rw [this];exact hi
  · intro h
    obtain ⟨-,h1,h2⟩:=hG _ _ h
    exact ⟨s.f0.toNat,List.mem_range.2 (by omega),by rw [Int.toNat_of_nonneg h1];exact h⟩
theorem sorted_listOf {f:Int → Option S80} (hG:Good f):(listOf f).Pairwise fun a b => a.f0 < b.f0:=by
  unfold listOf
  refine List.Pairwise.filterMap _ (R:=fun a b:Nat => a < b) (fun a a' h b hb b' hb' => ?_) List.pairwise_lt_range
  have h1:=(hG _ _ hb).1
  have h2:=(hG _ _ hb').1
  omega
theorem all_listed {D:DataW S80} {f:Int → Option S80} (hI:Is D f) (hG:Good f) {ys zs:List S80} (hA:AllOf D ys) (hP:zs.Perm ys) (hS:zs.Pairwise fun a b => a.f0 ≤ b.f0):zs=listOf f:=by
  obtain ⟨ps,rfl,hnd,hk,hat⟩:=hA
  have hv:∀ p ∈ ps,f p.1=some p.2:=fun p hp => by
    rcases hI.2 p.1 with ⟨s,h1,h2⟩ | ⟨-,h2⟩
    · have e:=(h2 (.held s)).symm.trans (hat p hp (.held s))
      injection e with e
      rw [h1,e]
    · have:=((hk p.1).1 (List.mem_map.2 ⟨p,hp,rfl⟩)).1
      rw [h2] at this
      cases this
  have hf0:∀ p ∈ ps,p.2.f0=p.1:=fun p hp => (hG _ _ (hv p hp)).1
  have hmem:∀ s,s ∈ ps.map (·.2) ↔ f s.f0=some s:=fun s => by
    rw [List.mem_map]
    constructor
    · rintro ⟨p,hp,rfl⟩
      rw [hf0 p hp];exact hv p hp
    · intro h
      rcases hI.2 s.f0 with ⟨t,h1,h2⟩ | ⟨h1,-⟩
      · have hh:=has_true_of_atKey h2
        obtain ⟨p,hp,hpe⟩:=List.mem_map.1 ((hk s.f0).2 ⟨hh,rfl⟩)
        refine ⟨p,hp,?_⟩
        have:=hv p hp
        rw [hpe,h] at this
        exact (Option.some.inj this).symm
      · rw [h1] at h;cases h
  have hnd2:(ps.map (·.2)).Nodup:=by
    have e:ps.map (·.1)=(ps.map (·.2)).map S80.f0:=by
      rw [List.map_map]
      exact List.map_congr_left fun p hp => (hf0 p hp).symm
    rw [e] at hnd
    exact (List.pairwise_map.1 hnd).imp fun h e => h (by rw [e])
  have hnl:(listOf f).Nodup:=(sorted_listOf hG).imp fun h e => by rw [e] at h;omega
  have hp2:zs.Perm (listOf f):=hP.trans ((List.perm_ext_iff_of_nodup hnd2 hnl).2 fun s => (hmem s).trans (mem_listOf hG).symm)
  refine List.Perm.eq_of_pairwise (le:=fun a b:S80 => a.f0 ≤ b.f0) (fun a b ha hb h1 h2 => ?_) hS ((sorted_listOf hG).imp fun h => by omega) hp2
  have e:a.f0=b.f0:=by omega
  have ha':=(mem_listOf hG).1 (hp2.mem_iff.1 ha)
  have hb':=(mem_listOf hG).1 hb
  rw [e,hb'] at ha'
  exact (Option.some.inj ha').symm
/-- One step more, of those that are read; of those that are written. -/
def putR (f:Int → Option S80) (s:S80):Int → Option S80:=if s.f2=false∧0 ≤ s.f0∧s.f0 < 64 then (fun y => if y=s.f0 then some s else f y) else f
theorem good_putR {f:Int → Option S80} (h:Good f) (s:S80):Good (putR f s):=by
  unfold putR
  split
  · rename_i hc;exact h.put s hc.2.1 hc.2.2
  · exact h
def readsF (l:List (Nat × S80)):Int → Option S80:=l.foldl (fun f p => putR f p.2) (fun _ => none)
theorem good_foldR:∀ (l:List (Nat × S80)) (f:Int → Option S80),Good f → Good (l.foldl (fun f p => putR f p.2) f)
  | [],_,h => h
  | p :: l,f,h => good_foldR l _ (good_putR h p.2)
theorem good_reads (l:List (Nat × S80)):Good (readsF l):=good_foldR l _ Good.nil
theorem readsF_snoc (l:List (Nat × S80)) (p:Nat × S80):readsF (l ++ [p])=putR (readsF l) p.2:=by simp [readsF]
def readsL (l:List S80):List S80:=listOf (readsF (rz l))
end Go.Proofs.Ytgnjkegnddekeaa.Q
namespace Go.Proofs
open Go.Shelf Go.RowKit Go.Lib Go.Sort
def Try.sortStep_ren:Go.Shelf.Ren:=⟨fun | 6 => 88 | 15 => 103 | 14 => 102 | 28 => 116 | 29 => 117 | 20 => 108 | 21 => 109 | 22 => 110 | 23 => 111 | 24 => 112 | 25 => 113 | 26 => 114 | 27 => 115 | 46 => 118 | 47 => 119 | 48 => 120 | 49 => 121 | 50 => 122 | 57 => 123 | n => n,fun | 22 => 56 | 24 => 80 | 25 => 151 | 3 => 3 | 39 => 188 | 0 => 0 | 53 => 202 | 55 => 204 | 4 => 4 | 46 => 195 | 45 => 194 | 50 => 199 | 5 => 5 | 9 => 9 | 66 => 205 | 70 => 157 | 76 => 210 | 77 => 211 | n => n,fun | n => n⟩
theorem Try.sortStep:Go.Proofs.SlLaysF0.n6 Try.prog Try.sortStep_ren:={
  mixed:=by kernel_rfl
  f6:=⟨Try.f88.name,by decide,Try.func88.trans (congrArg some (by kernel_rfl))⟩
  f14:=⟨Try.f102.name,by decide,Try.func102.trans (congrArg some (by kernel_rfl))⟩
  f15:=Try.func103.trans (congrArg some (by kernel_rfl))
  f20:=⟨Try.f108.name,by decide,Try.func108.trans (congrArg some (by kernel_rfl))⟩
  f21:=⟨Try.f109.name,by decide,Try.func109.trans (congrArg some (by kernel_rfl))⟩
  f22:=⟨Try.f110.name,by decide,Try.func110.trans (congrArg some (by kernel_rfl))⟩
  f23:=⟨Try.f111.name,by decide,Try.func111.trans (congrArg some (by kernel_rfl))⟩
  f24:=⟨Try.f112.name,by decide,Try.func112.trans (congrArg some (by kernel_rfl))⟩
  f25:=⟨Try.f113.name,by decide,Try.func113.trans (congrArg some (by kernel_rfl))⟩
  f26:=⟨Try.f114.name,by decide,Try.func114.trans (congrArg some (by kernel_rfl))⟩
  f27:=⟨Try.f115.name,by decide,Try.func115.trans (congrArg some (by kernel_rfl))⟩
  f28:=Try.func116.trans (congrArg some (by kernel_rfl))
  f29:=Try.func117.trans (congrArg some (by kernel_rfl))
  f46:=⟨Try.f118.name,by decide,Try.func118.trans (congrArg some (by kernel_rfl))⟩
  f47:=Try.func119.trans (congrArg some (by kernel_rfl))
  f48:=Try.func120.trans (congrArg some (by kernel_rfl))
  f49:=⟨Try.f121.name,by decide,Try.func121.trans (congrArg some (by kernel_rfl))⟩
  f50:=⟨Try.f122.name,by decide,Try.func122.trans (congrArg some (by kernel_rfl))⟩
  f57:=⟨Try.f123.name,by decide,Try.func123.trans (congrArg some (by kernel_rfl))⟩
  t0:=Try.underlying0
  a0:=Try.isAgg0
  z0:=Try.sizeOf0
  v0:=Try.zeroValue0
  t3:=Try.underlying3
  a3:=Try.isAgg3
  z3:=Try.sizeOf3
  v3:=Try.zeroValue3
  t4:=Try.underlying4
  a4:=Try.isAgg4
  z4:=Try.sizeOf4
  v4:=Try.zeroValue4
  t5:=Try.underlying5
  a5:=Try.isAgg5
  z5:=Try.sizeOf5
  v5:=Try.zeroValue5
  t9:=Try.underlying9
  a9:=Try.isAgg9
  z9:=Try.sizeOf9
  v9:=Try.zeroValue9
  t22:=Try.underlying56
  a22:=Try.isAgg56
  z22:=Try.sizeOf56
  v22:=Try.zeroValue56
  t25:=Try.underlying151
  a25:=Try.isAgg151
  z25:=Try.sizeOf151
  v25:=Try.zeroValue151
  t39:=Try.underlying188
  a39:=Try.isAgg188
  z39:=Try.sizeOf188
  v39:=Try.zeroValue188
  t45:=Try.underlying194
  a45:=Try.isAgg194
  z45:=Try.sizeOf194
  v45:=Try.zeroValue194
  t46:=Try.underlying195
  a46:=Try.isAgg195
  z46:=Try.sizeOf195
  v46:=Try.zeroValue195
  t50:=Try.underlying199
  a50:=Try.isAgg199
  z50:=Try.sizeOf199
  v50:=Try.zeroValue199
  t53:=Try.underlying202
  a53:=Try.isAgg202
  z53:=Try.sizeOf202
  v53:=Try.zeroValue202
  t55:=Try.underlying204
  a55:=Try.isAgg204
  z55:=Try.sizeOf204
  v55:=Try.zeroValue204
  t66:=Try.underlying205
  a66:=Try.isAgg205
  z66:=Try.sizeOf205
  v66:=Try.zeroValue205
  t70:=Try.underlying157
  a70:=Try.isAgg157
  z70:=Try.sizeOf157
  v70:=Try.zeroValue157
  t76:=Try.underlying210
  a76:=Try.isAgg210
  z76:=Try.sizeOf210
  v76:=Try.zeroValue210
  t77:=Try.underlying211
  a77:=Try.isAgg211
  z77:=Try.sizeOf211
  v77:=Try.zeroValue211 }
def Try.cmpInt_ren:Go.Shelf.Ren:=⟨fun | 5 => 70 | 7 => 90 | n => n,fun | 22 => 3 | 3 => 3 | 4 => 4 | n => n,fun | n => n⟩
theorem Try.cmpInt:Go.Proofs.SlLaysC2.n5 Try.prog Try.cmpInt_ren:={
  mixed:=by kernel_rfl
  f5:=⟨Try.f70.name,by decide,Try.func70.trans (congrArg some (by kernel_rfl))⟩
  f7:=⟨Try.f90.name,by decide,Try.func90.trans (congrArg some (by kernel_rfl))⟩
  t3:=Try.underlying3
  a3:=Try.isAgg3
  z3:=Try.sizeOf3
  v3:=Try.zeroValue3
  t4:=Try.underlying4
  a4:=Try.isAgg4
  z4:=Try.sizeOf4
  v4:=Try.zeroValue4
  t22:=Try.underlying3
  a22:=Try.isAgg3
  z22:=Try.sizeOf3
  v22:=Try.zeroValue3 }
end Go.Proofs
namespace Go.Proofs.Ytgnjkegnddekeaa.Q
open Go.RowKit Go.Lib Go.Shelf Go.Maps Go.Sort Go.Proofs.Ytgnjkegnddekeaa Go.Proofs.YtgnjkegnddekeaaW.PrintWords Go.Proofs.YtgnjkegnddekeaaW.PrintLast Go.Proofs.YtgnjkegnddekeaaW.PrintMore
set_option linter.unusedVariables false
set_option maxRecDepth 100000
set_option linter.unusedSimpArgs false
instance : Inhabited S80 := ⟨z80⟩
theorem closure_listed (x y:S80) (W:World):Calls Try.prog 69 #[v80 x,v80 y] W fun e w' => e=.returned (.int .i64 (Lib.compareInt x.f0 y.f0))∧∃ q os',w'=grow (W.drewN q) os':=by
  have hu:=Try.underlying80
  have hcon:=fun W' => AnyG.cmp_Compare_int Try.cmpInt x.f0 y.f0 W'
  change ∀ W',Calls Try.prog 70 _ _ _ at hcon
  generalize Lib.compareInt x.f0 y.f0=r at hcon ⊢
  go_enter Try.func69,Try.ntmps69
  go_wp2_with (go_at_call 70;refine (hcon _).mono ?_;rintro e w' ⟨rfl,rfl⟩)
  go_ret
  exact ⟨rfl,0,_,by rw [alloc_eq_grow,alloc_eq_grow,grow_grow];rfl⟩
theorem cmpLays (blk off size:Nat) (w:World):CmpLays Try.prog 69 #[] c39 4 (fun x y => Lib.compareInt x.f0 y.f0) blk off size w :=
  fun _ _ _ _ x y => closure_listed x y _
theorem ltX (x y:S80):ltOf (fun x y:S80 => Lib.compareInt x.f0 y.f0) x y=decide (x.f0 < y.f0):=by
  unfold ltOf Lib.compareInt
  by_cases h1:x.f0 < y.f0
  · simp [h1]
  · by_cases h2:y.f0 < x.f0 <;> simp [h1,h2]
theorem swoX:SWO (ltOf fun x y:S80 => Lib.compareInt x.f0 y.f0) where
  irrefl x:=by rw [ltX];simp
  trans x y z h1 h2:=by rw [ltX] at *;simp at *;omega
  ntrans x y z h1 h2:=by rw [ltX] at *;simp at *;omega
theorem sortStep_calls (blk off cap:Nat) (d:Array S80) (w:World) (hH:HoldsK c39 4 w blk off d) (hblk:blk < w.heap.size) (hsz:d.size < 4611686018427387904) :
    Calls Try.prog 88 #[.slice (some ⟨blk,off,none⟩) d.size cap,.func (.func 69) #[] #[]] w fun e w' => e=.returned (.tuple #[])∧∃ d' n os,PermIn 0 d.size d d'∧SortedIn (ltOf fun x y:S80 => Lib.compareInt x.f0 y.f0) 0 d.size d'∧w'=sortWorldK c39 4 w blk off n d' os:=by
  have eg:∀ args w,(callFunc 69 args).run Try.prog w=.ok (.enter 69 args) w:=enters_of Try.func69 (by kernel_rfl) rfl
  exact AnyQ.slices_SortFunc Try.sortStep 4 Try.isAgg80 Try.sizeOf80 c39 (fun _ => rfl) (fun x v hv => by simp [c39] at hv;rcases hv with rfl | rfl | rfl | rfl <;> rfl) (fun x y => Lib.compareInt x.f0 y.f0) swoX 69 #[] blk off cap d w eg (cmpLays blk off d.size w) hH hblk hsz
theorem reps39_on (w:World) (base:Nat) (ok:Nat → Prop):∀ (zs pre:List S80),Reps (k80.M w base ok) 4 pre (pre.flatMap c39) → Reps (k80.M w base ok) 4 (pre ++ zs) ((pre ++ zs).flatMap c39)
  | [],pre,h => by rw [List.append_nil];exact h
  | z :: zs,pre,h => by
    have:=reps39_on w base ok zs (pre ++ [z]) (by rw [flat_snoc];exact Reps.snoc h (k80_mkM w base ok z) rfl)
    rwa [List.append_assoc] at this
theorem reps39 (w:World) (base:Nat) (ok:Nat → Prop) (xs:List S80):Reps (k80.M w base ok) 4 xs (xs.flatMap c39):=reps39_on w base ok xs [] (Reps.none _ _)
theorem C_of_own {w:World} {base:Nat} {A:Option Addr} {n c:Nat} {xs:List S80} (h:w.ownsRow base 80 4 (.slice A n c) xs.length (xs.flatMap c39)):Kd.C k80 w A xs.length xs∧xs.length ≤ c∧n=xs.length:=by
  have hR:Kd.R k80 80 w base (fun _ => True) (.slice A n c) xs:=⟨fun _ _ => trivial,_,h,reps39 _ _ _ _⟩
  have hr:=Kd.R_reads' hR
  obtain ⟨h1,h2,h3⟩:=hr
  subst h1
  exact ⟨h3,h2,rfl⟩
theorem holds_of_own {w:World} {base g n c:Nat} {xs:List S80} (h:w.ownsRow base 80 4 (.slice (some ⟨g,0,none⟩) n c) xs.length (xs.flatMap c39)):HoldsK c39 4 w g 0 xs.toArray∧g < w.heap.size∧base ≤ g:=by
  have hC:=(C_of_own h).1
  rcases h.2 with ⟨h0,_⟩ | ⟨g',cap,cur,e,hb,hg,-⟩
  · cases h0
  · injection e with e1 e2 e3
    injection e1 with e1
    injection e1 with e1
    subst e1
    refine ⟨fun t ht => ?_,blk_lt hg,hb⟩
    rw [size_flatK] at ht
    have ht':t < xs.length * 4:=by simpa using ht
    rw [get_flatK _ _ _ _ ht]
    refine ⟨?_,zH hg _⟩
    have h4:t % 4 < 4:=Nat.mod_lt _ (by decide)
    have ht4:t=t / 4 * 4 + t % 4:=by omega
    have hp:t / 4 < xs.length:=by omega
    generalize t % 4=q at *
    generalize t / 4=p at *
    obtain ⟨ad,hA,a0,a1,a2,a3⟩:=at_T80 hC (p:Int) (by omega) (by omega)
    cases hA
    have hx:rd_T80 xs (p:Int)=xs.toArray[p]!:=by
      unfold rd_T80
      simp [List.getD_eq_getElem?_getD,hp]
    rw [hx] at a0 a1 a2 a3
    simp only [Int.toNat_natCast,Addr.add_lit] at a0 a1 a2 a3
    generalize xs.toArray[p]! = x at *
    subst ht4
    rcases q with _ | _ | _ | _ | q
    · exact a0
    · exact a1
    · exact a2
    · exact a3
    · omega
theorem C_of_holds {w:World} {g:Nat} {xs:List S80} (h:HoldsK c39 4 w g 0 xs.toArray) (hl:xs.length ≤ 9223372036854775807):Kd.C k80 w (some ⟨g,0,none⟩) xs.length xs:=by
  refine ⟨rfl,hl,fun _ => ⟨_,rfl,fun j p hp => ⟨c39 p,rfl,k80_mk w p,fun i u hu => ?_⟩⟩⟩
  have hj:j < xs.length:=(List.getElem?_eq_some_iff.1 hp).1
  have hi:i < 4:=(List.getElem?_eq_some_iff.1 hu).1
  have:=(h.cell (i:=j) (c:=i) (by simpa using hj) hi).1
  have hx:xs.toArray[j]! = p:=by simp [hj,(List.getElem?_eq_some_iff.1 hp).2]
  rw [hx] at this
  have hu':(c39 p)[i]! = u:=by rw [List.getElem!_eq_getElem?_getD,hu];rfl
  rw [hu'] at this
  rw [Addr.add_lit]
  rw [← this]
  congr 2
  show 0 + (j * 4 + i)=0 + j * 4 + i
  omega
theorem below_sort {w:World} {base g n:Nat} {d:Array S80} {os:Array Obj} (hb:base ≤ g) (hg:base ≤ w.heap.size):Below base w (sortWorldK c39 4 w g 0 n d os):=by
  refine ⟨rfl,rfl,rfl,?_,fun k hk => ?_⟩
  · show w.heap.size ≤ ((w.heap.modify g _) ++ os).size
    rw [Array.size_append,Array.size_modify]
    omega
  · show ((w.heap.modify g _) ++ os)[k]?=_
    rw [Array.getElem?_append_left (by rw [Array.size_modify];omega),Array.getElem?_modify,if_neg (by omega)]
theorem collect_calls (Bm b nn:Nat) (D:DataW S80) (w:World) (hm:w.heap[Bm]?=some (.cells #[.map (some b)] 115 (0,0))) (hown:w.ownsMap Try.prog 3 r80 b nn D) (hn:nn ≤ 1000000) :
    Calls Try.prog 87 #[.func (.func 89) #[] #[.pointer (some ⟨Bm,0,none⟩)]] w fun e w' => ∃ xs v,AllOf D xs∧xs.length ≤ 1000000∧e=.returned v∧w'.ownsRow w.heap.size 80 4 v xs.length (xs.flatMap c39)∧RowKit.Below w.heap.size w w':=by
  have hs:=hown.size_le
  refine callsIn_wide.1 ((collect_in 4 (Nat.le_refl _) _ _ (enters_of Try.func89 (by kernel_rfl) rfl) w (AllOf D) (Maps.size D) (by omega) (values_stops 2 (by decide) Bm b nn D w hm hown)).mono ?_)
  rintro e w' ⟨xs,v,h1,h2,h3,h4,h5⟩
  exact ⟨xs,v,h1,by omega,h3,h4,h5⟩
theorem sorted_pairwise {d':Array S80} (h:SortedIn (ltOf fun x y:S80 => Lib.compareInt x.f0 y.f0) 0 d'.size d'):d'.toList.Pairwise fun a b => a.f0 ≤ b.f0:=by
  rw [List.pairwise_iff_getElem]
  intro i j hi hj hij
  have:=h i j (Nat.zero_le _) hij (by simpa using hj)
  rw [ltX,getElem!_pos d' i (by simpa using hi),getElem!_pos d' j (by simpa using hj)] at this
  simp at this
  simpa using this
theorem sorting_calls (xs:List S80) (v:Value) (base:Nat) (w:World) (hr:w.ownsRow base 80 4 v xs.length (xs.flatMap c39)) (hb:base ≤ w.heap.size) (hl:xs.length ≤ 1000000) :
    Calls Try.prog 88 #[v,.func (.func 69) #[] #[]] w fun e w' => e=.returned (.tuple #[])∧∃ A c zs,v=.slice A zs.length c∧zs.length ≤ c∧zs.Perm xs∧zs.Pairwise (fun a b => a.f0 ≤ b.f0)∧Kd.C k80 w' A zs.length zs∧RowKit.Below base w w':=by
  by_cases h0:xs.length=0
  · obtain rfl:=List.eq_nil_of_length_eq_zero h0
    obtain ⟨A,n,c,rfl⟩:∃ A n c,v=.slice A n c:=by
      rcases hr.2 with ⟨rfl,_⟩ | ⟨g,cap,cur,rfl,-⟩
      · exact ⟨_,_,_,rfl⟩
      · exact ⟨_,_,_,rfl⟩
    obtain ⟨hC,hc,rfl⟩:=C_of_own hr
    refine (AnyF.slices_SortFunc_none { Try.sortStep with } A c _ w).mono ?_
    rintro e w' ⟨rfl,rfl⟩
    exact ⟨rfl,A,c,[],rfl,hc,List.Perm.refl _,List.Pairwise.nil,hC,RowKit.Below.refl _ _⟩
  · obtain ⟨g, cap, rfl⟩ : ∃ g cap, v = .slice (some ⟨g, 0, none⟩) xs.length cap := by
      rcases hr.2 with ⟨-,h⟩ | ⟨g,cap,cur,rfl,-⟩
      · exact absurd h h0
      · exact ⟨_,_,rfl⟩
    obtain ⟨hC,hc,-⟩:=C_of_own hr
    obtain ⟨hH,hg,hbg⟩:=holds_of_own hr
    have hcon:=sortStep_calls g 0 cap xs.toArray w hH hg (by simp;omega)
    rw [List.size_toArray] at hcon
    refine hcon.mono ?_
    rintro e w' ⟨rfl,d',n,os,hp,hs,rfl⟩
    have hsz:d'.size=xs.length:=by rw [hp.1];simp
    have hz:d'.toList.length=xs.length:=by rw [Array.length_toList];exact hsz
    refine ⟨rfl,some ⟨g,0,none⟩,cap,d'.toList,by rw [hz],by rw [hz];exact hc,?_,sorted_pairwise (by rw [hsz];exact hs),?_,below_sort hbg hb⟩
    · have:=hp.2.2
      rw [← hsz,Array.extract_size] at this
      rw [hsz,show xs.length=xs.toArray.size by simp,Array.extract_size] at this
      exact this
    · refine C_of_holds ?_ (by rw [hz];omega)
      rw [Array.toArray_toList]
      exact holdsK_grow c39 4 _ os g 0 d' (by simpa [putRowK,putRow,mapBlock,Sort.ahead] using hg) (holdsK_putRowK c39 4 _ g 0 xs.toArray d' (holdsK_ahead c39 4 _ _ _ _ _ hH) hp.1)
theorem sortedFunc_calls (Bm b nn:Nat) (D:DataW S80) (f:Int → Option S80) (w:World) (hm:w.heap[Bm]?=some (.cells #[.map (some b)] 115 (0,0))) (hown:w.ownsMap Try.prog 3 r80 b nn D) (hI:Is D f) (hG:Good f) (hn:nn ≤ 1000000) :
    Calls Try.prog 67 #[.func (.func 89) #[] #[.pointer (some ⟨Bm,0,none⟩)],.func (.func 69) #[] #[]] w fun e w' => ∃ A c,e=.returned (.slice A (listOf f).length c)∧Kd.C k80 w' A (listOf f).length (listOf f)∧(listOf f).length ≤ c∧RowKit.Below w.heap.size w w':=by
  have C1:=Lib.hid (collect_calls Bm b nn D w hm hown hn)
  have HI:=Lib.hid (zM hI hG)
  clear hm hown hI hG
  go_enter Try.func67,Try.ntmps67
  go_wp2_with fail
  refine C1.out.mono ?_
  rintro e w1 ⟨xs,v,hA,hl,rfl,hr,hB⟩
  have C2:=Lib.hid (sorting_calls xs v w.heap.size w1 hr hB.size hl)
  have HA:=Lib.hid (zM hA hB)
  clear hA hB hr C1
  go_wp2_with fail
  refine C2.out.mono ?_
  rintro e w2 ⟨rfl,A,c,zs,rfl,hc,hp,hs,hC,hB2⟩
  have e:=all_listed HI.out.1 HI.out.2 HA.out.1 hp hs
  subst e
  have HC:=Lib.hid (zM hC (zM hc (HA.out.2.trans hB2)))
  clear hC hc hB2 hp hs C2
  go_wp2_with fail
  go_ret
  exact ⟨A,c,rfl,HC.out.1,HC.out.2.1,HC.out.2.2⟩
theorem listed_calls (b nn:Nat) (D:DataW S80) (f:Int → Option S80) (w:World) (hown:w.ownsMap Try.prog 3 r80 b nn D) (hI:Is D f) (hG:Good f) (hn:nn ≤ 1000000) :
    Calls Try.prog 44 #[.map (some b)] w fun e w' => ∃ A c,e=.returned (.slice A (listOf f).length c)∧Kd.C k80 w' A (listOf f).length (listOf f)∧(listOf f).length ≤ c∧RowKit.Below w.heap.size w w':=by
  have C1:=Lib.hid (values_calls b w)
  have C2:=Lib.hid (sortedFunc_calls w.heap.size b nn D f (w.alloc (.cells #[.map (some b)] 115)) (heap_alloc_new _ _) (hown.alloc _) hI hG hn)
  clear hown hI hG
  go_enter Try.func44,Try.ntmps44
  go_wp2_with fail
  refine C1.out.mono ?_
  rintro e w1 ⟨rfl,rfl⟩
  clear C1
  go_wp2_with fail
  refine C2.out.mono ?_
  rintro e w2 ⟨A,c,rfl,hC,hc,hB⟩
  have HC:=Lib.hid (zM hC (zM hc (bAfter (bOne _) hB)))
  clear hC hc hB C2
  go_wp2_with fail
  go_ret
  exact ⟨A,c,rfl,HC.out.1,HC.out.2.1,HC.out.2.2⟩
attribute [local go_sem] Oper.semAt_some
theorem C39_put {W:World} {A:Option Addr} {m:Nat} {xs:List S80} {D:Nat} {o:Obj} (h:Kd.C k80 W A m xs) (hD:W.heap[D]?=some o) (ho:o.isCells=false) (o':Obj):Kd.C k80 (W.putObj D o') A m xs:=by
  obtain ⟨h1,h2,h3⟩:=h
  refine ⟨h1,h2,fun hm => ?_⟩
  obtain ⟨ad,e,hc⟩:=h3 hm
  refine ⟨ad,e,fun j p hp => ?_⟩
  obtain ⟨c,hl,hk,hcell⟩:=hc j p hp
  refine ⟨c,hl,?_,fun i u hu => cell_kept (hcell i u hu) (grownBy_putObj' W D o') (fun r e => by injection e with e;subst e;exact ⟨_,hD,ho⟩)⟩
  rw [k80_open hk]
  exact k80_mk _ p
theorem wf_i64 {x:Int} (h0:-9223372036854775808 ≤ x) (h1:x ≤ 9223372036854775807):(Lit.int .i64 x).wf=true:=by
  simp [Lit.wf,IntKind.min,IntKind.max,IntKind.signed,IntKind.bits]
  omega
set_option maxRecDepth 100000 in
set_option maxHeartbeats 4000000 in
theorem reads_in (n:Nat) (hn:3 ≤ n) (A:Option Addr) (c:Nat) (l:List S80) (w:World) (hC:Kd.C k80 w A l.length l) (hz:l.length ≤ 1000000) :
    CallsIn Fence.wide n Try.prog 26 #[.slice A l.length c] w fun e w' => ∃ A c,e=.returned (.slice A (readsL l).length c)∧Kd.C k80 w' A (readsL l).length (readsL l)∧(readsL l).length ≤ c∧Below w.heap.size w w':=by
  have hu:=Try.underlying80
  have hu57:=Try.underlying57
  have hu115:=Try.underlying115
  have hk3:=int_keyed Try.underlying3
  have hmm:=@run_makeMap Try.prog
  have h1:1 ≤ n:=by omega
  refine callsIn_of_wp_marks Try.func26 rfl trivial ?_ rfl
  simp only [Try.ntmps26,List.size_toArray,List.length_cons,List.length_nil,Nat.reduceAdd,Nat.reduceSub,Array.replicate_succ,Array.replicate_zero,List.push_toArray,List.append_toArray,List.nil_append,List.cons_append]
  gi_wp2_with (refine ⟨trivial,?_⟩;gi_at_call 43;refine (CallsIn.mono (callsIn_wide.2 (backward_calls A l.length c _)) ?_);rintro e w' ⟨rfl,rfl⟩)
  obtain ⟨W0, hW0, m0, b1, b2, hB0, hsz⟩ : ∃ W0, ((w.alloc (.map #[] 0)).alloc (.cells #[.map (some w.heap.size)] 115)).alloc (.cells #[.slice A l.length c] 57) = W0 ∧
      W0.ownsMap Try.prog 3 r80 w.heap.size 0 (.map [])∧W0.heap[w.heap.size + 1]?=some (.cells #[.map (some w.heap.size)] 115 (0,0))∧W0.heap[w.heap.size + 1 + 1]?=some (.cells #[.slice A l.length c] 57 (0,0))∧Below w.heap.size w W0∧W0.heap.size=w.heap.size + 3:=by
    obtain ⟨V,rfl,h1,h2,h3,h4,h5⟩:=three_named w (.map #[] 0) (.cells #[.map (some w.heap.size)] 115) (.cells #[.slice A l.length c] 57)
    exact ⟨_,rfl,((World.ownsMap_made w Try.prog 3 r80).alloc _).alloc _,h2,h3,h4,h5⟩
  rw [hW0]
  clear hW0 hmm
  refine wpIn_rangeFunc_ownH rfl h1 (gf:=66) (lb:=#[.pointer (some ⟨w.heap.size + 1 + 1,0,none⟩)]) rfl trivial (enters_of Try.func66 (by kernel_rfl) rfl)
    (backward_stops (n - 1) (by omega) (w.heap.size + 1 + 1) c A l w W0 hB0 hC b2 hz) KB.trans (fun W l o o' hl h hc hw => KB.put l o o' (by omega) (by omega) h hc hw) (Below.refl _ _) (fun _ => rfl)
    (fun pre W => ((∃ D,W.ownsMap Try.prog 3 r80 w.heap.size pre.length D∧Is D (readsF pre))∧W.heap[w.heap.size + 1]?=some (.cells #[.map (some w.heap.size)] 115 (0,0)))∧Below w.heap.size w W)
    (fun _ _ _ => False)
    (OwnFrom.and (OwnFrom.and (fun s X Y row hs hg hr => by
      obtain ⟨D,hD,hI⟩:=hs
      exact ⟨D,hD.kept hg (fun e => by have:=(hr _ e.symm).1;omega),hI⟩) (own_cells _ _ (fun _ => .cells #[.map (some w.heap.size)] 115 (0,0)) fun _ => rfl)) (ownFrom_below (Nat.le_refl _) (by omega)))
    (fun _ _ _ _ _ hs _ _ => hs)
    ⟨⟨⟨_,m0,Is.nil⟩,b1⟩,hB0⟩
    (fun y a' W => ∃ Bx,w.heap.size + 1 < Bx∧W.heap[Bx]?=some (stepC y.2)∧a'={ tmps:=#[.slice A l.length c,undef,.slice none 0 0,.pointer (some ⟨w.heap.size + 1,0,none⟩),undef,.pointer (some ⟨Bx,0,none⟩),.map (some w.heap.size),.slice A l.length c,.func (.func 66) #[] #[.pointer (some ⟨w.heap.size + 1 + 1,0,none⟩)],.int .i64 (y.1:Int),v80 y.2,undef,undef,undef,undef,undef,undef,undef,undef,undef,undef,undef,undef,undef,undef,undef,undef,undef,undef,undef],defers:=[] })
    (fun y a' _ X Y row hs hg hr => by obtain ⟨Bx,h1,h2,h3⟩:=hs;exact ⟨Bx,h1,own_cells W0.heap.size Bx (fun _:Unit => stepC y.2) (fun _ => rfl) () X Y row h2 hg hr,h3⟩)
    ?assign ?body ?done ?stop
  case assign =>
    rintro ll pre y W K ⟨⟨⟨D,hD,hI⟩,bv⟩,hB⟩ hK
    have HK:=Lib.hid hK
    clear hK
    gi_wp2
    refine HK.out _ _ ((KeepsOthers.alloc _ _).from _) ⟨(Below.refl _ W).alloc hB.size _,fun hb => heap_alloc_old _ _ hb⟩ ⟨⟨⟨D,hD.alloc _,hI⟩,blk_alloc bv _⟩,hB.alloc hB.size _⟩ ⟨W.heap.size,blk_lt bv,heap_alloc_new _ _,rfl⟩
  case body =>
    rintro ll pre y a' W hl ⟨r,hr⟩ ⟨⟨⟨D,hD,hI⟩,bv⟩,hB⟩ ⟨Bx,hBx,bX,rfl⟩ hlt
    have d1:=zG bv 0
    have x0:=zG bX 0
    have x1:=zG bX 1
    have x2:=zG bX 2
    have x3:=zG bX 3
    have HB:=Lib.hid (zM hB (zM bv hI))
    clear hB bv hI bX
    have HM:=Lib.hid (fun W2 (hg:W.grownBy W2 (some w.heap.size)) => (show KeepsFrom W0.heap.size W W2∧KB w.heap.size (w.heap.size + 1 + 1) W W2 from
      ⟨KeepsFrom.of_grownBy hg (fun j e => by injection e with e;omega),(Below.refl _ W).grown hg HB.out.1.size (fun k e => by injection e with e;omega),fun hb => hg.block _ hb (fun e => by injection e with e;omega)⟩))
    obtain ⟨i,s0,⟨s1,s2⟩,s3⟩:=y
    dsimp only at x0 x1 x2 x3
    dsimp only [v80]
    by_cases c1:s3=false
    · subst c1
      by_cases c2:0 ≤ s0
      · by_cases c3:s0 < 64
        · have hwf:(Lit.int .i64 s0).wf=true:=wf_i64 (by omega) (by omega)
          have hst:readsF (pre ++ [(i,⟨s0,⟨s1,s2⟩,false⟩)])=fun z => if z=s0 then some ⟨s0,⟨s1,s2⟩,false⟩ else readsF pre z:=by
            rw [readsF_snoc];unfold putR;rw [if_pos ⟨rfl,c2,c3⟩]
          gi_wp2_with (gi_at_mapUpdate;refine wpListIn_mapUpdate_own _ rfl _ _ _ 115 rfl 3 80 hk3 hu115 r80 w.heap.size pre.length D rfl hD (by simp only [maxLen];omega) _ _ _ rfl rfl (Maps.keyOf_int_mk Try.underlying3 hwf) (.held ⟨s0,⟨s1,s2⟩,false⟩) [] rfl ?_;intro w1 hown1 hgrow1)
          obtain ⟨k1,k2⟩:=HM.out _ hgrow1
          exact ⟨k1,k2,⟨⟨_,by rw [List.length_append];exact hown1,by rw [hst];exact HB.out.2.2.put s0 ⟨s0,⟨s1,s2⟩,false⟩⟩,(hgrow1.block _ (blk_lt HB.out.2.1) (fun e => by injection e with e;omega)).trans HB.out.2.1⟩,HB.out.1.trans k2.1⟩
        · have hst : readsF (pre ++ [(i, ⟨s0, ⟨s1, s2⟩, false⟩)]) = readsF pre := by
            rw [readsF_snoc];unfold putR;rw [if_neg (fun h => c3 h.2.2)]
          have HST:=Lib.hid hst
          clear hst
          gi_wp2
          exact ⟨KeepsFrom.refl _ _,KB.refl _ _ _,⟨⟨D,by rw [List.length_append];exact hD.mono (by simp),by rw [HST.out];exact HB.out.2.2⟩,HB.out.2.1⟩,HB.out.1⟩
      · have hst : readsF (pre ++ [(i, ⟨s0, ⟨s1, s2⟩, false⟩)]) = readsF pre := by
          rw [readsF_snoc];unfold putR;rw [if_neg (fun h => c2 h.2.1)]
        have HST:=Lib.hid hst
        clear hst
        gi_wp2
        exact ⟨KeepsFrom.refl _ _,KB.refl _ _ _,⟨⟨D,by rw [List.length_append];exact hD.mono (by simp),by rw [HST.out];exact HB.out.2.2⟩,HB.out.2.1⟩,HB.out.1⟩
    · obtain rfl:s3=true:=by simpa using c1
      have hst:readsF (pre ++ [(i,⟨s0,⟨s1,s2⟩,true⟩)])=readsF pre:=by
        rw [readsF_snoc];unfold putR;rw [if_neg (fun h => by cases h.1)]
      have HST:=Lib.hid hst
      clear hst
      gi_wp2
      exact ⟨KeepsFrom.refl _ _,KB.refl _ _ _,⟨⟨D,by rw [List.length_append];exact hD.mono (by simp),by rw [HST.out];exact HB.out.2.2⟩,HB.out.2.1⟩,HB.out.1⟩
  case done =>
    rintro D ys W hD rfl ⟨⟨⟨D',hD',hI⟩,bv⟩,hB⟩ hK
    have d1:=zG bv 0
    gi_wp2_with (refine ⟨trivial,?_⟩;gi_at_call 44;refine (CallsIn.mono (callsIn_wide.2 (listed_calls _ _ D' _ W hD' hI (good_reads _) (by rw [rz_len];omega))) ?_);rintro e w' ⟨A',c',rfl,hC',hc',hb'⟩)
    have hK2:=(hb'.block _ (blk_lt hK)).trans hK
    refine ⟨by simp,.inl ⟨_,_,rfl,run_takeDeferred hK2,?_⟩⟩
    have hg:=grownBy_putObj' w' D (.deferred none)
    refine ⟨_,results_tmp rfl _ _ _,A',c',rfl,?_,hc',(hB.trans (hb'.mono hB.size)).trans ((Below.refl _ _).grown hg (by have:=hB.size;have:=hb'.size;omega) (fun k e => by injection e with e;omega))⟩
    exact C39_put hC' hK2 rfl _
  case stop =>
    rintro D cc pre W hD _ h _
    exact h.elim
theorem reads_calls (A:Option Addr) (c:Nat) (l:List S80) (w:World) (hC:Kd.C k80 w A l.length l) (hz:l.length ≤ 1000000) :
    Calls Try.prog 26 #[.slice A l.length c] w fun e w' => ∃ A c,e=.returned (.slice A (readsL l).length c)∧Kd.C k80 w' A (readsL l).length (readsL l)∧(readsL l).length ≤ c∧Below w.heap.size w w' :=
  callsIn_wide.1 (reads_in 3 (Nat.le_refl _) A c l w hC hz)
end Go.Proofs.Ytgnjkegnddekeaa.Q
namespace Go.Proofs.Ytgnjkegnddekeaa.Q
open Go.RowKit Go.Lib Go.Shelf Go.Maps Go.Proofs.Ytgnjkegnddekeaa Go.Proofs.YtgnjkegnddekeaaW.PrintWords Go.Proofs.YtgnjkegnddekeaaW.PrintLast Go.Proofs.YtgnjkegnddekeaaW.PrintMore
set_option linter.unusedVariables false
set_option maxRecDepth 100000
set_option linter.unusedSimpArgs false
end Go.Proofs.Ytgnjkegnddekeaa.Q
