/- The fields of an operation, and whether it may be, by hand. -/
import Derived.Test.YtgnjkegnddekeaaXMem
import Derived.Test.YtgnjkegnddekeaaXLoops
import Derived.Test.YtgnjkegnddekeaaXQ2
import Derived.Deep.LoopGhost
import Derived.WalkKit
import Derived.RegionTactic
import Derived.ChangeAlike
import Derived.BigRegion
namespace Go.Proofs.Ytgnjkegnddekeaa.Q
open Go.RowKit Go.Lib Go.Proofs.Ytgnjkegnddekeaa Go.Proofs.YtgnjkegnddekeaaW.PrintWords Go.Proofs.YtgnjkegnddekeaaW.PrintLast Go.Proofs.YtgnjkegnddekeaaW.PrintMore
set_option linter.unusedVariables false
set_option linter.unusedSimpArgs false
/-- One result alone, that lies in memory. -/
theorem results_c1f {P:Program} {fn:Func} {p:Tmp} {ty:TypeId} (h:fn.results=#[.cell p ty]) (tmps:Array Value) (w:World) (g:Nat) (t:TypeId) (cs:Array Value) (fr:Nat × Nat) (d:TypeDesc)
    (hp:tmps.getD p undef=.pointer (some ⟨g,0,none⟩)) (hg:w.heap[g]?=some (.cells cs t fr))
    (hu:P.underlying ty=some d) (hd:(match d with | .struct _ | .array _ _ => true | _ => false)=true) (hi:(P.info? ty).map (·.size)=some cs.size) :
    (results fn tmps).run P w=.ok (.agg cs) w:=by
  have hp':tmps[p]?.getD undef=.pointer (some ⟨g,0,none⟩):=by simpa using hp
  simp [results,h,hp',asAddr,run_loadVar_row w g t ty cs fr d hg hu hd hi]
/-- The value of a shape. -/
abbrev shapeV (s:S154):Array Value:=#[.string s.f0,.int .i64 s.f1,.int .i64 s.f2,.int .i64 s.f3,.bool s.f4,.bool s.f5]
/-- What the third field may be. -/
def third (s:S154) (many:Int):Int:=if s.f4=true then many else s.f3
abbrev fieldsV (g:Nat) (s:S154) (many:Int):Array Value:=#[.pointer (some ⟨g,1,none⟩),.int .i64 s.f1,.pointer (some ⟨g,2,none⟩),.int .i64 s.f2,.pointer (some ⟨g,3,none⟩),.int .i64 (third s many)]
set_option maxHeartbeats 2000000 in
theorem fields_calls (g:Nat) (s:S154) (many:Int) (w:World) :
    Calls Try.prog 73 #[.pointer (some ⟨g,0,none⟩),.agg (shapeV s),.int .i64 many] w fun e w' => e=.returned (.agg (fieldsV g s many))∧Below w.heap.size w w':=by
  have hu154:=Try.underlying154
  have hu74:=Try.underlying74
  obtain ⟨c,hc⟩:∃ c,third s many=c:=⟨_,rfl⟩
  unfold fieldsV
  rw [hc]
  cases hp:s.f4 with
  | true =>
    obtain rfl:many=c:=by rw [← hc,third,hp];rfl
    clear hc
    generalize s.f3=s3
    go_enter Try.func73,Try.ntmps73
    go_wp2_with fail
    go_region
    go_wp2_with fail
    refine bodyPost_ret (results_c1f rfl _ _ (w.heap.size + 1) 159 _ (0,0) _ rfl (by refine blk_drew ?_;have:=heap_alloc_new (w.alloc (Obj.cells (shapeV s) 154));rw [World.size_alloc] at this;exact this _) Try.underlying159 rfl (by kernel_rfl)) rfl ?_
    exact ⟨rfl,below_drew (bTwo _ _)⟩
  | false =>
    obtain rfl:s.f3=c:=by rw [← hc,third,hp];rfl
    clear hc
    go_enter Try.func73,Try.ntmps73
    go_wp2_with fail
    go_region
    go_wp2_with fail
    refine bodyPost_ret (results_c1f rfl _ _ (w.heap.size + 1) 159 _ (0,0) _ rfl (by refine blk_drew ?_;have:=heap_alloc_new (w.alloc (Obj.cells (shapeV s) 154));rw [World.size_alloc] at this;exact this _) Try.underlying159 rfl (by kernel_rfl)) rfl ?_
    exact ⟨rfl,below_drew (bTwo _ _)⟩
/-- What holds in every world that grew out of this one. -/
def Kept (W:World) (F:World → Prop):Prop:=∀ W',Below W.heap.size W W' → F W'
theorem Kept.now {W:World} {F:World → Prop} (h:Kept W F):F W:=h W (Below.refl _ _)
theorem Kept.next {W W':World} {F:World → Prop} (h:Kept W F) (hb:Below W.heap.size W W'):Kept W' F:=fun W2 hb2 => h W2 (bAfter hb hb2)
theorem Kept.add {W:World} {F G:World → Prop} (h:Kept W F) (g:Kept W G):Kept W (fun v => F v∧G v):=fun W' hb => ⟨h W' hb,g W' hb⟩
theorem kept_B {w W:World} (h:Below w.heap.size w W):Kept W (fun V => Below w.heap.size w V):=fun W' hb => bAfter h hb
theorem kept_K {W:World} {b:Nat} {cs:Array Value} {t:TypeId} {f:Nat × Nat} (h:W.heap[b]?=some (.cells cs t f)):Kept W (fun V => V.heap[b]?=some (.cells cs t f)):=fun W' hb => zE h hb
abbrev opV (o:S74):Array Value:=#[.int .i64 o.f0,.int .i64 o.f1,.int .i64 o.f2,.int .i64 o.f3,.int .i64 o.f4]
/-- All shapes. -/
def shapesL:List S154:=(code_shapes.f).getD []
def isCode (c:Int):Bool:=decide (0 ≤ c) && decide (c < 17)
def sh (c:Int):S154:=if 0 ≤ c∧c < 17 then rd_T154 shapesL c else z154
theorem find_f (c:Int):code_find.f c=some ((sh c).f0,(sh c).f1,(sh c).f2,(sh c).f3,(sh c).f4,(sh c).f5,isCode c):=by
  unfold code_find.f
  rw [show code_shapes.f=some shapesL from rfl,Option.bind_some]
  have hl:(shapesL.length:Int)=17:=rfl
  rw [hl]
  unfold sh isCode
  by_cases h0:c < 0
  · rw [if_pos h0,if_neg (by omega),decide_eq_false (by omega)];rfl
  · by_cases h1:c ≥ 17
    · rw [if_neg h0,if_pos h1,if_neg (by omega),decide_eq_false (p:=c < 17) (by omega),Bool.and_false];rfl
    · rw [if_neg h0,if_neg h1,if_pos (by omega),if_pos (by omega),if_pos (by omega),decide_eq_true (by omega),decide_eq_true (by omega)];rfl
def least1 (b:Int):Int:=if b < 1 then 1 else b
theorem max_least (ats:Array TypeId) (ty:TypeId) (b:Int):Builtin.max_ ats ty #[.int .i64 b,.int .i64 1]=pure (.int .i64 (least1 b)):=by rw [max_two,max2_int];rfl
/-- Does a field fit? -/
def fits (n below:Int):Bool:=decide (0 ≤ n) && decide (n < least1 below)
/-- May an operation be, in a block of so many? -/
def opRight (o:S74) (many:Int):Bool:=isCode o.f0 && ((o.f4 == 0) || (sh o.f0).f5) && (fits o.f1 (sh o.f0).f1 && (fits o.f2 (sh o.f0).f2 && fits o.f3 (third (sh o.f0) many)))
theorem idx0 (g:Nat) (b0 b1 b2:Int) (W:World):(Instr.index 159 (.agg #[.pointer (some ⟨g,1,none⟩),.int .i64 b0,.pointer (some ⟨g,2,none⟩),.int .i64 b1,.pointer (some ⟨g,3,none⟩),.int .i64 b2]) (.int .i64 0)).run Try.prog W=.ok (.agg #[.pointer (some ⟨g,1,none⟩),.int .i64 b0]) W:=by kernel_rfl
theorem idx1 (g:Nat) (b0 b1 b2:Int) (W:World):(Instr.index 159 (.agg #[.pointer (some ⟨g,1,none⟩),.int .i64 b0,.pointer (some ⟨g,2,none⟩),.int .i64 b1,.pointer (some ⟨g,3,none⟩),.int .i64 b2]) (.int .i64 1)).run Try.prog W=.ok (.agg #[.pointer (some ⟨g,2,none⟩),.int .i64 b1]) W:=by kernel_rfl
theorem idx2 (g:Nat) (b0 b1 b2:Int) (W:World):(Instr.index 159 (.agg #[.pointer (some ⟨g,1,none⟩),.int .i64 b0,.pointer (some ⟨g,2,none⟩),.int .i64 b1,.pointer (some ⟨g,3,none⟩),.int .i64 b2]) (.int .i64 2)).run Try.prog W=.ok (.agg #[.pointer (some ⟨g,3,none⟩),.int .i64 b2]) W:=by kernel_rfl
attribute [local go_sem high] idx0 idx1 idx2 max_least
theorem fits_in {n b:Int} (h:fits n b=true):decide (n < 0)=false∧decide (least1 b ≤ n)=false:=by
  unfold fits at h
  simp only [Bool.and_eq_true,decide_eq_true_eq] at h
  exact ⟨decide_eq_false (by omega),decide_eq_false (by omega)⟩
theorem fits_out {n b:Int} (h:fits n b=false):decide (n < 0)=true ∨ (decide (n < 0)=false∧decide (least1 b ≤ n)=true):=by
  unfold fits at h
  by_cases h0:n < 0
  · exact .inl (decide_eq_true h0)
  · refine .inr ⟨decide_eq_false h0,decide_eq_true ?_⟩
    rw [decide_eq_true (by omega:0 ≤ n),Bool.true_and,decide_eq_false_iff_not] at h
    omega
set_option maxHeartbeats 4000000 in
theorem right_core (o:S74) (many:Int) (w:World) (n0:ByteArray) (b1 b2 b3 b4:Int) (pl nb is res:Bool)
    (C1:Hid (∀ W,Calls Try.prog 72 #[.int .i64 o.f0] W fun e w' => e=.returned (.tuple #[.agg #[.string n0,.int .i64 b1,.int .i64 b2,.int .i64 b3,.bool pl,.bool nb],.bool is])∧Below W.heap.size W w'))
    (C2:Hid (∀ W,Calls Try.prog 73 #[.pointer (some ⟨w.heap.size,0,none⟩),.agg #[.string n0,.int .i64 b1,.int .i64 b2,.int .i64 b3,.bool pl,.bool nb],.int .i64 many] W fun e w' => e=.returned (.agg #[.pointer (some ⟨w.heap.size,1,none⟩),.int .i64 b1,.pointer (some ⟨w.heap.size,2,none⟩),.int .i64 b2,.pointer (some ⟨w.heap.size,3,none⟩),.int .i64 b4])∧Below W.heap.size W w'))
    (HRES:Hid ((is && ((o.f4 == 0) || nb) && (fits o.f1 b1 && (fits o.f2 b2 && fits o.f3 b4)))=res)) :
    Calls Try.prog 47 #[.agg (opV o),.int .i64 many] w fun e w' => e=.returned (.bool res)∧Below w.heap.size w w':=by
  have hu154:=Try.underlying154
  have hu74:=Try.underlying74
  have hu158:=Try.underlying158
  have hu159:=Try.underlying159
  obtain ⟨W0,hW0,K0,HB0⟩:=alz w (opV o) 74
  have HK:=Lib.hid (Kept.add (kept_B HB0) (kept_K K0))
  have k0:W0.cell? ⟨w.heap.size,0,none⟩=some (.int .i64 o.f0):=zG K0 0
  clear K0 HB0
  go_enter Try.func47,Try.ntmps47
  go_wp2_with fail
  refine (C1.out _).mono ?_
  rintro e w1 ⟨rfl,hB1⟩
  obtain ⟨W1,hW1,K1,hB1b⟩:=alz w1 (#[.string n0,.int .i64 b1,.int .i64 b2,.int .i64 b3,.bool pl,.bool nb]) 154
  replace HK:=Lib.hid (Kept.add (HK.out.next (bAfter hB1 hB1b)) (kept_K K1))
  clear k0 hB1 hB1b K1 C1 hW0
  have s0:W1.cell? ⟨w1.heap.size,0,none⟩=some (.string n0):=zG HK.out.now.2 0
  have s1:W1.cell? ⟨w1.heap.size,1,none⟩=some (.int .i64 b1):=zG HK.out.now.2 1
  have s2:W1.cell? ⟨w1.heap.size,2,none⟩=some (.int .i64 b2):=zG HK.out.now.2 2
  have s3:W1.cell? ⟨w1.heap.size,3,none⟩=some (.int .i64 b3):=zG HK.out.now.2 3
  have s4:W1.cell? ⟨w1.heap.size,4,none⟩=some (.bool pl):=zG HK.out.now.2 4
  have s5:W1.cell? ⟨w1.heap.size,5,none⟩=some (.bool nb):=zG HK.out.now.2 5
  have k4:W1.cell? ⟨w.heap.size,4,none⟩=some (.int .i64 o.f4):=zG HK.out.now.1.2 4
  cases is with
  | false =>
    go_wp2_with fail
    go_ret
    exact ⟨by rw [← HRES.out];rfl,HK.out.now.1.1⟩
  | true =>
    cases hN:(o.f4 == 0 || nb) with
    | false =>
      have hres:false=res:=by rw [← HRES.out,hN];rfl
      subst hres
      obtain ⟨h1,h2⟩:(o.f4 != 0)=true∧nb=false:=by
        rw [Bool.or_eq_false_iff] at hN
        exact ⟨by rw [bne,hN.1];rfl,hN.2⟩
      rw [h2] at s5
      clear h2 hN
      go_wp2_with fail
      go_ret
      exact ⟨rfl,HK.out.now.1.1⟩
    | true =>
      replace HRES:Hid ((fits o.f1 b1 && (fits o.f2 b2 && fits o.f3 b4))=res):=Lib.hid (by rw [← HRES.out,hN];rfl)
      have hN':(o.f4 != 0)=false ∨ ((o.f4 != 0)=true∧nb=true):=by
        by_cases h:o.f4=0
        · exact .inl (by simp [h])
        · refine .inr ⟨by simp [h],?_⟩
          simpa [h] using hN
      clear hN
      rcases hN' with e1 | ⟨e1,e2⟩
      all_goals
        try subst e2
        go_wp2_with fail
        refine (C2.out _).mono ?_
        rintro e w2 ⟨rfl,hB2⟩
        replace HK:=Lib.hid (HK.out.next hB2)
        clear s0 s1 s2 s3 s4 s5 k4 hB2 hW1 C2
        go_wp2_with fail
        go_loopg [8,9,31] 3 (fun kq _ _ v31 W => ∃ i:Nat,v31=.int .i64 i∧Hid (kq + i=3)∧Hid (Below w2.heap.size w2 W)∧Hid ((0 < i → fits o.f1 b1=true)∧(1 < i → fits o.f2 b2=true)∧(2 < i → fits o.f3 b4=true)))
        case atStart => exact ⟨0,rfl,by simp [Hid],Lib.hid (Below.refl _ _),Lib.hid ⟨fun h => by omega,fun h => by omega,fun h => by omega⟩⟩
        case round =>
          obtain ⟨i,rfl,hk,hJ,hF⟩:=hrel
          have HI:=Lib.hid (HK.out.next hJ.out)
          have hi3:i=0 ∨ i=1 ∨ i=2 ∨ i=3:=by have:=hk.out;omega
          rcases hi3 with rfl | rfl | rfl | rfl
          · obtain ⟨W3,hW3,K3,hB3⟩:∃ W3,wr.alloc (.cells #[.pointer (some ⟨w.heap.size,1,none⟩),.int .i64 b1] 158)=W3∧W3.heap[wr.heap.size]?=some (.cells #[.pointer (some ⟨w.heap.size,1,none⟩),.int .i64 b1] 158 (0,0))∧Below wr.heap.size wr W3:=⟨_,rfl,heap_alloc_new _ _,bOne _⟩
            replace HI:=Lib.hid (HI.out.next hB3)
            have a0:W3.cell? ⟨wr.heap.size,0,none⟩=some (.pointer (some ⟨w.heap.size,1,none⟩)):=zG K3 0
            have a1:W3.cell? ⟨wr.heap.size,1,none⟩=some (.int .i64 b1):=zG K3 1
            have a2:W3.cell? ⟨w.heap.size,1,none⟩=some (.int .i64 o.f1):=zG HI.out.now.1.2 1
            have HB3:=Lib.hid (bAfter hJ.out hB3)
            clear K3 hB3
            cases hf:fits o.f1 b1 with
            | false =>
              have hres:false=res:=by rw [← HRES.out,hf];simp
              subst hres
              rcases fits_out hf with g1 | ⟨g1,g2⟩
              all_goals
                clear hf
                go_wp2_with fail
                go_ret
                exact ⟨rfl,HI.out.now.1.1⟩
            | true =>
              obtain ⟨g1,g2⟩:=fits_in hf
              have HFF:=Lib.hid hf
              clear hf
              go_wp2_with fail
              obtain ⟨k1,rfl⟩:∃ m,gk=m + 1:=⟨gk - 1,by have:=hk.out;omega⟩
              go_roundg k1
              case measure => omega
              case rel => exact ⟨1,by first | rfl | rw [wrap_next (by omega)],Lib.hid (by have:=hk.out;omega),HB3,Lib.hid ⟨fun h => by first | exact HFF.out | exact hF.out.1 (by omega),fun h => by first | exact HFF.out | exact hF.out.2.1 (by omega) | omega,fun h => by first | exact HFF.out | exact hF.out.2.2 (by omega) | omega⟩⟩
          · obtain ⟨W3,hW3,K3,hB3⟩:∃ W3,wr.alloc (.cells #[.pointer (some ⟨w.heap.size,2,none⟩),.int .i64 b2] 158)=W3∧W3.heap[wr.heap.size]?=some (.cells #[.pointer (some ⟨w.heap.size,2,none⟩),.int .i64 b2] 158 (0,0))∧Below wr.heap.size wr W3:=⟨_,rfl,heap_alloc_new _ _,bOne _⟩
            replace HI:=Lib.hid (HI.out.next hB3)
            have a0:W3.cell? ⟨wr.heap.size,0,none⟩=some (.pointer (some ⟨w.heap.size,2,none⟩)):=zG K3 0
            have a1:W3.cell? ⟨wr.heap.size,1,none⟩=some (.int .i64 b2):=zG K3 1
            have a2:W3.cell? ⟨w.heap.size,2,none⟩=some (.int .i64 o.f2):=zG HI.out.now.1.2 2
            have HB3:=Lib.hid (bAfter hJ.out hB3)
            clear K3 hB3
            cases hf:fits o.f2 b2 with
            | false =>
              have hres:false=res:=by rw [← HRES.out,hf];simp
              subst hres
              rcases fits_out hf with g1 | ⟨g1,g2⟩
              all_goals
                clear hf
                go_wp2_with fail
                go_ret
                exact ⟨rfl,HI.out.now.1.1⟩
            | true =>
              obtain ⟨g1,g2⟩:=fits_in hf
              have HFF:=Lib.hid hf
              clear hf
              go_wp2_with fail
              obtain ⟨k1,rfl⟩:∃ m,gk=m + 1:=⟨gk - 1,by have:=hk.out;omega⟩
              go_roundg k1
              case measure => omega
              case rel => exact ⟨2,by first | rfl | rw [wrap_next (by omega)],Lib.hid (by have:=hk.out;omega),HB3,Lib.hid ⟨fun h => by first | exact HFF.out | exact hF.out.1 (by omega),fun h => by first | exact HFF.out | exact hF.out.2.1 (by omega) | omega,fun h => by first | exact HFF.out | exact hF.out.2.2 (by omega) | omega⟩⟩
          · obtain ⟨W3,hW3,K3,hB3⟩:∃ W3,wr.alloc (.cells #[.pointer (some ⟨w.heap.size,3,none⟩),.int .i64 b4] 158)=W3∧W3.heap[wr.heap.size]?=some (.cells #[.pointer (some ⟨w.heap.size,3,none⟩),.int .i64 b4] 158 (0,0))∧Below wr.heap.size wr W3:=⟨_,rfl,heap_alloc_new _ _,bOne _⟩
            replace HI:=Lib.hid (HI.out.next hB3)
            have a0:W3.cell? ⟨wr.heap.size,0,none⟩=some (.pointer (some ⟨w.heap.size,3,none⟩)):=zG K3 0
            have a1:W3.cell? ⟨wr.heap.size,1,none⟩=some (.int .i64 b4):=zG K3 1
            have a2:W3.cell? ⟨w.heap.size,3,none⟩=some (.int .i64 o.f3):=zG HI.out.now.1.2 3
            have HB3:=Lib.hid (bAfter hJ.out hB3)
            clear K3 hB3
            cases hf:fits o.f3 b4 with
            | false =>
              have hres:false=res:=by rw [← HRES.out,hf];simp
              subst hres
              rcases fits_out hf with g1 | ⟨g1,g2⟩
              all_goals
                clear hf
                go_wp2_with fail
                go_ret
                exact ⟨rfl,HI.out.now.1.1⟩
            | true =>
              obtain ⟨g1,g2⟩:=fits_in hf
              have HFF:=Lib.hid hf
              clear hf
              go_wp2_with fail
              obtain ⟨k1,rfl⟩:∃ m,gk=m + 1:=⟨gk - 1,by have:=hk.out;omega⟩
              go_roundg k1
              case measure => omega
              case rel => exact ⟨3,by first | rfl | rw [wrap_next (by omega)],Lib.hid (by have:=hk.out;omega),HB3,Lib.hid ⟨fun h => by first | exact HFF.out | exact hF.out.1 (by omega),fun h => by first | exact HFF.out | exact hF.out.2.1 (by omega) | omega,fun h => by first | exact HFF.out | exact hF.out.2.2 (by omega) | omega⟩⟩
          · have hres:true=res:=by rw [← HRES.out,hF.out.1 (by omega),hF.out.2.1 (by omega),hF.out.2.2 (by omega)];rfl
            subst hres
            go_wp2_with fail
            go_ret
            exact ⟨rfl,HI.out.now.1.1⟩
theorem right_calls (o:S74) (many:Int) (w:World) :
    Calls Try.prog 47 #[.agg (opV o),.int .i64 many] w fun e w' => e=.returned (.bool (opRight o many))∧Below w.heap.size w w' :=
  right_core o many w _ _ _ _ _ _ _ _ _ (Lib.hid (fun W => code_find.calls o.f0 _ _ _ _ _ _ _ W (find_f o.f0))) (Lib.hid (fun W => fields_calls w.heap.size (sh o.f0) many W)) (Lib.hid rfl)
end Go.Proofs.Ytgnjkegnddekeaa.Q
namespace Go.Proofs.Ytgnjkegnddekeaa.Q
open Go.RowKit Go.Lib Go.Proofs.Ytgnjkegnddekeaa Go.Proofs.YtgnjkegnddekeaaW.PrintWords Go.Proofs.YtgnjkegnddekeaaW.PrintLast Go.Proofs.YtgnjkegnddekeaaW.PrintMore
set_option linter.unusedVariables false
set_option linter.unusedSimpArgs false
/-- What a search comes to. -/
def Found {α:Type} (p:α → Bool) (I:List α → World → Prop) (l:List α) (r:Int) (W:World):Prop :=
  (r=-1∧(∀ x ∈ l,p x=false)∧I l W) ∨ ∃ i:Nat,r=i∧i < l.length∧(l.take i).all (fun x => !p x)=true∧(∃ x,l[i]?=some x∧p x=true)∧I (l.take (i + 1)) W
theorem take_next {α:Type} {l:List α} {i:Nat} {x:α} (h:l[i]?=some x):l.take (i + 1)=l.take i ++ [x]:=by
  rw [List.take_add_one,h]
  rfl
set_option maxRecDepth 100000 in
set_option maxHeartbeats 2000000 in
theorem indexFunc_op (g:Nat) (lb:Array Value) (p:S74 → Bool) (I:List S74 → World → Prop) (A:Option Addr) (c:Nat) (l:List S74) (w:World)
    (eg:∀ args W,(callFunc g args).run Try.prog W=.ok (.enter g args) W) (hI:∀ pre W,I pre W → Kd.C k74 W A l.length l)
    (hcall:∀ pre x W,pre.length < l.length → I pre W → Calls Try.prog g (#[.agg #[.int .i64 x.f0,.int .i64 x.f1,.int .i64 x.f2,.int .i64 x.f3,.int .i64 x.f4]] ++ lb) W fun e w' => e=.returned (.bool (p x))∧I (pre ++ [x]) w') (h0:I [] w) (hl:l.length < 1000000000) :
    Calls Try.prog 71 #[.slice A l.length c,.func (.func g) #[] lb] w fun e w' => ∃ r:Int,e=.returned (.int .i64 r)∧Found p I l r w':=by
  have hu:=Try.underlying74
  have HI:=Lib.hid hI
  have HC:=Lib.hid hcall
  clear hI hcall
  go_enter Try.func71,Try.ntmps71
  go_wp2_with fail
  go_loopg [5,8] l.length (fun kq _ v8 W => ∃ i:Nat,v8=.int .i64 i∧Hid (kq + i=l.length)∧Hid (I (l.take i) W∧(l.take i).all (fun x => !p x)=true))
  case atStart => exact ⟨0,rfl,by simp [Hid],Lib.hid ⟨by simpa using h0,by simp⟩⟩
  case round =>
    obtain ⟨i,rfl,hk,hJ⟩:=hrel
    by_cases hi:i < l.length
    · have hi2:(i:Int) < l.length:=by omega
      have hi0:(0:Int) ≤ i:=by omega
      obtain ⟨ad,rfl,a0,a1,a2,a3,a4⟩:=at_T74 (HI.out _ _ hJ.out.1) (i:Int) hi0 hi2
      have hx:l[i]?=some (rd_T74 l i):=by
        unfold rd_T74
        simp [List.getD_eq_getElem?_getD,hi]
      have HX:=Lib.hid hx
      clear hx
      generalize rd_T74 l i=x at *
      simp only [Int.toNat_natCast] at a0 a1 a2 a3 a4
      have hc:=HC.out _ x _ (by rw [List.length_take];omega) hJ.out.1
      have HJ:=hJ
      clear hJ
      cases hp:p x with
      | true =>
        rw [hp] at hc
        have hp:=Lib.hid hp
        go_wp2_with fail
        refine hc.mono ?_
        rintro e w' ⟨rfl,hI1⟩
        have HI1:=Lib.hid hI1
        clear hI1 hc
        go_wp2_with fail
        go_ret
        exact ⟨_,rfl,.inr ⟨i,rfl,hi,HJ.out.2,⟨x,HX.out,hp.out⟩,by rw [take_next HX.out];exact HI1.out⟩⟩
      | false =>
        rw [hp] at hc
        have hp:=Lib.hid hp
        go_wp2_with fail
        refine hc.mono ?_
        rintro e w' ⟨rfl,hI1⟩
        have HI1:=Lib.hid hI1
        clear hI1 hc
        go_wp2_with fail
        obtain ⟨k1,rfl⟩:∃ m,gk=m + 1:=⟨gk - 1,by have:=hk.out;omega⟩
        go_roundg k1
        case measure => omega
        case rel => exact ⟨i + 1,by first | rfl | rw [wrap_next (by omega)] | (unfold wrap64;congr 1;omega),Lib.hid (by have:=hk.out;omega),Lib.hid ⟨by rw [take_next HX.out];exact HI1.out,by rw [take_next HX.out,List.all_append,HJ.out.2];simp [hp.out]⟩⟩
    · have hi2:¬ (i:Int) < l.length:=by omega
      have hk0:i=l.length:=by have:=hk.out;omega
      subst hk0
      go_wp2_with fail
      go_ret
      have h2:=hJ.out
      rw [List.take_length] at h2
      exact ⟨_,rfl,.inl ⟨rfl,fun x hx => by have:=List.all_eq_true.1 h2.2 x hx;simpa using this,h2.1⟩⟩
theorem any_found {α:Type} {p:α → Bool} {I:List α → World → Prop} {l:List α} {r:Int} {W:World} (h:Found p I l r W):decide (0 ≤ r)=l.any p:=by
  rcases h with ⟨rfl,hn,-⟩ | ⟨i,rfl,hi,-,⟨x,hx,hp⟩,-⟩
  · have : l.any p = false := by
      rw [List.any_eq_false]
      intro x hx
      simp [hn x hx]
    rw [this]
    rfl
  · have : l.any p = true := by
      rw [List.any_eq_true]
      exact ⟨x,List.mem_of_getElem? hx,hp⟩
    rw [this]
    simp
theorem containsFunc_op (fv:Value) (p:S74 → Bool) (I:List S74 → World → Prop) (A:Option Addr) (c:Nat) (l:List S74) (w:World)
    (h:Calls Try.prog 71 #[.slice A l.length c,fv] w fun e w' => ∃ r:Int,e=.returned (.int .i64 r)∧Found p I l r w') :
    Calls Try.prog 45 #[.slice A l.length c,fv] w fun e w' => e=.returned (.bool (l.any p))∧∃ r,Found p I l r w':=by
  have H:=Lib.hid h
  clear h
  go_enter Try.func45,Try.ntmps45
  go_wp2_with fail
  refine H.out.mono ?_
  rintro e w1 ⟨r,rfl,hF⟩
  have HF:=Lib.hid hF
  clear hF H
  go_wp2_with fail
  go_ret
  exact ⟨by rw [← any_found HF.out];rfl,_,HF.out⟩
theorem right1_calls (b:Nat) (A:Option Addr) (n c:Nat) (x:S74) (W:World) (hb:W.cell? ⟨b,0,none⟩=some (.slice A n c)) (hlt:b < W.heap.size) :
    Calls Try.prog 46 #[.agg (opV x),.pointer (some ⟨b,0,none⟩)] W fun e w' => e=.returned (.bool (!opRight x n))∧Below W.heap.size W w':=by
  have hu:=Try.underlying74
  obtain ⟨W0,hW0,K0,HB0⟩:=alz W (opV x) 74
  have k0:W0.cell? ⟨W.heap.size,0,none⟩=some (.int .i64 x.f0):=zG K0 0
  have k1:W0.cell? ⟨W.heap.size,1,none⟩=some (.int .i64 x.f1):=zG K0 1
  have k2:W0.cell? ⟨W.heap.size,2,none⟩=some (.int .i64 x.f2):=zG K0 2
  have k3:W0.cell? ⟨W.heap.size,3,none⟩=some (.int .i64 x.f3):=zG K0 3
  have k4:W0.cell? ⟨W.heap.size,4,none⟩=some (.int .i64 x.f4):=zG K0 4
  have hb0:W0.cell? ⟨b,0,none⟩=some (.slice A n c):=(HB0.cell (p:=⟨b,0,none⟩) hlt).trans hb
  have HB:=Lib.hid HB0
  have HC:=Lib.hid (right_calls x n)
  clear K0 HB0 hb
  go_enter Try.func46,Try.ntmps46
  go_wp2_with fail
  refine (HC.out _).mono ?_
  rintro e w1 ⟨rfl,hB1⟩
  replace HB:=Lib.hid (bAfter HB.out hB1)
  clear hB1 k0 k1 k2 k3 k4 hb0
  go_wp2_with fail
  go_ret
  exact ⟨rfl,HB.out⟩
/-- May operations be? -/
def code_Right.f (l:List S74):Option Bool:=some (decide ((1:Int) ≤ l.length) && decide ((l.length:Int) ≤ 200) && l.all (fun o => opRight o l.length))
theorem all_any {α:Type} (l:List α) (p:α → Bool):(!l.any fun x => !p x)=l.all p:=by
  induction l with
  | nil => rfl
  | cons x l ih => simp only [List.any_cons,List.all_cons,Bool.not_or,Bool.not_not,ih]
set_option maxRecDepth 100000 in
set_option maxHeartbeats 2000000 in
theorem code_Right.calls (A0:Option Addr) (c0:Nat) (l0:List S74) (r:Bool) (w:World) (hr0:Kd.C k74 w A0 l0.length l0) (hc0:l0.length ≤ c0) (h:code_Right.f l0=some r) :
    Calls Try.prog 29 #[.slice A0 l0.length c0] w fun e w' => e=.returned (.bool r)∧Below w.heap.size w w':=by
  unfold code_Right.f at h
  obtain rfl:=Option.some.inj h
  clear h
  obtain ⟨W0,hW0,K0,HB0⟩:=alz w #[.slice A0 l0.length c0] 42
  have k0:W0.cell? ⟨w.heap.size,0,none⟩=some (.slice A0 l0.length c0):=zG K0 0
  have HB:=Lib.hid HB0
  by_cases h1:(1:Int) ≤ l0.length
  · by_cases h2:(l0.length:Int) ≤ 200
    · have C1 : Hid (Calls Try.prog 71 #[.slice A0 l0.length c0, .func (.func 46) #[] #[.pointer (some ⟨w.heap.size, 0, none⟩)]] W0 fun e w' => ∃ r : Int, e = .returned (.int .i64 r) ∧ Found (fun o => !opRight o l0.length) (fun _ W => Below W0.heap.size W0 W) l0 r w') := by
        refine Lib.hid (indexFunc_op 46 _ _ _ A0 c0 l0 W0 (fun args W => rfl) (fun pre W hW => Kd.C_below (Kd.C_below hr0 HB0) hW) (fun pre x W _ hW => ?_) (Below.refl _ _) (by omega))
        have hK:=zE K0 hW
        refine (right1_calls w.heap.size A0 l0.length c0 x W (zG hK 0) (blk_lt hK)).mono ?_
        rintro e w' ⟨rfl,hB⟩
        exact ⟨rfl,bAfter hW hB⟩
      have q1:decide ((1:Int) ≤ l0.length)=true:=decide_eq_true h1
      have q2:decide ((l0.length:Int) ≤ 200)=true:=decide_eq_true h2
      clear hr0 hc0 K0 HB0
      rw [q1,q2,← all_any,Bool.true_and,Bool.true_and]
      go_enter Try.func29,Try.ntmps29
      go_wp2_with fail
      refine (containsFunc_op _ _ _ A0 c0 l0 W0 C1.out).mono ?_
      rintro e w1 ⟨rfl,r,hF⟩
      have HF:Hid (Below w.heap.size w w1):=Lib.hid (bAfter HB.out (by rcases hF with ⟨-,-,h⟩ | ⟨i,-,-,-,-,h⟩ <;> exact h))
      clear hF C1
      go_wp2_with fail
      go_ret
      exact ⟨rfl,HF.out⟩
    · have q1:decide ((1:Int) ≤ l0.length)=true:=decide_eq_true h1
      have q2:decide ((l0.length:Int) ≤ 200)=false:=decide_eq_false h2
      clear hr0 hc0 K0 HB0
      rw [q1,q2,Bool.and_false,Bool.false_and]
      go_enter Try.func29,Try.ntmps29
      go_wp2_with fail
      go_ret
      exact ⟨rfl,HB.out⟩
  · have q1:decide ((1:Int) ≤ l0.length)=false:=decide_eq_false h1
    clear hr0 hc0 K0 HB0
    rw [q1,Bool.false_and,Bool.false_and]
    go_enter Try.func29,Try.ntmps29
    go_wp2_with fail
    go_ret
    exact ⟨rfl,HB.out⟩
end Go.Proofs.Ytgnjkegnddekeaa.Q
