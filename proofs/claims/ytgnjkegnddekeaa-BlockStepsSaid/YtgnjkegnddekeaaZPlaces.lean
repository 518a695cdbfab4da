/- A frame put behind a row of one's own, in a region that draws its order. -/
import Derived.Test.YtgnjkegnddekeaaZRefS
import Derived.Test.YtgnjkegnddekeaaZDoesM
import Derived.Test.YtgnjkegnddekeaaZFlat2
import Derived.Deep.LoopGhost
import Derived.Test.YtgnjkegnddekeaaZQ1
open List renaming setIfInBounds_toArray → zI, set_cons_zero → zJ, set_cons_succ → zK
open And renaming intro → zL
namespace Go.Proofs.Ytgnjkegnddekeaa.Q
open Go.RowKit Go.Lib Go.Proofs.Ytgnjkegnddekeaa Go.Proofs.YtgnjkegnddekeaaW.PrintWords Go.Proofs.YtgnjkegnddekeaaW.PrintLast Go.Proofs.YtgnjkegnddekeaaW.PrintMore
set_option linter.unusedVariables false
set_option linter.unusedSimpArgs false
theorem chain_nil {W W':World} (h:Chain [] W W'):Below W.heap.size W W':=⟨h.os,h.tape,h.output,h.size,fun k hk => h.block k hk (by simp)⟩
theorem setRow_other (w:World) (g:Nat) (cs:Array Value) (k:Nat) (hk:k ≠ g):(w.setRow g cs).heap[k]?=w.heap[k]?:=by
  unfold World.setRow
  simp [Array.getElem?_modify,Ne.symm hk]
theorem setRow_size (w:World) (g:Nat) (cs:Array Value):(w.setRow g cs).heap.size=w.heap.size:=by
  unfold World.setRow
  simp
abbrev z18:Value:=.agg #[.int .i64 0,.int .i64 0,.int .i64 0,.int .i64 0,.int .i64 0,.int .i64 0,.int .i64 0,.int .i64 0,.int .i64 0,.int .i64 0,.int .i64 0,.int .i64 0,.int .i64 0,.int .i64 0,.int .i64 0,.int .i64 0,.int .i64 0,.int .i64 0]
theorem append_frames (t e : Nat) (hu : Try.prog.underlying t = some (.slice e)) (hi : (Try.prog.info? e).map (fun i => (i.zero, i.size, i.bytes)) = some (some z18, 18, 144)) (w0 : World) (base : Nat) (v : Value) (fs : List FrameD) (f : FrameD)
    (h:Kd.R kF e w0 base (fun _ => True) v fs) (hf:f.rs.length=8) (hbig:fs.length ≤ 1000000) (hbase:base ≤ w0.heap.size) :
    ∃ (L:List (Nat × List Obj)) (T:World → Value → Prop),GR.Stable (Chain L) T∧(∀ p ∈ L,∃ cs,w0.heap[p.1]?=some (.cells cs e (0,0))∧base ≤ p.1) ∧
      (∀ (W':World) (o:Oper) (a:Act) (s x:Operand) (b:Nat) (d:Tmp),Chain L w0 W' → W'.heap[b]?=some (.cells (fc f).toArray e (0,0)) → o.op=.call { callee:=.builtin .append,args:=#[s,x],argTypes:=#[t,t] } → o.guard=none → o.dst=some d → d < a.tmps.size → a.eval s=v → a.eval x=.slice (some ⟨b,0,none⟩) 1 1 →
        ∃ v' w',(execOp a.eval o).run Try.prog W'=.ok (.value v') w'∧Chain L W' w'∧T w' v') ∧
      (∀ W' v',Chain L w0 W' → T W' v' → Kd.R kF e W' base (fun _ => True) v' (fs ++ [f])):=by
  have hfl:=fc_length f hf
  obtain ⟨A,c,rfl,hle,hC⟩:=Kd.R_reads h
  by_cases hroom:fs.length + 1 ≤ c
  · obtain ⟨h0,inner,ho,hr⟩:=h
    have hin:inner.length=fs.length * 18:=hr.1
    rcases ho.2 with ⟨e1,e2⟩ | ⟨g,cap,cur,e1,hg,hh,hn,hm,hs,htake⟩
    · injection e1 with _ e4 e5
      omega
    injection e1 with e3 e4 e5
    subst e3;subst e5
    have hs18:cur.size=c * 18:=hs
    have htk:cur.toList.take (fs.length * 18)=inner:=htake
    have hcl:cur.toList.length=c * 18:=by simpa using hs18
    obtain ⟨N,hN⟩:∃ N:List Value,cur.toList.take (fs.length * 18) ++ fc f ++ cur.toList.drop (fs.length * 18 + 18)=N:=⟨_,rfl⟩
    have hNl:N.length=c * 18:=by rw [← hN];simp [hfl,hs18];omega
    have hN2:N.take (fs.length * 18) ++ fc f ++ N.drop (fs.length * 18 + 18)=N:=by
      have hx:(inner ++ fc f).length=fs.length * 18 + 18:=by simp [hin,hfl]
      rw [← hN,htk,List.drop_left' hx,List.append_assoc inner,List.take_left' hin,List.append_assoc]
    obtain ⟨x0,hx0⟩:∃ x0,Obj.cells cur e (0,0)=x0:=⟨_,rfl⟩
    obtain ⟨x1,hx1⟩:∃ x1,Obj.cells N.toArray e (0,0)=x1:=⟨_,rfl⟩
    have hmem:((g,[x0,x1]):Nat × List Obj) ∈ [(g,[x0,x1])]:=by simp
    refine ⟨[(g,[x0,x1])],fun W v => v=.slice (some ⟨g,0,none⟩) (fs.length + 1) c∧At g [x0,x1] 1 W,?_,?_,?_,?_⟩
    · rintro W W' v ⟨rfl,hA⟩ hR
      exact ⟨rfl,hR.on _ hmem 1 hA⟩
    · intro p hp
      simp at hp
      subst hp
      exact ⟨cur,hh,hg⟩
    · intro W' o a s x b d hCh hb ho1 hgd hd hsz hs1 hx2
      obtain ⟨i0,hi0,hz0,hz1,hz2⟩:=(show ∃ i,Try.prog.info? e=some i∧i.zero=some z18∧i.size=18∧i.bytes=144 by
        obtain ⟨i,h1,h2⟩:=Option.map_eq_some_iff.1 hi
        simp only [Prod.mk.injEq] at h2
        exact ⟨i,h1,h2⟩)
      obtain ⟨j,y,hj,hy,hw⟩:=hCh.on _ hmem 0 ⟨0,x0,Nat.le_refl _,rfl,by rw [← hx0];exact hh⟩
      have key:∃ cs:Array Value,W'.heap[g]?=some (.cells cs e (0,0))∧cs.size=c * 18∧cs.toList.take (fs.length * 18) ++ fc f ++ cs.toList.drop (fs.length * 18 + 18)=N:=by
        rcases j with _ | _ | j
        · simp at hy
          subst hy
          exact ⟨cur,by rw [hw,← hx0],hs18,hN⟩
        · simp at hy
          subst hy
          exact ⟨N.toArray,by rw [hw,← hx1],by simp [hNl],by simpa using hN2⟩
        · simp at hy
      obtain ⟨cs,hcs,hcl2,hcN⟩:=key
      have hrun:=run_append_room (P:=Try.prog) W' t o.type e i0 hu hi0 g fs.length c cs hcs ⟨b,0,none⟩ 1 1 (fc f) (by rw [hz1,hfl]) (fun j u hju => by
        rw [Addr.add_lit,Nat.zero_add]
        exact (zC hb j).trans (by simpa using hju)) (fc_one f) hroom (by rw [hz1,hfl,hcl2];omega)
      rw [hz1,hfl,hcN] at hrun
      refine ⟨_,W'.setRow g N.toArray,?_,?_,rfl,1,x1,Nat.le_refl _,rfl,?_⟩
      · have hr:(execOp a.eval o).run Try.prog W'=((Builtin.append_ #[t,t] o.type #[a.eval s,a.eval x]).run Try.prog W').andThen fun v w' => .ok (.value v) w':=by simp [execOp,ho1,resolve,invoke,builtin]
        rw [hr,hs1,hx2,hrun]
        rfl
      · refine ⟨rfl,rfl,rfl,by rw [setRow_size];exact Nat.le_refl _,fun k hk hn => setRow_other _ _ _ _ (hn _ hmem),fun p hp n hh2 => ?_⟩
        simp at hp
        subst hp
        obtain ⟨i,x,hni,hix,hwx⟩:=hh2
        refine ⟨1,x1,?_,rfl,by rw [← hx1];exact setRow_heap _ _ _ _ _ _ hcs⟩
        rcases i with _ | _ | i
        · omega
        · exact hni
        · simp at hix
      · rw [← hx1]
        exact setRow_heap _ _ _ _ _ _ hcs
    · rintro W' v' hCh ⟨rfl,i,x,hi1,hix,hwx⟩
      have hx:W'.heap[g]?=some (.cells N.toArray e (0,0)):=by
        rcases i with _ | _ | i
        · omega
        · simp at hix
          rw [hwx,← hix,← hx1]
        · simp at hix
      have hNt:N.take ((fs.length + 1) * 18)=inner ++ fc f:=by
        rw [← hN,htk,List.take_left' (by simp [hin,hfl];omega)]
      refine ⟨fun _ _ => trivial,inner ++ fc f,⟨by show (inner ++ fc f).length=(fs ++ [f]).length * 18;simp [hin,hfl];omega,Or.inr ⟨g,c,N.toArray,by simp,hg,hx,by simpa using hroom,hm,by show N.toArray.size=c * 18;simpa using hNl,by show N.toArray.toList.take ((fs ++ [f]).length * 18)=_;simpa using hNt⟩⟩,?_⟩
      exact Reps.snoc (R:=kF.M W' base _) hr ⟨hf,rfl⟩ hfl
  · have hc:c=fs.length:=by omega
    subst hc
    refine ⟨[],fun W v => Kd.R kF e W w0.heap.size (fun _ => True) v (fs ++ [f]),?_,by simp,?_,?_⟩
    · intro W W' v hR hCh
      exact Kd.R_below hR (chain_nil hCh)
    · intro W' o a s x b d hCh hb ho1 hgd hd hsz hs1 hx2
      have hB:=chain_nil hCh
      refine append_rel ho1 hgd hd hsz (ops:=#[]) (fun v w2 => Chain [] W' w2∧Kd.R kF e w2 w0.heap.size (fun _ => True) v (fs ++ [f])) ?_
      refine R_append_clip kF (w0:=W') W'.heap.size hgd s x t e _ _ ho1 hu hi rfl (by decide) (by decide) A fs.length fs f (fc f) b 1 hs1 hx2 (Kd.C_below hC hB) (fun j u hj => (zC hb j).trans (by simpa using hj)) ⟨hf,rfl⟩ (fun _ ok x cs h => h) (Below.refl _ _) (Nat.le_refl _) (by omega) ?_
      intro v1 w3 hR hB3 hB4
      exact ⟨v1,by rw [hd];exact GR.get_put_same _ _ _ hsz,GR.Rel.ofB hB4,Kd.R_lower hR hB.size⟩
    · intro W' v' hCh hT
      exact Kd.R_lower hT hbase
theorem sz26:(Try.prog.info? 26).map (·.size)=some 16:=by kernel_rfl
theorem sz34:(Try.prog.info? 34).map (·.size)=some 16:=by kernel_rfl
theorem sz29:(Try.prog.info? 29).map (·.size)=some 19:=by kernel_rfl
theorem sz37:(Try.prog.info? 37).map (·.size)=some 19:=by kernel_rfl
theorem sz88:(Try.prog.info? 88).map (·.size)=some 18:=by kernel_rfl
theorem sz99:(Try.prog.info? 99).map (·.size)=some 18:=by kernel_rfl
theorem add_add (ad:Addr) (m n:Nat):(ad.add m).add n=ad.add (m + n):=by
  unfold Addr.add
  split <;> split <;> split <;> simp_all <;> omega
theorem ld_at {P : Program} {W : World} {ad : Addr} {ty : TypeId} {cs : List Value} {d : TypeDesc} (hc : ∀ j v, cs[j]? = some v → W.cell? (ad.add j) = some v) (hu : P.underlying ty = some d) (hd : d.isRow = true) (hi : (P.info? ty).map (·.size) = some cs.length) :
    (Instr.loadAt ty (.pointer (some ad))).run P W=.ok (.agg cs.toArray) W:=by
  have hl:(loadCells ad cs.length).run P W=.ok cs.toArray W:=run_loadCells_list (P:=P) W ad cs hc
  have h:(loadVar ty ad).run P W=.ok (.agg cs.toArray) W:=by
    cases hq:P.info? ty with
    | none => simp [hq] at hi
    | some i =>
      have hs:i.size=cs.length:=by simpa [hq] using hi
      have hagg:(isAgg ty).run P W=.ok true W:=by
        unfold isAgg
        rw [Sem.run_bind,run_underlying hu W]
        cases d <;> simp_all
      simp [loadVar,Sem.run_bind,hagg,sizeOf,typeInfo,hq,hs,hl]
  simp only [Instr.loadAt,Instr.sureAddr,Sem.run_bind,Sem.run_pure,Result.andThen_ok,h]
theorem chain_off {L:List (Nat × List Obj)} {V W':World} {e base:Nat} (hLp:∀ p ∈ L,∃ cs,V.heap[p.1]?=some (.cells cs e (0,0))∧base ≤ p.1) (hC:Chain L V W') {b t:Nat} {cs:Array Value} (hb:V.heap[b]?=some (.cells cs t (0,0))) (ht:t ≠ e):W'.heap[b]?=some (.cells cs t (0,0)) :=
  hC.mid hb fun p hp e1 => by
    obtain ⟨cs',h1,-⟩:=hLp p hp
    rw [← e1,hb] at h1
    injection h1 with h1
    injection h1 with _ h1
    exact ht h1
theorem chain_below {L:List (Nat × List Obj)} {V W':World} {B:Nat} (hC:Chain L V W') (h:∀ p ∈ L,B ≤ p.1) (hB:B ≤ V.heap.size):Below B V W' :=
  ⟨hC.os,hC.tape,hC.output,hC.size,fun k hk => hC.block k (by omega) fun p hp e1 => by have:=h p hp;omega⟩
def LaidE (e n0:Nat) (f:FrameD) (W:World) (v:Value):Prop:=∃ b,v=.slice (some ⟨b,0,none⟩) 1 1∧n0 ≤ b∧W.heap[b]?=some (.cells (fc f).toArray e (0,0))
theorem stable_laidE (e n0:Nat) (f:FrameD) (L:List (Nat × List Obj)) (h:∀ p ∈ L,p.1 < n0):GR.Stable (Chain L) (LaidE e n0 f):=by
  rintro W W' v ⟨b,rfl,hb,hc⟩ hR
  exact ⟨b,rfl,hb,hR.mid hc fun p hp e1 => by have:=h p hp;omega⟩
theorem laidE_of {e n0:Nat} {f:FrameD} {W:World} {b:Nat} (h:LaidE e n0 f W (.slice (some ⟨b,0,none⟩) 1 1)):W.heap[b]?=some (.cells (fc f).toArray e (0,0)):=by
  obtain ⟨b',e1,-,hK⟩:=h
  simp at e1
  subst e1
  exact hK
set_option maxRecDepth 100000 in
set_option maxHeartbeats 2000000 in
theorem theirs17_calls (pc used : Int) (rs : List S32) (SA : Option Addr) (sc : Nat) (fs : List FrameD) (W : World) (hC : Kd.C kF W SA fs.length fs) (hsc : fs.length ≤ sc) (hl : rs.length = 8) (hbig : fs.length ≤ 1000000) :
    Calls Try.prog 13 #[.agg (cpuC pc used rs (.slice SA fs.length sc))] W fun x w' => ∃ A c,x=.returned (.agg (cpuC pc used rs (.slice A fs.length c)))∧Kd.R kF 88 w' W.heap.size (fun _ => True) (.slice A fs.length c) fs∧Below W.heap.size W w':=by
  have hu26:=Try.underlying26
  have hu27:=Try.underlying27
  have hu29:=Try.underlying29
  have hu34:=Try.underlying34
  have hu35:=Try.underlying35
  have hu37:=Try.underlying37
  have hu88:=Try.underlying88
  have hu99:=Try.underlying99
  obtain ⟨a0,b0,a1,b1,a2,b2,a3,b3,a4,b4,a5,b5,a6,b6,a7,b7,rfl⟩:=eight hl
  obtain ⟨V1,hV1,KV1,hBV1⟩:=alz W (cpuC pc used [⟨a0,b0⟩,⟨a1,b1⟩,⟨a2,b2⟩,⟨a3,b3⟩,⟨a4,b4⟩,⟨a5,b5⟩,⟨a6,b6⟩,⟨a7,b7⟩] (.slice SA fs.length sc)) 29
  have ltV1:W.heap.size < V1.heap.size:=zE KV1
  have K_in:=KV1
  have HB:=hBV1
  clear KV1 hBV1
  obtain ⟨V2,hV2,KV2,hBV2⟩:=alz5 V1
  have ltV2:V1.heap.size < V2.heap.size:=zE KV2
  replace K_in:=zB K_in hBV2
  have K_res:=KV2
  replace HB:=zA HB hBV2
  clear KV2 hBV2
  have k0:∀ W',Below V2.heap.size V2 W' → W'.cell? ⟨W.heap.size,0,none⟩=some (.int .i64 pc):=fun W' hB => zC (zB K_in hB) 0
  have k1:∀ W',Below V2.heap.size V2 W' → W'.cell? ⟨W.heap.size,1,none⟩=some (.int .i64 used):=fun W' hB => zC (zB K_in hB) 1
  have k2:∀ W',Below V2.heap.size V2 W' → (Instr.loadAt 26 (.pointer (some ⟨W.heap.size,2,none⟩))).run Try.prog W'=.ok (.agg #[.int .i64 a0,.int .i64 b0,.int .i64 a1,.int .i64 b1,.int .i64 a2,.int .i64 b2,.int .i64 a3,.int .i64 b3,.int .i64 a4,.int .i64 b4,.int .i64 a5,.int .i64 b5,.int .i64 a6,.int .i64 b6,.int .i64 a7,.int .i64 b7]) W':=fun W' hB => ld_range (cs:=rc [⟨a0,b0⟩,⟨a1,b1⟩,⟨a2,b2⟩,⟨a3,b3⟩,⟨a4,b4⟩,⟨a5,b5⟩,⟨a6,b6⟩,⟨a7,b7⟩]) (range_of (pre:=[.int .i64 pc,.int .i64 used]) (post:=[.slice SA fs.length sc]) (t:=29) (fr:=(0,0)) (by simpa [cpuC] using zB K_in hB)) Try.underlying26 rfl (by rw [sz26];rfl)
  have HK:=Lib.hid (zL K_in (zL K_res HB))
  clear K_in K_res HB
  go_enter Try.func13,Try.ntmps13
  go_wp2_with fail
  apply GR.wp_region_grow (R:=RB) 9 (by kernel_rfl) (by kernel_rfl) (by kernel_rfl)
  · intro c a d v w h;cases d <;> exact h
  simp only [List.take_succ_cons,List.take_zero,List.drop_succ_cons,List.drop_zero]
  apply GR.gw_val (by rfl)
  · (intro W' hB hD;have q0:=k0 W' hB;have q1:=k1 W' hB;go_simp;first | done | rfl)
  simp only [Act.put,zI,zJ,zK]
  apply GR.gw_val (by rfl)
  · (intro W' hB hD;have q0:=k0 W' hB;have q1:=k1 W' hB;go_simp;first | done | rfl)
  simp only [Act.put,zI,zJ,zK]
  apply GR.gw_val (by rfl)
  · (intro W' hB hD;have q0:=k0 W' hB;have q1:=k1 W' hB;go_simp;first | done | rfl)
  simp only [Act.put,zI,zJ,zK]
  apply GR.gw_val (by rfl)
  · (intro W' hB hD;have q0:=k0 W' hB;have q1:=k1 W' hB;go_simp;first | done | rfl)
  simp only [Act.put,zI,zJ,zK]
  apply GR.gw_val (by rfl)
  · (intro W' hB hD;have q0:=k0 W' hB;have q1:=k1 W' hB;go_simp;first | done | rfl)
  simp only [Act.put,zI,zJ,zK]
  apply GR.gw_val (by rfl)
  · (intro W' hB hD;exact exec_ld rfl (k2 W' hB))
  simp only [Act.put,zI,zJ,zK]
  apply GR.gw_call (c:=.agg #[.int .i64 a0,.int .i64 b0,.int .i64 a1,.int .i64 b1,.int .i64 a2,.int .i64 b2,.int .i64 a3,.int .i64 b3,.int .i64 a4,.int .i64 b4,.int .i64 a5,.int .i64 b5,.int .i64 a6,.int .i64 b6,.int .i64 a7,.int .i64 b7]) (by rfl)
  · (intro W' hB hD;go_simp;first | done | rfl | exact ⟨rfl,rfl⟩)
  · (intro W' hB hD;exact (regs_calls W' [⟨a0,b0⟩,⟨a1,b1⟩,⟨a2,b2⟩,⟨a3,b3⟩,⟨a4,b4⟩,⟨a5,b5⟩,⟨a6,b6⟩,⟨a7,b7⟩] rfl).mono fun x w' hh => ⟨hh.1,GR.Rel.ofB hh.2⟩)
  simp only [Act.put,zI,zJ,zK]
  apply GR.gw_val (by rfl)
  · (intro W' hB hD;go_simp;first | done | rfl)
  simp only [Act.put,zI,zJ,zK]
  apply GR.gw_rel (stable_TZ V2.heap.size (.cells #[.int .i64 0,.int .i64 0,.int .i64 0,.int .i64 0,.int .i64 0,.int .i64 0,.int .i64 0,.int .i64 0,.int .i64 0,.int .i64 0,.int .i64 0,.int .i64 0,.int .i64 0,.int .i64 0,.int .i64 0,.int .i64 0,.int .i64 0,.int .i64 0,.slice none 0 0] 37)) (by rfl)
  · intro W' hB hD
    refine ⟨_,_,?_,bOne (.cells #[.int .i64 0,.int .i64 0,.int .i64 0,.int .i64 0,.int .i64 0,.int .i64 0,.int .i64 0,.int .i64 0,.int .i64 0,.int .i64 0,.int .i64 0,.int .i64 0,.int .i64 0,.int .i64 0,.int .i64 0,.int .i64 0,.int .i64 0,.int .i64 0,.slice none 0 0] 37),W'.heap.size,rfl,hB.size,heap_alloc_new _ _⟩
    go_simp
    first | done | rfl
  rintro v ⟨-,p1,rfl,-,-⟩
  simp only [Act.put,zI,zJ,zK]
  apply GR.gw_nil
  intro Wa hW hF hP
  simp [List.forall_mem_append,TZ_ptr] at hF hP
  obtain ⟨hp1,hF⟩:=hF
  obtain ⟨Vs,hSs,Ks,hOs⟩:=st_whole (P:=Try.prog) (ty:=37) (vs:=[.int .i64 pc,.int .i64 used,.int .i64 a0,.int .i64 b0,.int .i64 a1,.int .i64 b1,.int .i64 a2,.int .i64 b2,.int .i64 a3,.int .i64 b3,.int .i64 a4,.int .i64 b4,.int .i64 a5,.int .i64 b5,.int .i64 a6,.int .i64 b6,.int .i64 a7,.int .i64 b7,.slice none 0 0]) hF rfl (by rw [sz37];rfl) (by simp [Value.oneCell'])
  have K_out:Vs.heap[p1]?=some (.cells (cpuC pc used [⟨a0,b0⟩,⟨a1,b1⟩,⟨a2,b2⟩,⟨a3,b3⟩,⟨a4,b4⟩,⟨a5,b5⟩,⟨a6,b6⟩,⟨a7,b7⟩] (.slice none 0 0)) 37 (0,0)):=Ks
  have hBa:=zA HK.out.2.2 hW
  have szW:=HK.out.2.2.size
  have szA:=hW.size
  have szS:=hOs.size
  have ltI:W.heap.size < V2.heap.size:=by have:=zE HK.out.1;omega
  have ltR:V1.heap.size < V2.heap.size:=zE HK.out.2.1
  have ltP:=zE K_out
  have K_in:=hOs.mid (zB HK.out.1 hW) (by omega) (B:=0)
  have K_res:=hOs.mid (zB HK.out.2.1 hW) (by omega) (B:=0)
  have hB0:Below W.heap.size W Vs:=hBa.trans (hOs.below (by omega) hBa.size)
  have cS:Vs.cell? ⟨W.heap.size,18,none⟩=some (.slice SA fs.length sc):=(zC K_in 18).trans (cpuC_stk rfl)
  have HJ:=Lib.hid (zL K_out (zL K_res hB0))
  clear K_out K_res hB0 Ks hF hP hW hBa K_in HK hOs
  go_wp2_with (refine wpList_st rfl rfl hSs ?_)
  go_loopg [17,5] fs.length (fun kq v17 _ W' => ∃ (i:Nat) (A:Option Addr) (c:Nat),v17=.int .i64 i∧Hid (kq + i=fs.length)∧Hid (W'.heap[p1]?=some (.cells (cpuC pc used [⟨a0,b0⟩,⟨a1,b1⟩,⟨a2,b2⟩,⟨a3,b3⟩,⟨a4,b4⟩,⟨a5,b5⟩,⟨a6,b6⟩,⟨a7,b7⟩] (.slice A i c)) 37 (0,0))∧Kd.R kF 88 W' Vs.heap.size (fun _ => True) (.slice A i c) (fs.take i)∧W'.heap[V1.heap.size]?=some (.cells #[.int .i64 0,.int .i64 0,.int .i64 0,.int .i64 0,.int .i64 0,.int .i64 0,.int .i64 0,.int .i64 0,.int .i64 0,.int .i64 0,.int .i64 0,.int .i64 0,.int .i64 0,.int .i64 0,.int .i64 0,.int .i64 0,.int .i64 0,.int .i64 0,.slice none 0 0] 37 (0,0))∧Below W.heap.size W W'∧Vs.heap.size ≤ W'.heap.size))
  case atStart => exact ⟨0,none,0,rfl,by simp [Hid],Lib.hid ⟨HJ.out.1,Kd.R_nil _ _ _ _ _,HJ.out.2.1,HJ.out.2.2,Nat.le_refl _⟩⟩
  case round =>
    obtain ⟨i,A,c,rfl,hk,hJ⟩:=hrel
    by_cases hi:i < fs.length
    · have hi2:(i:Int) < fs.length:=by omega
      have hi0:(0:Int) ≤ i:=by omega
      obtain ⟨K_out,R_st,K_res,HB,szV⟩:=hJ.out
      obtain ⟨ad,cs,rfl,_,hKf,hc0⟩:=Kd.C_get (Kd.C_below hC HB) zF (i:Int) hi0 hi2
      obtain ⟨f,hfx⟩:∃ f,fs.getD (i:Int).toNat zF=f:=⟨_,rfl⟩
      rw [hfx] at hKf
      obtain ⟨hf8,rfl⟩:=hKf
      have hfi:fs[i]?=some f:=by rw [← hfx,Int.toNat_natCast,List.getD_eq_getElem?_getD,List.getElem?_eq_getElem hi];rfl
      simp only [Int.toNat_natCast] at hc0
      have hLf:=ld_at (P:=Try.prog) (ty:=99) (W:=wr) (ad:=ad.add (i * 18)) (cs:=fc f) (fun j v hj => by rw [add_add];exact hc0 j v hj) Try.underlying99 rfl (by rw [sz99,fc_length f hf8])
      obtain ⟨fd,fsv,frs⟩:=f
      dsimp only at hf8
      obtain ⟨x0,y0,x1,y1,x2,y2,x3,y3,x4,y4,x5,y5,x6,y6,x7,y7,rfl⟩:=eight hf8
      have hfl:(fs.take i).length=i:=by rw [List.length_take];omega
      obtain ⟨qV1,hqV1,KqV1,hBqV1⟩:=alz wr #[.int .i64 0,.int .i64 0,.int .i64 0,.int .i64 0,.int .i64 0,.int .i64 0,.int .i64 0,.int .i64 0,.int .i64 0,.int .i64 0,.int .i64 0,.int .i64 0,.int .i64 0,.int .i64 0,.int .i64 0,.int .i64 0,.int .i64 0,.int .i64 0] 99
      have ltqV1:wr.heap.size < qV1.heap.size:=zE KqV1
      replace K_out:=zB K_out hBqV1
      replace K_res:=zB K_res hBqV1
      replace R_st:=Kd.R_below R_st hBqV1
      have K_fr:=KqV1
      replace HB:=zA HB hBqV1
      clear KqV1 hBqV1
      obtain ⟨qV2,hSqV2,KKqV2,hOqV2⟩:=st_whole (P:=Try.prog) (ty:=99) (vs:=[.int .i64 fd,.int .i64 fsv,.int .i64 x0,.int .i64 y0,.int .i64 x1,.int .i64 y1,.int .i64 x2,.int .i64 y2,.int .i64 x3,.int .i64 y3,.int .i64 x4,.int .i64 y4,.int .i64 x5,.int .i64 y5,.int .i64 x6,.int .i64 y6,.int .i64 x7,.int .i64 y7]) K_fr rfl (by rw [sz99];rfl) (by simp [Value.oneCell'])
      replace R_st:=R_offs R_st K_fr (by intro q hq;simp [kF] at hq;subst hq;decide) hOqV2
      replace K_fr:qV2.heap[wr.heap.size]?=some (.cells (#[.int .i64 fd,.int .i64 fsv,.int .i64 x0,.int .i64 y0,.int .i64 x1,.int .i64 y1,.int .i64 x2,.int .i64 y2,.int .i64 x3,.int .i64 y3,.int .i64 x4,.int .i64 y4,.int .i64 x5,.int .i64 y5,.int .i64 x6,.int .i64 y6,.int .i64 x7,.int .i64 y7]) 99 (0,0)):=KKqV2
      replace K_out:=hOqV2.mid K_out (by omega) (B:=0)
      replace K_res:=hOqV2.mid K_res (by omega) (B:=0)
      have szqV2:qV1.heap.size ≤ qV2.heap.size:=hOqV2.size
      replace HB:=HB.trans (hOqV2.below (by omega) HB.size)
      clear hOqV2
      clear KKqV2
      obtain ⟨L,T,hst,hLp,hex,hfin⟩:=append_frames 35 88 Try.underlying35 info88 qV2 Vs.heap.size _ (fs.take i) (⟨fd,fsv,[⟨x0,y0⟩,⟨x1,y1⟩,⟨x2,y2⟩,⟨x3,y3⟩,⟨x4,y4⟩,⟨x5,y5⟩,⟨x6,y6⟩,⟨x7,y7⟩]⟩:FrameD) R_st rfl (by omega) (by omega)
      have d0:∀ W',Chain L qV2 W' → W'.cell? ⟨p1,18,none⟩=some (.slice A i c):=fun W' hB => (zC (chain_off hLp hB K_out (by decide)) 18).trans (cpuC_stk rfl)
      have d1:∀ W',Chain L qV2 W' → W'.cell? ⟨wr.heap.size,0,none⟩=some (.int .i64 fd):=fun W' hB => zC (chain_off hLp hB K_fr (by decide)) 0
      have d2:∀ W',Chain L qV2 W' → W'.cell? ⟨wr.heap.size,1,none⟩=some (.int .i64 fsv):=fun W' hB => zC (chain_off hLp hB K_fr (by decide)) 1
      have d3:∀ W',Chain L qV2 W' → (Instr.loadAt 26 (.pointer (some ⟨wr.heap.size,2,none⟩))).run Try.prog W'=.ok (.agg #[.int .i64 x0,.int .i64 y0,.int .i64 x1,.int .i64 y1,.int .i64 x2,.int .i64 y2,.int .i64 x3,.int .i64 y3,.int .i64 x4,.int .i64 y4,.int .i64 x5,.int .i64 y5,.int .i64 x6,.int .i64 y6,.int .i64 x7,.int .i64 y7]) W':=fun W' hB => ld_range (cs:=rc [⟨x0,y0⟩,⟨x1,y1⟩,⟨x2,y2⟩,⟨x3,y3⟩,⟨x4,y4⟩,⟨x5,y5⟩,⟨x6,y6⟩,⟨x7,y7⟩]) (range_of (pre:=[.int .i64 fd,.int .i64 fsv]) (post:=[]) (t:=99) (fr:=(0,0)) (by simpa [rc] using chain_off hLp hB K_fr (by decide))) Try.underlying26 rfl (by rw [sz26];rfl)
      have HQ:=Lib.hid (zL K_out (zL K_res (zL HB (zL hLp (zL hex hfin)))))
      have HFI:=Lib.hid hfi
      clear K_out K_res HB K_fr hLp hex hfin R_st hJ hfi hfx hc0
      go_wp2_with (first | refine wpList_ld rfl rfl hLf ?_ | refine wpList_st rfl rfl hSqV2 ?_)
      apply GR.wp_region_grow (R:=Chain L) 13 (by kernel_rfl) (by kernel_rfl) (by kernel_rfl)
      · intro c a d v w h;cases d <;> exact h
      simp only [List.take_succ_cons,List.take_zero,List.drop_succ_cons,List.drop_zero]
      apply GR.gw_val (by rfl)
      · (intro W' hB hD;have q0:=d0 W' hB;have q1:=d1 W' hB;have q2:=d2 W' hB;go_simp;first | done | rfl)
      simp only [Act.put,zI,zJ,zK]
      apply GR.gw_val (by rfl)
      · (intro W' hB hD;have q0:=d0 W' hB;have q1:=d1 W' hB;have q2:=d2 W' hB;go_simp;first | done | rfl)
      simp only [Act.put,zI,zJ,zK]
      apply GR.gw_val (by rfl)
      · (intro W' hB hD;have q0:=d0 W' hB;have q1:=d1 W' hB;have q2:=d2 W' hB;go_simp;first | done | rfl)
      simp only [Act.put,zI,zJ,zK]
      apply GR.gw_val (by rfl)
      · (intro W' hB hD;have q0:=d0 W' hB;have q1:=d1 W' hB;have q2:=d2 W' hB;go_simp;first | done | rfl)
      simp only [Act.put,zI,zJ,zK]
      apply GR.gw_val (by rfl)
      · (intro W' hB hD;have q0:=d0 W' hB;have q1:=d1 W' hB;have q2:=d2 W' hB;go_simp;first | done | rfl)
      simp only [Act.put,zI,zJ,zK]
      apply GR.gw_val (by rfl)
      · (intro W' hB hD;have q0:=d0 W' hB;have q1:=d1 W' hB;have q2:=d2 W' hB;go_simp;first | done | rfl)
      simp only [Act.put,zI,zJ,zK]
      apply GR.gw_val (by rfl)
      · (intro W' hB hD;have q0:=d0 W' hB;have q1:=d1 W' hB;have q2:=d2 W' hB;go_simp;first | done | rfl)
      simp only [Act.put,zI,zJ,zK]
      apply GR.gw_val (by rfl)
      · (intro W' hB hD;exact exec_ld rfl (d3 W' hB))
      simp only [Act.put,zI,zJ,zK]
      apply GR.gw_call (c:=.agg #[.int .i64 x0,.int .i64 y0,.int .i64 x1,.int .i64 y1,.int .i64 x2,.int .i64 y2,.int .i64 x3,.int .i64 y3,.int .i64 x4,.int .i64 y4,.int .i64 x5,.int .i64 y5,.int .i64 x6,.int .i64 y6,.int .i64 x7,.int .i64 y7]) (by rfl)
      · (intro W' hB hD;go_simp;first | done | rfl | exact ⟨rfl,rfl⟩)
      · (intro W' hB hD;exact (regs_calls W' [⟨x0,y0⟩,⟨x1,y1⟩,⟨x2,y2⟩,⟨x3,y3⟩,⟨x4,y4⟩,⟨x5,y5⟩,⟨x6,y6⟩,⟨x7,y7⟩] rfl).mono fun x w' hh => ⟨hh.1,GR.Rel.ofB hh.2⟩)
      simp only [Act.put,zI,zJ,zK]
      apply GR.gw_val (by rfl)
      · (intro W' hB hD;go_simp;first | done | rfl)
      simp only [Act.put,zI,zJ,zK]
      apply GR.gw_rel (stable_laidE 88 qV2.heap.size (⟨fd,fsv,[⟨x0,y0⟩,⟨x1,y1⟩,⟨x2,y2⟩,⟨x3,y3⟩,⟨x4,y4⟩,⟨x5,y5⟩,⟨x6,y6⟩,⟨x7,y7⟩]⟩:FrameD) L (fun p hp => by obtain ⟨cs,h1,-⟩:=HQ.out.2.2.2.1 p hp;exact zE h1)) (by rfl)
      · intro W' hB hD
        refine ⟨_,W'.alloc (.cells #[.int .i64 fd,.int .i64 fsv,.int .i64 x0,.int .i64 y0,.int .i64 x1,.int .i64 y1,.int .i64 x2,.int .i64 y2,.int .i64 x3,.int .i64 y3,.int .i64 x4,.int .i64 y4,.int .i64 x5,.int .i64 y5,.int .i64 x6,.int .i64 y6,.int .i64 x7,.int .i64 y7] 88),?_,GR.Rel.ofB (bOne _),⟨W'.heap.size,rfl,hB.size,heap_alloc_new _ _⟩⟩
        go_simp
        first | done | rfl
      rintro v ⟨Wv,b,rfl,-,-⟩
      simp only [Act.put,zI,zJ,zK]
      apply GR.gw_rel hst (by rfl)
      · intro W' hB hD
        have hK:LaidE 88 qV2.heap.size (⟨fd,fsv,[⟨x0,y0⟩,⟨x1,y1⟩,⟨x2,y2⟩,⟨x3,y3⟩,⟨x4,y4⟩,⟨x5,y5⟩,⟨x6,y6⟩,⟨x7,y7⟩]⟩:FrameD) W' (.slice (some ⟨b,0,none⟩) 1 1):=by simp [GR.depFacts,Region.binds] at hD;exact hD
        exact HQ.out.2.2.2.2.1 W' _ _ _ _ b _ hB (laidE_of hK) rfl rfl rfl (by simp) rfl rfl
      rintro v -
      simp only [Act.put,zI,zJ,zK]
      apply GR.gw_val (by rfl)
      · (intro W' hB hD;have q0:=d0 W' hB;have q1:=d1 W' hB;have q2:=d2 W' hB;go_simp;first | done | rfl)
      simp only [Act.put,zI,zJ,zK]
      apply GR.gw_nil
      intro w3 hW hF hP
      have hT:=hF (fun W => T W v) (by simp)
      have hR:=HQ.out.2.2.2.2.2 w3 v hW hT
      clear hF hP hT
      have hts:fs.take i ++ [(⟨fd,fsv,[⟨x0,y0⟩,⟨x1,y1⟩,⟨x2,y2⟩,⟨x3,y3⟩,⟨x4,y4⟩,⟨x5,y5⟩,⟨x6,y6⟩,⟨x7,y7⟩]⟩:FrameD)]=fs.take (i + 1):=by rw [List.take_add_one,HFI.out];rfl
      rw [hts] at hR
      obtain ⟨A3,c3,rfl⟩:=Kd.R_slice hR
      have hl3:(fs.take (i + 1)).length=i + 1:=by rw [List.length_take];omega
      rw [hl3] at hR ⊢
      have K_out:=chain_off HQ.out.2.2.2.1 hW HQ.out.1 (by decide)
      have K_res:=chain_off HQ.out.2.2.2.1 hW HQ.out.2.1 (by decide)
      have HB3:Below W.heap.size W w3:=HQ.out.2.2.1.trans (chain_below hW (fun p hp => by obtain ⟨cs,-,h2⟩:=HQ.out.2.2.2.1 p hp;omega) HQ.out.2.2.1.size)
      have sz3:=hW.size
      have g6:=(zC K_out 18).trans (cpuC_stk rfl)
      have g7:=zD K_out 18
      obtain ⟨W6,hW6⟩:∃ V,w3.setCell ⟨p1,18,none⟩ (.slice A3 (i + 1) c3)=V:=⟨_,rfl⟩
      have hO6:Only p1 w3 W6:=by rw [← hW6];exact Only.set w3 18 _
      have K6:W6.heap[p1]?=some (.cells (cpuC pc used [⟨a0,b0⟩,⟨a1,b1⟩,⟨a2,b2⟩,⟨a3,b3⟩,⟨a4,b4⟩,⟨a5,b5⟩,⟨a6,b6⟩,⟨a7,b7⟩] (.slice A3 (i + 1) c3)) 37 (0,0)):=by
        rw [← hW6,← cpuC_setStk _ (show ([⟨a0,b0⟩,⟨a1,b1⟩,⟨a2,b2⟩,⟨a3,b3⟩,⟨a4,b4⟩,⟨a5,b5⟩,⟨a6,b6⟩,⟨a7,b7⟩]:List S32).length=8 from rfl)]
        exact blk_set K_out 18 _
      have hR6:=R_offs hR K_out (by intro q hq;simp [kF] at hq;subst hq;decide) hO6
      have HJ2:=Lib.hid (zL K6 (zL hR6 (zL (hO6.mid K_res (by omega) (B:=0)) (zL (HB3.trans (hO6.below (by omega) HB3.size)) (show Vs.heap.size ≤ W6.heap.size by have:=hO6.size;omega)))))
      clear K_out K_res HB3 hO6 K6 hR6 hR hW HQ d0 d1 d2 d3
      go_wp2_with fail
      obtain ⟨k1,rfl⟩:∃ m,gk=m + 1:=⟨gk - 1,by have:=hk.out;omega⟩
      go_roundg k1
      case measure => omega
      case rel => exact ⟨i + 1,A3,c3,by first | rfl | rw [wrap_next (by omega)] | (unfold wrap64;congr 1;omega),Lib.hid (by have:=hk.out;omega),HJ2⟩
    · have hi2:¬ (i:Int) < fs.length:=by omega
      have hk0:i=fs.length:=by have:=hk.out;omega
      subst hk0
      obtain ⟨K_out,R_st,K_res,HB,szV⟩:=hJ.out
      rw [List.take_length] at R_st
      have hL2:=ld_whole (P:=Try.prog) (ty:=37) K_out Try.underlying37 rfl (by rw [sz37];rfl)
      obtain ⟨Vz,hSz,Kz,hOz⟩:=st_whole (P:=Try.prog) (ty:=37) (vs:=(cpuC pc used [⟨a0,b0⟩,⟨a1,b1⟩,⟨a2,b2⟩,⟨a3,b3⟩,⟨a4,b4⟩,⟨a5,b5⟩,⟨a6,b6⟩,⟨a7,b7⟩] (.slice A fs.length c)).toList) K_res (by rfl) (by rw [sz37];rfl) (cpuC_one1 _ _ _ rfl)
      simp only [Array.toArray_toList] at hSz Kz
      have HE:=Lib.hid (zL Kz (zL (Kd.R_lower (R_offs R_st K_res (by intro q hq;simp [kF] at hq;subst hq;decide) hOz) (show W.heap.size ≤ Vs.heap.size by omega)) (HB.trans (hOz.below (by omega) HB.size))))
      clear K_out R_st K_res HB Kz hOz hJ
      go_wp2_with (first | refine wpList_ld rfl rfl hL2 ?_ | refine wpList_st rfl rfl hSz ?_)
      exact bodyPost_ret (results_c1 rfl _ rfl HE.out.1 Try.underlying37 rfl (by rw [sz37];rfl)) rfl ⟨A,c,rfl,HE.out.2.1,HE.out.2.2⟩
set_option maxRecDepth 100000 in
set_option maxHeartbeats 2000000 in
theorem ours17_calls (pc used : Int) (rs : List S32) (SA : Option Addr) (sc : Nat) (fs : List FrameD) (W : World) (hC : Kd.C kF W SA fs.length fs) (hsc : fs.length ≤ sc) (hl : rs.length = 8) (hbig : fs.length ≤ 1000000) :
    Calls Try.prog 16 #[.agg (cpuC pc used rs (.slice SA fs.length sc))] W fun x w' => ∃ A c,x=.returned (.agg (cpuC pc used rs (.slice A fs.length c)))∧Kd.R kF 99 w' W.heap.size (fun _ => True) (.slice A fs.length c) fs∧Below W.heap.size W w':=by
  have hu26:=Try.underlying26
  have hu27:=Try.underlying27
  have hu29:=Try.underlying29
  have hu34:=Try.underlying34
  have hu35:=Try.underlying35
  have hu37:=Try.underlying37
  have hu88:=Try.underlying88
  have hu99:=Try.underlying99
  obtain ⟨a0,b0,a1,b1,a2,b2,a3,b3,a4,b4,a5,b5,a6,b6,a7,b7,rfl⟩:=eight hl
  obtain ⟨V1,hV1,KV1,hBV1⟩:=alz W (cpuC pc used [⟨a0,b0⟩,⟨a1,b1⟩,⟨a2,b2⟩,⟨a3,b3⟩,⟨a4,b4⟩,⟨a5,b5⟩,⟨a6,b6⟩,⟨a7,b7⟩] (.slice SA fs.length sc)) 37
  have ltV1:W.heap.size < V1.heap.size:=zE KV1
  have K_in:=KV1
  have HB:=hBV1
  clear KV1 hBV1
  obtain ⟨V2,hV2,KV2,hBV2⟩:=alz1 V1
  have ltV2:V1.heap.size < V2.heap.size:=zE KV2
  replace K_in:=zB K_in hBV2
  have K_res:=KV2
  replace HB:=zA HB hBV2
  clear KV2 hBV2
  have k0:∀ W',Below V2.heap.size V2 W' → W'.cell? ⟨W.heap.size,0,none⟩=some (.int .i64 pc):=fun W' hB => zC (zB K_in hB) 0
  have k1:∀ W',Below V2.heap.size V2 W' → W'.cell? ⟨W.heap.size,1,none⟩=some (.int .i64 used):=fun W' hB => zC (zB K_in hB) 1
  have k2:∀ W',Below V2.heap.size V2 W' → (Instr.loadAt 34 (.pointer (some ⟨W.heap.size,2,none⟩))).run Try.prog W'=.ok (.agg #[.int .i64 a0,.int .i64 b0,.int .i64 a1,.int .i64 b1,.int .i64 a2,.int .i64 b2,.int .i64 a3,.int .i64 b3,.int .i64 a4,.int .i64 b4,.int .i64 a5,.int .i64 b5,.int .i64 a6,.int .i64 b6,.int .i64 a7,.int .i64 b7]) W':=fun W' hB => ld_range (cs:=rc [⟨a0,b0⟩,⟨a1,b1⟩,⟨a2,b2⟩,⟨a3,b3⟩,⟨a4,b4⟩,⟨a5,b5⟩,⟨a6,b6⟩,⟨a7,b7⟩]) (range_of (pre:=[.int .i64 pc,.int .i64 used]) (post:=[.slice SA fs.length sc]) (t:=37) (fr:=(0,0)) (by simpa [cpuC] using zB K_in hB)) Try.underlying34 rfl (by rw [sz34];rfl)
  have HK:=Lib.hid (zL K_in (zL K_res HB))
  clear K_in K_res HB
  go_enter Try.func16,Try.ntmps16
  go_wp2_with fail
  apply GR.wp_region_grow (R:=RB) 9 (by kernel_rfl) (by kernel_rfl) (by kernel_rfl)
  · intro c a d v w h;cases d <;> exact h
  simp only [List.take_succ_cons,List.take_zero,List.drop_succ_cons,List.drop_zero]
  apply GR.gw_val (by rfl)
  · (intro W' hB hD;have q0:=k0 W' hB;have q1:=k1 W' hB;go_simp;first | done | rfl)
  simp only [Act.put,zI,zJ,zK]
  apply GR.gw_val (by rfl)
  · (intro W' hB hD;have q0:=k0 W' hB;have q1:=k1 W' hB;go_simp;first | done | rfl)
  simp only [Act.put,zI,zJ,zK]
  apply GR.gw_val (by rfl)
  · (intro W' hB hD;have q0:=k0 W' hB;have q1:=k1 W' hB;go_simp;first | done | rfl)
  simp only [Act.put,zI,zJ,zK]
  apply GR.gw_val (by rfl)
  · (intro W' hB hD;have q0:=k0 W' hB;have q1:=k1 W' hB;go_simp;first | done | rfl)
  simp only [Act.put,zI,zJ,zK]
  apply GR.gw_val (by rfl)
  · (intro W' hB hD;have q0:=k0 W' hB;have q1:=k1 W' hB;go_simp;first | done | rfl)
  simp only [Act.put,zI,zJ,zK]
  apply GR.gw_val (by rfl)
  · (intro W' hB hD;exact exec_ld rfl (k2 W' hB))
  simp only [Act.put,zI,zJ,zK]
  apply GR.gw_call (c:=.agg #[.int .i64 a0,.int .i64 b0,.int .i64 a1,.int .i64 b1,.int .i64 a2,.int .i64 b2,.int .i64 a3,.int .i64 b3,.int .i64 a4,.int .i64 b4,.int .i64 a5,.int .i64 b5,.int .i64 a6,.int .i64 b6,.int .i64 a7,.int .i64 b7]) (by rfl)
  · (intro W' hB hD;go_simp;first | done | rfl | exact ⟨rfl,rfl⟩)
  · (intro W' hB hD;exact (ours_regs W' [⟨a0,b0⟩,⟨a1,b1⟩,⟨a2,b2⟩,⟨a3,b3⟩,⟨a4,b4⟩,⟨a5,b5⟩,⟨a6,b6⟩,⟨a7,b7⟩] rfl).mono fun x w' hh => ⟨hh.1,GR.Rel.ofB hh.2⟩)
  simp only [Act.put,zI,zJ,zK]
  apply GR.gw_val (by rfl)
  · (intro W' hB hD;go_simp;first | done | rfl)
  simp only [Act.put,zI,zJ,zK]
  apply GR.gw_rel (stable_TZ V2.heap.size (.cells #[.int .i64 0,.int .i64 0,.int .i64 0,.int .i64 0,.int .i64 0,.int .i64 0,.int .i64 0,.int .i64 0,.int .i64 0,.int .i64 0,.int .i64 0,.int .i64 0,.int .i64 0,.int .i64 0,.int .i64 0,.int .i64 0,.int .i64 0,.int .i64 0,.slice none 0 0] 29)) (by rfl)
  · intro W' hB hD
    refine ⟨_,_,?_,bOne (.cells #[.int .i64 0,.int .i64 0,.int .i64 0,.int .i64 0,.int .i64 0,.int .i64 0,.int .i64 0,.int .i64 0,.int .i64 0,.int .i64 0,.int .i64 0,.int .i64 0,.int .i64 0,.int .i64 0,.int .i64 0,.int .i64 0,.int .i64 0,.int .i64 0,.slice none 0 0] 29),W'.heap.size,rfl,hB.size,heap_alloc_new _ _⟩
    go_simp
    first | done | rfl
  rintro v ⟨-,p1,rfl,-,-⟩
  simp only [Act.put,zI,zJ,zK]
  apply GR.gw_nil
  intro Wa hW hF hP
  simp [List.forall_mem_append,TZ_ptr] at hF hP
  obtain ⟨hp1,hF⟩:=hF
  obtain ⟨Vs,hSs,Ks,hOs⟩:=st_whole (P:=Try.prog) (ty:=29) (vs:=[.int .i64 pc,.int .i64 used,.int .i64 a0,.int .i64 b0,.int .i64 a1,.int .i64 b1,.int .i64 a2,.int .i64 b2,.int .i64 a3,.int .i64 b3,.int .i64 a4,.int .i64 b4,.int .i64 a5,.int .i64 b5,.int .i64 a6,.int .i64 b6,.int .i64 a7,.int .i64 b7,.slice none 0 0]) hF rfl (by rw [sz29];rfl) (by simp [Value.oneCell'])
  have K_out:Vs.heap[p1]?=some (.cells (cpuC pc used [⟨a0,b0⟩,⟨a1,b1⟩,⟨a2,b2⟩,⟨a3,b3⟩,⟨a4,b4⟩,⟨a5,b5⟩,⟨a6,b6⟩,⟨a7,b7⟩] (.slice none 0 0)) 29 (0,0)):=Ks
  have hBa:=zA HK.out.2.2 hW
  have szW:=HK.out.2.2.size
  have szA:=hW.size
  have szS:=hOs.size
  have ltI:W.heap.size < V2.heap.size:=by have:=zE HK.out.1;omega
  have ltR:V1.heap.size < V2.heap.size:=zE HK.out.2.1
  have ltP:=zE K_out
  have K_in:=hOs.mid (zB HK.out.1 hW) (by omega) (B:=0)
  have K_res:=hOs.mid (zB HK.out.2.1 hW) (by omega) (B:=0)
  have hB0:Below W.heap.size W Vs:=hBa.trans (hOs.below (by omega) hBa.size)
  have cS:Vs.cell? ⟨W.heap.size,18,none⟩=some (.slice SA fs.length sc):=(zC K_in 18).trans (cpuC_stk rfl)
  have HJ:=Lib.hid (zL K_out (zL K_res hB0))
  clear K_out K_res hB0 Ks hF hP hW hBa K_in HK hOs
  go_wp2_with (refine wpList_st rfl rfl hSs ?_)
  go_loopg [17,5] fs.length (fun kq v17 _ W' => ∃ (i:Nat) (A:Option Addr) (c:Nat),v17=.int .i64 i∧Hid (kq + i=fs.length)∧Hid (W'.heap[p1]?=some (.cells (cpuC pc used [⟨a0,b0⟩,⟨a1,b1⟩,⟨a2,b2⟩,⟨a3,b3⟩,⟨a4,b4⟩,⟨a5,b5⟩,⟨a6,b6⟩,⟨a7,b7⟩] (.slice A i c)) 29 (0,0))∧Kd.R kF 99 W' Vs.heap.size (fun _ => True) (.slice A i c) (fs.take i)∧W'.heap[V1.heap.size]?=some (.cells #[.int .i64 0,.int .i64 0,.int .i64 0,.int .i64 0,.int .i64 0,.int .i64 0,.int .i64 0,.int .i64 0,.int .i64 0,.int .i64 0,.int .i64 0,.int .i64 0,.int .i64 0,.int .i64 0,.int .i64 0,.int .i64 0,.int .i64 0,.int .i64 0,.slice none 0 0] 29 (0,0))∧Below W.heap.size W W'∧Vs.heap.size ≤ W'.heap.size))
  case atStart => exact ⟨0,none,0,rfl,by simp [Hid],Lib.hid ⟨HJ.out.1,Kd.R_nil _ _ _ _ _,HJ.out.2.1,HJ.out.2.2,Nat.le_refl _⟩⟩
  case round =>
    obtain ⟨i,A,c,rfl,hk,hJ⟩:=hrel
    by_cases hi:i < fs.length
    · have hi2:(i:Int) < fs.length:=by omega
      have hi0:(0:Int) ≤ i:=by omega
      obtain ⟨K_out,R_st,K_res,HB,szV⟩:=hJ.out
      obtain ⟨ad,cs,rfl,_,hKf,hc0⟩:=Kd.C_get (Kd.C_below hC HB) zF (i:Int) hi0 hi2
      obtain ⟨f,hfx⟩:∃ f,fs.getD (i:Int).toNat zF=f:=⟨_,rfl⟩
      rw [hfx] at hKf
      obtain ⟨hf8,rfl⟩:=hKf
      have hfi:fs[i]?=some f:=by rw [← hfx,Int.toNat_natCast,List.getD_eq_getElem?_getD,List.getElem?_eq_getElem hi];rfl
      simp only [Int.toNat_natCast] at hc0
      have hLf:=ld_at (P:=Try.prog) (ty:=88) (W:=wr) (ad:=ad.add (i * 18)) (cs:=fc f) (fun j v hj => by rw [add_add];exact hc0 j v hj) Try.underlying88 rfl (by rw [sz88,fc_length f hf8])
      obtain ⟨fd,fsv,frs⟩:=f
      dsimp only at hf8
      obtain ⟨x0,y0,x1,y1,x2,y2,x3,y3,x4,y4,x5,y5,x6,y6,x7,y7,rfl⟩:=eight hf8
      have hfl:(fs.take i).length=i:=by rw [List.length_take];omega
      obtain ⟨qV1,hqV1,KqV1,hBqV1⟩:=alz9 wr
      have ltqV1:wr.heap.size < qV1.heap.size:=zE KqV1
      replace K_out:=zB K_out hBqV1
      replace K_res:=zB K_res hBqV1
      replace R_st:=Kd.R_below R_st hBqV1
      have K_fr:=KqV1
      replace HB:=zA HB hBqV1
      clear KqV1 hBqV1
      obtain ⟨qV2,hSqV2,KKqV2,hOqV2⟩:=st_whole (P:=Try.prog) (ty:=88) (vs:=[.int .i64 fd,.int .i64 fsv,.int .i64 x0,.int .i64 y0,.int .i64 x1,.int .i64 y1,.int .i64 x2,.int .i64 y2,.int .i64 x3,.int .i64 y3,.int .i64 x4,.int .i64 y4,.int .i64 x5,.int .i64 y5,.int .i64 x6,.int .i64 y6,.int .i64 x7,.int .i64 y7]) K_fr rfl (by rw [sz88];rfl) (by simp [Value.oneCell'])
      replace R_st:=R_offs R_st K_fr (by intro q hq;simp [kF] at hq;subst hq;decide) hOqV2
      replace K_fr:qV2.heap[wr.heap.size]?=some (.cells (#[.int .i64 fd,.int .i64 fsv,.int .i64 x0,.int .i64 y0,.int .i64 x1,.int .i64 y1,.int .i64 x2,.int .i64 y2,.int .i64 x3,.int .i64 y3,.int .i64 x4,.int .i64 y4,.int .i64 x5,.int .i64 y5,.int .i64 x6,.int .i64 y6,.int .i64 x7,.int .i64 y7]) 88 (0,0)):=KKqV2
      replace K_out:=hOqV2.mid K_out (by omega) (B:=0)
      replace K_res:=hOqV2.mid K_res (by omega) (B:=0)
      have szqV2:qV1.heap.size ≤ qV2.heap.size:=hOqV2.size
      replace HB:=HB.trans (hOqV2.below (by omega) HB.size)
      clear hOqV2
      clear KKqV2
      obtain ⟨L,T,hst,hLp,hex,hfin⟩:=append_frames 27 99 Try.underlying27 info99 qV2 Vs.heap.size _ (fs.take i) (⟨fd,fsv,[⟨x0,y0⟩,⟨x1,y1⟩,⟨x2,y2⟩,⟨x3,y3⟩,⟨x4,y4⟩,⟨x5,y5⟩,⟨x6,y6⟩,⟨x7,y7⟩]⟩:FrameD) R_st rfl (by omega) (by omega)
      have d0:∀ W',Chain L qV2 W' → W'.cell? ⟨p1,18,none⟩=some (.slice A i c):=fun W' hB => (zC (chain_off hLp hB K_out (by decide)) 18).trans (cpuC_stk rfl)
      have d1:∀ W',Chain L qV2 W' → W'.cell? ⟨wr.heap.size,0,none⟩=some (.int .i64 fd):=fun W' hB => zC (chain_off hLp hB K_fr (by decide)) 0
      have d2:∀ W',Chain L qV2 W' → W'.cell? ⟨wr.heap.size,1,none⟩=some (.int .i64 fsv):=fun W' hB => zC (chain_off hLp hB K_fr (by decide)) 1
      have d3:∀ W',Chain L qV2 W' → (Instr.loadAt 34 (.pointer (some ⟨wr.heap.size,2,none⟩))).run Try.prog W'=.ok (.agg #[.int .i64 x0,.int .i64 y0,.int .i64 x1,.int .i64 y1,.int .i64 x2,.int .i64 y2,.int .i64 x3,.int .i64 y3,.int .i64 x4,.int .i64 y4,.int .i64 x5,.int .i64 y5,.int .i64 x6,.int .i64 y6,.int .i64 x7,.int .i64 y7]) W':=fun W' hB => ld_range (cs:=rc [⟨x0,y0⟩,⟨x1,y1⟩,⟨x2,y2⟩,⟨x3,y3⟩,⟨x4,y4⟩,⟨x5,y5⟩,⟨x6,y6⟩,⟨x7,y7⟩]) (range_of (pre:=[.int .i64 fd,.int .i64 fsv]) (post:=[]) (t:=88) (fr:=(0,0)) (by simpa [rc] using chain_off hLp hB K_fr (by decide))) Try.underlying34 rfl (by rw [sz34];rfl)
      have HQ:=Lib.hid (zL K_out (zL K_res (zL HB (zL hLp (zL hex hfin)))))
      have HFI:=Lib.hid hfi
      clear K_out K_res HB K_fr hLp hex hfin R_st hJ hfi hfx hc0
      go_wp2_with (first | refine wpList_ld rfl rfl hLf ?_ | refine wpList_st rfl rfl hSqV2 ?_)
      apply GR.wp_region_grow (R:=Chain L) 13 (by kernel_rfl) (by kernel_rfl) (by kernel_rfl)
      · intro c a d v w h;cases d <;> exact h
      simp only [List.take_succ_cons,List.take_zero,List.drop_succ_cons,List.drop_zero]
      apply GR.gw_val (by rfl)
      · (intro W' hB hD;have q0:=d0 W' hB;have q1:=d1 W' hB;have q2:=d2 W' hB;go_simp;first | done | rfl)
      simp only [Act.put,zI,zJ,zK]
      apply GR.gw_val (by rfl)
      · (intro W' hB hD;have q0:=d0 W' hB;have q1:=d1 W' hB;have q2:=d2 W' hB;go_simp;first | done | rfl)
      simp only [Act.put,zI,zJ,zK]
      apply GR.gw_val (by rfl)
      · (intro W' hB hD;have q0:=d0 W' hB;have q1:=d1 W' hB;have q2:=d2 W' hB;go_simp;first | done | rfl)
      simp only [Act.put,zI,zJ,zK]
      apply GR.gw_val (by rfl)
      · (intro W' hB hD;have q0:=d0 W' hB;have q1:=d1 W' hB;have q2:=d2 W' hB;go_simp;first | done | rfl)
      simp only [Act.put,zI,zJ,zK]
      apply GR.gw_val (by rfl)
      · (intro W' hB hD;have q0:=d0 W' hB;have q1:=d1 W' hB;have q2:=d2 W' hB;go_simp;first | done | rfl)
      simp only [Act.put,zI,zJ,zK]
      apply GR.gw_val (by rfl)
      · (intro W' hB hD;have q0:=d0 W' hB;have q1:=d1 W' hB;have q2:=d2 W' hB;go_simp;first | done | rfl)
      simp only [Act.put,zI,zJ,zK]
      apply GR.gw_val (by rfl)
      · (intro W' hB hD;have q0:=d0 W' hB;have q1:=d1 W' hB;have q2:=d2 W' hB;go_simp;first | done | rfl)
      simp only [Act.put,zI,zJ,zK]
      apply GR.gw_val (by rfl)
      · (intro W' hB hD;exact exec_ld rfl (d3 W' hB))
      simp only [Act.put,zI,zJ,zK]
      apply GR.gw_call (c:=.agg #[.int .i64 x0,.int .i64 y0,.int .i64 x1,.int .i64 y1,.int .i64 x2,.int .i64 y2,.int .i64 x3,.int .i64 y3,.int .i64 x4,.int .i64 y4,.int .i64 x5,.int .i64 y5,.int .i64 x6,.int .i64 y6,.int .i64 x7,.int .i64 y7]) (by rfl)
      · (intro W' hB hD;go_simp;first | done | rfl | exact ⟨rfl,rfl⟩)
      · (intro W' hB hD;exact (ours_regs W' [⟨x0,y0⟩,⟨x1,y1⟩,⟨x2,y2⟩,⟨x3,y3⟩,⟨x4,y4⟩,⟨x5,y5⟩,⟨x6,y6⟩,⟨x7,y7⟩] rfl).mono fun x w' hh => ⟨hh.1,GR.Rel.ofB hh.2⟩)
      simp only [Act.put,zI,zJ,zK]
      apply GR.gw_val (by rfl)
      · (intro W' hB hD;go_simp;first | done | rfl)
      simp only [Act.put,zI,zJ,zK]
      apply GR.gw_rel (stable_laidE 99 qV2.heap.size (⟨fd,fsv,[⟨x0,y0⟩,⟨x1,y1⟩,⟨x2,y2⟩,⟨x3,y3⟩,⟨x4,y4⟩,⟨x5,y5⟩,⟨x6,y6⟩,⟨x7,y7⟩]⟩:FrameD) L (fun p hp => by obtain ⟨cs,h1,-⟩:=HQ.out.2.2.2.1 p hp;exact zE h1)) (by rfl)
      · intro W' hB hD
        refine ⟨_,W'.alloc (.cells #[.int .i64 fd,.int .i64 fsv,.int .i64 x0,.int .i64 y0,.int .i64 x1,.int .i64 y1,.int .i64 x2,.int .i64 y2,.int .i64 x3,.int .i64 y3,.int .i64 x4,.int .i64 y4,.int .i64 x5,.int .i64 y5,.int .i64 x6,.int .i64 y6,.int .i64 x7,.int .i64 y7] 99),?_,GR.Rel.ofB (bOne _),⟨W'.heap.size,rfl,hB.size,heap_alloc_new _ _⟩⟩
        go_simp
        first | done | rfl
      rintro v ⟨Wv,b,rfl,-,-⟩
      simp only [Act.put,zI,zJ,zK]
      apply GR.gw_rel hst (by rfl)
      · intro W' hB hD
        have hK:LaidE 99 qV2.heap.size (⟨fd,fsv,[⟨x0,y0⟩,⟨x1,y1⟩,⟨x2,y2⟩,⟨x3,y3⟩,⟨x4,y4⟩,⟨x5,y5⟩,⟨x6,y6⟩,⟨x7,y7⟩]⟩:FrameD) W' (.slice (some ⟨b,0,none⟩) 1 1):=by simp [GR.depFacts,Region.binds] at hD;exact hD
        exact HQ.out.2.2.2.2.1 W' _ _ _ _ b _ hB (laidE_of hK) rfl rfl rfl (by simp) rfl rfl
      rintro v -
      simp only [Act.put,zI,zJ,zK]
      apply GR.gw_val (by rfl)
      · (intro W' hB hD;have q0:=d0 W' hB;have q1:=d1 W' hB;have q2:=d2 W' hB;go_simp;first | done | rfl)
      simp only [Act.put,zI,zJ,zK]
      apply GR.gw_nil
      intro w3 hW hF hP
      have hT:=hF (fun W => T W v) (by simp)
      have hR:=HQ.out.2.2.2.2.2 w3 v hW hT
      clear hF hP hT
      have hts:fs.take i ++ [(⟨fd,fsv,[⟨x0,y0⟩,⟨x1,y1⟩,⟨x2,y2⟩,⟨x3,y3⟩,⟨x4,y4⟩,⟨x5,y5⟩,⟨x6,y6⟩,⟨x7,y7⟩]⟩:FrameD)]=fs.take (i + 1):=by rw [List.take_add_one,HFI.out];rfl
      rw [hts] at hR
      obtain ⟨A3,c3,rfl⟩:=Kd.R_slice hR
      have hl3:(fs.take (i + 1)).length=i + 1:=by rw [List.length_take];omega
      rw [hl3] at hR ⊢
      have K_out:=chain_off HQ.out.2.2.2.1 hW HQ.out.1 (by decide)
      have K_res:=chain_off HQ.out.2.2.2.1 hW HQ.out.2.1 (by decide)
      have HB3:Below W.heap.size W w3:=HQ.out.2.2.1.trans (chain_below hW (fun p hp => by obtain ⟨cs,-,h2⟩:=HQ.out.2.2.2.1 p hp;omega) HQ.out.2.2.1.size)
      have sz3:=hW.size
      have g6:=(zC K_out 18).trans (cpuC_stk rfl)
      have g7:=zD K_out 18
      obtain ⟨W6,hW6⟩:∃ V,w3.setCell ⟨p1,18,none⟩ (.slice A3 (i + 1) c3)=V:=⟨_,rfl⟩
      have hO6:Only p1 w3 W6:=by rw [← hW6];exact Only.set w3 18 _
      have K6:W6.heap[p1]?=some (.cells (cpuC pc used [⟨a0,b0⟩,⟨a1,b1⟩,⟨a2,b2⟩,⟨a3,b3⟩,⟨a4,b4⟩,⟨a5,b5⟩,⟨a6,b6⟩,⟨a7,b7⟩] (.slice A3 (i + 1) c3)) 29 (0,0)):=by
        rw [← hW6,← cpuC_setStk _ (show ([⟨a0,b0⟩,⟨a1,b1⟩,⟨a2,b2⟩,⟨a3,b3⟩,⟨a4,b4⟩,⟨a5,b5⟩,⟨a6,b6⟩,⟨a7,b7⟩]:List S32).length=8 from rfl)]
        exact blk_set K_out 18 _
      have hR6:=R_offs hR K_out (by intro q hq;simp [kF] at hq;subst hq;decide) hO6
      have HJ2:=Lib.hid (zL K6 (zL hR6 (zL (hO6.mid K_res (by omega) (B:=0)) (zL (HB3.trans (hO6.below (by omega) HB3.size)) (show Vs.heap.size ≤ W6.heap.size by have:=hO6.size;omega)))))
      clear K_out K_res HB3 hO6 K6 hR6 hR hW HQ d0 d1 d2 d3
      go_wp2_with fail
      obtain ⟨k1,rfl⟩:∃ m,gk=m + 1:=⟨gk - 1,by have:=hk.out;omega⟩
      go_roundg k1
      case measure => omega
      case rel => exact ⟨i + 1,A3,c3,by first | rfl | rw [wrap_next (by omega)] | (unfold wrap64;congr 1;omega),Lib.hid (by have:=hk.out;omega),HJ2⟩
    · have hi2:¬ (i:Int) < fs.length:=by omega
      have hk0:i=fs.length:=by have:=hk.out;omega
      subst hk0
      obtain ⟨K_out,R_st,K_res,HB,szV⟩:=hJ.out
      rw [List.take_length] at R_st
      have hL2:=ld_whole (P:=Try.prog) (ty:=29) K_out Try.underlying29 rfl (by rw [sz29];rfl)
      obtain ⟨Vz,hSz,Kz,hOz⟩:=st_whole (P:=Try.prog) (ty:=29) (vs:=(cpuC pc used [⟨a0,b0⟩,⟨a1,b1⟩,⟨a2,b2⟩,⟨a3,b3⟩,⟨a4,b4⟩,⟨a5,b5⟩,⟨a6,b6⟩,⟨a7,b7⟩] (.slice A fs.length c)).toList) K_res (by rfl) (by rw [sz29];rfl) (cpuC_one1 _ _ _ rfl)
      simp only [Array.toArray_toList] at hSz Kz
      have HE:=Lib.hid (zL Kz (zL (Kd.R_lower (R_offs R_st K_res (by intro q hq;simp [kF] at hq;subst hq;decide) hOz) (show W.heap.size ≤ Vs.heap.size by omega)) (HB.trans (hOz.below (by omega) HB.size))))
      clear K_out R_st K_res HB Kz hOz hJ
      go_wp2_with (first | refine wpList_ld rfl rfl hL2 ?_ | refine wpList_st rfl rfl hSz ?_)
      exact bodyPost_ret (results_c1 rfl _ rfl HE.out.1 Try.underlying29 rfl (by rw [sz29];rfl)) rfl ⟨A,c,rfl,HE.out.2.1,HE.out.2.2⟩
set_option maxRecDepth 100000 in
set_option maxHeartbeats 4000000 in
theorem eqR26 (d:Nat) (w:World) (rs:List S32) (h8:rs.length=8):(Op.equalIn (d + 3) 26 (.agg (rc rs).toArray) (.agg (rc rs).toArray)).run Try.prog w=.ok true w:=by
  obtain ⟨a0,b0,a1,b1,a2,b2,a3,b3,a4,b4,a5,b5,a6,b6,a7,b7,rfl⟩:=eight h8
  have hu26:=Try.underlying26
  have hu24:=Try.underlying24
  simp only [rc]
  unfold Op.equalIn
  go_simp
  rw [forIn_ok _ (by
    intro i hi
    have hi8:i < 8:=by have:=List.mem_range'.1 hi;omega
    have e0:=fun x y => eqA24 d w x x y y
    rcases (show i=0 ∨ i=1 ∨ i=2 ∨ i=3 ∨ i=4 ∨ i=5 ∨ i=6 ∨ i=7 by omega) with rfl | rfl | rfl | rfl | rfl | rfl | rfl | rfl <;> (go_simp;done))]
  go_simp
theorem eqR26' (d:Nat) (w:World) (a0 b0 a1 b1 a2 b2 a3 b3 a4 b4 a5 b5 a6 b6 a7 b7:Int):(Op.equalIn (d + 3) 26 (.agg #[.int .i64 a0,.int .i64 b0,.int .i64 a1,.int .i64 b1,.int .i64 a2,.int .i64 b2,.int .i64 a3,.int .i64 b3,.int .i64 a4,.int .i64 b4,.int .i64 a5,.int .i64 b5,.int .i64 a6,.int .i64 b6,.int .i64 a7,.int .i64 b7]) (.agg #[.int .i64 a0,.int .i64 b0,.int .i64 a1,.int .i64 b1,.int .i64 a2,.int .i64 b2,.int .i64 a3,.int .i64 b3,.int .i64 a4,.int .i64 b4,.int .i64 a5,.int .i64 b5,.int .i64 a6,.int .i64 b6,.int .i64 a7,.int .i64 b7])).run Try.prog w=.ok true w:=eqR26 d w [⟨a0,b0⟩,⟨a1,b1⟩,⟨a2,b2⟩,⟨a3,b3⟩,⟨a4,b4⟩,⟨a5,b5⟩,⟨a6,b6⟩,⟨a7,b7⟩] rfl
set_option maxRecDepth 100000 in
set_option maxHeartbeats 4000000 in
theorem eqF99 (d:Nat) (w:World) (x y a0 b0 a1 b1 a2 b2 a3 b3 a4 b4 a5 b5 a6 b6 a7 b7:Int):(Op.equalIn (d + 4) 99 (.agg #[.int .i64 x,.int .i64 y,.int .i64 a0,.int .i64 b0,.int .i64 a1,.int .i64 b1,.int .i64 a2,.int .i64 b2,.int .i64 a3,.int .i64 b3,.int .i64 a4,.int .i64 b4,.int .i64 a5,.int .i64 b5,.int .i64 a6,.int .i64 b6,.int .i64 a7,.int .i64 b7]) (.agg #[.int .i64 x,.int .i64 y,.int .i64 a0,.int .i64 b0,.int .i64 a1,.int .i64 b1,.int .i64 a2,.int .i64 b2,.int .i64 a3,.int .i64 b3,.int .i64 a4,.int .i64 b4,.int .i64 a5,.int .i64 b5,.int .i64 a6,.int .i64 b6,.int .i64 a7,.int .i64 b7])).run Try.prog w=.ok (x == x && (y == y && true)) w:=by
  refine eqA_of Try.underlying99 (by kernel_rfl) ?_
  refine eqf_cons (by rfl) (by go_simp;rfl) (by go_simp;rfl) (by go_simp) ?_
  refine eqf_cons (by rfl) (by go_simp;rfl) (by go_simp;rfl) (by go_simp) ?_
  exact eqf_last (by rfl) (by go_simp) (by go_simp) (eqR26' d w a0 b0 a1 b1 a2 b2 a3 b3 a4 b4 a5 b5 a6 b6 a7 b7)
theorem eqF99' (d:Nat) (w:World) (f:FrameD) (h8:f.rs.length=8):(Op.equalIn (d + 4) 99 (.agg (fc f).toArray) (.agg (fc f).toArray)).run Try.prog w=.ok true w:=by
  obtain ⟨x,y,rs⟩:=f
  dsimp only at h8
  obtain ⟨a0,b0,a1,b1,a2,b2,a3,b3,a4,b4,a5,b5,a6,b6,a7,b7,rfl⟩:=eight h8
  have:=eqF99 d w x y a0 b0 a1 b1 a2 b2 a3 b3 a4 b4 a5 b5 a6 b6 a7 b7
  simpa [fc,rc] using this
attribute [local go_sem high] eqF99'
theorem eqA46 (d : Nat) (w : World) (x0 x1 x2 x3 x4 x5 x6 : Int) :
    (Op.equalIn (d + 3) 46 (.agg #[.int .i64 x0,.int .i64 x1,.int .i64 x2,.int .i64 x3,.int .i64 x4,.int .i64 x5,.int .i64 x6]) (.agg #[.int .i64 x0,.int .i64 x1,.int .i64 x2,.int .i64 x3,.int .i64 x4,.int .i64 x5,.int .i64 x6])).run Try.prog w=.ok true w:=by
  have h:(Op.equalIn (d + 3) 46 (.agg #[.int .i64 x0,.int .i64 x1,.int .i64 x2,.int .i64 x3,.int .i64 x4,.int .i64 x5,.int .i64 x6]) (.agg #[.int .i64 x0,.int .i64 x1,.int .i64 x2,.int .i64 x3,.int .i64 x4,.int .i64 x5,.int .i64 x6])).run Try.prog w=.ok (x0 == x0 && (x1 == x1 && (x2 == x2 && (x3 == x3 && ((x4 == x4 && (x5 == x5)) && (x6 == x6)))))) w:=by
    refine eqA_of Try.underlying46 (by kernel_rfl) ?_
    refine eqf_cons (by rfl) (by go_simp;rfl) (by go_simp;rfl) (by go_simp) ?_
    refine eqf_cons (by rfl) (by go_simp;rfl) (by go_simp;rfl) (by go_simp) ?_
    refine eqf_cons (by rfl) (by go_simp;rfl) (by go_simp;rfl) (by go_simp) ?_
    refine eqf_cons (by rfl) (by go_simp;rfl) (by go_simp;rfl) (by go_simp) ?_
    refine eqf_cons (by rfl) (by go_simp) (by go_simp) (eqA24 (d + 0) w _ _ _ _) ?_
    exact eqf_last (by rfl) (by go_simp;rfl) (by go_simp;rfl) (by go_simp)
  simpa using h
set_option maxRecDepth 100000 in
set_option maxHeartbeats 2000000 in
theorem same17_calls (pc used : Int) (rs : List S32) (A B : Option Addr) (c d : Nat) (fs : List FrameD) (W : World) (hA : Kd.C kF W A fs.length fs) (hB : Kd.C kF W B fs.length fs) (hc : fs.length ≤ c) (hd : fs.length ≤ d) (hl : rs.length = 8) (hbig : fs.length ≤ 1000000) :
    Calls Try.prog 15 #[.agg (cpuC pc used rs (.slice A fs.length c)),.agg (cpuC pc used rs (.slice B fs.length d))] W fun x w' => x=.returned (.bool true)∧Below W.heap.size W w':=by
  have hu26:=Try.underlying26
  have hu27:=Try.underlying27
  have hu29:=Try.underlying29
  have hu99:=Try.underlying99
  obtain ⟨a0,b0,a1,b1,a2,b2,a3,b3,a4,b4,a5,b5,a6,b6,a7,b7,rfl⟩:=eight hl
  obtain ⟨W1,hW1,K1,hB1⟩:=alz W (cpuC pc used [⟨a0,b0⟩,⟨a1,b1⟩,⟨a2,b2⟩,⟨a3,b3⟩,⟨a4,b4⟩,⟨a5,b5⟩,⟨a6,b6⟩,⟨a7,b7⟩] (.slice A fs.length c)) 29
  obtain ⟨W2,hW2,K2,hB2⟩:=alz W1 (cpuC pc used [⟨a0,b0⟩,⟨a1,b1⟩,⟨a2,b2⟩,⟨a3,b3⟩,⟨a4,b4⟩,⟨a5,b5⟩,⟨a6,b6⟩,⟨a7,b7⟩] (.slice B fs.length d)) 29
  replace K1:=zB K1 hB2
  have hB12:=zA hB1 hB2
  have m0:W2.cell? ⟨W.heap.size,0,none⟩=some (.int .i64 pc):=zC K1 0
  have m1:W2.cell? ⟨W.heap.size,1,none⟩=some (.int .i64 used):=zC K1 1
  have m2:W2.cell? ⟨W.heap.size,18,none⟩=some (.slice A fs.length c):=(zC K1 18).trans (cpuC_stk rfl)
  have n0:W2.cell? ⟨W1.heap.size,0,none⟩=some (.int .i64 pc):=zC K2 0
  have n1:W2.cell? ⟨W1.heap.size,1,none⟩=some (.int .i64 used):=zC K2 1
  have n2:W2.cell? ⟨W1.heap.size,18,none⟩=some (.slice B fs.length d):=(zC K2 18).trans (cpuC_stk rfl)
  have af0:W2.cell? ⟨W.heap.size,2,none⟩=some (.int .i64 a0):=zC K1 2
  have af1:W2.cell? ⟨W.heap.size,3,none⟩=some (.int .i64 b0):=zC K1 3
  have af2:W2.cell? ⟨W.heap.size,4,none⟩=some (.int .i64 a1):=zC K1 4
  have af3:W2.cell? ⟨W.heap.size,5,none⟩=some (.int .i64 b1):=zC K1 5
  have af4:W2.cell? ⟨W.heap.size,6,none⟩=some (.int .i64 a2):=zC K1 6
  have af5:W2.cell? ⟨W.heap.size,7,none⟩=some (.int .i64 b2):=zC K1 7
  have af6:W2.cell? ⟨W.heap.size,8,none⟩=some (.int .i64 a3):=zC K1 8
  have af7:W2.cell? ⟨W.heap.size,9,none⟩=some (.int .i64 b3):=zC K1 9
  have af8:W2.cell? ⟨W.heap.size,10,none⟩=some (.int .i64 a4):=zC K1 10
  have af9:W2.cell? ⟨W.heap.size,11,none⟩=some (.int .i64 b4):=zC K1 11
  have af10:W2.cell? ⟨W.heap.size,12,none⟩=some (.int .i64 a5):=zC K1 12
  have af11:W2.cell? ⟨W.heap.size,13,none⟩=some (.int .i64 b5):=zC K1 13
  have af12:W2.cell? ⟨W.heap.size,14,none⟩=some (.int .i64 a6):=zC K1 14
  have af13:W2.cell? ⟨W.heap.size,15,none⟩=some (.int .i64 b6):=zC K1 15
  have af14:W2.cell? ⟨W.heap.size,16,none⟩=some (.int .i64 a7):=zC K1 16
  have af15:W2.cell? ⟨W.heap.size,17,none⟩=some (.int .i64 b7):=zC K1 17
  have bf0:W2.cell? ⟨W1.heap.size,2,none⟩=some (.int .i64 a0):=zC K2 2
  have bf1:W2.cell? ⟨W1.heap.size,3,none⟩=some (.int .i64 b0):=zC K2 3
  have bf2:W2.cell? ⟨W1.heap.size,4,none⟩=some (.int .i64 a1):=zC K2 4
  have bf3:W2.cell? ⟨W1.heap.size,5,none⟩=some (.int .i64 b1):=zC K2 5
  have bf4:W2.cell? ⟨W1.heap.size,6,none⟩=some (.int .i64 a2):=zC K2 6
  have bf5:W2.cell? ⟨W1.heap.size,7,none⟩=some (.int .i64 b2):=zC K2 7
  have bf6:W2.cell? ⟨W1.heap.size,8,none⟩=some (.int .i64 a3):=zC K2 8
  have bf7:W2.cell? ⟨W1.heap.size,9,none⟩=some (.int .i64 b3):=zC K2 9
  have bf8:W2.cell? ⟨W1.heap.size,10,none⟩=some (.int .i64 a4):=zC K2 10
  have bf9:W2.cell? ⟨W1.heap.size,11,none⟩=some (.int .i64 b4):=zC K2 11
  have bf10:W2.cell? ⟨W1.heap.size,12,none⟩=some (.int .i64 a5):=zC K2 12
  have bf11:W2.cell? ⟨W1.heap.size,13,none⟩=some (.int .i64 b5):=zC K2 13
  have bf12:W2.cell? ⟨W1.heap.size,14,none⟩=some (.int .i64 a6):=zC K2 14
  have bf13:W2.cell? ⟨W1.heap.size,15,none⟩=some (.int .i64 b6):=zC K2 15
  have bf14:W2.cell? ⟨W1.heap.size,16,none⟩=some (.int .i64 a7):=zC K2 16
  have bf15:W2.cell? ⟨W1.heap.size,17,none⟩=some (.int .i64 b7):=zC K2 17
  have eR:=eqR26' 9997 W2 a0 b0 a1 b1 a2 b2 a3 b3 a4 b4 a5 b5 a6 b6 a7 b7
  have HH:=Lib.hid (zL (Kd.C_below hA hB12) (zL (Kd.C_below hB hB12) hB12))
  clear hA hB hB1 hB2 hB12 K1 K2
  go_enter Try.func15,Try.ntmps15
  have KA:∀ W',Below W2.heap.size W2 W' → W'.cell? ⟨W.heap.size,18,none⟩=some (.slice A fs.length c):=fun W' hB => pw_cell_below hB m2
  have KB:∀ W',Below W2.heap.size W2 W' → W'.cell? ⟨W1.heap.size,18,none⟩=some (.slice B fs.length d):=fun W' hB => pw_cell_below hB n2
  go_wp2_with fail
  go_loopg [5] fs.length (fun kq v5 W' => ∃ i:Nat,v5=.int .i64 i∧Hid (kq + i=fs.length)∧Hid (Below W2.heap.size W2 W'))
  case atStart => exact ⟨0,rfl,by simp [Hid],Lib.hid (Below.refl _ _)⟩
  case round =>
    obtain ⟨i,rfl,hk,hJ⟩:=hrel
    have ka:=KA wr hJ.out
    have kb:=KB wr hJ.out
    by_cases hi:i < fs.length
    · have hi2:(i:Int) < fs.length:=by omega
      have hi0:(0:Int) ≤ i:=by omega
      obtain ⟨ada,csa,rfl,_,hKa,ha0⟩:=Kd.C_get (Kd.C_below HH.out.1 hJ.out) zF (i:Int) hi0 hi2
      obtain ⟨adb,csb,rfl,_,hKb,hb0⟩:=Kd.C_get (Kd.C_below HH.out.2.1 hJ.out) zF (i:Int) hi0 hi2
      obtain ⟨f,hfx⟩:∃ f,fs.getD (i:Int).toNat zF=f:=⟨_,rfl⟩
      rw [hfx] at hKa hKb
      obtain ⟨hf8,rfl⟩:=hKa
      obtain ⟨-,rfl⟩:=hKb
      simp only [Int.toNat_natCast] at ha0 hb0
      have hLa:∀ W',Below wr.heap.size wr W' → (Instr.loadAt 99 (.pointer (some (ada.add (i * 18))))).run Try.prog W'=.ok (.agg (fc f).toArray) W':=fun W' hB => ld_at (fun j v hj => by rw [add_add];exact pw_cell_below hB (ha0 j v hj)) hu99 rfl (by rw [sz99,fc_length f hf8])
      have hLb:∀ W',Below wr.heap.size wr W' → (Instr.loadAt 99 (.pointer (some (adb.add (i * 18))))).run Try.prog W'=.ok (.agg (fc f).toArray) W':=fun W' hB => ld_at (fun j v hj => by rw [add_add];exact pw_cell_below hB (hb0 j v hj)) hu99 rfl (by rw [sz99,fc_length f hf8])
      have hA2:∀ W',Below wr.heap.size wr W' → W'.cell? ⟨W.heap.size,18,none⟩=some (.slice (some ada) fs.length c):=fun W' hB => pw_cell_below hB ka
      have hB2':∀ W',Below wr.heap.size wr W' → W'.cell? ⟨W1.heap.size,18,none⟩=some (.slice (some adb) fs.length d):=fun W' hB => pw_cell_below hB kb
      have HF8:=Lib.hid hf8
      clear ha0 hb0 hf8 hfx
      go_wp2_with fail
      apply GR.wp_region_grows (R:=RB) (by kernel_rfl) (by kernel_rfl)
      · intro c a d v w h;cases d <;> exact h
      iterate 4
        apply GR.gw_val (by rfl)
        · (intro W' hB hD;have q0:=hA2 W' hB;have q1:=hB2' W' hB;go_simp;first | done | rfl)
        simp only [Act.put,zI,zJ,zK]
      apply GR.gw_val (by rfl)
      · (intro W' hB hD;exact exec_ld rfl (hLa W' hB))
      simp only [Act.put,zI,zJ,zK]
      iterate 4
        apply GR.gw_val (by rfl)
        · (intro W' hB hD;have q0:=hA2 W' hB;have q1:=hB2' W' hB;go_simp;first | done | rfl)
        simp only [Act.put,zI,zJ,zK]
      apply GR.gw_val (by rfl)
      · (intro W' hB hD;exact exec_ld rfl (hLb W' hB))
      simp only [Act.put,zI,zJ,zK]
      apply GR.gw_val (c:=.bool false) (by rfl)
      · (intro W' hB hD;have hf8:=HF8.out;clear KA KB hLa hLb hA2 hB2';go_simp;first | done | rfl)
      simp only [Act.put,zI,zJ,zK]
      apply GR.gw_nil
      intro Wz hBz hF hP
      clear hF hP
      have HZ:=Lib.hid (hJ.out.trans (below_le hBz hJ.out.size))
      clear hBz hJ ka kb hLa hLb hA2 hB2'
      go_wp2_with fail
      obtain ⟨k1,rfl⟩:∃ m,gk=m + 1:=⟨gk - 1,by have:=hk.out;omega⟩
      go_roundg k1
      case measure => omega
      case rel => exact ⟨i + 1,by first | rfl | rw [wrap_next (by omega)] | (unfold wrap64;congr 1;omega),Lib.hid (by have:=hk.out;omega),HZ⟩
    · have hi2:¬ (i:Int) < fs.length:=by omega
      go_wp2_with fail
      go_ret
      exact ⟨rfl,zA HH.out.2.2 hJ.out⟩
end Go.Proofs.Ytgnjkegnddekeaa.Q
