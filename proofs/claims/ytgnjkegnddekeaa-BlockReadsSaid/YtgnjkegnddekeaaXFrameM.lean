/- Frames and places in memory. -/
import Derived.Test.YtgnjkegnddekeaaXNumM
import Derived.Deep.MidRow
import Derived.Test.YtgnjkegnddekeaaXClip
import Derived.Test.YtgnjkegnddekeaaXGrowR
open List renaming setIfInBounds_toArray → zJ, set_cons_zero → zK, set_cons_succ → zL
open And renaming intro → zM
namespace Go.Proofs.Ytgnjkegnddekeaa.Q
open Go.RowKit Go.Lib Go.Proofs.Ytgnjkegnddekeaa Go.Proofs.YtgnjkegnddekeaaW.PrintWords Go.Proofs.YtgnjkegnddekeaaW.PrintLast Go.Proofs.YtgnjkegnddekeaaW.PrintMore
set_option linter.unusedVariables false
set_option linter.unusedSimpArgs false
/-- Registers as cells. -/
def rc:List S32 → List Value
  | [] => []
  | v :: r => .int .i64 v.f0 :: .int .i64 v.f1 :: rc r
theorem rc_length:∀ rs:List S32,(rc rs).length=2 * rs.length
  | [] => rfl
  | v :: r => by simp [rc,rc_length r];omega
theorem rc_one:∀ (rs:List S32),∀ u ∈ rc rs,u.oneCell'=true
  | [],u,h => by cases h
  | v :: r,u,h => by
    simp only [rc,List.mem_cons] at h
    rcases h with rfl | rfl | h
    · rfl
    · rfl
    · exact rc_one r u h
theorem rc_get:∀ (rs:List S32) (r:Nat) (v:S32),rs[r]?=some v → (rc rs)[r * 2]?=some (.int .i64 v.f0)∧(rc rs)[r * 2 + 1]?=some (.int .i64 v.f1)
  | [],r,v,h => by simp at h
  | x :: l,0,v,h => by simp at h;subst h;exact ⟨rfl,rfl⟩
  | x :: l,r + 1,v,h => by
    have:=rc_get l r v (by simpa using h)
    rw [show (r + 1) * 2=r * 2 + 1 + 1 by omega]
    simpa [rc] using this
theorem rc_set:∀ (rs:List S32) (r:Nat) (x y:Int),((rc rs).set (r * 2) (.int .i64 x)).set (r * 2 + 1) (.int .i64 y)=if r < rs.length then rc (rs.set r ⟨x,y⟩) else rc rs
  | [],r,x,y => by simp [rc]
  | v :: l,0,x,y => by simp [rc]
  | v :: l,r + 1,x,y => by
    have:=rc_set l r x y
    rw [show (r + 1) * 2=r * 2 + 1 + 1 by omega]
    simp only [rc,zL,List.length_cons,Nat.add_lt_add_iff_right]
    rw [this]
    split <;> simp [rc]
/-- A frame. -/
structure FrameD where
  dest:Int
  save:Int
  rs:List S32
def fc (f:FrameD):List Value:=.int .i64 f.dest :: .int .i64 f.save :: rc f.rs
def kF:Kd FrameD where
  sz:=18
  E:=[]
  K:=fun _ f cs => f.rs.length=8∧cs=fc f
  M:=fun _ _ _ f cs => f.rs.length=8∧cs=fc f
  K_len:=by
    rintro w f cs ⟨h,rfl⟩
    simp [fc,rc_length,h]
  K_one:=by
    rintro w f cs ⟨h,rfl⟩ u hu
    simp only [fc,List.mem_cons] at hu
    rcases hu with rfl | rfl | hu
    · rfl
    · rfl
    · exact rc_one _ u hu
  K_below:=fun _ h => h
  K_of_M:=fun h => h
  M_mono:=fun _ h => h
  M_bound:=fun h => h
  M_move:=fun _ h => h
  M_lower:=fun _ h => h
theorem info88:(Try.prog.info? 88).map (fun i => (i.zero,i.size,i.bytes))=some (some (.agg #[.int .i64 0,.int .i64 0,.int .i64 0,.int .i64 0,.int .i64 0,.int .i64 0,.int .i64 0,.int .i64 0,.int .i64 0,.int .i64 0,.int .i64 0,.int .i64 0,.int .i64 0,.int .i64 0,.int .i64 0,.int .i64 0,.int .i64 0,.int .i64 0]),18,144):=by kernel_rfl
/-- A place. -/
def cpuC (pc used:Int) (rs:List S32) (stk:Value):Array Value:=(.int .i64 pc :: .int .i64 used :: (rc rs ++ [stk])).toArray
theorem cpuC_reg {pc used:Int} {rs:List S32} {stk:Value} {r:Nat} {v:S32} (h:rs[r]?=some v):(cpuC pc used rs stk)[2 + r * 2]?=some (.int .i64 v.f0)∧(cpuC pc used rs stk)[2 + r * 2 + 1]?=some (.int .i64 v.f1):=by
  obtain ⟨h1,h2⟩:=rc_get rs r v h
  have hl:=(List.getElem?_eq_some_iff.1 h1).1
  have hl2:=(List.getElem?_eq_some_iff.1 h2).1
  unfold cpuC
  rw [show 2 + r * 2=r * 2 + 1 + 1 by omega,show r * 2 + 1 + 1 + 1=r * 2 + 1 + 1 + 1 by omega]
  simp only [List.getElem?_toArray,List.getElem?_cons_succ]
  rw [List.getElem?_append_left hl,List.getElem?_append_left hl2]
  exact ⟨h1,h2⟩
theorem cpuC_stk {pc used:Int} {rs:List S32} {stk:Value} (h:rs.length=8):(cpuC pc used rs stk)[18]?=some stk:=by
  have hl:=rc_length rs
  unfold cpuC
  simp only [List.getElem?_toArray,List.getElem?_cons_succ]
  rw [List.getElem?_append_right (by omega)]
  simp [hl,h]
theorem cpuC_set {pc used:Int} {rs:List S32} {stk:Value} {r:Nat} (x y:Int) (h:r < rs.length):((cpuC pc used rs stk).setIfInBounds (2 + r * 2) (.int .i64 x)).setIfInBounds (2 + r * 2 + 1) (.int .i64 y)=cpuC pc used (rs.set r ⟨x,y⟩) stk:=by
  have h1:=rc_set rs r x y
  rw [if_pos h] at h1
  have hl:=rc_length rs
  unfold cpuC
  rw [zJ,zJ,show 2 + r * 2=r * 2 + 1 + 1 by omega]
  simp only [zL]
  rw [List.set_append_left _ _ (by omega),List.set_append_left _ _ (by simp;omega),h1]
theorem cpuC_setStk {pc used:Int} {rs:List S32} {stk:Value} (s:Value) (h:rs.length=8):(cpuC pc used rs stk).setIfInBounds 18 s=cpuC pc used rs s:=by
  have hl:=rc_length rs
  unfold cpuC
  rw [zJ]
  simp only [zL]
  rw [List.set_append_right _ _ (by omega)]
  simp [hl,h]
/-- Nothing turns but one block, and what is new. -/
structure Only (cb:Nat) (W W':World):Prop where
  os:W'.os=W.os
  tape:W'.tape=W.tape
  output:W'.output=W.output
  size:W.heap.size ≤ W'.heap.size
  block:∀ k,k < W.heap.size → k ≠ cb → W'.heap[k]?=W.heap[k]?
theorem Only.of_below {cb:Nat} {W W':World} (h:Below W.heap.size W W'):Only cb W W':=⟨h.os,h.tape,h.output,h.size,fun k hk _ => h.block k hk⟩
theorem Only.trans {cb:Nat} {A B C:World} (h:Only cb A B) (k:Only cb B C):Only cb A C :=
  ⟨k.os.trans h.os,k.tape.trans h.tape,k.output.trans h.output,Nat.le_trans h.size k.size,fun i hi hne => (k.block i (Nat.lt_of_lt_of_le hi h.size) hne).trans (h.block i hi hne)⟩
theorem Only.below {cb B:Nat} {W W':World} (h:Only cb W W') (hb:B ≤ cb) (hB:B ≤ W.heap.size):Below B W W':=⟨h.os,h.tape,h.output,h.size,fun k hk => h.block k (by omega) (by omega)⟩
theorem Only.set {cb:Nat} (W:World) (j:Nat) (u:Value):Only cb W (W.setCell ⟨cb,j,none⟩ u):=by
  have h:Below cb W (W.setCell ⟨cb,j,none⟩ u):=(Below.refl _ _).setCell (p:=⟨cb,j,none⟩) (Nat.le_refl _) u
  exact ⟨h.os,h.tape,h.output,h.size,fun k hk hne => Below.heap_setCell _ _ _ k (by exact hne)⟩
theorem Only.mid {cb B:Nat} {W W':World} (h:Only cb W W') {x:Obj} {b:Nat} (hb:W.heap[b]?=some x) (hne:b ≠ cb):W'.heap[b]?=some x:=(h.block b (blk_lt hb) hne).trans hb
/-- A stack of frames. -/
abbrev Stk (W:World) (base:Nat) (v:Value) (fs:List FrameD):Prop:=Kd.R kF 88 W base (fun _ => True) v fs
theorem Stk.only {cb base t:Nat} {W W':World} {v:Value} {fs:List FrameD} {cells:Array Value} (h:Stk W base v fs) (hb:W.heap[cb]?=some (.cells cells t (0,0))) (ht:t ≠ 88) (hO:Only cb W W'):Stk W' base v fs :=
  Kd.R_mono (Kd.R_step (Kd.R_types h hb (fun q hq => by simp [kF] at hq;subst hq;exact Ne.symm ht)) (fun k hk hlt => hO.block k hlt hk.2)) (fun _ _ => trivial)
theorem Stk.below {base:Nat} {W W':World} {v:Value} {fs:List FrameD} (h:Stk W base v fs) (hB:Below W.heap.size W W'):Stk W' base v fs:=Kd.R_below h hB
theorem Core.of {W:World} {kb cb:Nat} {o:S74} {vars:Int} {pc used:Int} {rs:List S32} {stk:Value} (hk:W.heap[kb]?=some (.cells #[ptr cb,.int .i64 o.f0,.int .i64 o.f1,.int .i64 o.f2,.int .i64 o.f3,.int .i64 o.f4,.int .i64 vars] 95 (0,0)))
    (hc:W.heap[cb]?=some (.cells (cpuC pc used rs stk) 37 (0,0))) (hl:rs.length=8) (hne:kb ≠ cb):Core W kb cb o vars rs :=
  ⟨hk,hl,fun r v hr => by
    have:=cpuC_reg (pc:=pc) (used:=used) (stk:=stk) hr
    exact ⟨(zG hc _).trans this.1,(zG hc _).trans this.2⟩,hne,blk_lt hc⟩
theorem C_emptyF {α:Type} {d:Kd α} {w:World} {xs:List α} (h:d.C w none xs.length xs):xs=[]:=by
  rcases xs with _ | ⟨x,xs⟩
  · rfl
  · obtain ⟨ad,h2,_⟩:=h.2.2 (by simp)
    cases h2
set_option maxHeartbeats 2000000 in
theorem clone_frames (A0:Option Addr) (c0:Nat) (l0:List FrameD) (w:World) (hr:Kd.C kF w A0 l0.length l0) (hl:l0.length < 1000000000) :
    Calls Try.prog 28 #[.slice A0 l0.length c0] w fun e w' => ∃ v,e=.returned v∧Stk w' w.heap.size v l0∧Below w.heap.size w w':=by
  have tS:=Try.underlying35
  have qS:∀ (W:World) (a:Option Addr) (n c n' c':Nat),(binOp .eql 35 (.slice a n c) (.slice none n' c')).run Try.prog W=.ok (.bool a.isNone) W:=fun W a n c n' c' => Lib.run_eql_slice_nil W _ _ a n c n' c' tS
  rcases A0 with _ | ad
  · obtain rfl:=C_emptyF hr
    clear hr
    go_enter Try.func28,Try.ntmps28
    go_wp2
    go_ret
    exact ⟨_,rfl,Kd.R_nil _ _ _ _ _,Below.refl _ _⟩
  · have HR:=Lib.hid hr
    clear hr
    go_enter Try.func28,Try.ntmps28
    go_wp2_with (at_builtin;refine Kd.R_append_rows kF (w0:=w) (Rr:=kF.K w) w.heap.size rfl _ _ 35 88 _ _ rfl tS info88 rfl (by decide) (by decide) _ [] l0 (some ad) l0.length c0 (fun _ => True) (fun _ => False) rfl rfl ?HO ?HR ?hKM (fun _ h => h.elim) (fun _ _ => trivial) ?HB ?hbase ?hl ?_)
    case HO => exact ⟨fun _ _ => trivial,[],World.ownsRow_made w #[] 0 (Nat.le_refl _) (Nat.zero_le _) (by simp),Reps.none _ _⟩
    case HR => exact ReadsRow.imp_ HR.out (below_alloc (Below.refl _ _) _) (fun _ _ h => h)
    case hKM => exact fun x cs h => h
    case HB => exact below_alloc (Below.refl _ _) _
    case hbase => simp
    case hl => simp;omega
    intro v' w1 hR hB hg hv
    go_wp2
    go_ret
    exact ⟨_,rfl,by simpa using hR,hB⟩
theorem clip_frames (A:Option Addr) (n c:Nat) (w:World) (hA:A=none → n=0) (hn:n ≤ c) :
    Calls Try.prog 52 #[.slice A n c] w fun e w' => e=.returned (.slice A n n)∧w'=w:=by
  rcases A with _ | ad
  · obtain rfl:=hA rfl
    go_enter Try.func52,Try.ntmps52
    go_wp2
    go_ret
    exact ⟨rfl,rfl⟩
  · go_enter Try.func52,Try.ntmps52
    go_wp2
    go_ret
    exact ⟨rfl,rfl⟩
/-- Cells written one behind the other. -/
abbrev sets (W:World) (g:Nat) (o:Nat) (vs:List Value):World:=W.setCells g o vs
def setL (xs:Array Value):Nat → List Value → Array Value
  | _,[] => xs
  | o,b :: bs => setL (xs.setIfInBounds o b) (o + 1) bs
theorem sets_heap {g:Nat} {t:TypeId}:∀ (bs:List Value) (W:World) (o:Nat) (xs:Array Value),W.heap[g]?=some (.cells xs t (0,0)) → (sets W g o bs).heap[g]?=some (.cells (setL xs o bs) t (0,0))
  | [],W,o,xs,h => h
  | b :: bs,W,o,xs,h => sets_heap bs _ (o + 1) _ (blk_set h o b)
theorem sets_below {B g:Nat}:∀ (bs:List Value) (W:World) (o:Nat),B ≤ g → Below B W (sets W g o bs)
  | [],W,o,h => Below.refl _ _
  | b :: bs,W,o,h => (((Below.refl _ _).setCell (p:=⟨g,o,none⟩) h b)).trans (sets_below bs _ (o + 1) h)
theorem sets_other {g:Nat}:∀ (bs:List Value) (W:World) (o k:Nat),k ≠ g → (sets W g o bs).heap[k]?=W.heap[k]?
  | [],W,o,k,h => rfl
  | b :: bs,W,o,k,h => (sets_other bs _ (o + 1) k h).trans (Below.heap_setCell _ _ _ k (by exact h))
theorem sets_only {g:Nat} (bs:List Value) (W:World) (o:Nat):Only g W (sets W g o bs):=by
  have h:Below g W (sets W g o bs):=sets_below bs W o (Nat.le_refl _)
  exact ⟨h.os,h.tape,h.output,h.size,fun k hk hne => sets_other bs W o k hne⟩
theorem setL_list:∀ (bs:List Value) (l:List Value) (o:Nat),o + bs.length ≤ l.length → setL l.toArray o bs=(l.take o ++ bs ++ l.drop (o + bs.length)).toArray
  | [],l,o,_ => by simp [setL]
  | b :: bs,l,o,h => by
    simp only [List.length_cons] at h
    have e:l.set o b=(l.take o ++ [b]) ++ l.drop (o + 1):=by
      rw [List.set_eq_take_append_cons_drop,if_pos (by omega)]
      simp
    have hA:(l.take o ++ [b]).length=o + 1:=by simp;omega
    rw [setL,zJ,setL_list bs _ (o + 1) (by simp;omega),e,List.take_left' hA,← List.drop_drop,List.drop_left' hA,List.drop_drop]
    simp [Nat.add_assoc,Nat.add_comm 1]
theorem sets_all (W:World) {g:Nat} {t:TypeId} {xs:Array Value} {bs:List Value} (h:W.heap[g]?=some (.cells xs t (0,0))) (hl:xs.size=bs.length):(sets W g 0 bs).heap[g]?=some (.cells bs.toArray t (0,0)):=by
  have e:=sets_heap bs W 0 xs h
  rw [e]
  obtain ⟨l⟩:=xs
  simp at hl
  rw [setL_list _ _ _ (by omega),List.drop_eq_nil_of_le (by omega)]
  simp
section
variable {P : Program} {W : World} {g off n : Nat} {t ty : TypeId} {xs : Array Value} {fr : Nat × Nat} {d : TypeDesc}
theorem ld_range {cs:List Value} (hc:W.rangeAt g off cs) (hu:P.underlying ty=some d) (hd:d.isRow=true) (hi:(P.info? ty).map (·.size)=some cs.length) :
    (Instr.loadAt ty (.pointer (some ⟨g,off,none⟩))).run P W=.ok (.agg cs.toArray) W:=run_loadAt_mid W g off ty cs d hc hu hd hi
theorem range_of {pre cs post:List Value} (h:W.heap[g]?=some (.cells (pre ++ cs ++ post).toArray t fr)):W.rangeAt g pre.length cs:=by
  intro j v hv
  rw [cell_of_row W g _ _ t fr h]
  have hj:=(List.getElem?_eq_some_iff.1 hv).1
  simp only [List.getElem?_toArray]
  rw [List.getElem?_append_left (by simp;omega),List.getElem?_append_right (by omega),Nat.add_sub_cancel_left]
  exact hv
theorem ld_whole (h:W.heap[g]?=some (.cells xs t fr)) (hu:P.underlying ty=some d) (hd:d.isRow=true) (hi:(P.info? ty).map (·.size)=some xs.size) :
    (Instr.loadAt ty (.pointer (some ⟨g,0,none⟩))).run P W=.ok (.agg xs) W:=by
  have:=ld_range (P:=P) (W:=W) (g:=g) (off:=0) (ty:=ty) (cs:=xs.toList) (range_of (pre:=[]) (post:=[]) (t:=t) (fr:=fr) (by simpa using h)) hu hd (by simpa using hi)
  simpa using this
theorem there_of (h:W.heap[g]?=some (.cells xs t (0,0))) (hl:off + n ≤ xs.size):W.there g off n:=by
  intro j hj
  refine ⟨?_,zH h _⟩
  rw [zG h]
  simp
  omega
theorem st_mid {vs:List Value} (h:W.heap[g]?=some (.cells xs t (0,0))) (hl:off + vs.length ≤ xs.size) (hi:(P.info? ty).map (·.size)=some vs.length) (h1:∀ v ∈ vs,v.oneCell'=true) :
    ∃ W',(Instr.storeAt ty (.pointer (some ⟨g,off,none⟩)) (.agg vs.toArray)).run P W=.ok () W'∧W'.heap[g]?=some (.cells (setL xs off vs) t (0,0))∧Only g W W' :=
  ⟨_,run_storeAt_mid W g off ty vs.toArray (there_of h (by simpa using hl)) (by simpa using hi) (all_oneCell_toArray h1),sets_heap vs W off xs h,sets_only vs W off⟩
theorem st_whole {vs:List Value} (h:W.heap[g]?=some (.cells xs t (0,0))) (hl:xs.size=vs.length) (hi:(P.info? ty).map (·.size)=some vs.length) (h1:∀ v ∈ vs,v.oneCell'=true) :
    ∃ W',(Instr.storeAt ty (.pointer (some ⟨g,0,none⟩)) (.agg vs.toArray)).run P W=.ok () W'∧W'.heap[g]?=some (.cells vs.toArray t (0,0))∧Only g W W':=by
  obtain ⟨W',e,e2,e3⟩:=st_mid (off:=0) h (by omega) hi h1
  have:=sets_all W h hl
  refine ⟨W',e,?_,e3⟩
  have hw:=run_storeAt_mid (P:=P) W g 0 ty vs.toArray (there_of h (by simp;omega)) (by simpa using hi) (all_oneCell_toArray h1)
  rw [hw] at e
  injection e with _ e
  rw [← e]
  exact this
theorem wpList_st {ops:Array Oper} {rest:List Oper} {op:Oper} {a:Act} {W':World} {Q:Exit → Act → World → Prop} {x y:Operand} (hgd:op.guard=none) (ho:op.op=.store ty x y)
    (hW:(Instr.storeAt ty (a.eval x) (a.eval y)).run P W=.ok () W') (h:wpList P ops Q rest (a.put op.dst undef) W'):wpList P ops Q (op :: rest) a W:=by
  refine wpList_plain hgd fun K hK => ?_
  unfold Oper.wp execOp
  simp only [ho,Sem.run_bind,hW,Sem.run_pure,Result.andThen_ok]
  exact hK _ _ h
theorem exec_ld {ρ:Operand → Value} {o:Oper} {x:Operand} {v:Value} (ho:o.op=.load ty x) (h:(Instr.loadAt ty (ρ x)).run P W=.ok v W):(execOp ρ o).run P W=.ok (.value v) W:=by
  unfold execOp
  simp only [ho,Sem.run_bind,h,Sem.run_pure,Result.andThen_ok]
theorem exec_st {ρ:Operand → Value} {o:Oper} {x y:Operand} {W':World} (ho:o.op=.store ty x y) (h:(Instr.storeAt ty (ρ x) (ρ y)).run P W=.ok () W'):(execOp ρ o).run P W=.ok .skip W':=by
  unfold execOp
  simp only [ho,Sem.run_bind,h,Sem.run_pure,Result.andThen_ok]
theorem wpList_ld {ops:Array Oper} {rest:List Oper} {op:Oper} {a:Act} {Q:Exit → Act → World → Prop} {x:Operand} {v:Value} (hgd:op.guard=none) (ho:op.op=.load ty x)
    (hW:(Instr.loadAt ty (a.eval x)).run P W=.ok v W) (h:wpList P ops Q rest (a.put op.dst v) W):wpList P ops Q (op :: rest) a W:=by
  refine wpList_plain hgd fun K hK => ?_
  unfold Oper.wp execOp
  simp only [ho,Sem.run_bind,hW,Sem.run_pure,Result.andThen_ok]
  exact hK _ _ h
theorem ldv (h:W.heap[g]?=some (.cells xs t fr)) (hu:P.underlying ty=some d) (hd:d.isRow=true) (hi:(P.info? ty).map (·.size)=some xs.size):(loadVar ty ⟨g,0,none⟩).run P W=.ok (.agg xs) W:=by
  have:=run_loadVar_mid (P:=P) W g 0 ty xs.toList d (range_of (pre:=[]) (post:=[]) (t:=t) (fr:=fr) (by simpa using h)) hu hd (by simpa using hi)
  simpa using this
theorem results_c1 {fn:Func} {p:Tmp} (h:fn.results=#[.cell p ty]) (tmps:Array Value)
    (hp:tmps.getD p undef=.pointer (some ⟨g,0,none⟩)) (hg:W.heap[g]?=some (.cells xs t fr)) (hu:P.underlying ty=some d) (hd:d.isRow=true) (hi:(P.info? ty).map (·.size)=some xs.size) :
    (results fn tmps).run P W=.ok (.agg xs) W:=by
  have hp':tmps[p]?.getD undef=.pointer (some ⟨g,0,none⟩):=by simpa using hp
  simp [results,h,hp',asAddr,ldv hg hu hd hi]
theorem results_ct {fn:Func} {p u:Tmp} (h:fn.results=#[.cell p ty,.tmp u]) (tmps:Array Value)
    (hp:tmps.getD p undef=.pointer (some ⟨g,0,none⟩)) (hg:W.heap[g]?=some (.cells xs t fr)) (hu:P.underlying ty=some d) (hd:d.isRow=true) (hi:(P.info? ty).map (·.size)=some xs.size) :
    (results fn tmps).run P W=.ok (.tuple #[.agg xs,tmps.getD u undef]) W:=by
  have hp':tmps[p]?.getD undef=.pointer (some ⟨g,0,none⟩):=by simpa using hp
  simp [results,h,hp',asAddr,ldv hg hu hd hi]
theorem results_cc {fn:Func} {p q:Tmp} {g':Nat} {t' ty':TypeId} {xs':Array Value} {fr':Nat × Nat} {d':TypeDesc} (h:fn.results=#[.cell p ty,.cell q ty']) (tmps:Array Value)
    (hp:tmps.getD p undef=.pointer (some ⟨g,0,none⟩)) (hg:W.heap[g]?=some (.cells xs t fr)) (hu:P.underlying ty=some d) (hd:d.isRow=true) (hi:(P.info? ty).map (·.size)=some xs.size)
    (hp2:tmps.getD q undef=.pointer (some ⟨g',0,none⟩)) (hg2:W.heap[g']?=some (.cells xs' t' fr')) (hu2:P.underlying ty'=some d') (hd2:d'.isRow=true) (hi2:(P.info? ty').map (·.size)=some xs'.size) :
    (results fn tmps).run P W=.ok (.tuple #[.agg xs,.agg xs']) W:=by
  have h1:tmps[p]?.getD undef=.pointer (some ⟨g,0,none⟩):=by simpa using hp
  have h2:tmps[q]?.getD undef=.pointer (some ⟨g',0,none⟩):=by simpa using hp2
  simp [results,h,h1,h2,asAddr,ldv hg hu hd hi,ldv hg2 hu2 hd2 hi2]
end
/-- The memory turns, in some blocks, along given rows of states; else nothing turns. -/
structure Chain (L:List (Nat × List Obj)) (W W':World):Prop where
  os:W'.os=W.os
  tape:W'.tape=W.tape
  output:W'.output=W.output
  size:W.heap.size ≤ W'.heap.size
  block:∀ k,k < W.heap.size → (∀ p ∈ L,k ≠ p.1) → W'.heap[k]?=W.heap[k]?
  on:∀ p:Nat × List Obj,p ∈ L → ∀ n:Nat,(∃ (i:Nat) (x:Obj),n ≤ i∧p.2[i]?=some x∧W.heap[p.1]?=some x) → ∃ (i:Nat) (x:Obj),n ≤ i∧p.2[i]?=some x∧W'.heap[p.1]?=some x
instance (L : List (Nat × List Obj)) : GR.Rel (Chain L) where
  refl := fun W => ⟨rfl, rfl, rfl, Nat.le_refl _, fun _ _ _ => rfl, fun _ _ _ h => h⟩
  trans := fun {A B C} h k => ⟨k.os.trans h.os, k.tape.trans h.tape, k.output.trans h.output, Nat.le_trans h.size k.size, fun i hi hn => (k.block i (Nat.lt_of_lt_of_le hi h.size) hn).trans (h.block i hi hn), fun p hp n hh => k.on p hp n (h.on p hp n hh)⟩
  size := fun h => h.size
  ofB := fun h => ⟨h.os, h.tape, h.output, h.size, fun k hk _ => h.block k hk, fun p hp n ⟨i, x, hi, hx, hw⟩ => ⟨i, x, hi, hx, (h.block _ (blk_lt hw)).trans hw⟩⟩
/-- A block is at one of its states, from one on. -/
def At (b:Nat) (xs:List Obj) (n:Nat) (W:World):Prop:=∃ (i:Nat) (x:Obj),n ≤ i∧xs[i]?=some x∧W.heap[b]?=some x
theorem stable_At {L:List (Nat × List Obj)} {b:Nat} {xs:List Obj} (h:(b,xs) ∈ L) (n:Nat):GR.Stable (Chain L) (fun W _ => At b xs n W):=fun W W' v hA hR => hR.on _ h n hA
theorem At.stay {L:List (Nat × List Obj)} {b n:Nat} {xs:List Obj} {W W':World} (h:(b,xs) ∈ L) (hA:At b xs n W) (hR:Chain L W W'):At b xs n W':=hR.on _ h n hA
theorem Chain.mid {L:List (Nat × List Obj)} {W W':World} (h:Chain L W W') {x:Obj} {b:Nat} (hb:W.heap[b]?=some x) (hn:∀ p ∈ L,b ≠ p.1):W'.heap[b]?=some x:=(h.block b (blk_lt hb) hn).trans hb
theorem chain_sets {L:List (Nat × List Obj)} {cb off:Nat} {vs:List Value} {xs:List Obj} {W:World} (J:Nat → Nat) (n0:Nat) (hm:(cb,xs) ∈ L) (hu:∀ p ∈ L,p.1=cb → p=(cb,xs)) (hA:At cb xs n0 W)
    (h:∀ i x,n0 ≤ i → xs[i]?=some x → ∃ ys t,x=.cells ys t (0,0)∧i ≤ J i∧xs[J i]?=some (.cells (setL ys off vs) t (0,0))) :
    Chain L W (W.setCells cb off vs)∧∃ i,n0 ≤ i∧(∃ x,xs[i]?=some x)∧∃ y,xs[J i]?=some y∧(W.setCells cb off vs).heap[cb]?=some y:=by
  have key:∀ i x,n0 ≤ i → xs[i]?=some x → W.heap[cb]?=some x → i ≤ J i∧∃ y,xs[J i]?=some y∧(W.setCells cb off vs).heap[cb]?=some y:=by
    intro i x h0 hi hx
    obtain ⟨ys,t,rfl,h1,h2⟩:=h i x h0 hi
    exact ⟨h1,_,h2,sets_heap vs W off ys hx⟩
  have hO:=sets_only (g:=cb) vs W off
  obtain ⟨i0,x0,h00,hi0,hx0⟩:=hA
  refine ⟨⟨hO.os,hO.tape,hO.output,hO.size,fun k hk hn => hO.block k hk (hn _ hm),fun p hp n hh => ?_⟩,i0,h00,⟨x0,hi0⟩,(key i0 x0 h00 hi0 hx0).2⟩
  obtain ⟨i,x,hn,hi,hx⟩:=hh
  by_cases hpc:p.1=cb
  · obtain rfl:=hu p hp hpc
    by_cases hi0n:n0 ≤ i
    · obtain ⟨h1,y,h2,h3⟩:=key i x hi0n hi hx
      exact ⟨J i,y,Nat.le_trans hn h1,h2,h3⟩
    · obtain ⟨h1,y,h2,h3⟩:=key i0 x0 h00 hi0 hx0
      exact ⟨J i0,y,by omega,h2,h3⟩
  · exact ⟨i,x,hn,hi,(hO.block _ (blk_lt hx) hpc).trans hx⟩
theorem st_run {P:Program} {W:World} {g off:Nat} {t ty:TypeId} {xs:Array Value} {vs:List Value} (h:W.heap[g]?=some (.cells xs t (0,0))) (hl:off + vs.length ≤ xs.size) (hi:(P.info? ty).map (·.size)=some vs.length) (h1:∀ v ∈ vs,v.oneCell'=true) :
    (Instr.storeAt ty (.pointer (some ⟨g,off,none⟩)) (.agg vs.toArray)).run P W=.ok () (W.setCells g off vs):=by
  have:=run_storeAt_mid (P:=P) W g off ty vs.toArray (there_of h (by simpa using hl)) (by simpa using hi) (all_oneCell_toArray h1)
  simpa using this
theorem At.cur {b n:Nat} {xs:List Obj} {W:World} (h:At b xs n W):∃ i x,n ≤ i∧xs[i]?=some x∧W.heap[b]?=some x:=h
/-- The eight registers, one by one. -/
theorem eight {rs:List S32} (h:rs.length=8):∃ a0 b0 a1 b1 a2 b2 a3 b3 a4 b4 a5 b5 a6 b6 a7 b7:Int,rs=[⟨a0,b0⟩,⟨a1,b1⟩,⟨a2,b2⟩,⟨a3,b3⟩,⟨a4,b4⟩,⟨a5,b5⟩,⟨a6,b6⟩,⟨a7,b7⟩]:=by
  match rs,h with
  | [r0,r1,r2,r3,r4,r5,r6,r7],_ => exact ⟨r0.f0,r0.f1,r1.f0,r1.f1,r2.f0,r2.f1,r3.f0,r3.f1,r4.f0,r4.f1,r5.f0,r5.f1,r6.f0,r6.f1,r7.f0,r7.f1,rfl⟩
end Go.Proofs.Ytgnjkegnddekeaa.Q
namespace Go.Proofs.Ytgnjkegnddekeaa.Q
open Go.RowKit Go.Lib Go.Proofs.Ytgnjkegnddekeaa Go.Proofs.YtgnjkegnddekeaaW.PrintWords Go.Proofs.YtgnjkegnddekeaaW.PrintLast Go.Proofs.YtgnjkegnddekeaaW.PrintMore
set_option linter.unusedVariables false
set_option linter.unusedSimpArgs false
theorem Stk.open {W:World} {base:Nat} {v:Value} {fs:List FrameD} (h:Stk W base v fs):(fs=[]∧v=.slice none 0 0) ∨ ∃ g c,v=.slice (some ⟨g,0,none⟩) fs.length c∧fs.length ≤ c∧base ≤ g∧g < W.heap.size∧(∃ cur,W.heap[g]?=some (.cells cur 88 (0,0)))∧Kd.C kF W (some ⟨g,0,none⟩) fs.length fs ∧
    ∀ i f,fs[i]?=some f → f.rs.length=8∧W.rangeAt g (i * 18) (fc f):=by
  obtain ⟨A,c,hv,hle,hC⟩:=Kd.R_reads h
  obtain ⟨h0,inner,ho,hr⟩:=h
  rcases ho.2 with ⟨rfl,h2⟩ | ⟨g,cap,cur,rfl,hg,hh,r⟩
  · left
    injection hv with e1 e2 e3
    exact ⟨List.eq_nil_of_length_eq_zero e2.symm,rfl⟩
  · right
    injection hv with e1 e2 e3
    subst e1
    rw [e2]
    refine ⟨g,cap,rfl,by omega,hg,blk_lt hh,⟨_,hh⟩,hC,fun i f hf => ?_⟩
    have hi:=(List.getElem?_eq_some_iff.1 hf).1
    obtain ⟨ad,cs,e,_,hK,hc0⟩:=Kd.C_get hC ⟨0,0,[]⟩ (i:Int) (by omega) (by omega)
    injection e with e
    subst e
    have hx:fs.getD (i:Int).toNat ⟨0,0,[]⟩=f:=by
      rw [Int.toNat_natCast,List.getD_eq_getElem?_getD,hf];rfl
    rw [hx] at hK
    obtain ⟨h8,rfl⟩:=hK
    refine ⟨h8,fun j u hj => ?_⟩
    have:=hc0 j u hj
    simpa [Addr.add_lit,kF] using this
theorem Stk.only_lt {g base:Nat} {W W':World} {v:Value} {fs:List FrameD} (h:Stk W base v fs) (hO:Only g W W') (hg:g < base):Stk W' base v fs :=
  Kd.R_mono (Kd.R_step (Kd.R_bound h) (fun k hk hlt => hO.block k hlt (by have:=hk.2.1;omega))) (fun _ _ => trivial)
theorem Only.then_ {cb:Nat} {W A B:World} (h:Only cb W A) (k:Below W.heap.size A B):Only cb W B :=
  ⟨k.os.trans h.os,k.tape.trans h.tape,k.output.trans h.output,Nat.le_trans h.size k.size,fun i hi hne => (k.block i hi).trans (h.block i hi hne)⟩
theorem stable_Stk (base:Nat) (fs:List FrameD):GR.Stable RB (fun W v => Stk W base v fs):=fun W W' v h hR => h.below hR
theorem fc_length (f:FrameD) (h:f.rs.length=8):(fc f).length=18:=by simp [fc,rc_length,h]
theorem fc_one (f:FrameD):∀ v ∈ fc f,v.oneCell'=true:=by
  intro u hu
  simp only [fc,List.mem_cons] at hu
  rcases hu with rfl | rfl | hu
  · rfl
  · rfl
  · exact rc_one _ u hu
theorem size88:(Try.prog.info? 88).map (·.size)=some 18:=by
  have:=info88
  cases h:Try.prog.info? 88 with
  | none => rw [h] at this;cases this
  | some i => rw [h] at this;simp at this ⊢;exact this.2.1
/-- A frame with nothing. -/
def zF:FrameD:=⟨0,0,[⟨0,0⟩,⟨0,0⟩,⟨0,0⟩,⟨0,0⟩,⟨0,0⟩,⟨0,0⟩,⟨0,0⟩,⟨0,0⟩]⟩
set_option maxRecDepth 100000 in
set_option maxHeartbeats 2000000 in
theorem last_none (W:World) (base kb cb:Nat) (o:S74) (vars pc used:Int) (rs:List S32) (stk:Value) (hk:W.heap[kb]?=some (.cells #[ptr cb,.int .i64 o.f0,.int .i64 o.f1,.int .i64 o.f2,.int .i64 o.f3,.int .i64 o.f4,.int .i64 vars] 95 (0,0)))
    (hc:W.heap[cb]?=some (.cells (cpuC pc used rs stk) 37 (0,0))) (hl:rs.length=8) (hne:kb ≠ cb) (hs:Stk W base stk []) :
    Calls Try.prog 53 #[ptr kb] W fun e w' => e=.returned (.tuple #[.agg (fc zF).toArray,.bool false])∧Below W.heap.size W w':=by
  have hu35:=Try.underlying35
  have hu37:=Try.underlying37
  have hu95:=Try.underlying95
  obtain ⟨A,c,rfl,hle,hC⟩:=Kd.R_reads hs
  obtain ⟨W1,hW1,K1,hB1⟩:=alz W #[.int .i64 0,.int .i64 0,.int .i64 0,.int .i64 0,.int .i64 0,.int .i64 0,.int .i64 0,.int .i64 0,.int .i64 0,.int .i64 0,.int .i64 0,.int .i64 0,.int .i64 0,.int .i64 0,.int .i64 0,.int .i64 0,.int .i64 0,.int .i64 0] 88
  have k0:=zG (zE hk hB1) 0
  have s0:W1.cell? ⟨cb,18,none⟩=some (.slice A 0 c):=(zG (zE hc hB1) 18).trans (cpuC_stk hl)
  obtain ⟨W2,hW2,K2,hO2⟩:=st_whole (P:=Try.prog) (ty:=88) (vs:=fc zF) K1 rfl (by rw [size88];rfl) (fc_one _)
  simp only [fc,zF,rc] at hW2
  have H2:=Lib.hid (zM K2 (hB1.trans (hO2.below (Nat.le_refl _) hB1.size)))
  clear hk hc K1 K2 hB1 hO2 hs hC
  go_enter Try.func53,Try.ntmps53
  go_wp2_with (refine wpList_st rfl rfl hW2 ?_)
  refine bodyPost_ret (results_ct rfl _ rfl H2.out.1 Try.underlying88 rfl (by rw [size88];rfl)) rfl ⟨rfl,H2.out.2⟩
set_option maxRecDepth 100000 in
set_option maxHeartbeats 2000000 in
theorem last_some (W:World) (base kb cb:Nat) (o:S74) (vars pc used:Int) (rs:List S32) (stk:Value) (gs:List FrameD) (f:FrameD) (hk:W.heap[kb]?=some (.cells #[ptr cb,.int .i64 o.f0,.int .i64 o.f1,.int .i64 o.f2,.int .i64 o.f3,.int .i64 o.f4,.int .i64 vars] 95 (0,0)))
    (hc:W.heap[cb]?=some (.cells (cpuC pc used rs stk) 37 (0,0))) (hl:rs.length=8) (hne:kb ≠ cb) (hs:Stk W base stk (gs ++ [f])) (hbig:gs.length ≤ 100000) (hbase:base ≤ W.heap.size) :
    Calls Try.prog 53 #[ptr kb] W fun e w' => e=.returned (.tuple #[.agg (fc f).toArray,.bool true])∧∃ stk',w'.heap[cb]?=some (.cells (cpuC pc used rs stk') 37 (0,0))∧Stk w' base stk' gs∧Only cb W w':=by
  have hu35:=Try.underlying35
  have hu37:=Try.underlying37
  have hu95:=Try.underlying95
  rcases hs.open with ⟨h0,-⟩ | ⟨g,c,rfl,hle,hgb,hgl,-,hC,hF⟩
  · simp at h0
  obtain ⟨h8,hr⟩:=hF gs.length f (by simp)
  obtain ⟨W1,hW1,K1,hB1⟩:=alz W #[.int .i64 0,.int .i64 0,.int .i64 0,.int .i64 0,.int .i64 0,.int .i64 0,.int .i64 0,.int .i64 0,.int .i64 0,.int .i64 0,.int .i64 0,.int .i64 0,.int .i64 0,.int .i64 0,.int .i64 0,.int .i64 0,.int .i64 0,.int .i64 0] 88
  have hr1:W1.rangeAt g (gs.length * 18) (fc f):=fun j u hj => pw_cell_below hB1 (hr j u hj)
  have hL1:=ld_range (P:=Try.prog) (ty:=88) hr1 Try.underlying88 rfl (by rw [size88,fc_length f h8])
  have k0:=zG (zE hk hB1) 0
  have s0:W1.cell? ⟨cb,18,none⟩=some (.slice (some ⟨g,0,none⟩) (gs ++ [f]).length c):=(zG (zE hc hB1) 18).trans (cpuC_stk hl)
  obtain ⟨W2,hS1,K2,hO2⟩:=st_whole (P:=Try.prog) (ty:=88) (vs:=fc f) K1 (by rw [fc_length f h8];rfl) (by rw [size88,fc_length f h8]) (fc_one _)
  have hB2:Below W.heap.size W W2:=hB1.trans (hO2.below (Nat.le_refl _) hB1.size)
  have s2:∀ W',Below W2.heap.size W2 W' → W'.cell? ⟨cb,18,none⟩=some (.slice (some ⟨g,0,none⟩) (gs ++ [f]).length c):=fun W' hB => (zG (zE hc (bAfter hB2 hB)) 18).trans (cpuC_stk hl)
  have k2:∀ W',Below W2.heap.size W2 W' → W'.cell? ⟨kb,0,none⟩=some (ptr cb):=fun W' hB => zG (zE hk (bAfter hB2 hB)) 0
  have HC:=Lib.hid fun W' (hB:Below W2.heap.size W2 W') => (clone_frames (some ⟨g,0,none⟩) c gs W' (by
    have h1:=Kd.C_take (m:=gs.length) (Kd.C_below hC (bAfter hB2 hB)) (by simp)
    simpa using h1) (by omega)).mono fun e w' hh => hh
  rw [List.length_append,List.length_singleton] at s0 s2 hle
  obtain ⟨i88,hi88,-⟩:=Option.map_eq_some_iff.1 size88
  have cT:=cut_to (P:=Try.prog) 35 88 .i64 Try.underlying35 hi88 (some ⟨g,0,none⟩) (gs.length + 1) c (gs.length:Int) (by omega) (by omega) hle
  simp only [Int.toNat_natCast] at cT
  have hwr:IntKind.i64.wrap (gs.length:Int)=gs.length:=by rw [IntKind.wrap_i64];omega
  have hgc:(0:Int) ≤ gs.length∧(gs.length:Int) ≤ c:=⟨by omega,by omega⟩
  have HH:=Lib.hid (zM hk (zM hc (zM hs (zM K2 (zM hB2 (zM hl hbase))))))
  clear hk hc hs K1 K2 hB1 hO2 hB2 hC hF hr hr1
  go_enter Try.func53,Try.ntmps53
  go_wp2_with (first | refine wpList_st rfl rfl hS1 ?_ | refine wpList_ld rfl rfl hL1 ?_)
  apply GR.wp_region_grow (R:=RB) 17 (by kernel_rfl) (by kernel_rfl) (by kernel_rfl)
  · intro c a d v w h;cases d <;> exact h
  simp only [List.take_succ_cons,List.take_zero,List.drop_succ_cons,List.drop_zero]
  repeat
    apply GR.gw_val (by rfl)
    · (intro W' hB hD;have k3:=k2 W' hB;have s3:=s2 W' hB;go_simp;first | done | rfl)
    simp only [Act.put,zJ,zK,zL]
  apply GR.gw_callR (stable_Stk W2.heap.size gs) (by rfl)
  · (intro W' hB hD;go_simp;first | done | rfl | exact ⟨rfl,rfl⟩)
  · (intro W' hB hD; exact (HC.out W' hB).mono fun e w' hh => by
      obtain ⟨v,he,hv,hb⟩:=hh
      exact ⟨v,he,hb,Kd.R_lower hv hB.size⟩)
  rintro v -
  simp only [Act.put,zJ,zK,zL]
  repeat
    apply GR.gw_val (by rfl)
    · (intro W' hB hD;go_simp;first | done | rfl)
    simp only [Act.put,zJ,zK,zL]
  apply GR.gw_nil
  intro Wa hW hF hP
  simp [List.forall_mem_append] at hF hP
  obtain ⟨hk,hc,hs,K2,hB2,hl,hbase⟩:=HH.out
  obtain ⟨A2,c2,rfl,hle2,hC2⟩:=Kd.R_reads hF
  have hcb:=blk_lt hc
  have hcA:=zE hc (bAfter hB2 hW)
  have z0:=s2 Wa hW
  have z1:=zH hcA 18
  obtain ⟨Wb,hWb⟩:∃ Wb,Wa.setCell ⟨cb,18,none⟩ (.slice A2 gs.length c2)=Wb:=⟨_,rfl⟩
  have hcB:Wb.heap[cb]?=some (.cells (cpuC pc used rs (.slice A2 gs.length c2)) 37 (0,0)):=by
    rw [← hWb,← cpuC_setStk _ hl]
    exact blk_set hcA 18 _
  have hOb:Only cb Wa Wb:=by rw [← hWb];exact Only.set Wa 18 _
  have K2b:=hOb.mid (zE K2 hW) (by omega) (B:=0)
  have hL2:=ld_whole (P:=Try.prog) (ty:=88) K2b Try.underlying88 rfl (by rw [size88];simp [fc_length f h8])
  obtain ⟨Wc,hS2,Kc,hOc⟩:=st_whole (P:=Try.prog) (ty:=88) (vs:=fc f) K2b (by simp) (by rw [size88,fc_length f h8]) (fc_one _)
  have HR:=Lib.hid (zM hcB (zM hOb (zM Kc hOc)))
  have HW:=Lib.hid (zM hW (zM hF hcA))
  clear hk hc hs K2 hB2 hcA hcB hOb K2b Kc hOc hC2 hF hW
  go_wp2_with (first | refine wpList_st rfl rfl hS2 ?_ | refine wpList_ld rfl rfl hL2 ?_)
  refine bodyPost_ret (results_ct rfl _ rfl HR.out.2.2.1 Try.underlying88 rfl (by rw [size88];simp [fc_length f h8])) rfl ⟨rfl,?_⟩
  obtain ⟨hcB,hOb,Kc,hOc⟩:=HR.out
  obtain ⟨hW,hF,hcA⟩:=HW.out
  obtain ⟨hk,hc,hs,K2,hB2,hl,hbase⟩:=HH.out
  have hsz:W.heap.size ≤ Wb.heap.size:=Nat.le_trans hB2.size (Nat.le_trans hW.size hOb.size)
  refine ⟨_,hOc.mid hcB (by omega) (B:=0),?_,?_⟩
  · have h1:Stk Wb W2.heap.size (.slice A2 gs.length c2) gs:=Stk.only hF hcA (by decide) hOb
    exact Kd.R_lower (Stk.only_lt h1 hOc (by have:=blk_lt K2;omega)) (Nat.le_trans hbase hB2.size)
  · exact ((Only.of_below (bAfter hB2 hW)).trans hOb).then_ (hOc.below (Nat.le_refl _) hsz)
theorem last_calls (W:World) (base kb cb:Nat) (o:S74) (vars pc used:Int) (rs:List S32) (stk:Value) (fs:List FrameD) (hk:W.heap[kb]?=some (.cells #[ptr cb,.int .i64 o.f0,.int .i64 o.f1,.int .i64 o.f2,.int .i64 o.f3,.int .i64 o.f4,.int .i64 vars] 95 (0,0)))
    (hc:W.heap[cb]?=some (.cells (cpuC pc used rs stk) 37 (0,0))) (hl:rs.length=8) (hne:kb ≠ cb) (hs:Stk W base stk fs) (hbig:fs.length ≤ 100000) (hbase:base ≤ W.heap.size) :
    Calls Try.prog 53 #[ptr kb] W fun e w' => (e=match fs.getLast? with
      | some f => .returned (.tuple #[.agg (fc f).toArray,.bool true])
      | none => .returned (.tuple #[.agg (fc zF).toArray,.bool false]))∧∃ stk',w'.heap[cb]?=some (.cells (cpuC pc used rs stk') 37 (0,0))∧Stk w' base stk' fs.dropLast∧Only cb W w':=by
  rcases List.eq_nil_or_concat fs with rfl | ⟨gs,f,rfl⟩
  · exact (last_none W base kb cb o vars pc used rs stk hk hc hl hne hs).mono fun e w' hh => ⟨hh.1,stk,zE hc hh.2,hs.below hh.2,Only.of_below hh.2⟩
  · rw [List.concat_eq_append] at hs hbig ⊢
    refine (last_some W base kb cb o vars pc used rs stk gs f hk hc hl hne hs (by simp at hbig;omega) hbase).mono fun e w' hh => ?_
    simpa using hh
theorem below_le {B B':Nat} {W W':World} (h:Below B W W') (hl:B' ≤ B):Below B' W W':=⟨h.os,h.tape,h.output,h.size,fun k hk => h.block k (by omega)⟩
theorem size34:(Try.prog.info? 34).map (·.size)=some 16:=by kernel_rfl
theorem size37:(Try.prog.info? 37).map (·.size)=some 19:=by kernel_rfl
theorem size39:(Try.prog.info? 39).map (·.size)=some 7:=by kernel_rfl
/-- What is asked for. -/
abbrev askC (k x a d v0 v1 e:Int):Array Value:=#[.int .i64 k,.int .i64 x,.int .i64 a,.int .i64 d,.int .i64 v0,.int .i64 v1,.int .i64 e]
theorem cpuC_setRegs {pc used:Int} {rs:List S32} {stk:Value} (ns:List S32) (h:rs.length=8) (h2:ns.length=8):setL (cpuC pc used rs stk) 2 (rc ns)=cpuC pc used ns stk:=by
  have e1:=rc_length rs
  have e2:=rc_length ns
  unfold cpuC
  rw [setL_list _ _ _ (by simp;omega)]
  congr 1
  simp only [List.take_succ_cons,List.take_zero,List.cons_append,List.nil_append,List.cons.injEq,true_and]
  congr 1
  rw [show 2 + (rc ns).length=(rc ns).length + 1 + 1 by omega]
  simp only [List.drop_succ_cons]
  rw [List.drop_append_of_le_length (by omega),List.drop_eq_nil_of_le (by omega)]
  rfl
theorem cpuC_size {pc used:Int} {rs:List S32} {stk:Value} (h:rs.length=8):(cpuC pc used rs stk).size=19:=by
  have e1:=rc_length rs
  simp [cpuC]
  omega
theorem fc_range {W:World} {g:Nat} {t:TypeId} {f:FrameD} (h:W.heap[g]?=some (.cells (fc f).toArray t (0,0))):W.rangeAt g 2 (rc f.rs)∧W.cell? ⟨g,0,none⟩=some (.int .i64 f.dest)∧W.cell? ⟨g,1,none⟩=some (.int .i64 f.save) :=
  ⟨range_of (pre:=[.int .i64 f.dest,.int .i64 f.save]) (post:=[]) (t:=t) (fr:=(0,0)) (by simpa [fc] using h),zG h 0,zG h 1⟩
set_option maxRecDepth 100000 in
set_option maxHeartbeats 2000000 in
theorem again_none (W:World) (base kb cb:Nat) (o:S74) (vars pc used:Int) (rs:List S32) (stk:Value) (hk:W.heap[kb]?=some (.cells #[ptr cb,.int .i64 o.f0,.int .i64 o.f1,.int .i64 o.f2,.int .i64 o.f3,.int .i64 o.f4,.int .i64 vars] 95 (0,0)))
    (hc:W.heap[cb]?=some (.cells (cpuC pc used rs stk) 37 (0,0))) (hl:rs.length=8) (hne:kb ≠ cb) (hs:Stk W base stk []) (hbase:base ≤ W.heap.size) :
    Calls Try.prog 54 #[ptr kb] W fun e w' => e=gave 1∧Only cb W w':=by
  obtain ⟨W1,hW1,hB1⟩:∃ W1,W.alloc (.cells #[.int .i64 0,.int .i64 0,.int .i64 0,.int .i64 0,.int .i64 0,.int .i64 0,.int .i64 0] 39)=W1∧Below W.heap.size W W1:=⟨_,rfl,bOne _⟩
  have HC:=Lib.hid (last_calls W1 base kb cb o vars pc used rs stk [] (zE hk hB1) (zE hc hB1) hl hne (hs.below hB1) (by simp) (Nat.le_trans hbase hB1.size))
  have HB:=Lib.hid hB1
  simp only [List.getLast?_nil] at HC
  have HG:=Lib.hid (give_calls 1)
  clear hk hc hs hB1
  go_enter Try.func54,Try.ntmps54
  go_wp2_with fail
  refine HC.out.mono ?_
  rintro e w' ⟨rfl,stk',-,-,hO⟩
  obtain ⟨W2,hW2,K2,hB2⟩:∃ W2,w'.alloc (.cells #[.int .i64 0,.int .i64 0,.int .i64 0,.int .i64 0,.int .i64 0,.int .i64 0,.int .i64 0,.int .i64 0,.int .i64 0,.int .i64 0,.int .i64 0,.int .i64 0,.int .i64 0,.int .i64 0,.int .i64 0,.int .i64 0,.int .i64 0,.int .i64 0] 88)=W2∧W2.heap[w'.heap.size]?=some (.cells #[.int .i64 0,.int .i64 0,.int .i64 0,.int .i64 0,.int .i64 0,.int .i64 0,.int .i64 0,.int .i64 0,.int .i64 0,.int .i64 0,.int .i64 0,.int .i64 0,.int .i64 0,.int .i64 0,.int .i64 0,.int .i64 0,.int .i64 0,.int .i64 0] 88 (0,0))∧Below w'.heap.size w' W2:=⟨_,rfl,heap_alloc_new _ _,bOne _⟩
  obtain ⟨W3,hS,K3,hO3⟩:=st_whole (P:=Try.prog) (ty:=88) (vs:=fc zF) K2 rfl (by rw [size88];rfl) (fc_one _)
  have HO:=Lib.hid (((Only.of_below HB.out).trans hO).then_ (below_le (hB2.trans (hO3.below (Nat.le_refl _) hB2.size)) (Nat.le_trans HB.out.size hO.size)))
  clear K2 K3 hO hB2 hO3
  go_wp2_with (refine wpList_st rfl rfl hS ?_)
  refine (HG.out W3).mono ?_
  rintro e w'' ⟨rfl,rfl⟩
  exact ⟨rfl,rfl,HO.out⟩
set_option maxRecDepth 100000 in
set_option maxHeartbeats 2000000 in
theorem again_some (W:World) (base kb cb:Nat) (o:S74) (vars pc used:Int) (rs:List S32) (stk:Value) (gs:List FrameD) (f:FrameD) (hk:W.heap[kb]?=some (.cells #[ptr cb,.int .i64 o.f0,.int .i64 o.f1,.int .i64 o.f2,.int .i64 o.f3,.int .i64 o.f4,.int .i64 vars] 95 (0,0)))
    (hc:W.heap[cb]?=some (.cells (cpuC pc used rs stk) 37 (0,0))) (hl:rs.length=8) (hne:kb ≠ cb) (hs:Stk W base stk (gs ++ [f])) (hbig:gs.length ≤ 99999) (hbase:base ≤ W.heap.size) :
    Calls Try.prog 54 #[ptr kb] W fun e w' => e=.returned (.agg (askC 4 0 0 f.save 0 0 0))∧∃ stk',w'.heap[cb]?=some (.cells (cpuC f.dest used f.rs stk') 37 (0,0))∧Stk w' base stk' gs∧Only cb W w':=by
  have hu34:=Try.underlying34
  have hu37:=Try.underlying37
  have hu39:=Try.underlying39
  have hu88:=Try.underlying88
  have hu95:=Try.underlying95
  have h8:f.rs.length=8:=by
    rcases hs.open with ⟨h0,-⟩ | ⟨g,c,-,-,-,-,-,-,hF⟩
    · simp at h0
    · exact (hF gs.length f (by simp)).1
  obtain ⟨W1,hW1,K1,hB1⟩:=alz0 W
  have HC:=Lib.hid (last_calls W1 base kb cb o vars pc used rs stk (gs ++ [f]) (zE hk hB1) (zE hc hB1) hl hne (hs.below hB1) (by simp;omega) (Nat.le_trans hbase hB1.size))
  have HB:=Lib.hid (zM hB1 (zM K1 (zM hk (zM hl (blk_lt hc)))))
  simp only [List.getLast?_append,List.getLast?_singleton,List.dropLast_concat,Option.some_or] at HC
  clear hk hc hs hB1 K1
  go_enter Try.func54,Try.ntmps54
  go_wp2_with fail
  refine HC.out.mono ?_
  rintro e w' ⟨rfl,stk',hc1,hs1,hO⟩
  obtain ⟨hB1,K1,hk,hl,hcb⟩:=HB.out
  obtain ⟨W2,hW2,K2,hB2⟩:∃ W2,w'.alloc (.cells #[.int .i64 0,.int .i64 0,.int .i64 0,.int .i64 0,.int .i64 0,.int .i64 0,.int .i64 0,.int .i64 0,.int .i64 0,.int .i64 0,.int .i64 0,.int .i64 0,.int .i64 0,.int .i64 0,.int .i64 0,.int .i64 0,.int .i64 0,.int .i64 0] 88)=W2∧W2.heap[w'.heap.size]?=some (.cells #[.int .i64 0,.int .i64 0,.int .i64 0,.int .i64 0,.int .i64 0,.int .i64 0,.int .i64 0,.int .i64 0,.int .i64 0,.int .i64 0,.int .i64 0,.int .i64 0,.int .i64 0,.int .i64 0,.int .i64 0,.int .i64 0,.int .i64 0,.int .i64 0] 88 (0,0))∧Below w'.heap.size w' W2:=⟨_,rfl,heap_alloc_new _ _,bOne _⟩
  obtain ⟨W3,hS,K3,hO3⟩:=st_whole (P:=Try.prog) (ty:=88) (vs:=fc f) K2 (by rw [fc_length f h8];rfl) (by rw [size88,fc_length f h8]) (fc_one _)
  have hB3:Below w'.heap.size w' W3:=hB2.trans (hO3.below (Nat.le_refl _) hB2.size)
  have hc3:=zE hc1 hB3
  have hk3:=zE (hO.mid (zE hk hB1) hne (B:=0)) hB3
  have K13:=zE (hO.mid K1 (by omega) (B:=0)) hB3
  have hs3:=hs1.below hB3
  have hcl:cb < w'.heap.size:=blk_lt hc1
  have hkl:kb < W.heap.size:=blk_lt hk
  have hWw:W.heap.size < w'.heap.size:=Nat.lt_of_lt_of_le (blk_lt K1) hO.size
  have HO:=Lib.hid (zM (((Only.of_below hB1).trans hO).then_ (below_le hB3 (Nat.le_trans hB1.size hO.size))) (zM hc3 (zM K3 (zM hk3 (zM K13 hs3)))))
  clear K2 K1 hO hB2 hO3 hB1 hc1 hs1 hk K3 hc3 hk3 K13 hs3 hB3
  go_wp2_with (refine wpList_st rfl rfl hS ?_)
  obtain ⟨hO,hc3,K3,hk3,K13,hs3⟩:=HO.out
  obtain ⟨xs,hxs⟩:∃ xs,xs=[Obj.cells (cpuC pc used rs stk') 37 (0,0),.cells (cpuC pc used f.rs stk') 37 (0,0),.cells (cpuC f.dest used f.rs stk') 37 (0,0)]:=⟨_,rfl⟩
  have hL:∀ p ∈ [(cb,xs)],p.1=cb → p=(cb,xs):=by simp
  have st:∀ (i:Nat) (x:Obj),xs[i]?=some x → ∃ (p:Int) (r:List S32),r.length=8∧x=Obj.cells (cpuC p used r stk') 37 (0,0):=by
    subst hxs
    intro i x hi
    rcases i with _ | _ | _ | i
    · simp at hi;exact ⟨pc,rs,hl,hi.symm⟩
    · simp at hi;exact ⟨pc,f.rs,h8,hi.symm⟩
    · simp at hi;exact ⟨f.dest,f.rs,h8,hi.symm⟩
    · simp at hi
  have J1:∀ (i:Nat) (x:Obj),0 ≤ i → xs[i]?=some x → ∃ ys t,x=Obj.cells ys t (0,0)∧i ≤ (if i=0 then 1 else i)∧xs[if i=0 then 1 else i]?=some (.cells (setL ys 2 (rc f.rs)) t (0,0)):=by
    subst hxs
    intro i x _ hi
    rcases i with _ | _ | _ | i
    · simp at hi;exact ⟨_,_,hi.symm,by simp,by simp [cpuC_setRegs _ hl h8]⟩
    · simp at hi;exact ⟨_,_,hi.symm,by simp,by simp [cpuC_setRegs _ h8 h8]⟩
    · simp at hi;exact ⟨_,_,hi.symm,by simp,by simp [cpuC_setRegs _ h8 h8]⟩
    · simp at hi
  have J2:∀ (i:Nat) (x:Obj),1 ≤ i → xs[i]?=some x → ∃ ys t,x=Obj.cells ys t (0,0)∧i ≤ 2∧xs[2]?=some (.cells (setL ys 0 [.int .i64 f.dest]) t (0,0)):=by
    subst hxs
    intro i x h1 hi
    rcases i with _ | _ | _ | i
    · omega
    · simp at hi;exact ⟨_,_,hi.symm,by simp,rfl⟩
    · simp at hi;exact ⟨_,_,hi.symm,by simp,rfl⟩
    · simp at hi
  have k2:∀ W',Chain [(cb,xs)] W3 W' → W'.cell? ⟨kb,0,none⟩=some (ptr cb):=fun W' hB => zG (hB.mid hk3 (by simpa using hne)) 0
  have f2:∀ W',Chain [(cb,xs)] W3 W' → W'.heap[w'.heap.size]?=some (.cells (fc f).toArray 88 (0,0)):=fun W' hB => hB.mid K3 (by simp;omega)
  have c3:∀ W',Chain [(cb,xs)] W3 W' → At cb xs 0 W':=fun W' hB => hB.on (cb,xs) (by simp) 0 ⟨0,_,Nat.le_refl _,by subst hxs;rfl,hc3⟩
  have S1:∀ W',Chain [(cb,xs)] W3 W' → ∃ W'',(Instr.storeAt 34 (.pointer (some ⟨cb,2,none⟩)) (.agg (rc f.rs).toArray)).run Try.prog W'=.ok () W''∧Chain [(cb,xs)] W' W''∧At cb xs 1 W'':=by
    intro W' hB
    obtain ⟨h1,i,-,hi,y,h3,h4⟩:=chain_sets (W:=W') (vs:=rc f.rs) (off:=2) (fun i => if i=0 then 1 else i) 0 (List.mem_singleton_self (cb,xs)) hL (c3 W' hB) J1
    obtain ⟨i2,x2,-,hi2,hx2⟩:=c3 W' hB
    obtain ⟨p,r,hr8,rfl⟩:=st i2 x2 hi2
    exact ⟨_,st_run hx2 (by rw [rc_length,h8,cpuC_size hr8];decide) (by rw [size34,rc_length,h8]) (rc_one _),h1,_,y,by split <;> omega,h3,h4⟩
  have S2:∀ W',At cb xs 1 W' → ∃ W'',(∀ (tmp:Int),True)∧W'.setCell ⟨cb,0,none⟩ (.int .i64 f.dest)=W''∧(∃ v,W'.cell? ⟨cb,0,none⟩=some v)∧W'.frozen? ⟨cb,0,none⟩=false∧Chain [(cb,xs)] W' W''∧At cb xs 2 W'':=by
    intro W' hA
    obtain ⟨h1,i,-,hi,y,h3,h4⟩:=chain_sets (W:=W') (vs:=[.int .i64 f.dest]) (off:=0) (fun _ => 2) 1 (List.mem_singleton_self (cb,xs)) hL hA J2
    obtain ⟨i2,x2,-,hi2,hx2⟩:=hA
    obtain ⟨p,r,hr8,rfl⟩:=st i2 x2 hi2
    exact ⟨_,fun _ => trivial,rfl,⟨_,zG hx2 0⟩,zH hx2 0,h1,2,y,Nat.le_refl _,h3,h4⟩
  apply GR.wp_region_grows (R:=Chain [(cb,xs)]) (by kernel_rfl) (by kernel_rfl)
  · intro c a d v w h;cases d <;> exact h
  repeat
    apply GR.gw_val (by rfl)
    · (intro W' hB hD;have k3:=k2 W' hB;obtain ⟨fr,f0,-⟩:=fc_range (f2 W' hB);have hL2:=ld_range (P:=Try.prog) (ty:=34) fr Try.underlying34 rfl (by rw [size34,rc_length,h8]);first | exact exec_ld rfl hL2 | (go_simp;first | done | rfl))
    simp only [Act.put,zJ,zK,zL]
  apply GR.gw_skp (stable_At (List.mem_singleton_self (cb,xs)) 1) (by rfl) (by rfl)
  · intro W' hB hD
    obtain ⟨W'',e1,e2,e3⟩:=S1 W' hB
    exact ⟨W'',exec_st rfl e1,e2,e3⟩
  rintro v -
  repeat
    apply GR.gw_val (by rfl)
    · (intro W' hB hD;go_simp;first | done | rfl)
    simp only [Act.put,zJ,zK,zL]
  apply GR.gw_skp (stable_At (List.mem_singleton_self (cb,xs)) 2) (by rfl) (by rfl)
  · intro W' hB hD
    have hA:At cb xs 1 W':=by simp [GR.depFacts,Region.binds] at hD;exact hD
    obtain ⟨W'',-,e1,⟨v,e4⟩,e5,e2,e3⟩:=S2 W' hA
    refine ⟨W'',?_,e2,e3⟩
    go_simp
    first | done | rfl
  rintro v -
  apply GR.gw_nil
  intro Wa hW hF hP
  simp [List.forall_mem_append] at hF hP
  have hcA:Wa.heap[cb]?=some (.cells (cpuC f.dest used f.rs stk') 37 (0,0)):=by
    obtain ⟨i,x,h1,h2,h3⟩:=hF.2
    subst hxs
    rcases i with _ | _ | _ | i
    · omega
    · omega
    · simp at h2;rw [h3,← h2]
    · simp at h2
  have K1a:=hW.mid K13 (by simp;omega)
  have b1:=(fc_range (f2 Wa hW)).2.2
  have hsA:Stk Wa base stk' gs:=by
    refine Kd.R_mono (Kd.R_step (Kd.R_types hs3 hc3 (fun q hq => by simp [kF] at hq;subst hq;decide)) (fun k hk hlt => hW.block k hlt (by simpa using hk.2))) (fun _ _ => trivial)
  have hOA:Only cb W Wa:=hO.trans ⟨hW.os,hW.tape,hW.output,hW.size,fun k hk hne => hW.block k hk (by simpa using hne)⟩
  obtain ⟨Wb,hSb,Kb,hOb⟩:=st_whole (P:=Try.prog) (ty:=39) (vs:=(askC 4 0 0 f.save 0 0 0).toList) K1a rfl (by rw [size39];rfl) (by simp [Value.oneCell'])
  have hsW:W.heap.size ≤ Wa.heap.size:=hOA.size
  have HE:=Lib.hid (zM Kb (zM (hOb.mid hcA (by omega) (B:=0)) (zM (Stk.only hsA K1a (by decide) hOb) (hOA.then_ (hOb.below (Nat.le_refl _) hsW)))))
  clear hcA K1a hsA hOA hOb Kb hW hF hO hc3 K3 hk3 K13 hs3 S1 S2 J1 J2 st k2 f2 c3 hL
  simp only [Array.toArray_toList] at hSb HE
  go_wp2_with (refine wpList_st rfl rfl hSb ?_)
  exact bodyPost_ret (results_c1 rfl _ rfl HE.out.1 Try.underlying39 rfl (by rw [size39];rfl)) rfl ⟨rfl,stk',HE.out.2.1,HE.out.2.2.1,HE.out.2.2.2⟩
theorem again_calls (W:World) (base kb cb:Nat) (o:S74) (vars pc used:Int) (rs:List S32) (stk:Value) (fs:List FrameD) (hk:W.heap[kb]?=some (.cells #[ptr cb,.int .i64 o.f0,.int .i64 o.f1,.int .i64 o.f2,.int .i64 o.f3,.int .i64 o.f4,.int .i64 vars] 95 (0,0)))
    (hc:W.heap[cb]?=some (.cells (cpuC pc used rs stk) 37 (0,0))) (hl:rs.length=8) (hne:kb ≠ cb) (hs:Stk W base stk fs) (hbig:fs.length ≤ 99999) (hbase:base ≤ W.heap.size) :
    Calls Try.prog 54 #[ptr kb] W fun e w' => (match fs.getLast? with
      | none => e=gave 1
      | some f => e=.returned (.agg (askC 4 0 0 f.save 0 0 0))∧f.rs.length=8∧∃ stk',w'.heap[cb]?=some (.cells (cpuC f.dest used f.rs stk') 37 (0,0))∧Stk w' base stk' fs.dropLast)∧Only cb W w':=by
  rcases List.eq_nil_or_concat fs with rfl | ⟨gs,f,rfl⟩
  · exact again_none W base kb cb o vars pc used rs stk hk hc hl hne hs hbase
  · rw [List.concat_eq_append] at hs hbig ⊢
    have h8:f.rs.length=8:=by
      rcases hs.open with ⟨h0,-⟩ | ⟨g,c,-,-,-,-,-,-,hF⟩
      · simp at h0
      · exact (hF gs.length f (by simp)).1
    refine (again_some W base kb cb o vars pc used rs stk gs f hk hc hl hne hs (by simp at hbig;omega) hbase).mono fun e w' hh => ?_
    obtain ⟨h1,stk',h2,h3,h4⟩:=hh
    simp only [List.getLast?_append,List.getLast?_singleton,List.dropLast_concat,Option.some_or]
    exact ⟨⟨h1,h8,stk',h2,h3⟩,h4⟩
end Go.Proofs.Ytgnjkegnddekeaa.Q
