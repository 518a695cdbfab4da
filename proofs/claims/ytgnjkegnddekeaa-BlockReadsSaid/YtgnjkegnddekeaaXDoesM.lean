/- An operation is done, by hand (its words; what it puts into a register; jumps; ends). -/
import Derived.Test.YtgnjkegnddekeaaXFrameM
import Derived.Test.YtgnjkegnddekeaaXHWorth2
import Derived.Test.YtgnjkegnddekeaaXClip
open List renaming setIfInBounds_toArray → zJ, set_cons_zero → zK, set_cons_succ → zL
open And renaming intro → zM
namespace Go.Proofs.Ytgnjkegnddekeaa.Q
open Go.RowKit Go.Lib Go.Proofs.Ytgnjkegnddekeaa Go.Proofs.YtgnjkegnddekeaaW.PrintWords Go.Proofs.YtgnjkegnddekeaaW.PrintLast Go.Proofs.YtgnjkegnddekeaaW.PrintMore
set_option linter.unusedVariables false
set_option linter.unusedSimpArgs false
/-- Where a block stands, and what it asks for, in plain words. -/
structure CpuD where
  pc:Int
  used:Int
  rs:List S32
  fs:List FrameD
structure AskD where
  k:Int
  x:Int
  a:Int
  d:Int
  v:S32
  e:Int
def ask0:AskD:=⟨0,0,0,0,⟨0,0⟩,0⟩
abbrev AskD.c (a:AskD):Array Value:=askC a.k a.x a.a a.d a.v.f0 a.v.f1 a.e
/-- Does it have a variable? -/
def isVar (v:S32) (vars:Int):Prop:=v.f0=2∧0 ≤ v.f1∧v.f1 < vars
instance (v : S32) (vars : Int) : Decidable (isVar v vars) := by unfold isVar; infer_instance
/-- What an operation does; none of two: it ends with a number. -/
def doesP (c:CpuD) (o:S74) (vars:Int):Sum Int (CpuD × AskD) :=
  match worthP c.rs o with
  | none => .inl 4
  | some (some v) => .inr (⟨wrap64 (c.pc + 1),c.used,c.rs.set o.f1.toNat v,c.fs⟩,ask0)
  | some none =>
    if o.f0=8 then (if isVar (regA c.rs o.f2) vars then .inr (⟨wrap64 (c.pc + 1),c.used,c.rs,c.fs⟩,⟨1,(regA c.rs o.f2).f1,o.f1,0,⟨0,0⟩,0⟩) else .inl 4)
    else if o.f0=9 then (if isVar (regA c.rs o.f1) vars then .inr (⟨wrap64 (c.pc + 1),c.used,c.rs,c.fs⟩,⟨2,(regA c.rs o.f1).f1,0,0,regA c.rs o.f2,0⟩) else .inl 4)
    else if o.f0=10 then .inr (⟨o.f3,c.used,c.rs,c.fs⟩,ask0)
    else if o.f0=11 then (if (regA c.rs o.f1).f0=1 then .inr (⟨if (regA c.rs o.f1).f1=0 then wrap64 (c.pc + 1) else o.f3,c.used,c.rs,c.fs⟩,ask0) else .inl 4)
    else if o.f0=12 then (if 16 ≤ c.fs.length then .inl 5 else .inr (⟨wrap64 (c.pc + 1),c.used,c.rs,c.fs ++ [⟨o.f3,0,c.rs⟩]⟩,⟨3,0,0,0,⟨0,0⟩,0⟩))
    else if o.f0=13 then .inr (⟨wrap64 (c.pc + 1),c.used,c.rs,c.fs.dropLast⟩,ask0)
    else if o.f0=14 then (match c.fs.getLast? with
      | none => .inl 1
      | some f => .inr (⟨f.dest,c.used,f.rs,c.fs.dropLast⟩,⟨4,0,0,f.save,⟨0,0⟩,0⟩))
    else if o.f0=15 then .inl 2
    else .inl 0
/-- A place in memory. -/
def CpuAt (W:World) (base cb:Nat) (c:CpuD):Prop:=c.rs.length=8∧∃ stk,W.heap[cb]?=some (.cells (cpuC c.pc c.used c.rs stk) 37 (0,0))∧Stk W base stk c.fs
/-- The words that an operation's step needs. -/
structure DoesIn (W:World) (base kb cb:Nat) (o:S74) (vars pc used:Int) (rs:List S32) (stk:Value) (fs:List FrameD):Prop where
  hk:W.heap[kb]?=some (.cells #[ptr cb,.int .i64 o.f0,.int .i64 o.f1,.int .i64 o.f2,.int .i64 o.f3,.int .i64 o.f4,.int .i64 vars] 95 (0,0))
  hc:W.heap[cb]?=some (.cells (cpuC pc used rs stk) 37 (0,0))
  hl:rs.length=8
  hne:kb ≠ cb
  hs:Stk W base stk fs
  hbig:fs.length ≤ 99999
  hbase:base ≤ W.heap.size
  ho:OpOK o
  hrg:∀ v ∈ rs,-9223372036854775808 ≤ v.f1∧v.f1 < 9223372036854775808
theorem DoesIn.only {W W':World} {base kb cb:Nat} {o:S74} {vars pc used pc':Int} {rs:List S32} {stk:Value} {fs:List FrameD} (h:DoesIn W base kb cb o vars pc used rs stk fs) (hO:Only cb W W') (hc:W'.heap[cb]?=some (.cells (cpuC pc' used rs stk) 37 (0,0))):DoesIn W' base kb cb o vars pc' used rs stk fs :=
  ⟨hO.mid h.hk h.hne (B:=0),hc,h.hl,h.hne,h.hs.only h.hc (by decide) hO,h.hbig,Nat.le_trans h.hbase hO.size,h.ho,h.hrg⟩
theorem DoesIn.below {W W':World} {base kb cb:Nat} {o:S74} {vars pc used:Int} {rs:List S32} {stk:Value} {fs:List FrameD} (h:DoesIn W base kb cb o vars pc used rs stk fs) (hB:Below W.heap.size W W'):DoesIn W' base kb cb o vars pc used rs stk fs :=
  h.only (Only.of_below hB) (zE h.hc hB)
theorem DoesIn.core {W:World} {base kb cb:Nat} {o:S74} {vars pc used:Int} {rs:List S32} {stk:Value} {fs:List FrameD} (h:DoesIn W base kb cb o vars pc used rs stk fs):Core W kb cb o vars rs:=Core.of h.hk h.hc h.hl h.hne
theorem regA_mem {rs:List S32} {i:Int} (hl:rs.length=8) (h0:0 ≤ i) (h1:i < 8):regA rs i ∈ rs:=by
  obtain ⟨n,-,h⟩:=regA_some hl h0 h1
  exact List.mem_of_getElem? h
theorem variable_regA {W:World} {base kb cb:Nat} {o:S74} {vars pc used:Int} {rs:List S32} {stk:Value} {fs:List FrameD} (h:DoesIn W base kb cb o vars pc used rs stk fs) (i:Int) (h0:0 ≤ i) (h1:i < 8) :
    Calls Try.prog 49 #[ptr kb,.int .i64 i] W fun x w' => (x=if isVar (regA rs i) vars then .returned (.int .i64 (regA rs i).f1) else gave 4)∧Below W.heap.size W w':=by
  obtain ⟨n,rfl,hn⟩:=regA_some h.hl h0 h1
  exact variable_calls W kb cb o vars rs n _ h.core hn (h.hrg _ (regA_mem h.hl h0 h1))
theorem number_regA {W:World} {base kb cb:Nat} {o:S74} {vars pc used:Int} {rs:List S32} {stk:Value} {fs:List FrameD} (h:DoesIn W base kb cb o vars pc used rs stk fs) (i:Int) (h0:0 ≤ i) (h1:i < 8) :
    Calls Try.prog 50 #[ptr kb,.int .i64 i] W fun x w' => (x=if (regA rs i).f0=1 then .returned (.agg #[.int .i64 1,.int .i64 (regA rs i).f1]) else gave 4)∧Below W.heap.size W w':=by
  obtain ⟨n,rfl,hn⟩:=regA_some h.hl h0 h1
  exact number_calls W kb cb o vars rs n _ h.core hn
set_option maxRecDepth 100000 in
set_option maxHeartbeats 2000000 in
theorem does_some (W:World) (base kb cb:Nat) (o:S74) (vars pc used:Int) (rs:List S32) (stk:Value) (fs:List FrameD) (h:DoesIn W base kb cb o vars pc used rs stk fs) (v0 v1:Int) (hw:worthP rs o=some (some ⟨v0,v1⟩)) :
    Calls Try.prog 32 #[ptr kb] W fun x w' => (x=.returned (.agg (askC 0 0 0 0 0 0 0))∧∃ stk,w'.heap[cb]?=some (.cells (cpuC (wrap64 (pc + 1)) used (rs.set o.f1.toNat ⟨v0,v1⟩) stk) 37 (0,0))∧Stk w' base stk fs)∧Only cb W w':=by
  have hu32:=Try.underlying32
  have hu34:=Try.underlying34
  have hu35:=Try.underlying35
  have hu37:=Try.underlying37
  have hu39:=Try.underlying39
  have hu74:=Try.underlying74
  have hu88:=Try.underlying88
  have hu95:=Try.underlying95
  have hkb:=blk_lt h.hk
  have hcb:=blk_lt h.hc
  obtain ⟨W1,hW1,K1,hB1⟩:=alz0 W
  obtain ⟨o0,o1,o2,o3,o4⟩:=o
  try dsimp only at *
  have h1:=h.below hB1
  have k0:=zG h1.hk 0
  have k1:=zG h1.hk 1
  have k2:=zG h1.hk 2
  have k3:=zG h1.hk 3
  have k4:=zG h1.hk 4
  have k5:=zG h1.hk 5
  obtain ⟨W2,hW2,K2,hB2⟩:=alz W1 #[.int .i64 o0,.int .i64 o1,.int .i64 o2,.int .i64 o3,.int .i64 o4] 74
  have h2:=h1.below hB2
  have g0:=zG h2.hk 0
  have p0:W2.cell? ⟨cb,0,none⟩=some (.int .i64 pc):=zG h2.hc 0
  have p1:=zH h2.hc 0
  obtain ⟨W3,hW3⟩:∃ W3,W2.setCell ⟨cb,0,none⟩ (.int .i64 (wrap64 (pc + 1)))=W3:=⟨_,rfl⟩
  have hO3:Only cb W2 W3:=by rw [← hW3];exact Only.set W2 0 _
  have hc3:W3.heap[cb]?=some (.cells (cpuC (wrap64 (pc + 1)) used rs stk) 37 (0,0)):=by rw [← hW3];exact blk_set h2.hc 0 _
  have h3:=h2.only hO3 hc3
  have hl1:W.heap.size < W1.heap.size:=blk_lt K1
  have K13:=hO3.mid (zE K1 hB2) (by omega) (B:=0)
  have K23:=hO3.mid K2 (by omega) (B:=0)
  have HW:=Lib.hid (worth_calls W3 kb cb ⟨o0,o1,o2,o3,o4⟩ vars rs h3.core h3.ho)
  rw [hw] at HW
  simp only [told] at HW
  have H3:=Lib.hid (zM h3 (zM K13 (zM K23 (zM ((Only.of_below hB1).trans ((Only.of_below hB2).trans hO3)) hl1))))
  clear h h1 h2 h3 K1 K2 hB1 hB2 hO3 hc3 K13 K23
  have ha0:0 ≤ o1:=H3.out.1.ho.a0
  have ha1:o1 < 8:=H3.out.1.ho.a1
  obtain ⟨a,rfl⟩:∃ a:Nat,o1=a:=⟨o1.toNat,by omega⟩
  simp only [Int.toNat_natCast]
  go_enter Try.func32,Try.ntmps32
  go_wp2_with fail
  refine HW.out.mono ?_
  rintro e w' ⟨rfl,hB⟩
  obtain ⟨h3,K13,K23,hO3,hl1⟩:=H3.out
  obtain ⟨W4,hW4,K4,hB4⟩:∃ W4,w'.alloc (.cells #[.int .i64 v0,.int .i64 v1] 32)=W4∧W4.heap[w'.heap.size]?=some (.cells #[.int .i64 v0,.int .i64 v1] 32 (0,0))∧Below W3.heap.size W3 W4:=⟨_,rfl,heap_alloc_new _ _,bAfter hB (bOne _)⟩
  have h4:=h3.below hB4
  have K14:=zE K13 hB4
  have K24:=zE K23 hB4
  have hO4:=hO3.then_ (below_le hB4 (by have:=hO3.size;omega))
  have hlw:W1.heap.size < w'.heap.size:=Nat.lt_of_lt_of_le (blk_lt K23) hB.size
  have d0:=zG K24 0
  have d1:=zG K24 1
  have d2:=zG K24 2
  have d3:=zG K24 3
  have w0:=zG K4 0
  have w1:=zG K4 1
  have g4:=zG h4.hk 0
  have p4:W4.cell? ⟨cb,0,none⟩=some (.int .i64 (wrap64 (pc + 1))):=zG h4.hc 0
  have p5:=zH h4.hc 0
  have hal:a < rs.length:=by rw [h4.hl];omega
  have r4:=h4.core.reg a _ (List.getElem?_eq_getElem hal)
  obtain ⟨r40,r41⟩:=r4
  have r42:=zH h4.hc (2 + a * 2)
  have r43:=zH h4.hc (2 + a * 2 + 1)
  obtain ⟨W5,hW5⟩:∃ W5,((W4.setCell ⟨cb,2 + a * 2,none⟩ (.int .i64 v0)).setCell ⟨cb,2 + a * 2 + 1,none⟩ (.int .i64 v1)).drew=W5:=⟨_,rfl⟩
  have hc5:W5.heap[cb]?=some (.cells (cpuC (wrap64 (pc + 1)) used (rs.set a ⟨v0,v1⟩) stk) 37 (0,0)):=by
    rw [← hW5,← cpuC_set v0 v1 hal]
    exact blk_drew (blk_set (blk_set h4.hc _ _) _ _)
  have hO5:Only cb W4 W5:=by
    rw [← hW5]
    exact (Only.set W4 _ _).trans ((Only.set _ _ _).trans (Only.of_below (zI (Below.refl _ _) 1)))
  have hs5:=h4.hs.only h4.hc (by decide) hO5
  have hE:=zM (hO5.mid K14 (by omega) (B:=0)) (zM hc5 (zM hs5 (hO4.trans hO5)))
  clear h3 K13 K23 hO3 K4 hB4 h4 K14 K24 hO4 hB hc5 hO5 hs5
  go_wp2_with fail
  go_region
  obtain ⟨Wz,hSz,Kz,hOz⟩:=st_whole (P:=Try.prog) (ty:=39) (vs:=(askC 0 0 0 0 0 0 0:Array Value).toList) hE.1 rfl (by rw [size39];rfl) (by simp [Value.oneCell'])
  have HZ:=Lib.hid (zM Kz (zM (hOz.mid hE.2.1 (by omega) (B:=0)) (zM (Stk.only hE.2.2.1 hE.1 (by decide) hOz) (hE.2.2.2.then_ (hOz.below (Nat.le_refl _) hE.2.2.2.size)))))
  clear Kz hOz hE
  simp only [Array.toArray_toList] at hSz HZ
  go_wp2_with (refine wpList_st rfl rfl hSz ?_)
  exact bodyPost_ret (results_c1 rfl _ rfl HZ.out.1 Try.underlying39 rfl (by rw [size39];rfl)) rfl ⟨⟨rfl,_,HZ.out.2.1,HZ.out.2.2.1⟩,HZ.out.2.2.2⟩
set_option maxRecDepth 100000 in
set_option maxHeartbeats 2000000 in
theorem does_bad (W:World) (base kb cb:Nat) (o:S74) (vars pc used:Int) (rs:List S32) (stk:Value) (fs:List FrameD) (h:DoesIn W base kb cb o vars pc used rs stk fs) (hw:worthP rs o=none) :
    Calls Try.prog 32 #[ptr kb] W fun x w' => x=gave 4∧Only cb W w':=by
  have hu32:=Try.underlying32
  have hu34:=Try.underlying34
  have hu35:=Try.underlying35
  have hu37:=Try.underlying37
  have hu39:=Try.underlying39
  have hu74:=Try.underlying74
  have hu88:=Try.underlying88
  have hu95:=Try.underlying95
  have hkb:=blk_lt h.hk
  have hcb:=blk_lt h.hc
  obtain ⟨W1,hW1,K1,hB1⟩:=alz0 W
  obtain ⟨o0,o1,o2,o3,o4⟩:=o
  try dsimp only at *
  have h1:=h.below hB1
  have k0:=zG h1.hk 0
  have k1:=zG h1.hk 1
  have k2:=zG h1.hk 2
  have k3:=zG h1.hk 3
  have k4:=zG h1.hk 4
  have k5:=zG h1.hk 5
  obtain ⟨W2,hW2,K2,hB2⟩:=alz W1 #[.int .i64 o0,.int .i64 o1,.int .i64 o2,.int .i64 o3,.int .i64 o4] 74
  have h2:=h1.below hB2
  have g0:=zG h2.hk 0
  have p0:W2.cell? ⟨cb,0,none⟩=some (.int .i64 pc):=zG h2.hc 0
  have p1:=zH h2.hc 0
  obtain ⟨W3,hW3⟩:∃ W3,W2.setCell ⟨cb,0,none⟩ (.int .i64 (wrap64 (pc + 1)))=W3:=⟨_,rfl⟩
  have hO3:Only cb W2 W3:=by rw [← hW3];exact Only.set W2 0 _
  have hc3:W3.heap[cb]?=some (.cells (cpuC (wrap64 (pc + 1)) used rs stk) 37 (0,0)):=by rw [← hW3];exact blk_set h2.hc 0 _
  have h3:=h2.only hO3 hc3
  have hl1:W.heap.size < W1.heap.size:=blk_lt K1
  have K13:=hO3.mid (zE K1 hB2) (by omega) (B:=0)
  have K23:=hO3.mid K2 (by omega) (B:=0)
  have HW:=Lib.hid (worth_calls W3 kb cb ⟨o0,o1,o2,o3,o4⟩ vars rs h3.core h3.ho)
  rw [hw] at HW
  have H3:=Lib.hid (zM h3 (zM K13 (zM K23 (zM ((Only.of_below hB1).trans ((Only.of_below hB2).trans hO3)) hl1))))
  clear h h1 h2 h3 K1 K2 hB1 hB2 hO3 hc3 K13 K23
  go_enter Try.func32,Try.ntmps32
  go_wp2_with fail
  refine HW.out.mono ?_
  rintro e w' ⟨rfl,hB⟩
  obtain ⟨h3,K13,K23,hO3,hl1⟩:=H3.out
  exact ⟨rfl,rfl,hO3.then_ (below_le hB (by have:=hO3.size;omega))⟩
set_option maxRecDepth 100000 in
set_option maxHeartbeats 2000000 in
theorem does_15 (W:World) (base kb cb:Nat) (o:S74) (vars pc used:Int) (rs:List S32) (stk:Value) (fs:List FrameD) (h:DoesIn W base kb cb o vars pc used rs stk fs) (h0:o.f0=15) :
    Calls Try.prog 32 #[ptr kb] W fun x w' => x=gave 2∧Only cb W w':=by
  have hu32:=Try.underlying32
  have hu34:=Try.underlying34
  have hu35:=Try.underlying35
  have hu37:=Try.underlying37
  have hu39:=Try.underlying39
  have hu74:=Try.underlying74
  have hu88:=Try.underlying88
  have hu95:=Try.underlying95
  have hkb:=blk_lt h.hk
  have hcb:=blk_lt h.hc
  obtain ⟨W1,hW1,K1,hB1⟩:=alz0 W
  obtain ⟨o0,o1,o2,o3,o4⟩:=o
  try dsimp only at *
  subst h0
  have h1:=h.below hB1
  have k0:=zG h1.hk 0
  have k1:=zG h1.hk 1
  have k2:=zG h1.hk 2
  have k3:=zG h1.hk 3
  have k4:=zG h1.hk 4
  have k5:=zG h1.hk 5
  obtain ⟨W2,hW2,K2,hB2⟩:=alz W1 #[.int .i64 15,.int .i64 o1,.int .i64 o2,.int .i64 o3,.int .i64 o4] 74
  have h2:=h1.below hB2
  have g0:=zG h2.hk 0
  have p0:W2.cell? ⟨cb,0,none⟩=some (.int .i64 pc):=zG h2.hc 0
  have p1:=zH h2.hc 0
  obtain ⟨W3,hW3⟩:∃ W3,W2.setCell ⟨cb,0,none⟩ (.int .i64 (wrap64 (pc + 1)))=W3:=⟨_,rfl⟩
  have hO3:Only cb W2 W3:=by rw [← hW3];exact Only.set W2 0 _
  have hc3:W3.heap[cb]?=some (.cells (cpuC (wrap64 (pc + 1)) used rs stk) 37 (0,0)):=by rw [← hW3];exact blk_set h2.hc 0 _
  have h3:=h2.only hO3 hc3
  have hl1:W.heap.size < W1.heap.size:=blk_lt K1
  have K13:=hO3.mid (zE K1 hB2) (by omega) (B:=0)
  have K23:=hO3.mid K2 (by omega) (B:=0)
  have HW:=Lib.hid (worth_calls W3 kb cb ⟨15,o1,o2,o3,o4⟩ vars rs h3.core h3.ho)
  rw [show worthP rs ⟨15,o1,o2,o3,o4⟩=some none by simp [worthP]] at HW
  simp only [told] at HW
  have H3:=Lib.hid (zM h3 (zM K13 (zM K23 (zM ((Only.of_below hB1).trans ((Only.of_below hB2).trans hO3)) hl1))))
  clear h h1 h2 h3 K1 K2 hB1 hB2 hO3 hc3 K13 K23
  have HG:=Lib.hid (give_calls 2)
  go_enter Try.func32,Try.ntmps32
  go_wp2_with fail
  refine HW.out.mono ?_
  rintro e w' ⟨rfl,hB⟩
  obtain ⟨h3,K13,K23,hO3,hl1⟩:=H3.out
  obtain ⟨V4,hV4,M4,hC4⟩:∃ V4,w'.alloc (.cells #[.int .i64 0,.int .i64 0] 32)=V4∧V4.heap[w'.heap.size]?=some (.cells #[.int .i64 0,.int .i64 0] 32 (0,0))∧Below W3.heap.size W3 V4:=⟨_,rfl,heap_alloc_new _ _,bAfter hB (bOne _)⟩
  have y0:=zG M4 0
  have y1:=zG M4 1
  have y2:=zH M4 0
  have y3:=zH M4 1
  obtain ⟨W4,hW4,K4,hC5⟩:=put2n (B:=W3.heap.size) (.int .i64 0) (.int .i64 0) M4 (by have:=hB.size;omega)
  have hB4:=hC4.trans hC5
  have h4:=h3.below hB4
  have K14:=zE K13 hB4
  have K24:=zE K23 hB4
  have hO4:=hO3.then_ (below_le hB4 (by have:=hO3.size;omega))
  have hlw:W1.heap.size < w'.heap.size:=Nat.lt_of_lt_of_le (blk_lt K23) hB.size
  have d0:=zG K24 0
  have d1:=zG K24 1
  have d2:=zG K24 2
  have d3:=zG K24 3
  have w0:=zG K4 0
  have w1:=zG K4 1
  have g4:=zG h4.hk 0
  have p4:W4.cell? ⟨cb,0,none⟩=some (.int .i64 (wrap64 (pc + 1))):=zG h4.hc 0
  have p5:=zH h4.hc 0
  clear M4 hC4 hC5
  have H4:=Lib.hid (zM h4 (zM K14 (zM K24 (zM hO4 hl1))))
  clear h3 K13 K23 hO3 K4 hB4 h4 K14 K24 hO4 hB
  go_wp2_with fail
  refine (HG.out _).mono ?_
  rintro e w'' ⟨rfl,rfl⟩
  exact ⟨rfl,rfl,H4.out.2.2.2.1⟩
set_option maxRecDepth 100000 in
set_option maxHeartbeats 2000000 in
theorem does_16 (W:World) (base kb cb:Nat) (o:S74) (vars pc used:Int) (rs:List S32) (stk:Value) (fs:List FrameD) (h:DoesIn W base kb cb o vars pc used rs stk fs) (h0:o.f0=16) :
    Calls Try.prog 32 #[ptr kb] W fun x w' => x=gave 0∧Only cb W w':=by
  have hu32:=Try.underlying32
  have hu34:=Try.underlying34
  have hu35:=Try.underlying35
  have hu37:=Try.underlying37
  have hu39:=Try.underlying39
  have hu74:=Try.underlying74
  have hu88:=Try.underlying88
  have hu95:=Try.underlying95
  have hkb:=blk_lt h.hk
  have hcb:=blk_lt h.hc
  obtain ⟨W1,hW1,K1,hB1⟩:=alz0 W
  obtain ⟨o0,o1,o2,o3,o4⟩:=o
  try dsimp only at *
  subst h0
  have h1:=h.below hB1
  have k0:=zG h1.hk 0
  have k1:=zG h1.hk 1
  have k2:=zG h1.hk 2
  have k3:=zG h1.hk 3
  have k4:=zG h1.hk 4
  have k5:=zG h1.hk 5
  obtain ⟨W2,hW2,K2,hB2⟩:=alz W1 #[.int .i64 16,.int .i64 o1,.int .i64 o2,.int .i64 o3,.int .i64 o4] 74
  have h2:=h1.below hB2
  have g0:=zG h2.hk 0
  have p0:W2.cell? ⟨cb,0,none⟩=some (.int .i64 pc):=zG h2.hc 0
  have p1:=zH h2.hc 0
  obtain ⟨W3,hW3⟩:∃ W3,W2.setCell ⟨cb,0,none⟩ (.int .i64 (wrap64 (pc + 1)))=W3:=⟨_,rfl⟩
  have hO3:Only cb W2 W3:=by rw [← hW3];exact Only.set W2 0 _
  have hc3:W3.heap[cb]?=some (.cells (cpuC (wrap64 (pc + 1)) used rs stk) 37 (0,0)):=by rw [← hW3];exact blk_set h2.hc 0 _
  have h3:=h2.only hO3 hc3
  have hl1:W.heap.size < W1.heap.size:=blk_lt K1
  have K13:=hO3.mid (zE K1 hB2) (by omega) (B:=0)
  have K23:=hO3.mid K2 (by omega) (B:=0)
  have HW:=Lib.hid (worth_calls W3 kb cb ⟨16,o1,o2,o3,o4⟩ vars rs h3.core h3.ho)
  rw [show worthP rs ⟨16,o1,o2,o3,o4⟩=some none by simp [worthP]] at HW
  simp only [told] at HW
  have H3:=Lib.hid (zM h3 (zM K13 (zM K23 (zM ((Only.of_below hB1).trans ((Only.of_below hB2).trans hO3)) hl1))))
  clear h h1 h2 h3 K1 K2 hB1 hB2 hO3 hc3 K13 K23
  have HG:=Lib.hid (give_calls 0)
  go_enter Try.func32,Try.ntmps32
  go_wp2_with fail
  refine HW.out.mono ?_
  rintro e w' ⟨rfl,hB⟩
  obtain ⟨h3,K13,K23,hO3,hl1⟩:=H3.out
  obtain ⟨V4,hV4,M4,hC4⟩:∃ V4,w'.alloc (.cells #[.int .i64 0,.int .i64 0] 32)=V4∧V4.heap[w'.heap.size]?=some (.cells #[.int .i64 0,.int .i64 0] 32 (0,0))∧Below W3.heap.size W3 V4:=⟨_,rfl,heap_alloc_new _ _,bAfter hB (bOne _)⟩
  have y0:=zG M4 0
  have y1:=zG M4 1
  have y2:=zH M4 0
  have y3:=zH M4 1
  obtain ⟨W4,hW4,K4,hC5⟩:=put2n (B:=W3.heap.size) (.int .i64 0) (.int .i64 0) M4 (by have:=hB.size;omega)
  have hB4:=hC4.trans hC5
  have h4:=h3.below hB4
  have K14:=zE K13 hB4
  have K24:=zE K23 hB4
  have hO4:=hO3.then_ (below_le hB4 (by have:=hO3.size;omega))
  have hlw:W1.heap.size < w'.heap.size:=Nat.lt_of_lt_of_le (blk_lt K23) hB.size
  have d0:=zG K24 0
  have d1:=zG K24 1
  have d2:=zG K24 2
  have d3:=zG K24 3
  have w0:=zG K4 0
  have w1:=zG K4 1
  have g4:=zG h4.hk 0
  have p4:W4.cell? ⟨cb,0,none⟩=some (.int .i64 (wrap64 (pc + 1))):=zG h4.hc 0
  have p5:=zH h4.hc 0
  clear M4 hC4 hC5
  have H4:=Lib.hid (zM h4 (zM K14 (zM K24 (zM hO4 hl1))))
  clear h3 K13 K23 hO3 K4 hB4 h4 K14 K24 hO4 hB
  go_wp2_with fail
  refine (HG.out _).mono ?_
  rintro e w'' ⟨rfl,rfl⟩
  exact ⟨rfl,rfl,H4.out.2.2.2.1⟩
set_option maxRecDepth 100000 in
set_option maxHeartbeats 2000000 in
theorem does_10 (W:World) (base kb cb:Nat) (o:S74) (vars pc used:Int) (rs:List S32) (stk:Value) (fs:List FrameD) (h:DoesIn W base kb cb o vars pc used rs stk fs) (h0:o.f0=10) :
    Calls Try.prog 32 #[ptr kb] W fun x w' => (x=.returned (.agg (askC 0 0 0 0 0 0 0))∧∃ stk,w'.heap[cb]?=some (.cells (cpuC o.f3 used rs stk) 37 (0,0))∧Stk w' base stk fs)∧Only cb W w':=by
  have hu32:=Try.underlying32
  have hu34:=Try.underlying34
  have hu35:=Try.underlying35
  have hu37:=Try.underlying37
  have hu39:=Try.underlying39
  have hu74:=Try.underlying74
  have hu88:=Try.underlying88
  have hu95:=Try.underlying95
  have hkb:=blk_lt h.hk
  have hcb:=blk_lt h.hc
  obtain ⟨W1,hW1,K1,hB1⟩:=alz0 W
  obtain ⟨o0,o1,o2,o3,o4⟩:=o
  try dsimp only at *
  subst h0
  have h1:=h.below hB1
  have k0:=zG h1.hk 0
  have k1:=zG h1.hk 1
  have k2:=zG h1.hk 2
  have k3:=zG h1.hk 3
  have k4:=zG h1.hk 4
  have k5:=zG h1.hk 5
  obtain ⟨W2,hW2,K2,hB2⟩:=alz W1 #[.int .i64 10,.int .i64 o1,.int .i64 o2,.int .i64 o3,.int .i64 o4] 74
  have h2:=h1.below hB2
  have g0:=zG h2.hk 0
  have p0:W2.cell? ⟨cb,0,none⟩=some (.int .i64 pc):=zG h2.hc 0
  have p1:=zH h2.hc 0
  obtain ⟨W3,hW3⟩:∃ W3,W2.setCell ⟨cb,0,none⟩ (.int .i64 (wrap64 (pc + 1)))=W3:=⟨_,rfl⟩
  have hO3:Only cb W2 W3:=by rw [← hW3];exact Only.set W2 0 _
  have hc3:W3.heap[cb]?=some (.cells (cpuC (wrap64 (pc + 1)) used rs stk) 37 (0,0)):=by rw [← hW3];exact blk_set h2.hc 0 _
  have h3:=h2.only hO3 hc3
  have hl1:W.heap.size < W1.heap.size:=blk_lt K1
  have K13:=hO3.mid (zE K1 hB2) (by omega) (B:=0)
  have K23:=hO3.mid K2 (by omega) (B:=0)
  have HW:=Lib.hid (worth_calls W3 kb cb ⟨10,o1,o2,o3,o4⟩ vars rs h3.core h3.ho)
  rw [show worthP rs ⟨10,o1,o2,o3,o4⟩=some none by simp [worthP]] at HW
  simp only [told] at HW
  have H3:=Lib.hid (zM h3 (zM K13 (zM K23 (zM ((Only.of_below hB1).trans ((Only.of_below hB2).trans hO3)) hl1))))
  clear h h1 h2 h3 K1 K2 hB1 hB2 hO3 hc3 K13 K23
  go_enter Try.func32,Try.ntmps32
  go_wp2_with fail
  refine HW.out.mono ?_
  rintro e w' ⟨rfl,hB⟩
  obtain ⟨h3,K13,K23,hO3,hl1⟩:=H3.out
  obtain ⟨V4,hV4,M4,hC4⟩:∃ V4,w'.alloc (.cells #[.int .i64 0,.int .i64 0] 32)=V4∧V4.heap[w'.heap.size]?=some (.cells #[.int .i64 0,.int .i64 0] 32 (0,0))∧Below W3.heap.size W3 V4:=⟨_,rfl,heap_alloc_new _ _,bAfter hB (bOne _)⟩
  have y0:=zG M4 0
  have y1:=zG M4 1
  have y2:=zH M4 0
  have y3:=zH M4 1
  obtain ⟨W4,hW4,K4,hC5⟩:=put2n (B:=W3.heap.size) (.int .i64 0) (.int .i64 0) M4 (by have:=hB.size;omega)
  have hB4:=hC4.trans hC5
  have h4:=h3.below hB4
  have K14:=zE K13 hB4
  have K24:=zE K23 hB4
  have hO4:=hO3.then_ (below_le hB4 (by have:=hO3.size;omega))
  have hlw:W1.heap.size < w'.heap.size:=Nat.lt_of_lt_of_le (blk_lt K23) hB.size
  have d0:=zG K24 0
  have d1:=zG K24 1
  have d2:=zG K24 2
  have d3:=zG K24 3
  have w0:=zG K4 0
  have w1:=zG K4 1
  have g4:=zG h4.hk 0
  have p4:W4.cell? ⟨cb,0,none⟩=some (.int .i64 (wrap64 (pc + 1))):=zG h4.hc 0
  have p5:=zH h4.hc 0
  clear M4 hC4 hC5
  obtain ⟨W5,hW5⟩:∃ W5,(W4.setCell ⟨cb,0,none⟩ (.int .i64 o3)).drew=W5:=⟨_,rfl⟩
  have hc5:W5.heap[cb]?=some (.cells (cpuC o3 used rs stk) 37 (0,0)):=by
    rw [← hW5]
    exact blk_drew (blk_set h4.hc 0 _)
  have hO5:Only cb W4 W5:=by
    rw [← hW5]
    exact (Only.set W4 _ _).trans (Only.of_below (zI (Below.refl _ _) 1))
  have hs5:=h4.hs.only h4.hc (by decide) hO5
  have hE:=zM (hO5.mid K14 (by omega) (B:=0)) (zM hc5 (zM hs5 (hO4.trans hO5)))
  clear h3 K13 K23 hO3 K4 hB4 h4 K14 K24 hO4 hB hc5 hO5 hs5
  go_wp2_with fail
  go_region
  obtain ⟨Wz,hSz,Kz,hOz⟩:=st_whole (P:=Try.prog) (ty:=39) (vs:=(askC 0 0 0 0 0 0 0:Array Value).toList) hE.1 rfl (by rw [size39];rfl) (by simp [Value.oneCell'])
  have HZ:=Lib.hid (zM Kz (zM (hOz.mid hE.2.1 (by omega) (B:=0)) (zM (Stk.only hE.2.2.1 hE.1 (by decide) hOz) (hE.2.2.2.then_ (hOz.below (Nat.le_refl _) hE.2.2.2.size)))))
  clear Kz hOz hE
  simp only [Array.toArray_toList] at hSz HZ
  go_wp2_with (refine wpList_st rfl rfl hSz ?_)
  exact bodyPost_ret (results_c1 rfl _ rfl HZ.out.1 Try.underlying39 rfl (by rw [size39];rfl)) rfl ⟨⟨rfl,_,HZ.out.2.1,HZ.out.2.2.1⟩,HZ.out.2.2.2⟩
set_option maxRecDepth 100000 in
set_option maxHeartbeats 2000000 in
theorem does_13 (W:World) (base kb cb:Nat) (o:S74) (vars pc used:Int) (rs:List S32) (stk:Value) (fs:List FrameD) (h:DoesIn W base kb cb o vars pc used rs stk fs) (h0:o.f0=13) :
    Calls Try.prog 32 #[ptr kb] W fun x w' => (x=.returned (.agg (askC 0 0 0 0 0 0 0))∧∃ stk,w'.heap[cb]?=some (.cells (cpuC (wrap64 (pc + 1)) used rs stk) 37 (0,0))∧Stk w' base stk fs.dropLast)∧Only cb W w':=by
  have hu32:=Try.underlying32
  have hu34:=Try.underlying34
  have hu35:=Try.underlying35
  have hu37:=Try.underlying37
  have hu39:=Try.underlying39
  have hu74:=Try.underlying74
  have hu88:=Try.underlying88
  have hu95:=Try.underlying95
  have hkb:=blk_lt h.hk
  have hcb:=blk_lt h.hc
  obtain ⟨W1,hW1,K1,hB1⟩:=alz0 W
  obtain ⟨o0,o1,o2,o3,o4⟩:=o
  try dsimp only at *
  subst h0
  have h1:=h.below hB1
  have k0:=zG h1.hk 0
  have k1:=zG h1.hk 1
  have k2:=zG h1.hk 2
  have k3:=zG h1.hk 3
  have k4:=zG h1.hk 4
  have k5:=zG h1.hk 5
  obtain ⟨W2,hW2,K2,hB2⟩:=alz W1 #[.int .i64 13,.int .i64 o1,.int .i64 o2,.int .i64 o3,.int .i64 o4] 74
  have h2:=h1.below hB2
  have g0:=zG h2.hk 0
  have p0:W2.cell? ⟨cb,0,none⟩=some (.int .i64 pc):=zG h2.hc 0
  have p1:=zH h2.hc 0
  obtain ⟨W3,hW3⟩:∃ W3,W2.setCell ⟨cb,0,none⟩ (.int .i64 (wrap64 (pc + 1)))=W3:=⟨_,rfl⟩
  have hO3:Only cb W2 W3:=by rw [← hW3];exact Only.set W2 0 _
  have hc3:W3.heap[cb]?=some (.cells (cpuC (wrap64 (pc + 1)) used rs stk) 37 (0,0)):=by rw [← hW3];exact blk_set h2.hc 0 _
  have h3:=h2.only hO3 hc3
  have hl1:W.heap.size < W1.heap.size:=blk_lt K1
  have K13:=hO3.mid (zE K1 hB2) (by omega) (B:=0)
  have K23:=hO3.mid K2 (by omega) (B:=0)
  have HW:=Lib.hid (worth_calls W3 kb cb ⟨13,o1,o2,o3,o4⟩ vars rs h3.core h3.ho)
  rw [show worthP rs ⟨13,o1,o2,o3,o4⟩=some none by simp [worthP]] at HW
  simp only [told] at HW
  have H3:=Lib.hid (zM h3 (zM K13 (zM K23 (zM ((Only.of_below hB1).trans ((Only.of_below hB2).trans hO3)) hl1))))
  clear h h1 h2 h3 K1 K2 hB1 hB2 hO3 hc3 K13 K23
  go_enter Try.func32,Try.ntmps32
  go_wp2_with fail
  refine HW.out.mono ?_
  rintro e w' ⟨rfl,hB⟩
  obtain ⟨h3,K13,K23,hO3,hl1⟩:=H3.out
  obtain ⟨V4,hV4,M4,hC4⟩:∃ V4,w'.alloc (.cells #[.int .i64 0,.int .i64 0] 32)=V4∧V4.heap[w'.heap.size]?=some (.cells #[.int .i64 0,.int .i64 0] 32 (0,0))∧Below W3.heap.size W3 V4:=⟨_,rfl,heap_alloc_new _ _,bAfter hB (bOne _)⟩
  have y0:=zG M4 0
  have y1:=zG M4 1
  have y2:=zH M4 0
  have y3:=zH M4 1
  obtain ⟨W4,hW4,K4,hC5⟩:=put2n (B:=W3.heap.size) (.int .i64 0) (.int .i64 0) M4 (by have:=hB.size;omega)
  have hB4:=hC4.trans hC5
  have h4:=h3.below hB4
  have K14:=zE K13 hB4
  have K24:=zE K23 hB4
  have hO4:=hO3.then_ (below_le hB4 (by have:=hO3.size;omega))
  have hlw:W1.heap.size < w'.heap.size:=Nat.lt_of_lt_of_le (blk_lt K23) hB.size
  have d0:=zG K24 0
  have d1:=zG K24 1
  have d2:=zG K24 2
  have d3:=zG K24 3
  have w0:=zG K4 0
  have w1:=zG K4 1
  have g4:=zG h4.hk 0
  have p4:W4.cell? ⟨cb,0,none⟩=some (.int .i64 (wrap64 (pc + 1))):=zG h4.hc 0
  have p5:=zH h4.hc 0
  clear M4 hC4 hC5
  have HN:=Lib.hid (last_calls W4 base kb cb _ vars _ used rs stk fs h4.hk h4.hc h4.hl h4.hne h4.hs (by have:=h4.hbig;omega) h4.hbase)
  have H4:=Lib.hid (zM h4 (zM K14 (zM K24 (zM hO4 hl1))))
  clear h3 K13 K23 hO3 K4 hB4 h4 K14 K24 hO4 hB
  go_wp2_with fail
  refine HN.out.mono ?_
  rintro e w'' ⟨he,stk2,hc2,hs2,hO2⟩
  obtain ⟨h4,K14,K24,hO4,hl1'⟩:=H4.out
  have hE:=zM (hO2.mid K14 (by omega) (B:=0)) (zM hc2 (zM hs2 (hO4.trans hO2)))
  clear h4 K14 K24 hO4 hc2 hs2 hO2 d0 d1 d2 d3 w0 w1 g4 p4 p5
  obtain ⟨vv,rfl⟩:∃ vv,e=.returned vv:=by
    cases hg:fs.getLast? <;> rw [hg] at he <;> exact ⟨_,he⟩
  clear he
  obtain ⟨Wz,hSz,Kz,hOz⟩:=st_whole (P:=Try.prog) (ty:=39) (vs:=(askC 0 0 0 0 0 0 0:Array Value).toList) hE.1 rfl (by rw [size39];rfl) (by simp [Value.oneCell'])
  have HZ:=Lib.hid (zM Kz (zM (hOz.mid hE.2.1 (by omega) (B:=0)) (zM (Stk.only hE.2.2.1 hE.1 (by decide) hOz) (hE.2.2.2.then_ (hOz.below (Nat.le_refl _) hE.2.2.2.size)))))
  clear Kz hOz hE
  simp only [Array.toArray_toList] at hSz HZ
  go_wp2_with (refine wpList_st rfl rfl hSz ?_)
  exact bodyPost_ret (results_c1 rfl _ rfl HZ.out.1 Try.underlying39 rfl (by rw [size39];rfl)) rfl ⟨⟨rfl,_,HZ.out.2.1,HZ.out.2.2.1⟩,HZ.out.2.2.2⟩
set_option maxRecDepth 100000 in
set_option maxHeartbeats 2000000 in
theorem does_14a (W:World) (base kb cb:Nat) (o:S74) (vars pc used:Int) (rs:List S32) (stk:Value) (fs:List FrameD) (h:DoesIn W base kb cb o vars pc used rs stk fs) (f:FrameD) (h0:o.f0=14) (hf:fs.getLast?=some f) :
    Calls Try.prog 32 #[ptr kb] W fun x w' => (x=.returned (.agg (askC 4 0 0 f.save 0 0 0))∧∃ stk,w'.heap[cb]?=some (.cells (cpuC f.dest used f.rs stk) 37 (0,0))∧Stk w' base stk fs.dropLast)∧Only cb W w':=by
  have hu32:=Try.underlying32
  have hu34:=Try.underlying34
  have hu35:=Try.underlying35
  have hu37:=Try.underlying37
  have hu39:=Try.underlying39
  have hu74:=Try.underlying74
  have hu88:=Try.underlying88
  have hu95:=Try.underlying95
  have hkb:=blk_lt h.hk
  have hcb:=blk_lt h.hc
  obtain ⟨W1,hW1,K1,hB1⟩:=alz0 W
  obtain ⟨o0,o1,o2,o3,o4⟩:=o
  try dsimp only at *
  subst h0
  have h1:=h.below hB1
  have k0:=zG h1.hk 0
  have k1:=zG h1.hk 1
  have k2:=zG h1.hk 2
  have k3:=zG h1.hk 3
  have k4:=zG h1.hk 4
  have k5:=zG h1.hk 5
  obtain ⟨W2,hW2,K2,hB2⟩:=alz W1 #[.int .i64 14,.int .i64 o1,.int .i64 o2,.int .i64 o3,.int .i64 o4] 74
  have h2:=h1.below hB2
  have g0:=zG h2.hk 0
  have p0:W2.cell? ⟨cb,0,none⟩=some (.int .i64 pc):=zG h2.hc 0
  have p1:=zH h2.hc 0
  obtain ⟨W3,hW3⟩:∃ W3,W2.setCell ⟨cb,0,none⟩ (.int .i64 (wrap64 (pc + 1)))=W3:=⟨_,rfl⟩
  have hO3:Only cb W2 W3:=by rw [← hW3];exact Only.set W2 0 _
  have hc3:W3.heap[cb]?=some (.cells (cpuC (wrap64 (pc + 1)) used rs stk) 37 (0,0)):=by rw [← hW3];exact blk_set h2.hc 0 _
  have h3:=h2.only hO3 hc3
  have hl1:W.heap.size < W1.heap.size:=blk_lt K1
  have K13:=hO3.mid (zE K1 hB2) (by omega) (B:=0)
  have K23:=hO3.mid K2 (by omega) (B:=0)
  have HW:=Lib.hid (worth_calls W3 kb cb ⟨14,o1,o2,o3,o4⟩ vars rs h3.core h3.ho)
  rw [show worthP rs ⟨14,o1,o2,o3,o4⟩=some none by simp [worthP]] at HW
  simp only [told] at HW
  have H3:=Lib.hid (zM h3 (zM K13 (zM K23 (zM ((Only.of_below hB1).trans ((Only.of_below hB2).trans hO3)) hl1))))
  clear h h1 h2 h3 K1 K2 hB1 hB2 hO3 hc3 K13 K23
  go_enter Try.func32,Try.ntmps32
  go_wp2_with fail
  refine HW.out.mono ?_
  rintro e w' ⟨rfl,hB⟩
  obtain ⟨h3,K13,K23,hO3,hl1⟩:=H3.out
  obtain ⟨V4,hV4,M4,hC4⟩:∃ V4,w'.alloc (.cells #[.int .i64 0,.int .i64 0] 32)=V4∧V4.heap[w'.heap.size]?=some (.cells #[.int .i64 0,.int .i64 0] 32 (0,0))∧Below W3.heap.size W3 V4:=⟨_,rfl,heap_alloc_new _ _,bAfter hB (bOne _)⟩
  have y0:=zG M4 0
  have y1:=zG M4 1
  have y2:=zH M4 0
  have y3:=zH M4 1
  obtain ⟨W4,hW4,K4,hC5⟩:=put2n (B:=W3.heap.size) (.int .i64 0) (.int .i64 0) M4 (by have:=hB.size;omega)
  have hB4:=hC4.trans hC5
  have h4:=h3.below hB4
  have K14:=zE K13 hB4
  have K24:=zE K23 hB4
  have hO4:=hO3.then_ (below_le hB4 (by have:=hO3.size;omega))
  have hlw:W1.heap.size < w'.heap.size:=Nat.lt_of_lt_of_le (blk_lt K23) hB.size
  have d0:=zG K24 0
  have d1:=zG K24 1
  have d2:=zG K24 2
  have d3:=zG K24 3
  have w0:=zG K4 0
  have w1:=zG K4 1
  have g4:=zG h4.hk 0
  have p4:W4.cell? ⟨cb,0,none⟩=some (.int .i64 (wrap64 (pc + 1))):=zG h4.hc 0
  have p5:=zH h4.hc 0
  clear M4 hC4 hC5
  have HN:=Lib.hid (again_calls W4 base kb cb _ vars _ used rs stk fs h4.hk h4.hc h4.hl h4.hne h4.hs h4.hbig h4.hbase)
  simp only [hf] at HN
  have H4:=Lib.hid (zM h4 (zM K14 (zM K24 (zM hO4 hl1))))
  clear h3 K13 K23 hO3 K4 hB4 h4 K14 K24 hO4 hB
  go_wp2_with fail
  refine HN.out.mono ?_
  rintro e w'' ⟨⟨rfl,h8,stk2,hc2,hs2⟩,hO2⟩
  obtain ⟨h4,K14,K24,hO4,hl1'⟩:=H4.out
  have hE:=zM (hO2.mid K14 (by omega) (B:=0)) (zM hc2 (zM hs2 (hO4.trans hO2)))
  clear h4 K14 K24 hO4 hc2 hs2 hO2 d0 d1 d2 d3 w0 w1 g4 p4 p5
  obtain ⟨Wz,hSz,Kz,hOz⟩:=st_whole (P:=Try.prog) (ty:=39) (vs:=(askC 4 0 0 f.save 0 0 0:Array Value).toList) hE.1 rfl (by rw [size39];rfl) (by simp [Value.oneCell'])
  have HZ:=Lib.hid (zM Kz (zM (hOz.mid hE.2.1 (by omega) (B:=0)) (zM (Stk.only hE.2.2.1 hE.1 (by decide) hOz) (hE.2.2.2.then_ (hOz.below (Nat.le_refl _) hE.2.2.2.size)))))
  clear Kz hOz hE
  simp only [Array.toArray_toList] at hSz HZ
  go_wp2_with (refine wpList_st rfl rfl hSz ?_)
  exact bodyPost_ret (results_c1 rfl _ rfl HZ.out.1 Try.underlying39 rfl (by rw [size39];rfl)) rfl ⟨⟨rfl,_,HZ.out.2.1,HZ.out.2.2.1⟩,HZ.out.2.2.2⟩
set_option maxRecDepth 100000 in
set_option maxHeartbeats 2000000 in
theorem does_14b (W:World) (base kb cb:Nat) (o:S74) (vars pc used:Int) (rs:List S32) (stk:Value) (fs:List FrameD) (h:DoesIn W base kb cb o vars pc used rs stk fs) (h0:o.f0=14) (hf:fs.getLast?=none) :
    Calls Try.prog 32 #[ptr kb] W fun x w' => x=gave 1∧Only cb W w':=by
  have hu32:=Try.underlying32
  have hu34:=Try.underlying34
  have hu35:=Try.underlying35
  have hu37:=Try.underlying37
  have hu39:=Try.underlying39
  have hu74:=Try.underlying74
  have hu88:=Try.underlying88
  have hu95:=Try.underlying95
  have hkb:=blk_lt h.hk
  have hcb:=blk_lt h.hc
  obtain ⟨W1,hW1,K1,hB1⟩:=alz0 W
  obtain ⟨o0,o1,o2,o3,o4⟩:=o
  try dsimp only at *
  subst h0
  have h1:=h.below hB1
  have k0:=zG h1.hk 0
  have k1:=zG h1.hk 1
  have k2:=zG h1.hk 2
  have k3:=zG h1.hk 3
  have k4:=zG h1.hk 4
  have k5:=zG h1.hk 5
  obtain ⟨W2,hW2,K2,hB2⟩:=alz W1 #[.int .i64 14,.int .i64 o1,.int .i64 o2,.int .i64 o3,.int .i64 o4] 74
  have h2:=h1.below hB2
  have g0:=zG h2.hk 0
  have p0:W2.cell? ⟨cb,0,none⟩=some (.int .i64 pc):=zG h2.hc 0
  have p1:=zH h2.hc 0
  obtain ⟨W3,hW3⟩:∃ W3,W2.setCell ⟨cb,0,none⟩ (.int .i64 (wrap64 (pc + 1)))=W3:=⟨_,rfl⟩
  have hO3:Only cb W2 W3:=by rw [← hW3];exact Only.set W2 0 _
  have hc3:W3.heap[cb]?=some (.cells (cpuC (wrap64 (pc + 1)) used rs stk) 37 (0,0)):=by rw [← hW3];exact blk_set h2.hc 0 _
  have h3:=h2.only hO3 hc3
  have hl1:W.heap.size < W1.heap.size:=blk_lt K1
  have K13:=hO3.mid (zE K1 hB2) (by omega) (B:=0)
  have K23:=hO3.mid K2 (by omega) (B:=0)
  have HW:=Lib.hid (worth_calls W3 kb cb ⟨14,o1,o2,o3,o4⟩ vars rs h3.core h3.ho)
  rw [show worthP rs ⟨14,o1,o2,o3,o4⟩=some none by simp [worthP]] at HW
  simp only [told] at HW
  have H3:=Lib.hid (zM h3 (zM K13 (zM K23 (zM ((Only.of_below hB1).trans ((Only.of_below hB2).trans hO3)) hl1))))
  clear h h1 h2 h3 K1 K2 hB1 hB2 hO3 hc3 K13 K23
  go_enter Try.func32,Try.ntmps32
  go_wp2_with fail
  refine HW.out.mono ?_
  rintro e w' ⟨rfl,hB⟩
  obtain ⟨h3,K13,K23,hO3,hl1⟩:=H3.out
  obtain ⟨V4,hV4,M4,hC4⟩:∃ V4,w'.alloc (.cells #[.int .i64 0,.int .i64 0] 32)=V4∧V4.heap[w'.heap.size]?=some (.cells #[.int .i64 0,.int .i64 0] 32 (0,0))∧Below W3.heap.size W3 V4:=⟨_,rfl,heap_alloc_new _ _,bAfter hB (bOne _)⟩
  have y0:=zG M4 0
  have y1:=zG M4 1
  have y2:=zH M4 0
  have y3:=zH M4 1
  obtain ⟨W4,hW4,K4,hC5⟩:=put2n (B:=W3.heap.size) (.int .i64 0) (.int .i64 0) M4 (by have:=hB.size;omega)
  have hB4:=hC4.trans hC5
  have h4:=h3.below hB4
  have K14:=zE K13 hB4
  have K24:=zE K23 hB4
  have hO4:=hO3.then_ (below_le hB4 (by have:=hO3.size;omega))
  have hlw:W1.heap.size < w'.heap.size:=Nat.lt_of_lt_of_le (blk_lt K23) hB.size
  have d0:=zG K24 0
  have d1:=zG K24 1
  have d2:=zG K24 2
  have d3:=zG K24 3
  have w0:=zG K4 0
  have w1:=zG K4 1
  have g4:=zG h4.hk 0
  have p4:W4.cell? ⟨cb,0,none⟩=some (.int .i64 (wrap64 (pc + 1))):=zG h4.hc 0
  have p5:=zH h4.hc 0
  clear M4 hC4 hC5
  have HN:=Lib.hid (again_calls W4 base kb cb _ vars _ used rs stk fs h4.hk h4.hc h4.hl h4.hne h4.hs h4.hbig h4.hbase)
  simp only [hf] at HN
  have H4:=Lib.hid (zM h4 (zM K14 (zM K24 (zM hO4 hl1))))
  clear h3 K13 K23 hO3 K4 hB4 h4 K14 K24 hO4 hB
  go_wp2_with fail
  refine HN.out.mono ?_
  rintro e w'' ⟨rfl,hO2⟩
  exact ⟨rfl,rfl,H4.out.2.2.2.1.trans hO2⟩
set_option maxRecDepth 100000 in
set_option maxHeartbeats 2000000 in
theorem does_11a (W:World) (base kb cb:Nat) (o:S74) (vars pc used:Int) (rs:List S32) (stk:Value) (fs:List FrameD) (h:DoesIn W base kb cb o vars pc used rs stk fs) (h0:o.f0=11) (hn:(regA rs o.f1).f0=1) (hz:(regA rs o.f1).f1=0) :
    Calls Try.prog 32 #[ptr kb] W fun x w' => (x=.returned (.agg (askC 0 0 0 0 0 0 0))∧∃ stk,w'.heap[cb]?=some (.cells (cpuC (wrap64 (pc + 1)) used rs stk) 37 (0,0))∧Stk w' base stk fs)∧Only cb W w':=by
  have hu32:=Try.underlying32
  have hu34:=Try.underlying34
  have hu35:=Try.underlying35
  have hu37:=Try.underlying37
  have hu39:=Try.underlying39
  have hu74:=Try.underlying74
  have hu88:=Try.underlying88
  have hu95:=Try.underlying95
  have hkb:=blk_lt h.hk
  have hcb:=blk_lt h.hc
  obtain ⟨W1,hW1,K1,hB1⟩:=alz0 W
  obtain ⟨o0,o1,o2,o3,o4⟩:=o
  try dsimp only at *
  subst h0
  have h1:=h.below hB1
  have k0:=zG h1.hk 0
  have k1:=zG h1.hk 1
  have k2:=zG h1.hk 2
  have k3:=zG h1.hk 3
  have k4:=zG h1.hk 4
  have k5:=zG h1.hk 5
  obtain ⟨W2,hW2,K2,hB2⟩:=alz W1 #[.int .i64 11,.int .i64 o1,.int .i64 o2,.int .i64 o3,.int .i64 o4] 74
  have h2:=h1.below hB2
  have g0:=zG h2.hk 0
  have p0:W2.cell? ⟨cb,0,none⟩=some (.int .i64 pc):=zG h2.hc 0
  have p1:=zH h2.hc 0
  obtain ⟨W3,hW3⟩:∃ W3,W2.setCell ⟨cb,0,none⟩ (.int .i64 (wrap64 (pc + 1)))=W3:=⟨_,rfl⟩
  have hO3:Only cb W2 W3:=by rw [← hW3];exact Only.set W2 0 _
  have hc3:W3.heap[cb]?=some (.cells (cpuC (wrap64 (pc + 1)) used rs stk) 37 (0,0)):=by rw [← hW3];exact blk_set h2.hc 0 _
  have h3:=h2.only hO3 hc3
  have hl1:W.heap.size < W1.heap.size:=blk_lt K1
  have K13:=hO3.mid (zE K1 hB2) (by omega) (B:=0)
  have K23:=hO3.mid K2 (by omega) (B:=0)
  have HW:=Lib.hid (worth_calls W3 kb cb ⟨11,o1,o2,o3,o4⟩ vars rs h3.core h3.ho)
  rw [show worthP rs ⟨11,o1,o2,o3,o4⟩=some none by simp [worthP]] at HW
  simp only [told] at HW
  have H3:=Lib.hid (zM h3 (zM K13 (zM K23 (zM ((Only.of_below hB1).trans ((Only.of_below hB2).trans hO3)) hl1))))
  clear h h1 h2 h3 K1 K2 hB1 hB2 hO3 hc3 K13 K23
  go_enter Try.func32,Try.ntmps32
  go_wp2_with fail
  refine HW.out.mono ?_
  rintro e w' ⟨rfl,hB⟩
  obtain ⟨h3,K13,K23,hO3,hl1⟩:=H3.out
  obtain ⟨V4,hV4,M4,hC4⟩:∃ V4,w'.alloc (.cells #[.int .i64 0,.int .i64 0] 32)=V4∧V4.heap[w'.heap.size]?=some (.cells #[.int .i64 0,.int .i64 0] 32 (0,0))∧Below W3.heap.size W3 V4:=⟨_,rfl,heap_alloc_new _ _,bAfter hB (bOne _)⟩
  have y0:=zG M4 0
  have y1:=zG M4 1
  have y2:=zH M4 0
  have y3:=zH M4 1
  obtain ⟨W4,hW4,K4,hC5⟩:=put2n (B:=W3.heap.size) (.int .i64 0) (.int .i64 0) M4 (by have:=hB.size;omega)
  have hB4:=hC4.trans hC5
  have h4:=h3.below hB4
  have K14:=zE K13 hB4
  have K24:=zE K23 hB4
  have hO4:=hO3.then_ (below_le hB4 (by have:=hO3.size;omega))
  have hlw:W1.heap.size < w'.heap.size:=Nat.lt_of_lt_of_le (blk_lt K23) hB.size
  have d0:=zG K24 0
  have d1:=zG K24 1
  have d2:=zG K24 2
  have d3:=zG K24 3
  have w0:=zG K4 0
  have w1:=zG K4 1
  have g4:=zG h4.hk 0
  have p4:W4.cell? ⟨cb,0,none⟩=some (.int .i64 (wrap64 (pc + 1))):=zG h4.hc 0
  have p5:=zH h4.hc 0
  clear M4 hC4 hC5
  have HN:=Lib.hid (number_regA h4 o1 h4.ho.a0 h4.ho.a1)
  simp only [hn,hz, if_true,if_false] at HN
  have H4:=Lib.hid (zM h4 (zM K14 (zM K24 (zM hO4 hl1))))
  clear h3 K13 K23 hO3 K4 hB4 h4 K14 K24 hO4 hB
  generalize (regA rs o1).f1=rv at *
  have hfd:∀ W,(Instr.field 32 (.agg #[.int .i64 1,.int .i64 0]) 1).run Try.prog W=.ok (.int .i64 0) W:=by
    intro W
    simp [Instr.field,run_underlying hu32,go_sem,asAgg]
  go_wp2_with fail
  refine HN.out.mono ?_
  rintro e w'' ⟨rfl,hBn⟩
  obtain ⟨h4',K14',K24',hO4',hl1'⟩:=H4.out
  clear d0 d1 d2 d3 w0 w1 g4 p4 p5
  have h4:=h4'.below hBn
  have K14:=zE K14' hBn
  have K24:=zE K24' hBn
  have hO4:=hO4'.then_ (below_le hBn (by have:=hO4'.size;omega))
  have hl4:W1.heap.size < w''.heap.size:=blk_lt K24
  have d3:=zG K24 3
  have g4:=zG h4.hk 0
  have p4:w''.cell? ⟨cb,0,none⟩=some (.int .i64 (wrap64 (pc + 1))):=zG h4.hc 0
  have p5:=zH h4.hc 0
  have hE:=zM K14 (zM h4.hc (zM h4.hs hO4))
  clear h4 K14 K24 hO4 h4' K14' K24' hO4' hBn
  obtain ⟨Wz,hSz,Kz,hOz⟩:=st_whole (P:=Try.prog) (ty:=39) (vs:=(askC 0 0 0 0 0 0 0:Array Value).toList) hE.1 rfl (by rw [size39];rfl) (by simp [Value.oneCell'])
  have HZ:=Lib.hid (zM Kz (zM (hOz.mid hE.2.1 (by omega) (B:=0)) (zM (Stk.only hE.2.2.1 hE.1 (by decide) hOz) (hE.2.2.2.then_ (hOz.below (Nat.le_refl _) hE.2.2.2.size)))))
  clear Kz hOz hE
  simp only [Array.toArray_toList] at hSz HZ
  go_wp2_with (refine wpList_st rfl rfl hSz ?_)
  exact bodyPost_ret (results_c1 rfl _ rfl HZ.out.1 Try.underlying39 rfl (by rw [size39];rfl)) rfl ⟨⟨rfl,_,HZ.out.2.1,HZ.out.2.2.1⟩,HZ.out.2.2.2⟩
set_option maxRecDepth 100000 in
set_option maxHeartbeats 2000000 in
theorem does_11b (W:World) (base kb cb:Nat) (o:S74) (vars pc used:Int) (rs:List S32) (stk:Value) (fs:List FrameD) (h:DoesIn W base kb cb o vars pc used rs stk fs) (h0:o.f0=11) (hn:(regA rs o.f1).f0=1) (hz:¬ (regA rs o.f1).f1=0) :
    Calls Try.prog 32 #[ptr kb] W fun x w' => (x=.returned (.agg (askC 0 0 0 0 0 0 0))∧∃ stk,w'.heap[cb]?=some (.cells (cpuC o.f3 used rs stk) 37 (0,0))∧Stk w' base stk fs)∧Only cb W w':=by
  have hu32:=Try.underlying32
  have hu34:=Try.underlying34
  have hu35:=Try.underlying35
  have hu37:=Try.underlying37
  have hu39:=Try.underlying39
  have hu74:=Try.underlying74
  have hu88:=Try.underlying88
  have hu95:=Try.underlying95
  have hkb:=blk_lt h.hk
  have hcb:=blk_lt h.hc
  obtain ⟨W1,hW1,K1,hB1⟩:=alz0 W
  obtain ⟨o0,o1,o2,o3,o4⟩:=o
  try dsimp only at *
  subst h0
  have h1:=h.below hB1
  have k0:=zG h1.hk 0
  have k1:=zG h1.hk 1
  have k2:=zG h1.hk 2
  have k3:=zG h1.hk 3
  have k4:=zG h1.hk 4
  have k5:=zG h1.hk 5
  obtain ⟨W2,hW2,K2,hB2⟩:=alz W1 #[.int .i64 11,.int .i64 o1,.int .i64 o2,.int .i64 o3,.int .i64 o4] 74
  have h2:=h1.below hB2
  have g0:=zG h2.hk 0
  have p0:W2.cell? ⟨cb,0,none⟩=some (.int .i64 pc):=zG h2.hc 0
  have p1:=zH h2.hc 0
  obtain ⟨W3,hW3⟩:∃ W3,W2.setCell ⟨cb,0,none⟩ (.int .i64 (wrap64 (pc + 1)))=W3:=⟨_,rfl⟩
  have hO3:Only cb W2 W3:=by rw [← hW3];exact Only.set W2 0 _
  have hc3:W3.heap[cb]?=some (.cells (cpuC (wrap64 (pc + 1)) used rs stk) 37 (0,0)):=by rw [← hW3];exact blk_set h2.hc 0 _
  have h3:=h2.only hO3 hc3
  have hl1:W.heap.size < W1.heap.size:=blk_lt K1
  have K13:=hO3.mid (zE K1 hB2) (by omega) (B:=0)
  have K23:=hO3.mid K2 (by omega) (B:=0)
  have HW:=Lib.hid (worth_calls W3 kb cb ⟨11,o1,o2,o3,o4⟩ vars rs h3.core h3.ho)
  rw [show worthP rs ⟨11,o1,o2,o3,o4⟩=some none by simp [worthP]] at HW
  simp only [told] at HW
  have H3:=Lib.hid (zM h3 (zM K13 (zM K23 (zM ((Only.of_below hB1).trans ((Only.of_below hB2).trans hO3)) hl1))))
  clear h h1 h2 h3 K1 K2 hB1 hB2 hO3 hc3 K13 K23
  go_enter Try.func32,Try.ntmps32
  go_wp2_with fail
  refine HW.out.mono ?_
  rintro e w' ⟨rfl,hB⟩
  obtain ⟨h3,K13,K23,hO3,hl1⟩:=H3.out
  obtain ⟨V4,hV4,M4,hC4⟩:∃ V4,w'.alloc (.cells #[.int .i64 0,.int .i64 0] 32)=V4∧V4.heap[w'.heap.size]?=some (.cells #[.int .i64 0,.int .i64 0] 32 (0,0))∧Below W3.heap.size W3 V4:=⟨_,rfl,heap_alloc_new _ _,bAfter hB (bOne _)⟩
  have y0:=zG M4 0
  have y1:=zG M4 1
  have y2:=zH M4 0
  have y3:=zH M4 1
  obtain ⟨W4,hW4,K4,hC5⟩:=put2n (B:=W3.heap.size) (.int .i64 0) (.int .i64 0) M4 (by have:=hB.size;omega)
  have hB4:=hC4.trans hC5
  have h4:=h3.below hB4
  have K14:=zE K13 hB4
  have K24:=zE K23 hB4
  have hO4:=hO3.then_ (below_le hB4 (by have:=hO3.size;omega))
  have hlw:W1.heap.size < w'.heap.size:=Nat.lt_of_lt_of_le (blk_lt K23) hB.size
  have d0:=zG K24 0
  have d1:=zG K24 1
  have d2:=zG K24 2
  have d3:=zG K24 3
  have w0:=zG K4 0
  have w1:=zG K4 1
  have g4:=zG h4.hk 0
  have p4:W4.cell? ⟨cb,0,none⟩=some (.int .i64 (wrap64 (pc + 1))):=zG h4.hc 0
  have p5:=zH h4.hc 0
  clear M4 hC4 hC5
  have HN:=Lib.hid (number_regA h4 o1 h4.ho.a0 h4.ho.a1)
  simp only [hn, if_true,if_false] at HN
  have H4:=Lib.hid (zM h4 (zM K14 (zM K24 (zM hO4 hl1))))
  clear h3 K13 K23 hO3 K4 hB4 h4 K14 K24 hO4 hB
  generalize (regA rs o1).f1=rv at *
  have hfd:∀ W,(Instr.field 32 (.agg #[.int .i64 1,.int .i64 rv]) 1).run Try.prog W=.ok (.int .i64 rv) W:=by
    intro W
    simp [Instr.field,run_underlying hu32,go_sem,asAgg]
  go_wp2_with fail
  refine HN.out.mono ?_
  rintro e w'' ⟨rfl,hBn⟩
  obtain ⟨h4',K14',K24',hO4',hl1'⟩:=H4.out
  clear d0 d1 d2 d3 w0 w1 g4 p4 p5
  have h4:=h4'.below hBn
  have K14:=zE K14' hBn
  have K24:=zE K24' hBn
  have hO4:=hO4'.then_ (below_le hBn (by have:=hO4'.size;omega))
  have hl4:W1.heap.size < w''.heap.size:=blk_lt K24
  have d3:=zG K24 3
  have g4:=zG h4.hk 0
  have p4:w''.cell? ⟨cb,0,none⟩=some (.int .i64 (wrap64 (pc + 1))):=zG h4.hc 0
  have p5:=zH h4.hc 0
  obtain ⟨W5,hW5⟩:∃ W5,(w''.setCell ⟨cb,0,none⟩ (.int .i64 o3)).drew=W5:=⟨_,rfl⟩
  have hc5:W5.heap[cb]?=some (.cells (cpuC o3 used rs stk) 37 (0,0)):=by
    rw [← hW5]
    exact blk_drew (blk_set h4.hc 0 _)
  have hO5:Only cb w'' W5:=by
    rw [← hW5]
    exact (Only.set w'' _ _).trans (Only.of_below (zI (Below.refl _ _) 1))
  have hs5:=h4.hs.only h4.hc (by decide) hO5
  have hE:=zM (hO5.mid K14 (by omega) (B:=0)) (zM hc5 (zM hs5 (hO4.trans hO5)))
  clear h4 K14 K24 hO4 h4' K14' K24' hO4' hBn hc5 hO5 hs5
  go_wp2_with fail
  go_region
  obtain ⟨Wz,hSz,Kz,hOz⟩:=st_whole (P:=Try.prog) (ty:=39) (vs:=(askC 0 0 0 0 0 0 0:Array Value).toList) hE.1 rfl (by rw [size39];rfl) (by simp [Value.oneCell'])
  have HZ:=Lib.hid (zM Kz (zM (hOz.mid hE.2.1 (by omega) (B:=0)) (zM (Stk.only hE.2.2.1 hE.1 (by decide) hOz) (hE.2.2.2.then_ (hOz.below (Nat.le_refl _) hE.2.2.2.size)))))
  clear Kz hOz hE
  simp only [Array.toArray_toList] at hSz HZ
  go_wp2_with (refine wpList_st rfl rfl hSz ?_)
  exact bodyPost_ret (results_c1 rfl _ rfl HZ.out.1 Try.underlying39 rfl (by rw [size39];rfl)) rfl ⟨⟨rfl,_,HZ.out.2.1,HZ.out.2.2.1⟩,HZ.out.2.2.2⟩
set_option maxRecDepth 100000 in
set_option maxHeartbeats 2000000 in
theorem does_11c (W:World) (base kb cb:Nat) (o:S74) (vars pc used:Int) (rs:List S32) (stk:Value) (fs:List FrameD) (h:DoesIn W base kb cb o vars pc used rs stk fs) (h0:o.f0=11) (hn:¬ (regA rs o.f1).f0=1) :
    Calls Try.prog 32 #[ptr kb] W fun x w' => x=gave 4∧Only cb W w':=by
  have hu32:=Try.underlying32
  have hu34:=Try.underlying34
  have hu35:=Try.underlying35
  have hu37:=Try.underlying37
  have hu39:=Try.underlying39
  have hu74:=Try.underlying74
  have hu88:=Try.underlying88
  have hu95:=Try.underlying95
  have hkb:=blk_lt h.hk
  have hcb:=blk_lt h.hc
  obtain ⟨W1,hW1,K1,hB1⟩:=alz0 W
  obtain ⟨o0,o1,o2,o3,o4⟩:=o
  try dsimp only at *
  subst h0
  have h1:=h.below hB1
  have k0:=zG h1.hk 0
  have k1:=zG h1.hk 1
  have k2:=zG h1.hk 2
  have k3:=zG h1.hk 3
  have k4:=zG h1.hk 4
  have k5:=zG h1.hk 5
  obtain ⟨W2,hW2,K2,hB2⟩:=alz W1 #[.int .i64 11,.int .i64 o1,.int .i64 o2,.int .i64 o3,.int .i64 o4] 74
  have h2:=h1.below hB2
  have g0:=zG h2.hk 0
  have p0:W2.cell? ⟨cb,0,none⟩=some (.int .i64 pc):=zG h2.hc 0
  have p1:=zH h2.hc 0
  obtain ⟨W3,hW3⟩:∃ W3,W2.setCell ⟨cb,0,none⟩ (.int .i64 (wrap64 (pc + 1)))=W3:=⟨_,rfl⟩
  have hO3:Only cb W2 W3:=by rw [← hW3];exact Only.set W2 0 _
  have hc3:W3.heap[cb]?=some (.cells (cpuC (wrap64 (pc + 1)) used rs stk) 37 (0,0)):=by rw [← hW3];exact blk_set h2.hc 0 _
  have h3:=h2.only hO3 hc3
  have hl1:W.heap.size < W1.heap.size:=blk_lt K1
  have K13:=hO3.mid (zE K1 hB2) (by omega) (B:=0)
  have K23:=hO3.mid K2 (by omega) (B:=0)
  have HW:=Lib.hid (worth_calls W3 kb cb ⟨11,o1,o2,o3,o4⟩ vars rs h3.core h3.ho)
  rw [show worthP rs ⟨11,o1,o2,o3,o4⟩=some none by simp [worthP]] at HW
  simp only [told] at HW
  have H3:=Lib.hid (zM h3 (zM K13 (zM K23 (zM ((Only.of_below hB1).trans ((Only.of_below hB2).trans hO3)) hl1))))
  clear h h1 h2 h3 K1 K2 hB1 hB2 hO3 hc3 K13 K23
  go_enter Try.func32,Try.ntmps32
  go_wp2_with fail
  refine HW.out.mono ?_
  rintro e w' ⟨rfl,hB⟩
  obtain ⟨h3,K13,K23,hO3,hl1⟩:=H3.out
  obtain ⟨V4,hV4,M4,hC4⟩:∃ V4,w'.alloc (.cells #[.int .i64 0,.int .i64 0] 32)=V4∧V4.heap[w'.heap.size]?=some (.cells #[.int .i64 0,.int .i64 0] 32 (0,0))∧Below W3.heap.size W3 V4:=⟨_,rfl,heap_alloc_new _ _,bAfter hB (bOne _)⟩
  have y0:=zG M4 0
  have y1:=zG M4 1
  have y2:=zH M4 0
  have y3:=zH M4 1
  obtain ⟨W4,hW4,K4,hC5⟩:=put2n (B:=W3.heap.size) (.int .i64 0) (.int .i64 0) M4 (by have:=hB.size;omega)
  have hB4:=hC4.trans hC5
  have h4:=h3.below hB4
  have K14:=zE K13 hB4
  have K24:=zE K23 hB4
  have hO4:=hO3.then_ (below_le hB4 (by have:=hO3.size;omega))
  have hlw:W1.heap.size < w'.heap.size:=Nat.lt_of_lt_of_le (blk_lt K23) hB.size
  have d0:=zG K24 0
  have d1:=zG K24 1
  have d2:=zG K24 2
  have d3:=zG K24 3
  have w0:=zG K4 0
  have w1:=zG K4 1
  have g4:=zG h4.hk 0
  have p4:W4.cell? ⟨cb,0,none⟩=some (.int .i64 (wrap64 (pc + 1))):=zG h4.hc 0
  have p5:=zH h4.hc 0
  clear M4 hC4 hC5
  have HN:=Lib.hid (number_regA h4 o1 h4.ho.a0 h4.ho.a1)
  simp only [hn, if_true,if_false] at HN
  have H4:=Lib.hid (zM h4 (zM K14 (zM K24 (zM hO4 hl1))))
  clear h3 K13 K23 hO3 K4 hB4 h4 K14 K24 hO4 hB
  go_wp2_with fail
  refine HN.out.mono ?_
  rintro e w'' ⟨rfl,hBn⟩
  exact ⟨rfl,rfl,H4.out.2.2.2.1.then_ (below_le hBn (by have:=H4.out.2.2.2.1.size;omega))⟩
/-- A row of one frame, laid by a literal. -/
def LaidF (f:FrameD) (W:World) (v:Value):Prop:=∃ b,v=.slice (some ⟨b,0,none⟩) 1 1∧W.heap[b]?=some (.cells (fc f).toArray 88 (0,0))
theorem stable_laidF (f:FrameD):GR.Stable RB (LaidF f):=by
  rintro W W' v ⟨b,rfl,hc⟩ h
  exact ⟨b,rfl,zE hc h⟩
theorem laidF_of {f:FrameD} {W:World} {b:Nat} (h:LaidF f W (.slice (some ⟨b,0,none⟩) 1 1)):W.heap[b]?=some (.cells (fc f).toArray 88 (0,0)):=by
  obtain ⟨b',e,hK⟩:=h
  injection e with e
  injection e with e
  injection e with e
  subst e
  exact hK
theorem append_rel {P:Program} {ops:Array Oper} {o:Oper} {a:Act} {W:World} {d:Tmp} {s x:Operand} {t:TypeId} (ho:o.op=.call { callee:=.builtin .append,args:=#[s,x],argTypes:=#[t,t] }) (hgd:o.guard=none) (hd:o.dst=some d) (hsz:d < a.tmps.size) (Good:Value → World → Prop)
    (h:wpList P ops (fun e a' w' => match e with | .normal => ∃ v,a'.tmps[d]?=some v∧Good v w' | _ => False) [o] a W):∃ v w',(execOp a.eval o).run P W=.ok (.value v) w'∧Good v w':=by
  unfold wpList at h
  rw [if_pos (by simp [Region.wanted,hgd])] at h
  rcases h with h | ⟨_,aa,ww,hl⟩
  · unfold Oper.wp at h
    have hr:(execOp a.eval o).run P W=((Builtin.append_ #[t,t] o.type #[a.eval s,a.eval x]).run P W).andThen fun v w' => .ok (.value v) w':=by simp [execOp,ho,resolve,invoke,builtin]
    rw [hr] at h ⊢
    cases hq:(Builtin.append_ #[t,t] o.type #[a.eval s,a.eval x]).run P W with
    | ok v w' =>
      rw [hq] at h
      simp only [Result.andThen,Oper.upon,hd,wpList] at h ⊢
      obtain ⟨v',h1,h2⟩:=h
      rw [GR.get_put_same _ _ _ hsz] at h1
      injection h1 with h1
      subst h1
      exact ⟨v,w',rfl,h2⟩
    | halt y w' =>
      rw [hq] at h
      cases y <;> exact h.elim
  · exact hl.elim
set_option maxRecDepth 100000 in
set_option maxHeartbeats 2000000 in
theorem does_12a (W:World) (base kb cb:Nat) (o:S74) (vars pc used:Int) (rs:List S32) (stk:Value) (fs:List FrameD) (h:DoesIn W base kb cb o vars pc used rs stk fs) (h0:o.f0=12) (hv:¬ 16 ≤ fs.length) :
    Calls Try.prog 32 #[ptr kb] W fun x w' => (x=.returned (.agg (askC 3 0 0 0 0 0 0))∧∃ stk,w'.heap[cb]?=some (.cells (cpuC (wrap64 (pc + 1)) used rs stk) 37 (0,0))∧Stk w' base stk (fs ++ [⟨o.f3,0,rs⟩]))∧Only cb W w':=by
  have hu32:=Try.underlying32
  have hu34:=Try.underlying34
  have hu35:=Try.underlying35
  have hu37:=Try.underlying37
  have hu39:=Try.underlying39
  have hu74:=Try.underlying74
  have hu88:=Try.underlying88
  have hu95:=Try.underlying95
  have hkb:=blk_lt h.hk
  have hcb:=blk_lt h.hc
  obtain ⟨W1,hW1,K1,hB1⟩:=alz0 W
  obtain ⟨o0,o1,o2,o3,o4⟩:=o
  try dsimp only at *
  subst h0
  have h1:=h.below hB1
  have k0:=zG h1.hk 0
  have k1:=zG h1.hk 1
  have k2:=zG h1.hk 2
  have k3:=zG h1.hk 3
  have k4:=zG h1.hk 4
  have k5:=zG h1.hk 5
  obtain ⟨W2,hW2,K2,hB2⟩:=alz W1 #[.int .i64 12,.int .i64 o1,.int .i64 o2,.int .i64 o3,.int .i64 o4] 74
  have h2:=h1.below hB2
  have g0:=zG h2.hk 0
  have p0:W2.cell? ⟨cb,0,none⟩=some (.int .i64 pc):=zG h2.hc 0
  have p1:=zH h2.hc 0
  obtain ⟨W3,hW3⟩:∃ W3,W2.setCell ⟨cb,0,none⟩ (.int .i64 (wrap64 (pc + 1)))=W3:=⟨_,rfl⟩
  have hO3:Only cb W2 W3:=by rw [← hW3];exact Only.set W2 0 _
  have hc3:W3.heap[cb]?=some (.cells (cpuC (wrap64 (pc + 1)) used rs stk) 37 (0,0)):=by rw [← hW3];exact blk_set h2.hc 0 _
  have h3:=h2.only hO3 hc3
  have hl1:W.heap.size < W1.heap.size:=blk_lt K1
  have K13:=hO3.mid (zE K1 hB2) (by omega) (B:=0)
  have K23:=hO3.mid K2 (by omega) (B:=0)
  have HW:=Lib.hid (worth_calls W3 kb cb ⟨12,o1,o2,o3,o4⟩ vars rs h3.core h3.ho)
  rw [show worthP rs ⟨12,o1,o2,o3,o4⟩=some none by simp [worthP]] at HW
  simp only [told] at HW
  have H3:=Lib.hid (zM h3 (zM K13 (zM K23 (zM ((Only.of_below hB1).trans ((Only.of_below hB2).trans hO3)) hl1))))
  clear h h1 h2 h3 K1 K2 hB1 hB2 hO3 hc3 K13 K23
  obtain ⟨A,c,rfl,hle,-⟩:=Kd.R_reads H3.out.1.hs
  obtain ⟨a0,b0,a1,b1,a2,b2,a3,b3,a4,b4,a5,b5,a6,b6,a7,b7,rfl⟩:=eight H3.out.1.hl
  go_enter Try.func32,Try.ntmps32
  go_wp2_with fail
  refine HW.out.mono ?_
  rintro e w' ⟨rfl,hB⟩
  obtain ⟨h3,K13,K23,hO3,hl1⟩:=H3.out
  obtain ⟨V4,hV4,M4,hC4⟩:∃ V4,w'.alloc (.cells #[.int .i64 0,.int .i64 0] 32)=V4∧V4.heap[w'.heap.size]?=some (.cells #[.int .i64 0,.int .i64 0] 32 (0,0))∧Below W3.heap.size W3 V4:=⟨_,rfl,heap_alloc_new _ _,bAfter hB (bOne _)⟩
  have y0:=zG M4 0
  have y1:=zG M4 1
  have y2:=zH M4 0
  have y3:=zH M4 1
  obtain ⟨W4,hW4,K4,hC5⟩:=put2n (B:=W3.heap.size) (.int .i64 0) (.int .i64 0) M4 (by have:=hB.size;omega)
  have hB4:=hC4.trans hC5
  have h4:=h3.below hB4
  have K14:=zE K13 hB4
  have K24:=zE K23 hB4
  have hO4:=hO3.then_ (below_le hB4 (by have:=hO3.size;omega))
  have hlw:W1.heap.size < w'.heap.size:=Nat.lt_of_lt_of_le (blk_lt K23) hB.size
  have d0:=zG K24 0
  have d1:=zG K24 1
  have d2:=zG K24 2
  have d3:=zG K24 3
  have w0:=zG K4 0
  have w1:=zG K4 1
  have g4:=zG h4.hk 0
  have p4:W4.cell? ⟨cb,0,none⟩=some (.int .i64 (wrap64 (pc + 1))):=zG h4.hc 0
  have p5:=zH h4.hc 0
  clear M4 hC4 hC5
  have s4:W4.cell? ⟨cb,18,none⟩=some (.slice A fs.length c):=(zG h4.hc 18).trans (cpuC_stk h4.hl)
  have hv2:¬ (16:Int) ≤ fs.length:=by omega
  have q3:∀ W',Below W4.heap.size W4 W' → W'.cell? ⟨W1.heap.size,3,none⟩=some (.int .i64 o3):=fun W' hB => zG (zE K24 hB) 3
  have q4:∀ W',Below W4.heap.size W4 W' → W'.cell? ⟨kb,0,none⟩=some (ptr cb):=fun W' hB => zG (zE h4.hk hB) 0
  have q5:∀ W',Below W4.heap.size W4 W' → W'.cell? ⟨cb,18,none⟩=some (.slice A fs.length c):=fun W' hB => (zG (zE h4.hc hB) 18).trans (cpuC_stk h4.hl)
  have q6:∀ W',Below W4.heap.size W4 W' → (Instr.loadAt 34 (.pointer (some ⟨cb,2,none⟩))).run Try.prog W'=.ok (.agg #[.int .i64 a0,.int .i64 b0,.int .i64 a1,.int .i64 b1,.int .i64 a2,.int .i64 b2,.int .i64 a3,.int .i64 b3,.int .i64 a4,.int .i64 b4,.int .i64 a5,.int .i64 b5,.int .i64 a6,.int .i64 b6,.int .i64 a7,.int .i64 b7]) W':=fun W' hB => ld_range (cs:=rc [⟨a0,b0⟩,⟨a1,b1⟩,⟨a2,b2⟩,⟨a3,b3⟩,⟨a4,b4⟩,⟨a5,b5⟩,⟨a6,b6⟩,⟨a7,b7⟩]) (range_of (pre:=[.int .i64 (wrap64 (pc + 1)),.int .i64 used]) (post:=[.slice A fs.length c]) (t:=37) (fr:=(0,0)) (by simpa [cpuC] using zE h4.hc hB)) hu34 rfl (by rw [size34];rfl)
  have hA0:A=none → fs.length=0:=by
    rintro rfl
    rw [C_emptyF (Kd.R_reads' h4.hs).2.2]
    rfl
  have H4:=Lib.hid (zM h4 (zM K14 (zM K24 (zM hO4 hl1))))
  clear h3 K13 K23 hO3 K4 hB4 h4 K14 K24 hO4 hB
  go_wp2_with fail
  apply GR.wp_region_grow (R:=RB) 26 (by kernel_rfl) (by kernel_rfl) (by kernel_rfl)
  · intro c a d v w h;cases d <;> exact h
  simp only [List.take_succ_cons,List.take_zero,List.drop_succ_cons,List.drop_zero]
  iterate 11
    apply GR.gw_val (by rfl)
    · (intro W' hB hD;have e3:=q3 W' hB;have e4:=q4 W' hB;have e5:=q5 W' hB;go_simp;first | done | rfl)
    simp only [Act.put,zJ,zK,zL]
  apply GR.gw_call (by rfl)
  · (intro W' hB hD;go_simp;first | done | rfl | exact ⟨rfl,rfl⟩)
  · (intro W' hB hD;exact (clip_frames A fs.length c W' hA0 hle).mono fun e w' hh => ⟨hh.1,by rw [hh.2];exact Below.refl _ _⟩)
  simp only [Act.put,zJ,zK,zL]
  iterate 8
    apply GR.gw_val (by rfl)
    · (intro W' hB hD;have e3:=q3 W' hB;have e4:=q4 W' hB;have e5:=q5 W' hB;go_simp;first | done | rfl)
    simp only [Act.put,zJ,zK,zL]
  apply GR.gw_val (by rfl)
  · (intro W' hB hD;exact exec_ld rfl (q6 W' hB))
  simp only [Act.put,zJ,zK,zL]
  iterate 1
    apply GR.gw_val (by rfl)
    · (intro W' hB hD;have e3:=q3 W' hB;have e4:=q4 W' hB;have e5:=q5 W' hB;go_simp;first | done | rfl)
    simp only [Act.put,zJ,zK,zL]
  apply GR.gw_rel (stable_laidF ⟨o3,0,[⟨a0,b0⟩,⟨a1,b1⟩,⟨a2,b2⟩,⟨a3,b3⟩,⟨a4,b4⟩,⟨a5,b5⟩,⟨a6,b6⟩,⟨a7,b7⟩]⟩) (by rfl)
  · intro W' hB hD
    refine ⟨_,W'.alloc (.cells #[.int .i64 o3,.int .i64 0,.int .i64 a0,.int .i64 b0,.int .i64 a1,.int .i64 b1,.int .i64 a2,.int .i64 b2,.int .i64 a3,.int .i64 b3,.int .i64 a4,.int .i64 b4,.int .i64 a5,.int .i64 b5,.int .i64 a6,.int .i64 b6,.int .i64 a7,.int .i64 b7] 88),?_,bOne _,⟨W'.heap.size,rfl,heap_alloc_new _ _⟩⟩
    go_simp
    first | done | rfl
  rintro v ⟨Wv,b,rfl,-⟩
  simp only [Act.put,zJ,zK,zL]
  apply GR.gw_rel (stable_Stk W4.heap.size (fs ++ [(⟨o3,0,[⟨a0,b0⟩,⟨a1,b1⟩,⟨a2,b2⟩,⟨a3,b3⟩,⟨a4,b4⟩,⟨a5,b5⟩,⟨a6,b6⟩,⟨a7,b7⟩]⟩:FrameD)])) (by rfl)
  · intro W' hB hD
    have hK:LaidF ⟨o3,0,[⟨a0,b0⟩,⟨a1,b1⟩,⟨a2,b2⟩,⟨a3,b3⟩,⟨a4,b4⟩,⟨a5,b5⟩,⟨a6,b6⟩,⟨a7,b7⟩]⟩ W' (.slice (some ⟨b,0,none⟩) 1 1):=by simp [GR.depFacts,Region.binds] at hD;exact hD
    have hK:=laidF_of hK
    have hX:=(Kd.R_reads' (H4.out.1.hs.below hB)).2.2
    refine append_rel (ops:=#[]) (d:=127) rfl rfl rfl (by simp) (fun v w2 => RB W' w2∧Stk w2 W4.heap.size v (fs ++ [(⟨o3,0,[⟨a0,b0⟩,⟨a1,b1⟩,⟨a2,b2⟩,⟨a3,b3⟩,⟨a4,b4⟩,⟨a5,b5⟩,⟨a6,b6⟩,⟨a7,b7⟩]⟩:FrameD)])) ?_
    refine R_append_clip kF (w0:=W') W'.heap.size rfl _ _ 35 88 _ _ rfl hu35 info88 rfl (by decide) (by decide) A fs.length fs ⟨o3,0,[⟨a0,b0⟩,⟨a1,b1⟩,⟨a2,b2⟩,⟨a3,b3⟩,⟨a4,b4⟩,⟨a5,b5⟩,⟨a6,b6⟩,⟨a7,b7⟩]⟩ (fc ⟨o3,0,[⟨a0,b0⟩,⟨a1,b1⟩,⟨a2,b2⟩,⟨a3,b3⟩,⟨a4,b4⟩,⟨a5,b5⟩,⟨a6,b6⟩,⟨a7,b7⟩]⟩) b 1 rfl rfl hX ?qc2 ?qc3 ?qc4 (Below.refl _ _) (Nat.le_refl _) (by omega) ?_
    case qc2 => exact fun j u hj => (zG hK j).trans (by simpa using hj)
    case qc3 => exact ⟨rfl,rfl⟩
    case qc4 => exact fun _ ok x cs h => h
    intro v1 w3 hR hB3 hB4
    exact ⟨v1,rfl,hB4,Kd.R_lower hR hB.size⟩
  rintro v -
  simp only [Act.put,zJ,zK,zL]
  iterate 2
    apply GR.gw_val (by rfl)
    · (intro W' hB hD;have e3:=q3 W' hB;have e4:=q4 W' hB;have e5:=q5 W' hB;go_simp;first | done | rfl)
    simp only [Act.put,zJ,zK,zL]
  apply GR.gw_nil
  intro w3 hW hF hP
  have hR:=hF (fun W => Stk W W4.heap.size v (fs ++ [⟨o3,0,[⟨a0,b0⟩,⟨a1,b1⟩,⟨a2,b2⟩,⟨a3,b3⟩,⟨a4,b4⟩,⟨a5,b5⟩,⟨a6,b6⟩,⟨a7,b7⟩]⟩])) (by simp)
  clear hF hP
  obtain ⟨A3,c3,rfl⟩:=Kd.R_slice hR
  obtain ⟨h4,K14,K24,hO4,hl1'⟩:=H4.out
  have h6:=h4.below hW
  have g6:=(zG h6.hc 18).trans (cpuC_stk h6.hl)
  have g7:=zH h6.hc 18
  rw [List.length_append,List.length_singleton]
  obtain ⟨W6,hW6⟩:∃ W6,w3.setCell ⟨cb,18,none⟩ (.slice A3 (fs.length + 1) c3)=W6:=⟨_,rfl⟩
  have hO6:Only cb w3 W6:=by rw [← hW6];exact Only.set w3 18 _
  have hc6:W6.heap[cb]?=some (.cells (cpuC (wrap64 (pc + 1)) used [⟨a0,b0⟩,⟨a1,b1⟩,⟨a2,b2⟩,⟨a3,b3⟩,⟨a4,b4⟩,⟨a5,b5⟩,⟨a6,b6⟩,⟨a7,b7⟩] (.slice A3 (fs.length + 1) c3)) 37 (0,0)):=by
    rw [← hW6,← cpuC_setStk _ h6.hl]
    exact blk_set h6.hc 18 _
  have hs6:Stk W6 base (.slice A3 (fs.length + 1) c3) (fs ++ [⟨o3,0,[⟨a0,b0⟩,⟨a1,b1⟩,⟨a2,b2⟩,⟨a3,b3⟩,⟨a4,b4⟩,⟨a5,b5⟩,⟨a6,b6⟩,⟨a7,b7⟩]⟩]):=by
    have:=Stk.only (Kd.R_lower hR (show base ≤ W4.heap.size from h4.hbase)) h6.hc (by decide) hO6
    simpa using this
  have hE:=zM (hO6.mid (zE K14 hW) (by omega) (B:=0)) (zM hc6 (zM hs6 ((hO4.then_ (below_le hW (by have:=hO4.size;omega))).trans hO6)))
  clear h4 K14 K24 hO4 h6 hO6 hc6 hs6 hR hW q3 q4 q5 q6 d0 d1 d2 d3 w0 w1 g4 p4 p5
  obtain ⟨Wz,hSz,Kz,hOz⟩:=st_whole (P:=Try.prog) (ty:=39) (vs:=(askC 3 0 0 0 0 0 0:Array Value).toList) hE.1 rfl (by rw [size39];rfl) (by simp [Value.oneCell'])
  have HZ:=Lib.hid (zM Kz (zM (hOz.mid hE.2.1 (by omega) (B:=0)) (zM (Stk.only hE.2.2.1 hE.1 (by decide) hOz) (hE.2.2.2.then_ (hOz.below (Nat.le_refl _) hE.2.2.2.size)))))
  clear Kz hOz hE
  simp only [Array.toArray_toList] at hSz HZ
  go_wp2_with (refine wpList_st rfl rfl hSz ?_)
  exact bodyPost_ret (results_c1 rfl _ rfl HZ.out.1 Try.underlying39 rfl (by rw [size39];rfl)) rfl ⟨⟨rfl,_,HZ.out.2.1,HZ.out.2.2.1⟩,HZ.out.2.2.2⟩
set_option maxRecDepth 100000 in
set_option maxHeartbeats 2000000 in
theorem does_12b (W:World) (base kb cb:Nat) (o:S74) (vars pc used:Int) (rs:List S32) (stk:Value) (fs:List FrameD) (h:DoesIn W base kb cb o vars pc used rs stk fs) (h0:o.f0=12) (hv:16 ≤ fs.length) :
    Calls Try.prog 32 #[ptr kb] W fun x w' => x=gave 5∧Only cb W w':=by
  have hu32:=Try.underlying32
  have hu34:=Try.underlying34
  have hu35:=Try.underlying35
  have hu37:=Try.underlying37
  have hu39:=Try.underlying39
  have hu74:=Try.underlying74
  have hu88:=Try.underlying88
  have hu95:=Try.underlying95
  have hkb:=blk_lt h.hk
  have hcb:=blk_lt h.hc
  obtain ⟨W1,hW1,K1,hB1⟩:=alz0 W
  obtain ⟨o0,o1,o2,o3,o4⟩:=o
  try dsimp only at *
  subst h0
  have h1:=h.below hB1
  have k0:=zG h1.hk 0
  have k1:=zG h1.hk 1
  have k2:=zG h1.hk 2
  have k3:=zG h1.hk 3
  have k4:=zG h1.hk 4
  have k5:=zG h1.hk 5
  obtain ⟨W2,hW2,K2,hB2⟩:=alz W1 #[.int .i64 12,.int .i64 o1,.int .i64 o2,.int .i64 o3,.int .i64 o4] 74
  have h2:=h1.below hB2
  have g0:=zG h2.hk 0
  have p0:W2.cell? ⟨cb,0,none⟩=some (.int .i64 pc):=zG h2.hc 0
  have p1:=zH h2.hc 0
  obtain ⟨W3,hW3⟩:∃ W3,W2.setCell ⟨cb,0,none⟩ (.int .i64 (wrap64 (pc + 1)))=W3:=⟨_,rfl⟩
  have hO3:Only cb W2 W3:=by rw [← hW3];exact Only.set W2 0 _
  have hc3:W3.heap[cb]?=some (.cells (cpuC (wrap64 (pc + 1)) used rs stk) 37 (0,0)):=by rw [← hW3];exact blk_set h2.hc 0 _
  have h3:=h2.only hO3 hc3
  have hl1:W.heap.size < W1.heap.size:=blk_lt K1
  have K13:=hO3.mid (zE K1 hB2) (by omega) (B:=0)
  have K23:=hO3.mid K2 (by omega) (B:=0)
  have HW:=Lib.hid (worth_calls W3 kb cb ⟨12,o1,o2,o3,o4⟩ vars rs h3.core h3.ho)
  rw [show worthP rs ⟨12,o1,o2,o3,o4⟩=some none by simp [worthP]] at HW
  simp only [told] at HW
  have H3:=Lib.hid (zM h3 (zM K13 (zM K23 (zM ((Only.of_below hB1).trans ((Only.of_below hB2).trans hO3)) hl1))))
  clear h h1 h2 h3 K1 K2 hB1 hB2 hO3 hc3 K13 K23
  obtain ⟨A,c,rfl,hle,-⟩:=Kd.R_reads H3.out.1.hs
  have HG:=Lib.hid (give_calls 5)
  go_enter Try.func32,Try.ntmps32
  go_wp2_with fail
  refine HW.out.mono ?_
  rintro e w' ⟨rfl,hB⟩
  obtain ⟨h3,K13,K23,hO3,hl1⟩:=H3.out
  obtain ⟨V4,hV4,M4,hC4⟩:∃ V4,w'.alloc (.cells #[.int .i64 0,.int .i64 0] 32)=V4∧V4.heap[w'.heap.size]?=some (.cells #[.int .i64 0,.int .i64 0] 32 (0,0))∧Below W3.heap.size W3 V4:=⟨_,rfl,heap_alloc_new _ _,bAfter hB (bOne _)⟩
  have y0:=zG M4 0
  have y1:=zG M4 1
  have y2:=zH M4 0
  have y3:=zH M4 1
  obtain ⟨W4,hW4,K4,hC5⟩:=put2n (B:=W3.heap.size) (.int .i64 0) (.int .i64 0) M4 (by have:=hB.size;omega)
  have hB4:=hC4.trans hC5
  have h4:=h3.below hB4
  have K14:=zE K13 hB4
  have K24:=zE K23 hB4
  have hO4:=hO3.then_ (below_le hB4 (by have:=hO3.size;omega))
  have hlw:W1.heap.size < w'.heap.size:=Nat.lt_of_lt_of_le (blk_lt K23) hB.size
  have d0:=zG K24 0
  have d1:=zG K24 1
  have d2:=zG K24 2
  have d3:=zG K24 3
  have w0:=zG K4 0
  have w1:=zG K4 1
  have g4:=zG h4.hk 0
  have p4:W4.cell? ⟨cb,0,none⟩=some (.int .i64 (wrap64 (pc + 1))):=zG h4.hc 0
  have p5:=zH h4.hc 0
  clear M4 hC4 hC5
  have s4:W4.cell? ⟨cb,18,none⟩=some (.slice A fs.length c):=(zG h4.hc 18).trans (cpuC_stk h4.hl)
  have hv2:(16:Int) ≤ fs.length:=by omega
  have H4:=Lib.hid (zM h4 (zM K14 (zM K24 (zM hO4 hl1))))
  clear h3 K13 K23 hO3 K4 hB4 h4 K14 K24 hO4 hB
  go_wp2_with fail
  refine (HG.out _).mono ?_
  rintro e w'' ⟨rfl,rfl⟩
  exact ⟨rfl,rfl,H4.out.2.2.2.1⟩
end Go.Proofs.Ytgnjkegnddekeaa.Q
