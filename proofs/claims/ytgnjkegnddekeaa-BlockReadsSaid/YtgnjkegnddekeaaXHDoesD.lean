/- An operation is done, by hand (reads, writes). -/
import Derived.Test.YtgnjkegnddekeaaXDoesM
import Derived.RegionDies
open List renaming setIfInBounds_toArray → zJ, set_cons_zero → zK, set_cons_succ → zL
open And renaming intro → zM
namespace Go.Proofs.Ytgnjkegnddekeaa.Q
open Go.RowKit Go.Lib Go.Proofs.Ytgnjkegnddekeaa Go.Proofs.YtgnjkegnddekeaaW.PrintWords Go.Proofs.YtgnjkegnddekeaaW.PrintLast Go.Proofs.YtgnjkegnddekeaaW.PrintMore
set_option linter.unusedVariables false
set_option linter.unusedSimpArgs false
set_option maxRecDepth 100000 in
set_option maxHeartbeats 2000000 in
theorem does_8a (W:World) (base kb cb:Nat) (o:S74) (vars pc used:Int) (rs:List S32) (stk:Value) (fs:List FrameD) (h:DoesIn W base kb cb o vars pc used rs stk fs) (h0:o.f0=8) (hv:isVar (regA rs o.f2) vars) :
    Calls Try.prog 32 #[ptr kb] W fun x w' => (x=.returned (.agg (askC 1 (regA rs o.f2).f1 o.f1 0 0 0 0))∧∃ stk,w'.heap[cb]?=some (.cells (cpuC (wrap64 (pc + 1)) used rs stk) 37 (0,0))∧Stk w' base stk fs)∧Only cb W w':=by
  have hu32:=Try.underlying32
  have hu34:=Try.underlying34
  have hu35:=Try.underlying35
  have hu37:=Try.underlying37
  have hu39:=Try.underlying39
  have hu74:=Try.underlying74
  have hu88:=Try.underlying88
  have hu95:=Try.underlying95
  have hkb:=blk_lt h.hk
  have hcb:=blk_lt h.hc
  obtain ⟨W1,hW1,K1,hB1⟩:=alz0 W
  obtain ⟨o0,o1,o2,o3,o4⟩:=o
  try dsimp only at *
  subst h0
  have h1:=h.below hB1
  have k0:=zG h1.hk 0
  have k1:=zG h1.hk 1
  have k2:=zG h1.hk 2
  have k3:=zG h1.hk 3
  have k4:=zG h1.hk 4
  have k5:=zG h1.hk 5
  obtain ⟨W2,hW2,K2,hB2⟩:=alz W1 #[.int .i64 8,.int .i64 o1,.int .i64 o2,.int .i64 o3,.int .i64 o4] 74
  have h2:=h1.below hB2
  have g0:=zG h2.hk 0
  have p0:W2.cell? ⟨cb,0,none⟩=some (.int .i64 pc):=zG h2.hc 0
  have p1:=zH h2.hc 0
  obtain ⟨W3,hW3⟩:∃ W3,W2.setCell ⟨cb,0,none⟩ (.int .i64 (wrap64 (pc + 1)))=W3:=⟨_,rfl⟩
  have hO3:Only cb W2 W3:=by rw [← hW3];exact Only.set W2 0 _
  have hc3:W3.heap[cb]?=some (.cells (cpuC (wrap64 (pc + 1)) used rs stk) 37 (0,0)):=by rw [← hW3];exact blk_set h2.hc 0 _
  have h3:=h2.only hO3 hc3
  have hl1:W.heap.size < W1.heap.size:=blk_lt K1
  have K13:=hO3.mid (zE K1 hB2) (by omega) (B:=0)
  have K23:=hO3.mid K2 (by omega) (B:=0)
  have HW:=Lib.hid (worth_calls W3 kb cb ⟨8,o1,o2,o3,o4⟩ vars rs h3.core h3.ho)
  rw [show worthP rs ⟨8,o1,o2,o3,o4⟩=some none by simp [worthP]] at HW
  simp only [told] at HW
  have H3:=Lib.hid (zM h3 (zM K13 (zM K23 (zM ((Only.of_below hB1).trans ((Only.of_below hB2).trans hO3)) hl1))))
  clear h h1 h2 h3 K1 K2 hB1 hB2 hO3 hc3 K13 K23
  go_enter Try.func32,Try.ntmps32
  go_wp2_with fail
  refine HW.out.mono ?_
  rintro e w' ⟨rfl,hB⟩
  obtain ⟨h3,K13,K23,hO3,hl1⟩:=H3.out
  obtain ⟨V4,hV4,M4,hC4⟩:∃ V4,w'.alloc (.cells #[.int .i64 0,.int .i64 0] 32)=V4∧V4.heap[w'.heap.size]?=some (.cells #[.int .i64 0,.int .i64 0] 32 (0,0))∧Below W3.heap.size W3 V4:=⟨_,rfl,heap_alloc_new _ _,bAfter hB (bOne _)⟩
  have y0:=zG M4 0
  have y1:=zG M4 1
  have y2:=zH M4 0
  have y3:=zH M4 1
  obtain ⟨W4,hW4,K4,hC5⟩:=put2n (B:=W3.heap.size) (.int .i64 0) (.int .i64 0) M4 (by have:=hB.size;omega)
  have hB4:=hC4.trans hC5
  have h4:=h3.below hB4
  have K14:=zE K13 hB4
  have K24:=zE K23 hB4
  have hO4:=hO3.then_ (below_le hB4 (by have:=hO3.size;omega))
  have hlw:W1.heap.size < w'.heap.size:=Nat.lt_of_lt_of_le (blk_lt K23) hB.size
  have d0:=zG K24 0
  have d1:=zG K24 1
  have d2:=zG K24 2
  have d3:=zG K24 3
  have w0:=zG K4 0
  have w1:=zG K4 1
  have g4:=zG h4.hk 0
  have p4:W4.cell? ⟨cb,0,none⟩=some (.int .i64 (wrap64 (pc + 1))):=zG h4.hc 0
  have p5:=zH h4.hc 0
  clear M4 hC4 hC5
  have HV:=Lib.hid fun W' (hB:Below W4.heap.size W4 W') => variable_regA (h4.below hB) o2 (h4.ho.b0) (h4.ho.b1 (by simp))
  simp only [hv,if_true,if_false] at HV
  have q1:∀ W',Below W4.heap.size W4 W' → W'.cell? ⟨W1.heap.size,1,none⟩=some (.int .i64 o1):=fun W' hB => zG (zE K24 hB) 1
  have q2:∀ W',Below W4.heap.size W4 W' → W'.cell? ⟨W1.heap.size,2,none⟩=some (.int .i64 o2):=fun W' hB => zG (zE K24 hB) 2
  have q3:∀ W',Below W4.heap.size W4 W' → W'.cell? ⟨kb,0,none⟩=some (ptr cb):=fun W' hB => zG (zE h4.hk hB) 0
  have H4:=Lib.hid (zM h4 (zM K14 (zM K24 (zM hO4 hl1))))
  clear h3 K13 K23 hO3 K4 hB4 h4 K14 K24 hO4 hB
  go_wp2_with fail
  apply GR.wp_region_grow (R:=RB) 7 (by kernel_rfl) (by kernel_rfl) (by kernel_rfl)
  · intro c a d v w h;cases d <;> exact h
  simp only [List.take_succ_cons,List.take_zero,List.drop_succ_cons,List.drop_zero]
  repeat
    apply GR.gw_val (by rfl)
    · (intro W' hB hD;have e1:=q1 W' hB;have e2:=q2 W' hB;have e3:=q3 W' hB; first | done | (go_simp;first | done | rfl))
    simp only [Act.put,zJ,zK,zL]
  apply GR.gw_call (by rfl)
  · (intro W' hB hD;go_simp;first | done | rfl | exact ⟨rfl,rfl⟩)
  · (intro W' hB hD;exact HV.out W' hB)
  simp only [Act.put,zJ,zK,zL]
  repeat
    apply GR.gw_val (by rfl)
    · (intro W' hB hD;have e1:=q1 W' hB;have e2:=q2 W' hB;have e3:=q3 W' hB; first | done | (go_simp;first | done | rfl))
    simp only [Act.put,zJ,zK,zL]
  apply GR.gw_nil
  intro Wa hW hF hP
  clear hF hP
  obtain ⟨h4,K14,K24,hO4,hl1'⟩:=H4.out
  have h5:=h4.below hW
  have hE:=zM (zE K14 hW) (zM h5.hc (zM h5.hs (hO4.then_ (below_le hW (by have:=hO4.size;omega)))))
  clear h4 K14 K24 hO4 h5 hW
  obtain ⟨Wz,hSz,Kz,hOz⟩:=st_whole (P:=Try.prog) (ty:=39) (vs:=(askC 1 (regA rs o2).f1 o1 0 0 0 0:Array Value).toList) hE.1 rfl (by rw [size39];rfl) (by simp [Value.oneCell'])
  have HZ:=Lib.hid (zM Kz (zM (hOz.mid hE.2.1 (by omega) (B:=0)) (zM (Stk.only hE.2.2.1 hE.1 (by decide) hOz) (hE.2.2.2.then_ (hOz.below (Nat.le_refl _) hE.2.2.2.size)))))
  clear Kz hOz hE
  simp only [Array.toArray_toList] at hSz HZ
  go_wp2_with (refine wpList_st rfl rfl hSz ?_)
  exact bodyPost_ret (results_c1 rfl _ rfl HZ.out.1 Try.underlying39 rfl (by rw [size39];rfl)) rfl ⟨⟨rfl,_,HZ.out.2.1,HZ.out.2.2.1⟩,HZ.out.2.2.2⟩
set_option maxRecDepth 100000 in
set_option maxHeartbeats 2000000 in
theorem does_8b (W:World) (base kb cb:Nat) (o:S74) (vars pc used:Int) (rs:List S32) (stk:Value) (fs:List FrameD) (h:DoesIn W base kb cb o vars pc used rs stk fs) (h0:o.f0=8) (hv:¬ isVar (regA rs o.f2) vars) :
    Calls Try.prog 32 #[ptr kb] W fun x w' => x=gave 4∧Only cb W w':=by
  have hu32:=Try.underlying32
  have hu34:=Try.underlying34
  have hu35:=Try.underlying35
  have hu37:=Try.underlying37
  have hu39:=Try.underlying39
  have hu74:=Try.underlying74
  have hu88:=Try.underlying88
  have hu95:=Try.underlying95
  have hkb:=blk_lt h.hk
  have hcb:=blk_lt h.hc
  obtain ⟨W1,hW1,K1,hB1⟩:=alz0 W
  obtain ⟨o0,o1,o2,o3,o4⟩:=o
  try dsimp only at *
  subst h0
  have h1:=h.below hB1
  have k0:=zG h1.hk 0
  have k1:=zG h1.hk 1
  have k2:=zG h1.hk 2
  have k3:=zG h1.hk 3
  have k4:=zG h1.hk 4
  have k5:=zG h1.hk 5
  obtain ⟨W2,hW2,K2,hB2⟩:=alz W1 #[.int .i64 8,.int .i64 o1,.int .i64 o2,.int .i64 o3,.int .i64 o4] 74
  have h2:=h1.below hB2
  have g0:=zG h2.hk 0
  have p0:W2.cell? ⟨cb,0,none⟩=some (.int .i64 pc):=zG h2.hc 0
  have p1:=zH h2.hc 0
  obtain ⟨W3,hW3⟩:∃ W3,W2.setCell ⟨cb,0,none⟩ (.int .i64 (wrap64 (pc + 1)))=W3:=⟨_,rfl⟩
  have hO3:Only cb W2 W3:=by rw [← hW3];exact Only.set W2 0 _
  have hc3:W3.heap[cb]?=some (.cells (cpuC (wrap64 (pc + 1)) used rs stk) 37 (0,0)):=by rw [← hW3];exact blk_set h2.hc 0 _
  have h3:=h2.only hO3 hc3
  have hl1:W.heap.size < W1.heap.size:=blk_lt K1
  have K13:=hO3.mid (zE K1 hB2) (by omega) (B:=0)
  have K23:=hO3.mid K2 (by omega) (B:=0)
  have HW:=Lib.hid (worth_calls W3 kb cb ⟨8,o1,o2,o3,o4⟩ vars rs h3.core h3.ho)
  rw [show worthP rs ⟨8,o1,o2,o3,o4⟩=some none by simp [worthP]] at HW
  simp only [told] at HW
  have H3:=Lib.hid (zM h3 (zM K13 (zM K23 (zM ((Only.of_below hB1).trans ((Only.of_below hB2).trans hO3)) hl1))))
  clear h h1 h2 h3 K1 K2 hB1 hB2 hO3 hc3 K13 K23
  go_enter Try.func32,Try.ntmps32
  go_wp2_with fail
  refine HW.out.mono ?_
  rintro e w' ⟨rfl,hB⟩
  obtain ⟨h3,K13,K23,hO3,hl1⟩:=H3.out
  obtain ⟨V4,hV4,M4,hC4⟩:∃ V4,w'.alloc (.cells #[.int .i64 0,.int .i64 0] 32)=V4∧V4.heap[w'.heap.size]?=some (.cells #[.int .i64 0,.int .i64 0] 32 (0,0))∧Below W3.heap.size W3 V4:=⟨_,rfl,heap_alloc_new _ _,bAfter hB (bOne _)⟩
  have y0:=zG M4 0
  have y1:=zG M4 1
  have y2:=zH M4 0
  have y3:=zH M4 1
  obtain ⟨W4,hW4,K4,hC5⟩:=put2n (B:=W3.heap.size) (.int .i64 0) (.int .i64 0) M4 (by have:=hB.size;omega)
  have hB4:=hC4.trans hC5
  have h4:=h3.below hB4
  have K14:=zE K13 hB4
  have K24:=zE K23 hB4
  have hO4:=hO3.then_ (below_le hB4 (by have:=hO3.size;omega))
  have hlw:W1.heap.size < w'.heap.size:=Nat.lt_of_lt_of_le (blk_lt K23) hB.size
  have d0:=zG K24 0
  have d1:=zG K24 1
  have d2:=zG K24 2
  have d3:=zG K24 3
  have w0:=zG K4 0
  have w1:=zG K4 1
  have g4:=zG h4.hk 0
  have p4:W4.cell? ⟨cb,0,none⟩=some (.int .i64 (wrap64 (pc + 1))):=zG h4.hc 0
  have p5:=zH h4.hc 0
  clear M4 hC4 hC5
  have HV:=Lib.hid fun W' (hB:Below W4.heap.size W4 W') => variable_regA (h4.below hB) o2 (h4.ho.b0) (h4.ho.b1 (by simp))
  simp only [hv,if_true,if_false] at HV
  have q1:∀ W',Below W4.heap.size W4 W' → W'.cell? ⟨W1.heap.size,1,none⟩=some (.int .i64 o1):=fun W' hB => zG (zE K24 hB) 1
  have q2:∀ W',Below W4.heap.size W4 W' → W'.cell? ⟨W1.heap.size,2,none⟩=some (.int .i64 o2):=fun W' hB => zG (zE K24 hB) 2
  have q3:∀ W',Below W4.heap.size W4 W' → W'.cell? ⟨kb,0,none⟩=some (ptr cb):=fun W' hB => zG (zE h4.hk hB) 0
  have H4:=Lib.hid (zM h4 (zM K14 (zM K24 (zM hO4 hl1))))
  clear h3 K13 K23 hO3 K4 hB4 h4 K14 K24 hO4 hB
  go_wp2_with fail
  go_region_dies
  all_goals (refine (HV.out _ ?_).mono ?_;(first | exact zI (Below.refl _ _) _))
  all_goals (rintro e w'' ⟨rfl,hBn⟩;exact ⟨rfl,rfl,H4.out.2.2.2.1.then_ (below_le (bAfter (zI (Below.refl _ _) 1) hBn) (by have:=H4.out.2.2.2.1.size;omega))⟩)
set_option maxRecDepth 100000 in
set_option maxHeartbeats 2000000 in
theorem does_9a (W:World) (base kb cb:Nat) (o:S74) (vars pc used:Int) (rs:List S32) (stk:Value) (fs:List FrameD) (h:DoesIn W base kb cb o vars pc used rs stk fs) (h0:o.f0=9) (hv:isVar (regA rs o.f1) vars) :
    Calls Try.prog 32 #[ptr kb] W fun x w' => (x=.returned (.agg (askC 2 (regA rs o.f1).f1 0 0 (regA rs o.f2).f0 (regA rs o.f2).f1 0))∧∃ stk,w'.heap[cb]?=some (.cells (cpuC (wrap64 (pc + 1)) used rs stk) 37 (0,0))∧Stk w' base stk fs)∧Only cb W w':=by
  have hu32:=Try.underlying32
  have hu34:=Try.underlying34
  have hu35:=Try.underlying35
  have hu37:=Try.underlying37
  have hu39:=Try.underlying39
  have hu74:=Try.underlying74
  have hu88:=Try.underlying88
  have hu95:=Try.underlying95
  have hkb:=blk_lt h.hk
  have hcb:=blk_lt h.hc
  obtain ⟨W1,hW1,K1,hB1⟩:=alz0 W
  obtain ⟨o0,o1,o2,o3,o4⟩:=o
  try dsimp only at *
  subst h0
  have h1:=h.below hB1
  have k0:=zG h1.hk 0
  have k1:=zG h1.hk 1
  have k2:=zG h1.hk 2
  have k3:=zG h1.hk 3
  have k4:=zG h1.hk 4
  have k5:=zG h1.hk 5
  obtain ⟨W2,hW2,K2,hB2⟩:=alz W1 #[.int .i64 9,.int .i64 o1,.int .i64 o2,.int .i64 o3,.int .i64 o4] 74
  have h2:=h1.below hB2
  have g0:=zG h2.hk 0
  have p0:W2.cell? ⟨cb,0,none⟩=some (.int .i64 pc):=zG h2.hc 0
  have p1:=zH h2.hc 0
  obtain ⟨W3,hW3⟩:∃ W3,W2.setCell ⟨cb,0,none⟩ (.int .i64 (wrap64 (pc + 1)))=W3:=⟨_,rfl⟩
  have hO3:Only cb W2 W3:=by rw [← hW3];exact Only.set W2 0 _
  have hc3:W3.heap[cb]?=some (.cells (cpuC (wrap64 (pc + 1)) used rs stk) 37 (0,0)):=by rw [← hW3];exact blk_set h2.hc 0 _
  have h3:=h2.only hO3 hc3
  have hl1:W.heap.size < W1.heap.size:=blk_lt K1
  have K13:=hO3.mid (zE K1 hB2) (by omega) (B:=0)
  have K23:=hO3.mid K2 (by omega) (B:=0)
  have HW:=Lib.hid (worth_calls W3 kb cb ⟨9,o1,o2,o3,o4⟩ vars rs h3.core h3.ho)
  rw [show worthP rs ⟨9,o1,o2,o3,o4⟩=some none by simp [worthP]] at HW
  simp only [told] at HW
  have H3:=Lib.hid (zM h3 (zM K13 (zM K23 (zM ((Only.of_below hB1).trans ((Only.of_below hB2).trans hO3)) hl1))))
  clear h h1 h2 h3 K1 K2 hB1 hB2 hO3 hc3 K13 K23
  have hb0:0 ≤ o2:=H3.out.1.ho.b0
  have hb1:o2 < 8:=H3.out.1.ho.b1 (by simp)
  obtain ⟨b,hbn,hb⟩:=regA_some H3.out.1.hl hb0 hb1
  generalize regA rs o2=rb at hb ⊢
  obtain ⟨x,y⟩:=rb
  subst hbn
  go_enter Try.func32,Try.ntmps32
  go_wp2_with fail
  refine HW.out.mono ?_
  rintro e w' ⟨rfl,hB⟩
  obtain ⟨h3,K13,K23,hO3,hl1⟩:=H3.out
  obtain ⟨V4,hV4,M4,hC4⟩:∃ V4,w'.alloc (.cells #[.int .i64 0,.int .i64 0] 32)=V4∧V4.heap[w'.heap.size]?=some (.cells #[.int .i64 0,.int .i64 0] 32 (0,0))∧Below W3.heap.size W3 V4:=⟨_,rfl,heap_alloc_new _ _,bAfter hB (bOne _)⟩
  have y0:=zG M4 0
  have y1:=zG M4 1
  have y2:=zH M4 0
  have y3:=zH M4 1
  obtain ⟨W4,hW4,K4,hC5⟩:=put2n (B:=W3.heap.size) (.int .i64 0) (.int .i64 0) M4 (by have:=hB.size;omega)
  have hB4:=hC4.trans hC5
  have h4:=h3.below hB4
  have K14:=zE K13 hB4
  have K24:=zE K23 hB4
  have hO4:=hO3.then_ (below_le hB4 (by have:=hO3.size;omega))
  have hlw:W1.heap.size < w'.heap.size:=Nat.lt_of_lt_of_le (blk_lt K23) hB.size
  have d0:=zG K24 0
  have d1:=zG K24 1
  have d2:=zG K24 2
  have d3:=zG K24 3
  have w0:=zG K4 0
  have w1:=zG K4 1
  have g4:=zG h4.hk 0
  have p4:W4.cell? ⟨cb,0,none⟩=some (.int .i64 (wrap64 (pc + 1))):=zG h4.hc 0
  have p5:=zH h4.hc 0
  clear M4 hC4 hC5
  have HV:=Lib.hid fun W' (hB:Below W4.heap.size W4 W') => variable_regA (h4.below hB) o1 h4.ho.a0 h4.ho.a1
  simp only [hv,if_true,if_false] at HV
  have q1:∀ W',Below W4.heap.size W4 W' → W'.cell? ⟨W1.heap.size,1,none⟩=some (.int .i64 o1):=fun W' hB => zG (zE K24 hB) 1
  have q2:∀ W',Below W4.heap.size W4 W' → W'.cell? ⟨W1.heap.size,2,none⟩=some (.int .i64 (b:Int)):=fun W' hB => zG (zE K24 hB) 2
  have q3:∀ W',Below W4.heap.size W4 W' → W'.cell? ⟨kb,0,none⟩=some (ptr cb):=fun W' hB => zG (zE h4.hk hB) 0
  have q4:∀ W',Below W4.heap.size W4 W' → W'.cell? ⟨cb,2 + b * 2,none⟩=some (.int .i64 x)∧W'.cell? ⟨cb,2 + b * 2 + 1,none⟩=some (.int .i64 y):=fun W' hB => (h4.below hB).core.reg b _ hb
  have H4:=Lib.hid (zM h4 (zM K14 (zM K24 (zM hO4 hl1))))
  clear h3 K13 K23 hO3 K4 hB4 h4 K14 K24 hO4 hB
  go_wp2_with fail
  apply GR.wp_region_grow (R:=RB) 15 (by kernel_rfl) (by kernel_rfl) (by kernel_rfl)
  · intro c a d v w h;cases d <;> exact h
  simp only [List.take_succ_cons,List.take_zero,List.drop_succ_cons,List.drop_zero]
  repeat
    apply GR.gw_val (by rfl)
    · (intro W' hB hD;have e1:=q1 W' hB;have e2:=q2 W' hB;have e3:=q3 W' hB;obtain ⟨e4,e5⟩:=q4 W' hB;first | done | (go_simp;first | done | rfl))
    simp only [Act.put,zJ,zK,zL]
  apply GR.gw_call (by rfl)
  · (intro W' hB hD;go_simp;first | done | rfl | exact ⟨rfl,rfl⟩)
  · (intro W' hB hD;exact HV.out W' hB)
  simp only [Act.put,zJ,zK,zL]
  repeat
    apply GR.gw_val (by rfl)
    · (intro W' hB hD;have e1:=q1 W' hB;have e2:=q2 W' hB;have e3:=q3 W' hB;obtain ⟨e4,e5⟩:=q4 W' hB;first | done | (go_simp;first | done | rfl))
    simp only [Act.put,zJ,zK,zL]
  apply GR.gw_nil
  intro Wa hW hF hP
  clear hF hP
  obtain ⟨h4,K14,K24,hO4,hl1'⟩:=H4.out
  have h5:=h4.below hW
  have hE:=zM (zE K14 hW) (zM h5.hc (zM h5.hs (hO4.then_ (below_le hW (by have:=hO4.size;omega)))))
  clear h4 K14 K24 hO4 h5 hW
  obtain ⟨Wz,hSz,Kz,hOz⟩:=st_whole (P:=Try.prog) (ty:=39) (vs:=(askC 2 (regA rs o1).f1 0 0 x y 0:Array Value).toList) hE.1 rfl (by rw [size39];rfl) (by simp [Value.oneCell'])
  have HZ:=Lib.hid (zM Kz (zM (hOz.mid hE.2.1 (by omega) (B:=0)) (zM (Stk.only hE.2.2.1 hE.1 (by decide) hOz) (hE.2.2.2.then_ (hOz.below (Nat.le_refl _) hE.2.2.2.size)))))
  clear Kz hOz hE
  simp only [Array.toArray_toList] at hSz HZ
  go_wp2_with (refine wpList_st rfl rfl hSz ?_)
  exact bodyPost_ret (results_c1 rfl _ rfl HZ.out.1 Try.underlying39 rfl (by rw [size39];rfl)) rfl ⟨⟨rfl,_,HZ.out.2.1,HZ.out.2.2.1⟩,HZ.out.2.2.2⟩
set_option maxRecDepth 100000 in
set_option maxHeartbeats 2000000 in
theorem does_9b (W:World) (base kb cb:Nat) (o:S74) (vars pc used:Int) (rs:List S32) (stk:Value) (fs:List FrameD) (h:DoesIn W base kb cb o vars pc used rs stk fs) (h0:o.f0=9) (hv:¬ isVar (regA rs o.f1) vars) :
    Calls Try.prog 32 #[ptr kb] W fun x w' => x=gave 4∧Only cb W w':=by
  have hu32:=Try.underlying32
  have hu34:=Try.underlying34
  have hu35:=Try.underlying35
  have hu37:=Try.underlying37
  have hu39:=Try.underlying39
  have hu74:=Try.underlying74
  have hu88:=Try.underlying88
  have hu95:=Try.underlying95
  have hkb:=blk_lt h.hk
  have hcb:=blk_lt h.hc
  obtain ⟨W1,hW1,K1,hB1⟩:=alz0 W
  obtain ⟨o0,o1,o2,o3,o4⟩:=o
  try dsimp only at *
  subst h0
  have h1:=h.below hB1
  have k0:=zG h1.hk 0
  have k1:=zG h1.hk 1
  have k2:=zG h1.hk 2
  have k3:=zG h1.hk 3
  have k4:=zG h1.hk 4
  have k5:=zG h1.hk 5
  obtain ⟨W2,hW2,K2,hB2⟩:=alz W1 #[.int .i64 9,.int .i64 o1,.int .i64 o2,.int .i64 o3,.int .i64 o4] 74
  have h2:=h1.below hB2
  have g0:=zG h2.hk 0
  have p0:W2.cell? ⟨cb,0,none⟩=some (.int .i64 pc):=zG h2.hc 0
  have p1:=zH h2.hc 0
  obtain ⟨W3,hW3⟩:∃ W3,W2.setCell ⟨cb,0,none⟩ (.int .i64 (wrap64 (pc + 1)))=W3:=⟨_,rfl⟩
  have hO3:Only cb W2 W3:=by rw [← hW3];exact Only.set W2 0 _
  have hc3:W3.heap[cb]?=some (.cells (cpuC (wrap64 (pc + 1)) used rs stk) 37 (0,0)):=by rw [← hW3];exact blk_set h2.hc 0 _
  have h3:=h2.only hO3 hc3
  have hl1:W.heap.size < W1.heap.size:=blk_lt K1
  have K13:=hO3.mid (zE K1 hB2) (by omega) (B:=0)
  have K23:=hO3.mid K2 (by omega) (B:=0)
  have HW:=Lib.hid (worth_calls W3 kb cb ⟨9,o1,o2,o3,o4⟩ vars rs h3.core h3.ho)
  rw [show worthP rs ⟨9,o1,o2,o3,o4⟩=some none by simp [worthP]] at HW
  simp only [told] at HW
  have H3:=Lib.hid (zM h3 (zM K13 (zM K23 (zM ((Only.of_below hB1).trans ((Only.of_below hB2).trans hO3)) hl1))))
  clear h h1 h2 h3 K1 K2 hB1 hB2 hO3 hc3 K13 K23
  have hb0:0 ≤ o2:=H3.out.1.ho.b0
  have hb1:o2 < 8:=H3.out.1.ho.b1 (by simp)
  obtain ⟨b,hbn,hb⟩:=regA_some H3.out.1.hl hb0 hb1
  generalize regA rs o2=rb at hb ⊢
  obtain ⟨x,y⟩:=rb
  subst hbn
  go_enter Try.func32,Try.ntmps32
  go_wp2_with fail
  refine HW.out.mono ?_
  rintro e w' ⟨rfl,hB⟩
  obtain ⟨h3,K13,K23,hO3,hl1⟩:=H3.out
  obtain ⟨V4,hV4,M4,hC4⟩:∃ V4,w'.alloc (.cells #[.int .i64 0,.int .i64 0] 32)=V4∧V4.heap[w'.heap.size]?=some (.cells #[.int .i64 0,.int .i64 0] 32 (0,0))∧Below W3.heap.size W3 V4:=⟨_,rfl,heap_alloc_new _ _,bAfter hB (bOne _)⟩
  have y0:=zG M4 0
  have y1:=zG M4 1
  have y2:=zH M4 0
  have y3:=zH M4 1
  obtain ⟨W4,hW4,K4,hC5⟩:=put2n (B:=W3.heap.size) (.int .i64 0) (.int .i64 0) M4 (by have:=hB.size;omega)
  have hB4:=hC4.trans hC5
  have h4:=h3.below hB4
  have K14:=zE K13 hB4
  have K24:=zE K23 hB4
  have hO4:=hO3.then_ (below_le hB4 (by have:=hO3.size;omega))
  have hlw:W1.heap.size < w'.heap.size:=Nat.lt_of_lt_of_le (blk_lt K23) hB.size
  have d0:=zG K24 0
  have d1:=zG K24 1
  have d2:=zG K24 2
  have d3:=zG K24 3
  have w0:=zG K4 0
  have w1:=zG K4 1
  have g4:=zG h4.hk 0
  have p4:W4.cell? ⟨cb,0,none⟩=some (.int .i64 (wrap64 (pc + 1))):=zG h4.hc 0
  have p5:=zH h4.hc 0
  clear M4 hC4 hC5
  have HV:=Lib.hid fun W' (hB:Below W4.heap.size W4 W') => variable_regA (h4.below hB) o1 h4.ho.a0 h4.ho.a1
  simp only [hv,if_true,if_false] at HV
  have q1:∀ W',Below W4.heap.size W4 W' → W'.cell? ⟨W1.heap.size,1,none⟩=some (.int .i64 o1):=fun W' hB => zG (zE K24 hB) 1
  have q2:∀ W',Below W4.heap.size W4 W' → W'.cell? ⟨W1.heap.size,2,none⟩=some (.int .i64 (b:Int)):=fun W' hB => zG (zE K24 hB) 2
  have q3:∀ W',Below W4.heap.size W4 W' → W'.cell? ⟨kb,0,none⟩=some (ptr cb):=fun W' hB => zG (zE h4.hk hB) 0
  have q4:∀ W',Below W4.heap.size W4 W' → W'.cell? ⟨cb,2 + b * 2,none⟩=some (.int .i64 x)∧W'.cell? ⟨cb,2 + b * 2 + 1,none⟩=some (.int .i64 y):=fun W' hB => (h4.below hB).core.reg b _ hb
  have H4:=Lib.hid (zM h4 (zM K14 (zM K24 (zM hO4 hl1))))
  clear h3 K13 K23 hO3 K4 hB4 h4 K14 K24 hO4 hB
  go_wp2_with fail
  obtain ⟨e4,e5⟩:=q4 W4 (Below.refl _ _)
  go_region_dies
  all_goals (refine (HV.out _ ?_).mono ?_;(first | exact zI (Below.refl _ _) _))
  all_goals (rintro e w'' ⟨rfl,hBn⟩;exact ⟨rfl,rfl,H4.out.2.2.2.1.then_ (below_le (bAfter (zI (Below.refl _ _) 1) hBn) (by have:=H4.out.2.2.2.1.size;omega))⟩)
end Go.Proofs.Ytgnjkegnddekeaa.Q
