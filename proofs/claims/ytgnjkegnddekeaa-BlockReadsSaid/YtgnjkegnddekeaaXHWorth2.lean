/- What an operation puts into its register, code by code, by hand. -/
import Derived.Test.YtgnjkegnddekeaaXHSumsNo
open And renaming intro → zM
namespace Go.Proofs.Ytgnjkegnddekeaa.Q
open Go.RowKit Go.Lib Go.Proofs.Ytgnjkegnddekeaa Go.Proofs.YtgnjkegnddekeaaW.PrintWords Go.Proofs.YtgnjkegnddekeaaW.PrintLast Go.Proofs.YtgnjkegnddekeaaW.PrintMore
set_option linter.unusedVariables false
set_option linter.unusedSimpArgs false
/-- A register. -/
def regA (rs:List S32) (i:Int):S32:=rs.getD i.toNat ⟨0,0⟩
theorem regA_some {rs:List S32} {i:Int} (hl:rs.length=8) (h0:0 ≤ i) (h1:i < 8):∃ n:Nat,i=n∧rs[n]?=some (regA rs i):=by
  refine ⟨i.toNat,by omega,?_⟩
  unfold regA
  rw [List.getD_eq_getElem?_getD,List.getElem?_eq_getElem (by omega)]
  rfl
/-- What two numbers come to, by a code. -/
def doP (c x y:Int):Int:=if c=4 then wrap64 (x + y) else if c=5 then wrap64 (x - y) else if c=6 then wrap64 (x * y) else if x < y then 1 else 0
def sumsP (rs:List S32) (o:S74):Option S32:=if (regA rs o.f2).f0=1∧(regA rs o.f3).f0=1 then some ⟨1,doP o.f0 (regA rs o.f2).f1 (regA rs o.f3).f1⟩ else none
theorem sums_calls (W:World) (kb cb pf:Nat) (o:S74) (vars:Int) (rs:List S32) (h:Core W kb cb o vars rs) (hb0:0 ≤ o.f2) (hb1:o.f2 < 8) (hc0:0 ≤ o.f3) (hc1:o.f3 < 8)
    (eg:∀ args W,(callFunc pf args).run Try.prog W=.ok (.enter pf args) W)
    (hdo:∀ x y W',Calls Try.prog pf (#[] ++ #[.agg #[.int .i64 1,.int .i64 x],.agg #[.int .i64 1,.int .i64 y]] ++ #[]) W' fun e w' => e=.returned (.tuple #[.agg #[.int .i64 1,.int .i64 (doP o.f0 x y)],.int .i64 0])∧Below W'.heap.size W' w') :
    Calls Try.prog 74 #[ptr kb,.func (.func pf) #[] #[]] W fun e w' => (match sumsP rs o with | some v => e=.returned (.agg #[.int .i64 v.f0,.int .i64 v.f1]) | none => e=gave 4)∧Below W.heap.size W w':=by
  obtain ⟨b,hb,hx⟩:=regA_some h.len hb0 hb1
  obtain ⟨c,hc,hy⟩:=regA_some h.len hc0 hc1
  unfold sumsP
  by_cases h1:(regA rs o.f2).f0=1
  · by_cases h2:(regA rs o.f3).f0=1
    · rw [if_pos ⟨h1,h2⟩]
      have ex:regA rs o.f2=⟨1,(regA rs o.f2).f1⟩:=by cases hh:regA rs o.f2;rw [hh] at h1;cases h1;rfl
      have ey:regA rs o.f3=⟨1,(regA rs o.f3).f1⟩:=by cases hh:regA rs o.f3;rw [hh] at h2;cases h2;rfl
      rw [ex] at hx
      rw [ey] at hy
      exact sums_yes W kb cb pf o vars rs b c _ _ _ h hb hc hx hy eg (hdo _ _)
    · rw [if_neg (fun hh => h2 hh.2)]
      have ex:regA rs o.f2=⟨1,(regA rs o.f2).f1⟩:=by cases hh:regA rs o.f2;rw [hh] at h1;cases h1;rfl
      rw [ex] at hx
      exact sums_no2 W kb cb pf o vars rs b c _ _ h hb hc hx hy h2
  · rw [if_neg (fun hh => h1 hh.1)]
    exact sums_no1 W kb cb pf o vars rs b c _ h hb hc hx h1
/-- How it tells that there is a value, or none. -/
def told (v:Option S32):Ending:=match v with
  | some v => .returned (.tuple #[.agg #[.int .i64 v.f0,.int .i64 v.f1],.bool true])
  | none => .returned (.tuple #[.agg #[.int .i64 0,.int .i64 0],.bool false])
/-- What an operation puts into its register; none at first: it ends with 4. -/
def worthP (rs:List S32) (o:S74):Option (Option S32) :=
  if o.f0=0 then some (some ⟨1,o.f4⟩) else if o.f0=1 then some (some ⟨0,0⟩) else if o.f0=2 then some (some ⟨2,o.f2⟩) else if o.f0=3 then some (some (regA rs o.f2))
  else if o.f0 < 8 then (sumsP rs o).map some else some none
set_option maxRecDepth 100000 in
set_option maxHeartbeats 1000000 in
theorem worth_0 (W:World) (kb cb:Nat) (o:S74) (vars:Int) (rs:List S32) (h:Core W kb cb o vars rs) (h0:o.f0=0) :
    Calls Try.prog 48 #[ptr kb] W fun e w' => e=told (some ⟨1,o.f4⟩)∧Below W.heap.size W w':=by
  have hu32:=Try.underlying32
  have hu34:=Try.underlying34
  have hu37:=Try.underlying37
  have hu74:=Try.underlying74
  have hu95:=Try.underlying95
  have hkb:=blk_lt h.hk
  have hcb:=h.lt
  obtain ⟨W1,hW1,K1,hB1⟩:=alz1 W
  obtain ⟨o0,o1,o2,o3,o4⟩:=o
  dsimp only at *
  subst h0
  have h1:=h.below hB1
  have k0:=zG h1.hk 0
  have k1:=zG h1.hk 1
  have k2:=zG h1.hk 2
  have k3:=zG h1.hk 3
  have k4:=zG h1.hk 4
  have k5:=zG h1.hk 5
  obtain ⟨W2,hW2,K2,hB2⟩:=alz W1 #[.int .i64 0,.int .i64 o1,.int .i64 o2,.int .i64 o3,.int .i64 o4] 74
  have h2:=h1.below hB2
  have g0:=zG h2.hk 0
  have d0:=zG K2 0
  have d1:=zG K2 1
  have d2:=zG K2 2
  have d3:=zG K2 3
  have d4:=zG K2 4
  have K1':=zE K1 hB2
  have r0:=zG K1' 0
  have r1:=zG K1' 1
  have f0:=zH K1' 0
  have f1:=zH K1' 1
  obtain ⟨W3,hW3,K3,hB3⟩:=put2n (B:=W.heap.size) (.int .i64 1) (.int .i64 o4) K1' (Nat.le_refl _)
  have q0:=zG K3 0
  have q1:=zG K3 1
  have H3:=Lib.hid ((bAfter hB1 hB2).trans hB3)
  clear h h1 h2 K1 K2 K1' K3 hB1 hB2 hB3
  go_enter Try.func48,Try.ntmps48
  go_wp2_with fail
  refine bodyPost_ret (v:=.tuple #[.agg #[(.int .i64 1),(.int .i64 o4)],.bool true]) (by simp [results,Try.results48,go_sem,q0,q1]) rfl ⟨rfl,H3.out⟩
set_option maxRecDepth 100000 in
set_option maxHeartbeats 1000000 in
theorem worth_1 (W:World) (kb cb:Nat) (o:S74) (vars:Int) (rs:List S32) (h:Core W kb cb o vars rs) (h0:o.f0=1) :
    Calls Try.prog 48 #[ptr kb] W fun e w' => e=told (some ⟨0,0⟩)∧Below W.heap.size W w':=by
  have hu32:=Try.underlying32
  have hu34:=Try.underlying34
  have hu37:=Try.underlying37
  have hu74:=Try.underlying74
  have hu95:=Try.underlying95
  have hkb:=blk_lt h.hk
  have hcb:=h.lt
  obtain ⟨W1,hW1,K1,hB1⟩:=alz1 W
  obtain ⟨o0,o1,o2,o3,o4⟩:=o
  dsimp only at *
  subst h0
  have h1:=h.below hB1
  have k0:=zG h1.hk 0
  have k1:=zG h1.hk 1
  have k2:=zG h1.hk 2
  have k3:=zG h1.hk 3
  have k4:=zG h1.hk 4
  have k5:=zG h1.hk 5
  obtain ⟨W2,hW2,K2,hB2⟩:=alz W1 #[.int .i64 1,.int .i64 o1,.int .i64 o2,.int .i64 o3,.int .i64 o4] 74
  have h2:=h1.below hB2
  have g0:=zG h2.hk 0
  have d0:=zG K2 0
  have d1:=zG K2 1
  have d2:=zG K2 2
  have d3:=zG K2 3
  have d4:=zG K2 4
  have K1':=zE K1 hB2
  have r0:=zG K1' 0
  have r1:=zG K1' 1
  have f0:=zH K1' 0
  have f1:=zH K1' 1
  obtain ⟨W3,hW3,K3,hB3⟩:=put2n (B:=W.heap.size) (.int .i64 0) (.int .i64 0) K1' (Nat.le_refl _)
  have q0:=zG K3 0
  have q1:=zG K3 1
  have H3:=Lib.hid ((bAfter hB1 hB2).trans hB3)
  clear h h1 h2 K1 K2 K1' K3 hB1 hB2 hB3
  go_enter Try.func48,Try.ntmps48
  go_wp2_with fail
  refine bodyPost_ret (v:=.tuple #[.agg #[(.int .i64 0),(.int .i64 0)],.bool true]) (by simp [results,Try.results48,go_sem,q0,q1]) rfl ⟨rfl,H3.out⟩
set_option maxRecDepth 100000 in
set_option maxHeartbeats 1000000 in
theorem worth_2 (W:World) (kb cb:Nat) (o:S74) (vars:Int) (rs:List S32) (h:Core W kb cb o vars rs) (h0:o.f0=2) :
    Calls Try.prog 48 #[ptr kb] W fun e w' => e=told (some ⟨2,o.f2⟩)∧Below W.heap.size W w':=by
  have hu32:=Try.underlying32
  have hu34:=Try.underlying34
  have hu37:=Try.underlying37
  have hu74:=Try.underlying74
  have hu95:=Try.underlying95
  have hkb:=blk_lt h.hk
  have hcb:=h.lt
  obtain ⟨W1,hW1,K1,hB1⟩:=alz1 W
  obtain ⟨o0,o1,o2,o3,o4⟩:=o
  dsimp only at *
  subst h0
  have h1:=h.below hB1
  have k0:=zG h1.hk 0
  have k1:=zG h1.hk 1
  have k2:=zG h1.hk 2
  have k3:=zG h1.hk 3
  have k4:=zG h1.hk 4
  have k5:=zG h1.hk 5
  obtain ⟨W2,hW2,K2,hB2⟩:=alz W1 #[.int .i64 2,.int .i64 o1,.int .i64 o2,.int .i64 o3,.int .i64 o4] 74
  have h2:=h1.below hB2
  have g0:=zG h2.hk 0
  have d0:=zG K2 0
  have d1:=zG K2 1
  have d2:=zG K2 2
  have d3:=zG K2 3
  have d4:=zG K2 4
  have K1':=zE K1 hB2
  have r0:=zG K1' 0
  have r1:=zG K1' 1
  have f0:=zH K1' 0
  have f1:=zH K1' 1
  obtain ⟨W3,hW3,K3,hB3⟩:=put2n (B:=W.heap.size) (.int .i64 2) (.int .i64 o2) K1' (Nat.le_refl _)
  have q0:=zG K3 0
  have q1:=zG K3 1
  have H3:=Lib.hid ((bAfter hB1 hB2).trans hB3)
  clear h h1 h2 K1 K2 K1' K3 hB1 hB2 hB3
  go_enter Try.func48,Try.ntmps48
  go_wp2_with fail
  refine bodyPost_ret (v:=.tuple #[.agg #[(.int .i64 2),(.int .i64 o2)],.bool true]) (by simp [results,Try.results48,go_sem,q0,q1]) rfl ⟨rfl,H3.out⟩
set_option maxRecDepth 100000 in
set_option maxHeartbeats 1000000 in
theorem worth_3 (W:World) (kb cb:Nat) (o:S74) (vars:Int) (rs:List S32) (h:Core W kb cb o vars rs) (h0:o.f0=3) (hb0:0 ≤ o.f2) (hb1:o.f2 < 8) :
    Calls Try.prog 48 #[ptr kb] W fun e w' => e=told (some (regA rs o.f2))∧Below W.heap.size W w':=by
  have hu32:=Try.underlying32
  have hu34:=Try.underlying34
  have hu37:=Try.underlying37
  have hu74:=Try.underlying74
  have hu95:=Try.underlying95
  have hkb:=blk_lt h.hk
  have hcb:=h.lt
  obtain ⟨W1,hW1,K1,hB1⟩:=alz1 W
  obtain ⟨o0,o1,o2,o3,o4⟩:=o
  dsimp only at *
  subst h0
  have h1:=h.below hB1
  have k0:=zG h1.hk 0
  have k1:=zG h1.hk 1
  have k2:=zG h1.hk 2
  have k3:=zG h1.hk 3
  have k4:=zG h1.hk 4
  have k5:=zG h1.hk 5
  obtain ⟨W2,hW2,K2,hB2⟩:=alz W1 #[.int .i64 3,.int .i64 o1,.int .i64 o2,.int .i64 o3,.int .i64 o4] 74
  have h2:=h1.below hB2
  have g0:=zG h2.hk 0
  have d0:=zG K2 0
  have d1:=zG K2 1
  have d2:=zG K2 2
  have d3:=zG K2 3
  have d4:=zG K2 4
  have K1':=zE K1 hB2
  obtain ⟨n,hn,hr⟩:=regA_some h2.len hb0 hb1
  generalize regA rs o2=v at hr ⊢
  obtain ⟨v0,v1⟩:=v
  obtain ⟨a0,a1⟩:=h2.reg n _ hr
  subst hn
  have r0:=zG K1' 0
  have r1:=zG K1' 1
  have f0:=zH K1' 0
  have f1:=zH K1' 1
  obtain ⟨W3,hW3,K3,hB3⟩:=put2n (B:=W.heap.size) (.int .i64 v0) (.int .i64 v1) K1' (Nat.le_refl _)
  have q0:=zG K3 0
  have q1:=zG K3 1
  have H3:=Lib.hid ((bAfter hB1 hB2).trans hB3)
  clear h h1 h2 K1 K2 K1' K3 hB1 hB2 hB3
  go_enter Try.func48,Try.ntmps48
  go_wp2_with fail
  go_region
  go_wp2_with fail
  refine bodyPost_ret (v:=.tuple #[.agg #[(.int .i64 v0),(.int .i64 v1)],.bool true]) (by simp [results,Try.results48,go_sem,q0,q1]) rfl ⟨rfl,zI H3.out _⟩
set_option maxRecDepth 100000 in
set_option maxHeartbeats 1000000 in
theorem worth_none (W:World) (kb cb:Nat) (o:S74) (vars:Int) (rs:List S32) (h:Core W kb cb o vars rs) (h0:8 ≤ o.f0) :
    Calls Try.prog 48 #[ptr kb] W fun e w' => e=told none∧Below W.heap.size W w':=by
  have hu32:=Try.underlying32
  have hu34:=Try.underlying34
  have hu37:=Try.underlying37
  have hu74:=Try.underlying74
  have hu95:=Try.underlying95
  have hkb:=blk_lt h.hk
  have hcb:=h.lt
  obtain ⟨W1,hW1,K1,hB1⟩:=alz1 W
  obtain ⟨o0,o1,o2,o3,o4⟩:=o
  dsimp only at *
  have h1:=h.below hB1
  have k0:=zG h1.hk 0
  have k1:=zG h1.hk 1
  have k2:=zG h1.hk 2
  have k3:=zG h1.hk 3
  have k4:=zG h1.hk 4
  have k5:=zG h1.hk 5
  obtain ⟨W2,hW2,K2,hB2⟩:=alz W1 #[.int .i64 o0,.int .i64 o1,.int .i64 o2,.int .i64 o3,.int .i64 o4] 74
  have h2:=h1.below hB2
  have g0:=zG h2.hk 0
  have d0:=zG K2 0
  have d1:=zG K2 1
  have d2:=zG K2 2
  have d3:=zG K2 3
  have d4:=zG K2 4
  have K1':=zE K1 hB2
  have n0:¬ o0=0:=by omega
  have n1:¬ o0=1:=by omega
  have n2:¬ o0=2:=by omega
  have n3:¬ o0=3:=by omega
  have n4:¬ o0=4:=by omega
  have n5:¬ o0=5:=by omega
  have n6:¬ o0=6:=by omega
  have n7:¬ o0=7:=by omega
  have r0:=zG K1' 0
  have r1:=zG K1' 1
  have f0:=zH K1' 0
  have f1:=zH K1' 1
  obtain ⟨W3,hW3,K3,hB3⟩:=put2n (B:=W.heap.size) (.int .i64 0) (.int .i64 0) K1' (Nat.le_refl _)
  have q0:=zG K3 0
  have q1:=zG K3 1
  have H3:=Lib.hid ((bAfter hB1 hB2).trans hB3)
  clear h h1 h2 K1 K2 K1' K3 hB1 hB2 hB3
  go_enter Try.func48,Try.ntmps48
  go_wp2_with fail
  refine bodyPost_ret (v:=.tuple #[.agg #[(.int .i64 0),(.int .i64 0)],.bool false]) (by simp [results,Try.results48,go_sem,q0,q1]) rfl ⟨rfl,H3.out⟩
set_option maxRecDepth 100000 in
set_option maxHeartbeats 1000000 in
theorem worth_4 (W:World) (kb cb:Nat) (o:S74) (vars:Int) (rs:List S32) (h:Core W kb cb o vars rs) (h0:o.f0=4) (hb0:0 ≤ o.f2) (hb1:o.f2 < 8) (hc0:0 ≤ o.f3) (hc1:o.f3 < 8) :
    Calls Try.prog 48 #[ptr kb] W fun e w' => (match sumsP rs o with | some v => e=told (some v) | none => e=gave 4)∧Below W.heap.size W w':=by
  have hu32:=Try.underlying32
  have hu34:=Try.underlying34
  have hu37:=Try.underlying37
  have hu74:=Try.underlying74
  have hu95:=Try.underlying95
  have hkb:=blk_lt h.hk
  have hcb:=h.lt
  obtain ⟨W1,hW1,K1,hB1⟩:=alz1 W
  obtain ⟨o0,o1,o2,o3,o4⟩:=o
  dsimp only at *
  subst h0
  have h1:=h.below hB1
  have k0:=zG h1.hk 0
  have k1:=zG h1.hk 1
  have k2:=zG h1.hk 2
  have k3:=zG h1.hk 3
  have k4:=zG h1.hk 4
  have k5:=zG h1.hk 5
  obtain ⟨W2,hW2,K2,hB2⟩:=alz W1 #[.int .i64 4,.int .i64 o1,.int .i64 o2,.int .i64 o3,.int .i64 o4] 74
  have h2:=h1.below hB2
  have g0:=zG h2.hk 0
  have d0:=zG K2 0
  have d1:=zG K2 1
  have d2:=zG K2 2
  have d3:=zG K2 3
  have d4:=zG K2 4
  have K1':=zE K1 hB2
  have HS:=Lib.hid (sums_calls W2 kb cb 75 ⟨4,o1,o2,o3,o4⟩ vars rs h2 hb0 hb1 hc0 hc1 (fun args W => rfl) (fun x y W' => valueAdd_calls x y W'))
  have HK:=Lib.hid (zM K1' (bAfter hB1 hB2))
  clear h h1 h2 K1 K2 K1' hB1 hB2
  generalize sumsP rs ⟨4,o1,o2,o3,o4⟩=sv at HS ⊢
  rcases sv with _ | ⟨v0,v1⟩
  · go_enter Try.func48,Try.ntmps48
    go_wp2_with fail
    refine HS.out.mono ?_
    rintro e w' ⟨rfl,hB⟩
    exact ⟨rfl,rfl,bAfter HK.out.2 hB⟩
  go_enter Try.func48,Try.ntmps48
  go_wp2_with fail
  refine HS.out.mono ?_
  rintro e w' ⟨rfl,hB⟩
  have K3:=zE HK.out.1 hB
  have r0:=zG K3 0
  have r1:=zG K3 1
  have f0:=zH K3 0
  have f1:=zH K3 1
  obtain ⟨W3,hW3,K4,hB3⟩:=put2n (B:=W.heap.size) (.int .i64 v0) (.int .i64 v1) K3 (by omega)
  have q0:=zG K4 0
  have q1:=zG K4 1
  have H3:=Lib.hid ((bAfter HK.out.2 hB).trans hB3)
  clear K3 K4 hB3 hB
  go_wp2_with fail
  refine bodyPost_ret (v:=.tuple #[.agg #[.int .i64 v0,.int .i64 v1],.bool true]) (by simp [results,Try.results48,go_sem,q0,q1]) rfl ⟨rfl,H3.out⟩
set_option maxRecDepth 100000 in
set_option maxHeartbeats 1000000 in
theorem worth_5 (W:World) (kb cb:Nat) (o:S74) (vars:Int) (rs:List S32) (h:Core W kb cb o vars rs) (h0:o.f0=5) (hb0:0 ≤ o.f2) (hb1:o.f2 < 8) (hc0:0 ≤ o.f3) (hc1:o.f3 < 8) :
    Calls Try.prog 48 #[ptr kb] W fun e w' => (match sumsP rs o with | some v => e=told (some v) | none => e=gave 4)∧Below W.heap.size W w':=by
  have hu32:=Try.underlying32
  have hu34:=Try.underlying34
  have hu37:=Try.underlying37
  have hu74:=Try.underlying74
  have hu95:=Try.underlying95
  have hkb:=blk_lt h.hk
  have hcb:=h.lt
  obtain ⟨W1,hW1,K1,hB1⟩:=alz1 W
  obtain ⟨o0,o1,o2,o3,o4⟩:=o
  dsimp only at *
  subst h0
  have h1:=h.below hB1
  have k0:=zG h1.hk 0
  have k1:=zG h1.hk 1
  have k2:=zG h1.hk 2
  have k3:=zG h1.hk 3
  have k4:=zG h1.hk 4
  have k5:=zG h1.hk 5
  obtain ⟨W2,hW2,K2,hB2⟩:=alz W1 #[.int .i64 5,.int .i64 o1,.int .i64 o2,.int .i64 o3,.int .i64 o4] 74
  have h2:=h1.below hB2
  have g0:=zG h2.hk 0
  have d0:=zG K2 0
  have d1:=zG K2 1
  have d2:=zG K2 2
  have d3:=zG K2 3
  have d4:=zG K2 4
  have K1':=zE K1 hB2
  have HS:=Lib.hid (sums_calls W2 kb cb 76 ⟨5,o1,o2,o3,o4⟩ vars rs h2 hb0 hb1 hc0 hc1 (fun args W => rfl) (fun x y W' => valueSub_calls x y W'))
  have HK:=Lib.hid (zM K1' (bAfter hB1 hB2))
  clear h h1 h2 K1 K2 K1' hB1 hB2
  generalize sumsP rs ⟨5,o1,o2,o3,o4⟩=sv at HS ⊢
  rcases sv with _ | ⟨v0,v1⟩
  · go_enter Try.func48,Try.ntmps48
    go_wp2_with fail
    refine HS.out.mono ?_
    rintro e w' ⟨rfl,hB⟩
    exact ⟨rfl,rfl,bAfter HK.out.2 hB⟩
  go_enter Try.func48,Try.ntmps48
  go_wp2_with fail
  refine HS.out.mono ?_
  rintro e w' ⟨rfl,hB⟩
  have K3:=zE HK.out.1 hB
  have r0:=zG K3 0
  have r1:=zG K3 1
  have f0:=zH K3 0
  have f1:=zH K3 1
  obtain ⟨W3,hW3,K4,hB3⟩:=put2n (B:=W.heap.size) (.int .i64 v0) (.int .i64 v1) K3 (by omega)
  have q0:=zG K4 0
  have q1:=zG K4 1
  have H3:=Lib.hid ((bAfter HK.out.2 hB).trans hB3)
  clear K3 K4 hB3 hB
  go_wp2_with fail
  refine bodyPost_ret (v:=.tuple #[.agg #[.int .i64 v0,.int .i64 v1],.bool true]) (by simp [results,Try.results48,go_sem,q0,q1]) rfl ⟨rfl,H3.out⟩
set_option maxRecDepth 100000 in
set_option maxHeartbeats 1000000 in
theorem worth_6 (W:World) (kb cb:Nat) (o:S74) (vars:Int) (rs:List S32) (h:Core W kb cb o vars rs) (h0:o.f0=6) (hb0:0 ≤ o.f2) (hb1:o.f2 < 8) (hc0:0 ≤ o.f3) (hc1:o.f3 < 8) :
    Calls Try.prog 48 #[ptr kb] W fun e w' => (match sumsP rs o with | some v => e=told (some v) | none => e=gave 4)∧Below W.heap.size W w':=by
  have hu32:=Try.underlying32
  have hu34:=Try.underlying34
  have hu37:=Try.underlying37
  have hu74:=Try.underlying74
  have hu95:=Try.underlying95
  have hkb:=blk_lt h.hk
  have hcb:=h.lt
  obtain ⟨W1,hW1,K1,hB1⟩:=alz1 W
  obtain ⟨o0,o1,o2,o3,o4⟩:=o
  dsimp only at *
  subst h0
  have h1:=h.below hB1
  have k0:=zG h1.hk 0
  have k1:=zG h1.hk 1
  have k2:=zG h1.hk 2
  have k3:=zG h1.hk 3
  have k4:=zG h1.hk 4
  have k5:=zG h1.hk 5
  obtain ⟨W2,hW2,K2,hB2⟩:=alz W1 #[.int .i64 6,.int .i64 o1,.int .i64 o2,.int .i64 o3,.int .i64 o4] 74
  have h2:=h1.below hB2
  have g0:=zG h2.hk 0
  have d0:=zG K2 0
  have d1:=zG K2 1
  have d2:=zG K2 2
  have d3:=zG K2 3
  have d4:=zG K2 4
  have K1':=zE K1 hB2
  have HS:=Lib.hid (sums_calls W2 kb cb 77 ⟨6,o1,o2,o3,o4⟩ vars rs h2 hb0 hb1 hc0 hc1 (fun args W => rfl) (fun x y W' => valueMul_calls x y W'))
  have HK:=Lib.hid (zM K1' (bAfter hB1 hB2))
  clear h h1 h2 K1 K2 K1' hB1 hB2
  generalize sumsP rs ⟨6,o1,o2,o3,o4⟩=sv at HS ⊢
  rcases sv with _ | ⟨v0,v1⟩
  · go_enter Try.func48,Try.ntmps48
    go_wp2_with fail
    refine HS.out.mono ?_
    rintro e w' ⟨rfl,hB⟩
    exact ⟨rfl,rfl,bAfter HK.out.2 hB⟩
  go_enter Try.func48,Try.ntmps48
  go_wp2_with fail
  refine HS.out.mono ?_
  rintro e w' ⟨rfl,hB⟩
  have K3:=zE HK.out.1 hB
  have r0:=zG K3 0
  have r1:=zG K3 1
  have f0:=zH K3 0
  have f1:=zH K3 1
  obtain ⟨W3,hW3,K4,hB3⟩:=put2n (B:=W.heap.size) (.int .i64 v0) (.int .i64 v1) K3 (by omega)
  have q0:=zG K4 0
  have q1:=zG K4 1
  have H3:=Lib.hid ((bAfter HK.out.2 hB).trans hB3)
  clear K3 K4 hB3 hB
  go_wp2_with fail
  refine bodyPost_ret (v:=.tuple #[.agg #[.int .i64 v0,.int .i64 v1],.bool true]) (by simp [results,Try.results48,go_sem,q0,q1]) rfl ⟨rfl,H3.out⟩
set_option maxRecDepth 100000 in
set_option maxHeartbeats 1000000 in
theorem worth_7 (W:World) (kb cb:Nat) (o:S74) (vars:Int) (rs:List S32) (h:Core W kb cb o vars rs) (h0:o.f0=7) (hb0:0 ≤ o.f2) (hb1:o.f2 < 8) (hc0:0 ≤ o.f3) (hc1:o.f3 < 8) :
    Calls Try.prog 48 #[ptr kb] W fun e w' => (match sumsP rs o with | some v => e=told (some v) | none => e=gave 4)∧Below W.heap.size W w':=by
  have hu32:=Try.underlying32
  have hu34:=Try.underlying34
  have hu37:=Try.underlying37
  have hu74:=Try.underlying74
  have hu95:=Try.underlying95
  have hkb:=blk_lt h.hk
  have hcb:=h.lt
  obtain ⟨W1,hW1,K1,hB1⟩:=alz1 W
  obtain ⟨o0,o1,o2,o3,o4⟩:=o
  dsimp only at *
  subst h0
  have h1:=h.below hB1
  have k0:=zG h1.hk 0
  have k1:=zG h1.hk 1
  have k2:=zG h1.hk 2
  have k3:=zG h1.hk 3
  have k4:=zG h1.hk 4
  have k5:=zG h1.hk 5
  obtain ⟨W2,hW2,K2,hB2⟩:=alz W1 #[.int .i64 7,.int .i64 o1,.int .i64 o2,.int .i64 o3,.int .i64 o4] 74
  have h2:=h1.below hB2
  have g0:=zG h2.hk 0
  have d0:=zG K2 0
  have d1:=zG K2 1
  have d2:=zG K2 2
  have d3:=zG K2 3
  have d4:=zG K2 4
  have K1':=zE K1 hB2
  have HS:=Lib.hid (sums_calls W2 kb cb 78 ⟨7,o1,o2,o3,o4⟩ vars rs h2 hb0 hb1 hc0 hc1 (fun args W => rfl) (fun x y W' => less_calls x y W'))
  have HK:=Lib.hid (zM K1' (bAfter hB1 hB2))
  clear h h1 h2 K1 K2 K1' hB1 hB2
  generalize sumsP rs ⟨7,o1,o2,o3,o4⟩=sv at HS ⊢
  rcases sv with _ | ⟨v0,v1⟩
  · go_enter Try.func48,Try.ntmps48
    go_wp2_with fail
    refine HS.out.mono ?_
    rintro e w' ⟨rfl,hB⟩
    exact ⟨rfl,rfl,bAfter HK.out.2 hB⟩
  go_enter Try.func48,Try.ntmps48
  go_wp2_with fail
  refine HS.out.mono ?_
  rintro e w' ⟨rfl,hB⟩
  have K3:=zE HK.out.1 hB
  have r0:=zG K3 0
  have r1:=zG K3 1
  have f0:=zH K3 0
  have f1:=zH K3 1
  obtain ⟨W3,hW3,K4,hB3⟩:=put2n (B:=W.heap.size) (.int .i64 v0) (.int .i64 v1) K3 (by omega)
  have q0:=zG K4 0
  have q1:=zG K4 1
  have H3:=Lib.hid ((bAfter HK.out.2 hB).trans hB3)
  clear K3 K4 hB3 hB
  go_wp2_with fail
  refine bodyPost_ret (v:=.tuple #[.agg #[.int .i64 v0,.int .i64 v1],.bool true]) (by simp [results,Try.results48,go_sem,q0,q1]) rfl ⟨rfl,H3.out⟩
/-- An operation that may be, as far as its registers go. -/
structure OpOK (o:S74):Prop where
  c0:0 ≤ o.f0
  c1:o.f0 < 17
  a0:0 ≤ o.f1
  a1:o.f1 < 8
  b0:0 ≤ o.f2
  b1:o.f0 ≠ 2 → o.f2 < 8
  d0:0 ≤ o.f3
  d1:o.f0 < 8 → o.f3 < 8
theorem worth_calls (W:World) (kb cb:Nat) (o:S74) (vars:Int) (rs:List S32) (h:Core W kb cb o vars rs) (ho:OpOK o) :
    Calls Try.prog 48 #[ptr kb] W fun e w' => (match worthP rs o with | some v => e=told v | none => e=gave 4)∧Below W.heap.size W w':=by
  have c0:=ho.c0
  by_cases h0:o.f0=0
  · rw [show worthP rs o=some (some ⟨1,o.f4⟩) by unfold worthP;rw [if_pos h0]]
    exact worth_0 W kb cb o vars rs h h0
  by_cases h1:o.f0=1
  · rw [show worthP rs o=some (some ⟨0,0⟩) by unfold worthP;rw [if_neg h0,if_pos h1]]
    exact worth_1 W kb cb o vars rs h h1
  by_cases h2:o.f0=2
  · rw [show worthP rs o=some (some ⟨2,o.f2⟩) by unfold worthP;rw [if_neg h0,if_neg h1,if_pos h2]]
    exact worth_2 W kb cb o vars rs h h2
  by_cases h3:o.f0=3
  · rw [show worthP rs o=some (some (regA rs o.f2)) by unfold worthP;rw [if_neg h0,if_neg h1,if_neg h2,if_pos h3]]
    exact worth_3 W kb cb o vars rs h h3 ho.b0 (ho.b1 h2)
  by_cases h8:o.f0 < 8
  · rw [show worthP rs o=(sumsP rs o).map some by unfold worthP;rw [if_neg h0,if_neg h1,if_neg h2,if_neg h3,if_pos h8]]
    have hb:=ho.b1 h2
    have hd:=ho.d1 h8
    have key:Calls Try.prog 48 #[ptr kb] W fun e w' => (match sumsP rs o with | some v => e=told (some v) | none => e=gave 4)∧Below W.heap.size W w':=by
      rcases (show o.f0=4 ∨ o.f0=5 ∨ o.f0=6 ∨ o.f0=7 by omega) with hk | hk | hk | hk
      · exact worth_4 W kb cb o vars rs h hk ho.b0 hb ho.d0 hd
      · exact worth_5 W kb cb o vars rs h hk ho.b0 hb ho.d0 hd
      · exact worth_6 W kb cb o vars rs h hk ho.b0 hb ho.d0 hd
      · exact worth_7 W kb cb o vars rs h hk ho.b0 hb ho.d0 hd
    refine key.mono fun e w' hh => ?_
    cases hs:sumsP rs o <;> rw [hs] at hh <;> exact hh
  · rw [show worthP rs o=some none by unfold worthP;rw [if_neg h0,if_neg h1,if_neg h2,if_neg h3,if_neg h8]]
    exact worth_none W kb cb o vars rs h (by omega)
end Go.Proofs.Ytgnjkegnddekeaa.Q
