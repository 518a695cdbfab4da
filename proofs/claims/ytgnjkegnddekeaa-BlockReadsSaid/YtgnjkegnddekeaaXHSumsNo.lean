/- What two registers come to, where one of them is no number, by hand. -/
import Derived.Test.YtgnjkegnddekeaaXNumM
import Derived.RegionDies
open And renaming intro → zM
namespace Go.Proofs.Ytgnjkegnddekeaa.Q
open Go.RowKit Go.Lib Go.Proofs.Ytgnjkegnddekeaa Go.Proofs.YtgnjkegnddekeaaW.PrintWords Go.Proofs.YtgnjkegnddekeaaW.PrintLast Go.Proofs.YtgnjkegnddekeaaW.PrintMore
set_option linter.unusedVariables false
set_option linter.unusedSimpArgs false
theorem number_no {W:World} {kb cb:Nat} {o:S74} {vars:Int} {rs:List S32} {r:Nat} {v:S32} (h:Core W kb cb o vars rs) (hr:rs[r]?=some v) (hv:v.f0 ≠ 1) :
    Calls Try.prog 50 #[ptr kb,.int .i64 r] W fun x w' => x=gave 4∧Below W.heap.size W w':=by
  have:=number_calls W kb cb o vars rs r v h hr
  rwa [if_neg hv] at this
set_option maxRecDepth 100000 in
set_option maxHeartbeats 1000000 in
theorem sums_no1 (W:World) (kb cb pf:Nat) (o:S74) (vars:Int) (rs:List S32) (b c:Nat) (v:S32) (h:Core W kb cb o vars rs) (hb:o.f2=b) (hc:o.f3=c) (hx:rs[b]?=some v) (hv:v.f0 ≠ 1) :
    Calls Try.prog 74 #[ptr kb,.func (.func pf) #[] #[]] W fun e w' => e=gave 4∧Below W.heap.size W w':=by
  have hu32:=Try.underlying32
  have hu34:=Try.underlying34
  have hu74:=Try.underlying74
  have hu95:=Try.underlying95
  have hkb:=blk_lt h.hk
  obtain ⟨W1,hW1,K1,hB1⟩:=alz1 W
  have h1:=h.below hB1
  obtain ⟨o0,o1,o2,o3,o4⟩:=o
  dsimp only at hb hc
  subst hb;subst hc
  have c2:W1.cell? ⟨kb,3,none⟩=some (.int .i64 (b:Int)):=zG h1.hk 3
  have c3:W1.cell? ⟨kb,4,none⟩=some (.int .i64 (c:Int)):=zG h1.hk 4
  have c2':(W1.alloc (.cells #[.int .i64 0,.int .i64 0] 32)).cell? ⟨kb,3,none⟩=some (.int .i64 (b:Int)):=zG (zE h1.hk (bOne _)) 3
  have c3':(W1.alloc (.cells #[.int .i64 0,.int .i64 0] 32)).cell? ⟨kb,4,none⟩=some (.int .i64 (c:Int)):=zG (zE h1.hk (bOne _)) 4
  have HN1:=Lib.hid fun W' (hB:Below W1.heap.size W1 W') => (number_no (h1.below hB) hx hv).mono fun e w' hh => (zM hh.1 (bAfter hB hh.2):e=gave 4∧Below W1.heap.size W1 w')
  have HK:=Lib.hid (zM K1 hB1)
  clear h h1 hx K1 hB1
  go_enter Try.func74,Try.ntmps74
  go_wp2_with fail
  go_region_dies
  all_goals (refine (HN1.out _ ?_).mono ?_;(first | exact zI (bOne _) _ | exact zI (Below.refl _ _) _))
  all_goals (rintro e w' ⟨rfl,hB⟩;exact ⟨rfl,rfl,bAfter HK.out.2 hB⟩)
set_option maxRecDepth 100000 in
set_option maxHeartbeats 2000000 in
theorem sums_no2 (W:World) (kb cb pf:Nat) (o:S74) (vars:Int) (rs:List S32) (b c:Nat) (x:Int) (v:S32) (h:Core W kb cb o vars rs) (hb:o.f2=b) (hc:o.f3=c) (hx:rs[b]?=some ⟨1,x⟩) (hy:rs[c]?=some v) (hv:v.f0 ≠ 1) :
    Calls Try.prog 74 #[ptr kb,.func (.func pf) #[] #[]] W fun e w' => e=gave 4∧Below W.heap.size W w':=by
  have hu32:=Try.underlying32
  have hu34:=Try.underlying34
  have hu74:=Try.underlying74
  have hu95:=Try.underlying95
  have hkb:=blk_lt h.hk
  obtain ⟨W1,hW1,K1,hB1⟩:=alz1 W
  have h1:=h.below hB1
  obtain ⟨o0,o1,o2,o3,o4⟩:=o
  dsimp only at hb hc
  subst hb;subst hc
  have c2:W1.cell? ⟨kb,3,none⟩=some (.int .i64 (b:Int)):=zG h1.hk 3
  have c3:W1.cell? ⟨kb,4,none⟩=some (.int .i64 (c:Int)):=zG h1.hk 4
  have c2':(W1.alloc (.cells #[.int .i64 0,.int .i64 0] 32)).cell? ⟨kb,3,none⟩=some (.int .i64 (b:Int)):=zG (zE h1.hk (bOne _)) 3
  have c3':(W1.alloc (.cells #[.int .i64 0,.int .i64 0] 32)).cell? ⟨kb,4,none⟩=some (.int .i64 (c:Int)):=zG (zE h1.hk (bOne _)) 4
  have HC3:=Lib.hid fun W' (hB:Below W1.heap.size W1 W') => (zG (zE h1.hk hB) 4:W'.cell? ⟨kb,4,none⟩=some (.int .i64 (c:Int)))
  have HN1:=Lib.hid fun W' (hB:Below W1.heap.size W1 W') => (number_yes (h1.below hB) hx).mono fun e w' hh => (zM hh.1 (bAfter hB hh.2):e=.returned (.agg #[.int .i64 1,.int .i64 x])∧Below W1.heap.size W1 w')
  have HN2:=Lib.hid fun W' (hB:Below W1.heap.size W1 W') => (number_no (h1.below hB) hy hv).mono fun e w' hh => (zM hh.1 (bAfter hB hh.2):e=gave 4∧Below W1.heap.size W1 w')
  have HK:=Lib.hid (zM K1 hB1)
  clear h h1 hx hy K1 hB1
  go_enter Try.func74,Try.ntmps74
  go_wp2_with fail
  go_region_dies
  all_goals (refine (HN1.out _ ?_).mono ?_;(first | exact zI (bOne _) _ | exact zI (Below.refl _ _) _))
  all_goals (rintro e w' ⟨rfl,hB⟩;have d3:=HC3.out _ hB;have d3':=HC3.out _ (bAfter hB (bOne (.cells #[.int .i64 0,.int .i64 0] 32)));rename_i K hK;refine hK _ _ ?_;clear hK K)
  all_goals (first | ((with_reducible show wpAny _ _ _ _ _ _ _ _);refine wpAny_ready (rs:=[13,19]) ?_ (by simp) ?_;(· decide +kernel);refine (AllReady.cons rfl (fun K hK => ?_) (AllReady.cons rfl (fun K hK => ?_) AllReady.nil))) | ((with_reducible show wpAny _ _ _ _ _ _ _ _);refine wpAny_ready (rs:=[14,19]) ?_ (by simp) ?_;(· decide +kernel);refine (AllReady.cons rfl (fun K hK => ?_) (AllReady.cons rfl (fun K hK => ?_) AllReady.nil))) | ((with_reducible show wpAny _ _ _ _ _ _ _ _);refine wpAny_ready (rs:=[13]) ?_ (by simp) ?_;(· decide +kernel);refine (AllReady.cons rfl (fun K hK => ?_) AllReady.nil)) | ((with_reducible show wpAny _ _ _ _ _ _ _ _);refine wpAny_ready (rs:=[14]) ?_ (by simp) ?_;(· decide +kernel);refine (AllReady.cons rfl (fun K hK => ?_) AllReady.nil))) <;> go_simp <;> first | (refine hK _ _ ?_;clear hK K) | skip
  all_goals try ((first | ((with_reducible show wpAny _ _ _ _ _ _ _ _);refine wpAny_ready (rs:=[13,19]) ?_ (by simp) ?_;(· decide +kernel);refine (AllReady.cons rfl (fun K hK => ?_) (AllReady.cons rfl (fun K hK => ?_) AllReady.nil))) | ((with_reducible show wpAny _ _ _ _ _ _ _ _);refine wpAny_ready (rs:=[14,19]) ?_ (by simp) ?_;(· decide +kernel);refine (AllReady.cons rfl (fun K hK => ?_) (AllReady.cons rfl (fun K hK => ?_) AllReady.nil))) | ((with_reducible show wpAny _ _ _ _ _ _ _ _);refine wpAny_ready (rs:=[13]) ?_ (by simp) ?_;(· decide +kernel);refine (AllReady.cons rfl (fun K hK => ?_) AllReady.nil)) | ((with_reducible show wpAny _ _ _ _ _ _ _ _);refine wpAny_ready (rs:=[14]) ?_ (by simp) ?_;(· decide +kernel);refine (AllReady.cons rfl (fun K hK => ?_) AllReady.nil))) <;> go_simp <;> first | (refine hK _ _ ?_;clear hK K) | skip)
  all_goals try ((first | ((with_reducible show wpAny _ _ _ _ _ _ _ _);refine wpAny_ready (rs:=[13,19]) ?_ (by simp) ?_;(· decide +kernel);refine (AllReady.cons rfl (fun K hK => ?_) (AllReady.cons rfl (fun K hK => ?_) AllReady.nil))) | ((with_reducible show wpAny _ _ _ _ _ _ _ _);refine wpAny_ready (rs:=[14,19]) ?_ (by simp) ?_;(· decide +kernel);refine (AllReady.cons rfl (fun K hK => ?_) (AllReady.cons rfl (fun K hK => ?_) AllReady.nil))) | ((with_reducible show wpAny _ _ _ _ _ _ _ _);refine wpAny_ready (rs:=[13]) ?_ (by simp) ?_;(· decide +kernel);refine (AllReady.cons rfl (fun K hK => ?_) AllReady.nil)) | ((with_reducible show wpAny _ _ _ _ _ _ _ _);refine wpAny_ready (rs:=[14]) ?_ (by simp) ?_;(· decide +kernel);refine (AllReady.cons rfl (fun K hK => ?_) AllReady.nil))) <;> go_simp <;> first | (refine hK _ _ ?_;clear hK K) | skip)
  all_goals (refine (HN2.out _ ?_).mono ?_;(first | exact hB | exact bAfter hB (bOne _)))
  all_goals (rintro e w'' ⟨rfl,hB2⟩;exact ⟨rfl,rfl,bAfter HK.out.2 hB2⟩)
end Go.Proofs.Ytgnjkegnddekeaa.Q
