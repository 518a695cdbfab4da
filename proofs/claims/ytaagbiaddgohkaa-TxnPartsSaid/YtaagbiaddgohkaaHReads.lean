/- What a transaction has read, by hand. -/
import Derived.Test.YtaagbiaddgohkaaHListed
namespace Go.Proofs.Ytaagbiaddgohkaa.Q
open Go.RowKit Go.Lib Go.Shelf Go.Maps Go.Proofs.Ytaagbiaddgohkaa Go.Proofs.YtaagbiaddgohkaaW.PrintWords Go.Proofs.YtaagbiaddgohkaaW.PrintLast Go.Proofs.YtaagbiaddgohkaaW.PrintMore
set_option linter.unusedVariables false
set_option linter.unusedSimpArgs false
attribute [local go_sem] Oper.semAt_some

theorem C39_put {W : World} {A : Option Addr} {m : Nat} {xs : List S39} {D : Nat} {o : Obj} (h : Kd.C k39 W A m xs) (hD : W.heap[D]? = some o) (ho : o.isCells = false) (o' : Obj) : Kd.C k39 (W.putObj D o') A m xs := by
  obtain ⟨h1, h2, h3⟩ := h
  refine ⟨h1, h2, fun hm => ?_⟩
  obtain ⟨ad, e, hc⟩ := h3 hm
  refine ⟨ad, e, fun j p hp => ?_⟩
  obtain ⟨c, hl, hk, hcell⟩ := hc j p hp
  refine ⟨c, hl, ?_, fun i u hu => cell_kept (hcell i u hu) (grownBy_putObj' W D o') (fun r e => by injection e with e; subst e; exact ⟨_, hD, ho⟩)⟩
  rw [k39_open hk]
  exact k39_mk _ p
theorem wf_i64 {x : Int} (h0 : -9223372036854775808 ≤ x) (h1 : x ≤ 9223372036854775807) : (Lit.int .i64 x).wf = true := by
  simp [Lit.wf, IntKind.min, IntKind.max, IntKind.signed, IntKind.bits]
  omega

set_option maxRecDepth 100000 in
set_option maxHeartbeats 4000000 in
theorem reads_in (n : Nat) (hn : 3 ≤ n) (A : Option Addr) (c : Nat) (l : List S39) (w : World) (hC : Kd.C k39 w A l.length l) (hz : l.length ≤ 1000000) :
    CallsIn Fence.wide n Try.prog 14 #[.slice A l.length c] w fun e w' => ∃ A c, e = .returned (.slice A (readsL l).length c) ∧ Kd.C k39 w' A (readsL l).length (readsL l) ∧ (readsL l).length ≤ c ∧ Below w.heap.size w w' := by
  have hu := Try.underlying39
  have hu29 := Try.underlying29
  have hu53 := Try.underlying53
  have hk3 := int_keyed Try.underlying3
  have hmm := @run_makeMap Try.prog
  have h1 : 1 ≤ n := by omega
  refine callsIn_of_wp_marks Try.func14 rfl trivial ?_ rfl
  simp only [Try.ntmps14, List.size_toArray, List.length_cons, List.length_nil, Nat.reduceAdd, Nat.reduceSub, Array.replicate_succ, Array.replicate_zero, List.push_toArray, List.append_toArray, List.nil_append, List.cons_append]
  gi_wp2_with (refine ⟨trivial, ?_⟩; gi_at_call 23; refine (CallsIn.mono (callsIn_wide.2 (backward_calls A l.length c _)) ?_); rintro e w' ⟨rfl, rfl⟩)
  obtain ⟨W0, hW0, m0, b1, b2, hB0, hsz⟩ : ∃ W0, ((w.alloc (.map #[] 0)).alloc (.cells #[.map (some w.heap.size)] 53)).alloc (.cells #[.slice A l.length c] 29) = W0 ∧
      W0.ownsMap Try.prog 3 r39 w.heap.size 0 (.map []) ∧ W0.heap[w.heap.size + 1]? = some (.cells #[.map (some w.heap.size)] 53 (0, 0)) ∧ W0.heap[w.heap.size + 1 + 1]? = some (.cells #[.slice A l.length c] 29 (0, 0)) ∧ Below w.heap.size w W0 ∧ W0.heap.size = w.heap.size + 3 := by
    obtain ⟨V, rfl, h1, h2, h3, h4, h5⟩ := three_named w (.map #[] 0) (.cells #[.map (some w.heap.size)] 53) (.cells #[.slice A l.length c] 29)
    exact ⟨_, rfl, ((World.ownsMap_made w Try.prog 3 r39).alloc _).alloc _, h2, h3, h4, h5⟩
  rw [hW0]
  clear hW0 hmm
  refine wpIn_rangeFunc_ownH rfl h1 (gf := 32) (lb := #[.pointer (some ⟨w.heap.size + 1 + 1, 0, none⟩)]) rfl trivial (enters_of Try.func32 (by kernel_rfl) rfl)
    (backward_stops (n - 1) (by omega) (w.heap.size + 1 + 1) c A l w W0 hB0 hC b2 hz) KB.trans (fun W l o o' hl h hc hw => KB.put l o o' (by omega) (by omega) h hc hw) (Below.refl _ _) (fun _ => rfl)
    (fun pre W => ((∃ D, W.ownsMap Try.prog 3 r39 w.heap.size pre.length D ∧ Is D (readsF pre)) ∧ W.heap[w.heap.size + 1]? = some (.cells #[.map (some w.heap.size)] 53 (0, 0))) ∧ Below w.heap.size w W)
    (fun _ _ _ => False)
    (OwnFrom.and (OwnFrom.and (fun s X Y row hs hg hr => by
      obtain ⟨D, hD, hI⟩ := hs
      exact ⟨D, hD.kept hg (fun e => by have := (hr _ e.symm).1; omega), hI⟩) (own_cells _ _ (fun _ => .cells #[.map (some w.heap.size)] 53 (0, 0)) fun _ => rfl)) (ownFrom_below (Nat.le_refl _) (by omega)))
    (fun _ _ _ _ _ hs _ _ => hs)
    ⟨⟨⟨_, m0, Is.nil⟩, b1⟩, hB0⟩
    (fun y a' W => ∃ Bx, w.heap.size + 1 < Bx ∧ W.heap[Bx]? = some (stepC y.2) ∧ a' = { tmps := #[.slice A l.length c, undef, .slice none 0 0, .pointer (some ⟨w.heap.size + 1, 0, none⟩), undef, .pointer (some ⟨Bx, 0, none⟩), .map (some w.heap.size), .slice A l.length c, .func (.func 32) #[] #[.pointer (some ⟨w.heap.size + 1 + 1, 0, none⟩)], .int .i64 (y.1 : Int), v39 y.2, undef, undef, undef, undef, undef, undef, undef, undef, undef, undef, undef, undef, undef, undef, undef, undef, undef, undef, undef], defers := [] })
    (fun y a' _ X Y row hs hg hr => by obtain ⟨Bx, h1, h2, h3⟩ := hs; exact ⟨Bx, h1, own_cells W0.heap.size Bx (fun _ : Unit => stepC y.2) (fun _ => rfl) () X Y row h2 hg hr, h3⟩)
    ?assign ?body ?done ?stop
  case assign =>
    rintro ll pre y W K ⟨⟨⟨D, hD, hI⟩, bv⟩, hB⟩ hK
    have HK := Lib.hid hK
    clear hK
    gi_wp2
    refine HK.out _ _ ((KeepsOthers.alloc _ _).from _) ⟨(Below.refl _ W).alloc hB.size _, fun hb => heap_alloc_old _ _ hb⟩ ⟨⟨⟨D, hD.alloc _, hI⟩, blk_alloc bv _⟩, hB.alloc hB.size _⟩ ⟨W.heap.size, blk_lt bv, heap_alloc_new _ _, rfl⟩
  case body =>
    rintro ll pre y a' W hl ⟨r, hr⟩ ⟨⟨⟨D, hD, hI⟩, bv⟩, hB⟩ ⟨Bx, hBx, bX, rfl⟩ hlt
    have d1 := blk_cell bv 0
    have x0 := blk_cell bX 0
    have x1 := blk_cell bX 1
    have x2 := blk_cell bX 2
    have x3 := blk_cell bX 3
    have HB := Lib.hid (And.intro hB (And.intro bv hI))
    clear hB bv hI bX
    have HM := Lib.hid (fun W2 (hg : W.grownBy W2 (some w.heap.size)) => (show KeepsFrom W0.heap.size W W2 ∧ KB w.heap.size (w.heap.size + 1 + 1) W W2 from
      ⟨KeepsFrom.of_grownBy hg (fun j e => by injection e with e; omega), (Below.refl _ W).grown hg HB.out.1.size (fun k e => by injection e with e; omega), fun hb => hg.block _ hb (fun e => by injection e with e; omega)⟩))
    obtain ⟨i, s0, ⟨s1, s2⟩, s3⟩ := y
    dsimp only at x0 x1 x2 x3
    dsimp only [v39]
    by_cases c1 : s3 = false
    · subst c1
      by_cases c2 : 0 ≤ s0
      · by_cases c3 : s0 < 64
        · have hwf : (Lit.int .i64 s0).wf = true := wf_i64 (by omega) (by omega)
          have hst : readsF (pre ++ [(i, ⟨s0, ⟨s1, s2⟩, false⟩)]) = fun z => if z = s0 then some ⟨s0, ⟨s1, s2⟩, false⟩ else readsF pre z := by
            rw [readsF_snoc]; unfold putR; rw [if_pos ⟨rfl, c2, c3⟩]
          gi_wp2_with (gi_at_mapUpdate; refine wpListIn_mapUpdate_own _ rfl _ _ _ 53 rfl 3 39 hk3 hu53 r39 w.heap.size pre.length D rfl hD (by simp only [maxLen]; omega) _ _ _ rfl rfl (Maps.keyOf_int_mk Try.underlying3 hwf) (.held ⟨s0, ⟨s1, s2⟩, false⟩) [] rfl ?_; intro w1 hown1 hgrow1)
          obtain ⟨k1, k2⟩ := HM.out _ hgrow1
          exact ⟨k1, k2, ⟨⟨_, by rw [List.length_append]; exact hown1, by rw [hst]; exact HB.out.2.2.put s0 ⟨s0, ⟨s1, s2⟩, false⟩⟩, (hgrow1.block _ (blk_lt HB.out.2.1) (fun e => by injection e with e; omega)).trans HB.out.2.1⟩, HB.out.1.trans k2.1⟩
        · have hst : readsF (pre ++ [(i, ⟨s0, ⟨s1, s2⟩, false⟩)]) = readsF pre := by
            rw [readsF_snoc]; unfold putR; rw [if_neg (fun h => c3 h.2.2)]
          have HST := Lib.hid hst
          clear hst
          gi_wp2
          exact ⟨KeepsFrom.refl _ _, KB.refl _ _ _, ⟨⟨D, by rw [List.length_append]; exact hD.mono (by simp), by rw [HST.out]; exact HB.out.2.2⟩, HB.out.2.1⟩, HB.out.1⟩
      · have hst : readsF (pre ++ [(i, ⟨s0, ⟨s1, s2⟩, false⟩)]) = readsF pre := by
          rw [readsF_snoc]; unfold putR; rw [if_neg (fun h => c2 h.2.1)]
        have HST := Lib.hid hst
        clear hst
        gi_wp2
        exact ⟨KeepsFrom.refl _ _, KB.refl _ _ _, ⟨⟨D, by rw [List.length_append]; exact hD.mono (by simp), by rw [HST.out]; exact HB.out.2.2⟩, HB.out.2.1⟩, HB.out.1⟩
    · obtain rfl : s3 = true := by simpa using c1
      have hst : readsF (pre ++ [(i, ⟨s0, ⟨s1, s2⟩, true⟩)]) = readsF pre := by
        rw [readsF_snoc]; unfold putR; rw [if_neg (fun h => by cases h.1)]
      have HST := Lib.hid hst
      clear hst
      gi_wp2
      exact ⟨KeepsFrom.refl _ _, KB.refl _ _ _, ⟨⟨D, by rw [List.length_append]; exact hD.mono (by simp), by rw [HST.out]; exact HB.out.2.2⟩, HB.out.2.1⟩, HB.out.1⟩
  case done =>
    rintro D ys W hD rfl ⟨⟨⟨D', hD', hI⟩, bv⟩, hB⟩ hK
    have d1 := blk_cell bv 0
    gi_wp2_with (refine ⟨trivial, ?_⟩; gi_at_call 22; refine (CallsIn.mono (callsIn_wide.2 (listed_calls _ _ D' _ W hD' hI (good_reads _) (by rw [rz_len]; omega))) ?_); rintro e w' ⟨A', c', rfl, hC', hc', hb'⟩)
    have hK2 := (hb'.block _ (blk_lt hK)).trans hK
    refine ⟨by simp, .inl ⟨_, _, rfl, run_takeDeferred hK2, ?_⟩⟩
    have hg := grownBy_putObj' w' D (.deferred none)
    refine ⟨_, results_tmp rfl _ _ _, A', c', rfl, ?_, hc', (hB.trans (hb'.mono hB.size)).trans ((Below.refl _ _).grown hg (by have := hB.size; have := hb'.size; omega) (fun k e => by injection e with e; omega))⟩
    exact C39_put hC' hK2 rfl _
  case stop =>
    rintro D cc pre W hD _ h _
    exact h.elim

theorem reads_calls (A : Option Addr) (c : Nat) (l : List S39) (w : World) (hC : Kd.C k39 w A l.length l) (hz : l.length ≤ 1000000) :
    Calls Try.prog 14 #[.slice A l.length c] w fun e w' => ∃ A c, e = .returned (.slice A (readsL l).length c) ∧ Kd.C k39 w' A (readsL l).length (readsL l) ∧ (readsL l).length ≤ c ∧ Below w.heap.size w w' :=
  callsIn_wide.1 (reads_in 3 (Nat.le_refl _) A c l w hC hz)

end Go.Proofs.Ytaagbiaddgohkaa.Q
