/- The values of a map of told steps, in order: maps.Values, Collect, SortFunc, SortedFunc, by hand. -/
import Derived.Test.YtkijjgdcbgmglaaLives
import Derived.RangeFuncNested
import Derived.RangeFuncBound
import Derived.RangeFuncCalls
import Derived.RangeFuncLeaves
import Derived.RangeFuncBox
import Derived.Shelf.Abstract
import Derived.Shelf.RegionOpen
import Derived.OwnWalkIn
import Derived.TacticsInMore
import Derived.LoopNIn
import Derived.LoopIn
import Derived.Maps.OwnIn
import Derived.RangeFuncMany
import Derived.Shelf.AbstractIn
import Derived.Sort.MapsRangeIn
import Derived.Sort.KeysCollected
import Derived.RegionIn
import Derived.Maps.AppendAt
import Derived.Maps.OwnSet
import Derived.Shelf.SlSortCmp.WholeK
import Derived.Shelf.SlicesG.Cmp
import Derived.Shelf.Lay
import Derived.Ground.SlsfProg
import Derived.Ground.SlgcProg
import Derived.Shelf.SlSortCmp.NoneTotal
import Derived.Test.YtkijjgdcbgmglaaLoops
import Derived.Deep.LoopGhost
import Derived.WalkKit
/-! The values of a map of told steps, in order: maps.Values, Collect, SortFunc, SortedFunc, by hand. -/
namespace Go.Proofs.Ytkijjgdcbgmglaa.Q
open Go.RowKit Go.Lib Go.Shelf Go.Maps Go.Proofs.Ytkijjgdcbgmglaa Go.Proofs.YtkijjgdcbgmglaaW.PrintWords Go.Proofs.YtkijjgdcbgmglaaW.PrintLast Go.Proofs.YtkijjgdcbgmglaaW.PrintMore
set_option linter.unusedVariables false
set_option maxRecDepth 100000
set_option linter.unusedSimpArgs false
attribute [local go_sem] Oper.semAt_some
/-- An event of a life, as a kind of row. -/
def k105 : Kd Told := Kd.iso (Kd.pair (Kd.int .i64) k103) (fun x : Told => (x.at_, x.st))
abbrev c105 (t : Told) : List Value := [.int .i64 t.at_, .int .i64 t.st.f0, .int .i64 t.st.f1.f0, .int .i64 t.st.f1.f1, .bool t.st.f2]
theorem k105_open {w : World} {x : Told} {cs : List Value} (h : k105.K w x cs) : cs = c105 x := by
  obtain ⟨_, _, rfl, rfl, s1⟩ := h
  obtain rfl := k103_open s1
  exact rfl
theorem k105_mk (w : World) (x : Told) : k105.K w x (c105 x) := ⟨[.int .i64 x.at_], [.int .i64 x.st.f0, .int .i64 x.st.f1.f0, .int .i64 x.st.f1.f1, .bool x.st.f2], rfl, rfl, k103_mk w x.st⟩
theorem k105_mkM (w : World) (base : Nat) (ok : Nat → Prop) (x : Told) : k105.M w base ok x (c105 x) := ⟨[.int .i64 x.at_], [.int .i64 x.st.f0, .int .i64 x.st.f1.f0, .int .i64 x.st.f1.f1, .bool x.st.f2], rfl, rfl, k103_mkM w base ok x.st⟩
def zTold : Told := ⟨0, ⟨0, ⟨0, 0⟩, false⟩⟩
def rd_T105 (xs : List Told) (i : Int) : Told := xs.getD i.toNat zTold
theorem at_T105 {w : World} {A : Option Addr} {n : Nat} {xs : List Told} (h : Kd.C k105 w A n xs) (i : Int) (h0 : 0 ≤ i) (h1 : i < n) : ∃ ad , A = some ad ∧ w.cell? (ad.add (i.toNat * 5)) = some (.int .i64 (rd_T105 xs i).at_) ∧ w.cell? ⟨(ad.add (i.toNat * 5)).block, (ad.add (i.toNat * 5)).off + 1, none⟩ = some (.int .i64 (rd_T105 xs i).st.f0) ∧ w.cell? ⟨(ad.add (i.toNat * 5)).block, (ad.add (i.toNat * 5)).off + 2, none⟩ = some (.int .i64 (rd_T105 xs i).st.f1.f0) ∧ w.cell? ⟨(ad.add (i.toNat * 5)).block, (ad.add (i.toNat * 5)).off + 3, none⟩ = some (.int .i64 (rd_T105 xs i).st.f1.f1) ∧ w.cell? ⟨(ad.add (i.toNat * 5)).block, (ad.add (i.toNat * 5)).off + 4, none⟩ = some (.bool (rd_T105 xs i).st.f2) := by
  obtain ⟨ad, c, e, _, hK, hc0⟩ := Kd.C_get h zTold i h0 h1
  have hc : ∀ j u, c[j]? = some u → w.cell? (ad.add (i.toNat * 5 + j)) = some u := hc0
  obtain rfl := k105_open hK
  exact ⟨ad, e, hc 0 _ rfl, by rw [← add_field _ _ 1 (by omega)]; exact hc 1 _ rfl, by rw [← add_field _ _ 2 (by omega)]; exact hc 2 _ rfl, by rw [← add_field _ _ 3 (by omega)]; exact hc 3 _ rfl, by rw [← add_field _ _ 4 (by omega)]; exact hc 4 _ rfl⟩
theorem info105 : (Try.prog.info? 105).map (fun i => (i.zero, i.size, i.bytes)) = some (some (.agg #[.int .i64 0, .int .i64 0, .int .i64 0, .int .i64 0, .bool false]), 5, 40) := by kernel_rfl
/-- A block of cells is left as it is by the turns of loops. -/
theorem own_cells {β : Type} (B b : Nat) (o : β → Obj) (ho : ∀ s, (o s).isCells = true) : OwnFrom B (fun (s : β) (W : World) => W.heap[b]? = some (o s)) := fun s X Y row hs hg hr =>
  (hg.block b (blk_lt hs) (fun e => by obtain ⟨_, o', h1, h2⟩ := hr b e.symm; rw [hs] at h1; cases h1; rw [ho s] at h2; cases h2)).trans hs
abbrev stepC (s : Told) : Obj := .cells #[.int .i64 s.at_, .int .i64 s.st.f0, .int .i64 s.st.f1.f0, .int .i64 s.st.f1.f1, .bool s.st.f2] 105 (0, 0)
/-- What has come, by its keys. -/
def SoFar (D0 : DataW Told) (left : Lit → Bool) (ps : List (Int × Told)) : Prop :=
  (ps.map (·.1)).Nodup ∧ (∀ x, x ∈ ps.map (·.1) ↔ (has D0 (.int .i64 x) = true ∧ left (.int .i64 x) = false)) ∧ ∀ p ∈ ps, ∀ zd, D0.atKey (.int .i64 p.1) zd = .held p.2
theorem SoFar.start (D0 : DataW Told) : SoFar D0 (has D0) [] := ⟨List.nodup_nil, (fun x => by cases has D0 (.int .i64 x) <;> simp), fun p hp => by cases hp⟩
theorem SoFar.step {D0 : DataW Told} {left : Lit → Bool} {ps : List (Int × Told)} (h : SoFar D0 left ps) {x : Int} {s : Told} (hlk : left (.int .i64 x) = true) (hat : ∀ zd, D0.atKey (.int .i64 x) zd = .held s) : SoFar D0 (fun z => left z && !z.sameKey (.int .i64 x)) (ps ++ [(x, s)]) := by
  have hhas : has D0 (.int .i64 x) = true := has_true_of_atKey hat
  have hnew : x ∉ ps.map (·.1) := fun hx => by have := ((h.2.1 x).1 hx).2; rw [hlk] at this; cases this
  refine ⟨?_, fun y => ?_, fun p hp => ?_⟩
  · rw [List.map_append]
    exact List.nodup_append.2 ⟨h.1, by simp, fun a ha b hb => by simp at hb; subst hb; exact fun e => hnew (e ▸ ha)⟩
  · rw [List.map_append, List.mem_append, h.2.1 y]
    by_cases hy : y = x
    · subst hy; simp [hhas, Lit.sameKey]
    · simp [hy, Lit.sameKey]
  · rcases List.mem_append.1 hp with h1 | h1
    · exact h.2.2 p h1
    · cases List.mem_singleton.1 h1; exact hat
/-- All has come: each key once. -/
def AllOf (D0 : DataW Told) (xs : List Told) : Prop := ∃ ps : List (Int × Told), xs = ps.map (·.2) ∧ SoFar D0 (fun _ => false) ps

set_option maxRecDepth 100000 in
set_option maxHeartbeats 1000000 in
theorem values1_in (n : Nat) (hn : 1 ≤ n) (l Bm b nn : Nat) (D0 : DataW Told) (J Jx : List Told → World → Prop)
    (hY : ∀ pre x W, J pre W → pre.length < Maps.size D0 → YieldAt Fence.wide (n - 1) Try.prog l #[v105 x] W fun e W' =>
      (e = .returned (.bool true) ∧ J (pre ++ [x]) W' ∧ KeepsWalks W W') ∨ (e = .returned (.bool false) ∧ Jx (pre ++ [x]) W'))
    (W : World) (hJ : AbidesFrom W.heap.size J) (hm : W.heap[Bm]? = some (.cells #[.map (some b)] 84 (0, 0))) (hown : W.ownsMap Try.prog 3 r105 b nn D0) (h0 : J [] W) :
    CallsIn Fence.wide n Try.prog 69 #[.func (.yield l) #[] #[], .pointer (some ⟨Bm, 0, none⟩)] W fun e W' => (∃ v, e = .returned v) ∧
      ((∃ xs, AllOf D0 xs ∧ J xs W') ∨ (∃ pre, True ∧ Jx pre W')) := by
  have hu := Try.underlying105
  have hu84 := Try.underlying84
  have hk3 := int_keyed Try.underlying3
  have b0 := blk_cell hm 0
  refine callsIn_of_wp Try.func69 rfl trivial ?_ rfl
  simp only [Try.ntmps69, List.size_toArray, List.length_cons, List.length_nil, Nat.reduceAdd, Nat.reduceSub, Array.replicate_succ, Array.replicate_zero, List.push_toArray, List.append_toArray, List.nil_append, List.cons_append]
  gi_wp2_with (first
    | (gi_at_range; refine wpListIn_range_own _ rfl _ 84 rfl 3 105 hk3 hu84 r105 b nn _ rfl hown ?_; intro w0 hrg0 hg0 hs0)
    | gi_in)
  go_frame
  gi_loopw [4] (fun _ wr => ∃ (left : Lit → Bool) (cnt : Nat) (ps : List (Int × Told)), wr.ranges Try.prog 3 r105 b W.heap.size nn D0 left cnt ∧ ps.length + cnt ≤ Maps.size D0 ∧ SoFar D0 left ps ∧ J (ps.map (·.2)) wr)
    (fun _ wr => wr.rangeLeft b W.heap.size)
  case atStart =>
    exact ⟨_, _, [], hrg0, by simp, SoFar.start D0, hJ [] W w0 none h0 hg0 (fun r e => by cases e)⟩
  case round =>
    obtain ⟨left, cnt, ps, hrg, hcs, hC, hJs⟩ := hrel
    gi_wp2_with (first
      | (gi_at_next; refine wpListIn_next_ranges _ rfl _ rfl 3 hk3 r105 (Value.int .i64) v105 (fun key kl hk => by obtain ⟨x, hx, _⟩ := Maps.keyOf_int_inv Try.underlying3 hk; exact ⟨x, hx⟩) (fun v y hv => by obtain ⟨c, rfl, _⟩ := r105_inv hv; exact ⟨c, rfl⟩) b W.heap.size nn _ _ _ rfl hrg ?_ ?_)
      | gi_in)
    · intro hc0 hl0
      gi_wp2
      go_end0
      refine ⟨⟨_, rfl⟩, .inl ⟨_, ⟨ps, rfl, ?_⟩, hJs⟩⟩
      have : left = fun _ => false := funext hl0
      rw [← this]
      exact hC
    · intro x c kl yd yp w2 cnt2 hkey hlk hv hat hrg2 hlt hg2 hs2 hen
      obtain ⟨x', ex, rfl, _⟩ := Maps.keyOf_int_inv Try.underlying3 hkey
      cases ex
      rw [r105_mk] at hv
      obtain ⟨rfl, rfl⟩ := Prod.mk.inj (Option.some.inj hv)
      have hJ2 : J (ps.map (·.2)) w2 := hJ _ wr w2 (some W.heap.size) hJs hg2 (fun r e => by cases e; exact ⟨Nat.le_refl _, hrg.iter_walk⟩)
      have hJ3 := hJ _ w2 (w2.alloc (.cells #[.int .i64 c.at_, .int .i64 c.st.f0, .int .i64 c.st.f1.f0, .int .i64 c.st.f1.f1, .bool c.st.f2] 105)) none hJ2 (World.grownBy_alloc _ _ _) (fun r e => by cases e)
      obtain ⟨fn, tmps, assign, body, hy, hR⟩ := hY (ps.map (·.2)) c _ hJ3 (by simp; omega)
      have HR := Lib.hid hR
      have HX := Lib.hid (And.intro hrg (And.intro hJ3 (And.intro hJs hrg2)))
      have HC := Lib.hid (hC.step hlk hat)
      clear hs2 hR hrg hJ2 hJ3 hJs hrg2 hC hat hv hlk
      gi_wp2
      refine HR.out.mono ?_
      rintro e W3 (⟨rfl, hJ4, hk4⟩ | ⟨rfl, hJx4⟩)
      · have HN := Lib.hid (And.intro (show J ((ps ++ [(x, c)]).map (·.2)) W3 by simpa using hJ4) (((HX.out.2.2.2.alloc _).of_walks hk4)))
        clear hJ4 hk4
        gi_wp2
        go_roundw
        case rel => exact ⟨_, cnt2, ps ++ [(x, c)], HN.out.2, by simp; omega, HC.out, HN.out.1⟩
        case measure => rw [HN.out.2.left_eq, HX.out.1.left_eq]; exact hlt
      · have HN := Lib.hid hJx4
        clear hJx4
        gi_wp2
        refine bodyPost_ret (results_none rfl _ _ _) rfl ?_
        exact ⟨⟨_, rfl⟩, .inr ⟨_, trivial, HN.out⟩⟩

theorem values_calls (b : Nat) (w : World) :
    Calls Try.prog 59 #[.map (some b)] w fun e w' => e = .returned (.func (.func 69) #[] #[.pointer (some ⟨w.heap.size, 0, none⟩)]) ∧ w' = w.alloc (.cells #[.map (some b)] 84) := by
  go_enter Try.func59, Try.ntmps59
  go_wp2
  go_ret
  exact ⟨rfl, rfl⟩
theorem values_stops (n : Nat) (hn : 1 ≤ n) (Bm b nn : Nat) (D0 : DataW Told) (w : World) (hm : w.heap[Bm]? = some (.cells #[.map (some b)] 84 (0, 0))) (hown : w.ownsMap Try.prog 3 r105 b nn D0) :
    SeqStopsK Fence.wide n Try.prog 69 #[.pointer (some ⟨Bm, 0, none⟩)] (fun s => #[v105 s]) KeepsWalks (AllOf D0) (fun _ => True) (Maps.size D0) w := fun l J Jx W hW hJ _ hY h0 => by
  have hown' : W.ownsMap Try.prog 3 r105 b nn D0 := by
    have hbl := hown.lt
    obtain ⟨es, clock, hb, Ft, hs, hD⟩ := hown
    exact ⟨es, clock, (hW.block b hbl).trans hb, Ft, hs, hD⟩
  exact values1_in n hn l Bm b nn D0 J Jx hY W hJ ((hW.block Bm (blk_lt hm)).trans hm) hown' h0

theorem cells_new (w : World) (cs : List Value) (t : TypeId) : ∀ j u, cs[j]? = some u → (w.alloc (.cells cs.toArray t)).cell? ((⟨w.heap.size, 0, none⟩ : Addr).add j) = some u := by
  intro j u hj
  have : (⟨w.heap.size, 0, none⟩ : Addr).add j = ⟨w.heap.size, j, none⟩ := by unfold Addr.add; split <;> simp_all
  rw [this, blk_cell (heap_alloc_new w (.cells cs.toArray t)) j]
  simpa using hj
theorem flat_snoc (pre : List Told) (x : Told) : (pre ++ [x]).flatMap c105 = pre.flatMap c105 ++ c105 x := by simp

set_option maxRecDepth 100000 in
set_option maxHeartbeats 2000000 in
theorem appendSeq_in (n : Nat) (hn : 3 ≤ n) (gf : Nat) (lb : Array Value) (eg : ∀ args w, (callFunc gf args).run Try.prog w = .ok (.enter gf args) w) (w : World) (S : List Told → Prop) (N : Nat) (hN : N ≤ 1000000)
    (hseq : SeqStopsK Fence.wide (n - 1) Try.prog gf lb (fun s => #[v105 s]) KeepsWalks S (fun _ => True) N w) :
    CallsIn Fence.wide n Try.prog 74 #[.slice none 0 0, .func (.func gf) #[] lb] w fun e w' => ∃ xs v, S xs ∧ xs.length ≤ N ∧ e = .returned v ∧ w'.ownsRow w.heap.size 105 5 v xs.length (xs.flatMap c105) ∧ Below w.heap.size w w' := by
  have hu := Try.underlying105
  have hu111 := Try.underlying111
  obtain ⟨i0, hi, hz0, hz1, hz2⟩ := info_parts info105
  have h1 : 1 ≤ n := by omega
  refine callsIn_of_wp_marks Try.func74 rfl trivial ?_ rfl
  simp only [Try.ntmps74, List.size_toArray, List.length_cons, List.length_nil, Nat.reduceAdd, Nat.reduceSub, Array.replicate_succ, Array.replicate_zero, List.push_toArray, List.append_toArray, List.nil_append, List.cons_append]
  gi_wp2
  have bX := Go.Boxed.new w 111 (.slice none 0 0)
  have hB0 : Below w.heap.size w (w.alloc (.cells #[.slice none 0 0] 111)) := bOne _
  have hsz : (w.alloc (.cells #[.slice none 0 0] 111)).heap.size = w.heap.size + 1 := by simp
  generalize hW0 : w.alloc (.cells #[.slice none 0 0] 111) = W0 at bX hB0 hsz ⊢
  refine wpIn_rangeFunc_ownH rfl h1 (gf := gf) (lb := lb) rfl trivial eg hseq walksK_t walksK_b hB0 (fun _ => rfl)
    (fun pre W => (∃ v, Go.Boxed W w.heap.size 111 v ∧ W.ownsRow w.heap.size 105 5 v pre.length (pre.flatMap c105) ∧ pre.length ≤ N) ∧ Below w.heap.size w W)
    (fun _ _ _ => False)
    (OwnFrom.and (Own.from (holdsRow_own w.heap.size w.heap.size 111 105 5 List.length (fun pre => pre.flatMap c105) (fun pre _ => pre.length ≤ N)) _) (ownFrom_below (Nat.le_refl _) (by omega)))
    (fun _ _ _ _ _ hs _ _ => hs)
    ⟨⟨_, bX, World.ownsRow_nil _ _ _ _, Nat.zero_le _⟩, hB0⟩
    (fun x a' W => ∃ Bx, w.heap.size < Bx ∧ W.heap[Bx]? = some (stepC x) ∧ a' = { tmps := #[.slice none 0 0, .func (.func gf) #[] lb, .pointer (some ⟨w.heap.size, 0, none⟩), undef, .slice none 0 0, .pointer (some ⟨Bx, 0, none⟩), .func (.func gf) #[] lb, v105 x, undef, undef, undef, undef, undef], defers := [] })
    (fun y a' _ X Y row hs hg hr => by obtain ⟨Bx, h1, h2, h3⟩ := hs; exact ⟨Bx, h1, own_cells W0.heap.size Bx (fun _ : Unit => stepC y) (fun _ => rfl) () X Y row h2 hg hr, h3⟩)
    ?assign ?body ?done ?stop
  case assign =>
    rintro ll pre y W K ⟨⟨v, bv, hr, hl⟩, hB⟩ hK
    have HK := Lib.hid hK
    clear hK
    gi_wp2
    refine HK.out _ _ ((KeepsOthers.alloc _ _).from _) (KeepsWalks.alloc _ _) ⟨⟨v, bv.alloc _, hr.alloc _, hl⟩, hB.alloc hB.size _⟩ ⟨W.heap.size, bv.lt, heap_alloc_new _ _, rfl⟩
  case body =>
    rintro ll pre y a' W hl ⟨r, hr⟩ ⟨⟨v, bv, hrow, hln⟩, hB⟩ ⟨Bx, hBx, bX, rfl⟩ hlt
    have hv := bv.cell
    have hf := bv.frozen
    have x0 := blk_cell bX 0
    have x1 := blk_cell bX 1
    have x2 := blk_cell bX 2
    have x3 := blk_cell bX 3
    have x4 := blk_cell bX 4
    gi_wp2_with (gi_at_builtin; refine wpListIn_append_own _ rfl _ _ 111 rfl w.heap.size 105 i0 _ 5 40 hu111 hi hz0 hz1 hz2 rfl (by decide) _ _ _ rfl (hrow.alloc _) ⟨W.heap.size, 0, none⟩ 1 1 (c105 y) rfl rfl (cells_new _ _ _) (by simp [Value.oneCell']) (by simp only [maxLen]; omega) (by omega) (by have := hB.size; simp; omega) ?_; intro v' w1 hown' hgrow _; obtain ⟨g', cap', rfl⟩ := ownsRow_succ hown'; obtain ⟨hv1, hv2, hr2, hk2, hb2⟩ := bv.appended (by decide) hrow hB.size (Nat.le_refl _) hown' hgrow; have hc1 := hv1.cell; have hf1 := hv1.frozen)
    refine ⟨hk2.from _, hk2.walks, ⟨⟨_, hv2, ?_, ?_⟩, hB.trans hb2⟩⟩
    · rw [flat_snoc, List.length_append]; exact hr2
    · rw [List.length_append, List.length_singleton]; omega
  case done =>
    rintro D xs W hD hS ⟨⟨v, bv, hrow, hln⟩, hB⟩ hK
    have hv := bv.cell
    gi_wp2
    refine ⟨by simp, .inl ⟨_, _, rfl, run_takeDeferred hK, ?_⟩⟩
    exact ⟨_, results_tmp rfl _ _ _, xs, v, hS, hln, rfl, ownsRow_putObj hrow _ hK rfl, hB.trans ((Below.refl _ _).grown (grownBy_putObj' W D _) hB.size (fun k e => by injection e with e; omega))⟩
  case stop =>
    rintro D c pre W _ _ h _
    exact h.elim

theorem collect_in (n : Nat) (hn : 4 ≤ n) (gf : Nat) (lb : Array Value) (eg : ∀ args w, (callFunc gf args).run Try.prog w = .ok (.enter gf args) w) (w : World) (S : List Told → Prop) (N : Nat) (hN : N ≤ 1000000)
    (hseq : SeqStopsK Fence.wide (n - 2) Try.prog gf lb (fun s => #[v105 s]) KeepsWalks S (fun _ => True) N w) :
    CallsIn Fence.wide n Try.prog 67 #[.func (.func gf) #[] lb] w fun e w' => ∃ xs v, S xs ∧ xs.length ≤ N ∧ e = .returned v ∧ w'.ownsRow w.heap.size 105 5 v xs.length (xs.flatMap c105) ∧ Below w.heap.size w w' := by
  have h1 : 1 ≤ n := by omega
  have hcon := Lib.hid (appendSeq_in (n - 1) (by omega) gf lb eg w S N hN (by rw [show n - 1 - 1 = n - 2 by omega]; exact hseq))
  clear hseq
  refine callsIn_of_wp Try.func67 rfl trivial ?_ rfl
  simp only [Try.ntmps67, List.size_toArray, List.length_cons, List.length_nil, Nat.reduceAdd, Nat.reduceSub, Array.replicate_succ, Array.replicate_zero, List.push_toArray, List.append_toArray, List.nil_append, List.cons_append]
  gi_wp2_with (refine ⟨trivial, ?_⟩; gi_at_call 74; refine hcon.out.mono ?_; rintro e w' ⟨xs, v, hS, hl, rfl, hr, hb⟩)
  go_ret
  exact ⟨xs, v, hS, hl, rfl, hr, hb⟩

/-- Only places there are; each holds its own. -/
def Good (f : Int → Option Told) : Prop := ∀ x s, f x = some s → s.st.f0 = x ∧ 0 ≤ x ∧ x < 64
theorem Good.nil : Good (fun _ => none) := fun x s h => by cases h
theorem Good.put {f : Int → Option Told} (h : Good f) (s : Told) (h0 : 0 ≤ s.st.f0) (h1 : s.st.f0 < 64) : Good (fun y => if y = s.st.f0 then some s else f y) := fun x t ht => by
  by_cases hx : x = s.st.f0
  · simp only [hx, if_true] at ht
    cases ht
    exact ⟨hx.symm, by omega, by omega⟩
  · simp only [if_neg hx] at ht
    exact h x t ht

/-- The values, by their places. -/
def listOf (f : Int → Option Told) : List Told := (List.range 64).filterMap fun i : Nat => f (i : Int)
theorem mem_listOf {f : Int → Option Told} (hG : Good f) {s : Told} : s ∈ listOf f ↔ f s.st.f0 = some s := by
  unfold listOf
  rw [List.mem_filterMap]
  constructor
  · rintro ⟨i, _, hi⟩
    have := (hG _ _ hi).1
    rw [this]; exact hi
  · intro h
    obtain ⟨-, h1, h2⟩ := hG _ _ h
    exact ⟨s.st.f0.toNat, List.mem_range.2 (by omega), by rw [Int.toNat_of_nonneg h1]; exact h⟩
theorem sorted_listOf {f : Int → Option Told} (hG : Good f) : (listOf f).Pairwise fun a b => a.st.f0 < b.st.f0 := by
  unfold listOf
  refine List.Pairwise.filterMap _ (R := fun a b : Nat => a < b) (fun a a' h b hb b' hb' => ?_) List.pairwise_lt_range
  have h1 := (hG _ _ hb).1
  have h2 := (hG _ _ hb').1
  omega

theorem all_listed {D : DataW Told} {f : Int → Option Told} (hI : IsT D f) (hG : Good f) {ys zs : List Told} (hA : AllOf D ys) (hP : zs.Perm ys) (hS : zs.Pairwise fun a b => a.st.f0 ≤ b.st.f0) : zs = listOf f := by
  obtain ⟨ps, rfl, hnd, hk, hat⟩ := hA
  have hv : ∀ p ∈ ps, f p.1 = some p.2 := fun p hp => by
    rcases hI.2 p.1 with ⟨s, h1, h2⟩ | ⟨-, h2⟩
    · have e := (h2 (.held s)).symm.trans (hat p hp (.held s))
      injection e with e
      rw [h1, e]
    · have := ((hk p.1).1 (List.mem_map.2 ⟨p, hp, rfl⟩)).1
      rw [h2] at this
      cases this
  have hf0 : ∀ p ∈ ps, p.2.st.f0 = p.1 := fun p hp => (hG _ _ (hv p hp)).1
  have hmem : ∀ s, s ∈ ps.map (·.2) ↔ f s.st.f0 = some s := fun s => by
    rw [List.mem_map]
    constructor
    · rintro ⟨p, hp, rfl⟩
      rw [hf0 p hp]; exact hv p hp
    · intro h
      rcases hI.2 s.st.f0 with ⟨t, h1, h2⟩ | ⟨h1, -⟩
      · have hh := has_true_of_atKey h2
        obtain ⟨p, hp, hpe⟩ := List.mem_map.1 ((hk s.st.f0).2 ⟨hh, rfl⟩)
        refine ⟨p, hp, ?_⟩
        have := hv p hp
        rw [hpe, h] at this
        exact (Option.some.inj this).symm
      · rw [h1] at h; cases h
  have hnd2 : (ps.map (·.2)).Nodup := by
    have e : ps.map (·.1) = (ps.map (·.2)).map (fun t : Told => t.st.f0) := by
      rw [List.map_map]
      exact List.map_congr_left fun p hp => (hf0 p hp).symm
    rw [e] at hnd
    exact (List.pairwise_map.1 hnd).imp fun h e => h (by rw [e])
  have hnl : (listOf f).Nodup := (sorted_listOf hG).imp fun h e => by rw [e] at h; omega
  have hp2 : zs.Perm (listOf f) := hP.trans ((List.perm_ext_iff_of_nodup hnd2 hnl).2 fun s => (hmem s).trans (mem_listOf hG).symm)
  refine List.Perm.eq_of_pairwise (le := fun a b : Told => a.st.f0 ≤ b.st.f0) (fun a b ha hb h1 h2 => ?_) hS ((sorted_listOf hG).imp fun h => by omega) hp2
  have e : a.st.f0 = b.st.f0 := by omega
  have ha' := (mem_listOf hG).1 (hp2.mem_iff.1 ha)
  have hb' := (mem_listOf hG).1 hb
  rw [e, hb'] at ha'
  exact (Option.some.inj ha').symm

end Go.Proofs.Ytkijjgdcbgmglaa.Q

/-! The values of a map of told steps, in order: SortFunc, SortedFunc, by hand. -/
namespace Go.Proofs
open Go.Shelf Go.RowKit Go.Lib Go.Sort
def Try.sortStep_ren : Go.Shelf.Ren := ⟨fun | 6 => 68 | 15 => 76 | 14 => 75 | 28 => 89 | 29 => 90 | 20 => 81 | 21 => 82 | 22 => 83 | 23 => 84 | 24 => 85 | 25 => 86 | 26 => 87 | 27 => 88 | 46 => 91 | 47 => 92 | 48 => 93 | 49 => 94 | 50 => 95 | 57 => 96 | n => n, fun | 22 => 111 | 24 => 105 | 25 => 116 | 3 => 3 | 39 => 131 | 0 => 0 | 53 => 144 | 55 => 24 | 4 => 4 | 46 => 137 | 45 => 136 | 50 => 141 | 5 => 5 | 9 => 9 | 66 => 146 | 70 => 150 | 76 => 152 | 77 => 153 | n => n, fun | n => n⟩
theorem Try.sortStep : SlLaysF0.n6 Try.prog Try.sortStep_ren := {
  mixed := by kernel_rfl
  f6 := ⟨Try.f68.name, by decide, Try.func68.trans (congrArg some (by kernel_rfl))⟩
  f14 := ⟨Try.f75.name, by decide, Try.func75.trans (congrArg some (by kernel_rfl))⟩
  f15 := Try.func76.trans (congrArg some (by kernel_rfl))
  f20 := ⟨Try.f81.name, by decide, Try.func81.trans (congrArg some (by kernel_rfl))⟩
  f21 := ⟨Try.f82.name, by decide, Try.func82.trans (congrArg some (by kernel_rfl))⟩
  f22 := ⟨Try.f83.name, by decide, Try.func83.trans (congrArg some (by kernel_rfl))⟩
  f23 := ⟨Try.f84.name, by decide, Try.func84.trans (congrArg some (by kernel_rfl))⟩
  f24 := ⟨Try.f85.name, by decide, Try.func85.trans (congrArg some (by kernel_rfl))⟩
  f25 := ⟨Try.f86.name, by decide, Try.func86.trans (congrArg some (by kernel_rfl))⟩
  f26 := ⟨Try.f87.name, by decide, Try.func87.trans (congrArg some (by kernel_rfl))⟩
  f27 := ⟨Try.f88.name, by decide, Try.func88.trans (congrArg some (by kernel_rfl))⟩
  f28 := Try.func89.trans (congrArg some (by kernel_rfl))
  f29 := Try.func90.trans (congrArg some (by kernel_rfl))
  f46 := ⟨Try.f91.name, by decide, Try.func91.trans (congrArg some (by kernel_rfl))⟩
  f47 := Try.func92.trans (congrArg some (by kernel_rfl))
  f48 := Try.func93.trans (congrArg some (by kernel_rfl))
  f49 := ⟨Try.f94.name, by decide, Try.func94.trans (congrArg some (by kernel_rfl))⟩
  f50 := ⟨Try.f95.name, by decide, Try.func95.trans (congrArg some (by kernel_rfl))⟩
  f57 := ⟨Try.f96.name, by decide, Try.func96.trans (congrArg some (by kernel_rfl))⟩
  t0 := Try.underlying0
  a0 := Try.isAgg0
  z0 := Try.sizeOf0
  v0 := Try.zeroValue0
  t3 := Try.underlying3
  a3 := Try.isAgg3
  z3 := Try.sizeOf3
  v3 := Try.zeroValue3
  t4 := Try.underlying4
  a4 := Try.isAgg4
  z4 := Try.sizeOf4
  v4 := Try.zeroValue4
  t5 := Try.underlying5
  a5 := Try.isAgg5
  z5 := Try.sizeOf5
  v5 := Try.zeroValue5
  t9 := Try.underlying9
  a9 := Try.isAgg9
  z9 := Try.sizeOf9
  v9 := Try.zeroValue9
  t22 := Try.underlying111
  a22 := Try.isAgg111
  z22 := Try.sizeOf111
  v22 := Try.zeroValue111
  t25 := Try.underlying116
  a25 := Try.isAgg116
  z25 := Try.sizeOf116
  v25 := Try.zeroValue116
  t39 := Try.underlying131
  a39 := Try.isAgg131
  z39 := Try.sizeOf131
  v39 := Try.zeroValue131
  t45 := Try.underlying136
  a45 := Try.isAgg136
  z45 := Try.sizeOf136
  v45 := Try.zeroValue136
  t46 := Try.underlying137
  a46 := Try.isAgg137
  z46 := Try.sizeOf137
  v46 := Try.zeroValue137
  t50 := Try.underlying141
  a50 := Try.isAgg141
  z50 := Try.sizeOf141
  v50 := Try.zeroValue141
  t53 := Try.underlying144
  a53 := Try.isAgg144
  z53 := Try.sizeOf144
  v53 := Try.zeroValue144
  t55 := Try.underlying24
  a55 := Try.isAgg24
  z55 := Try.sizeOf24
  v55 := Try.zeroValue24
  t66 := Try.underlying146
  a66 := Try.isAgg146
  z66 := Try.sizeOf146
  v66 := Try.zeroValue146
  t70 := Try.underlying150
  a70 := Try.isAgg150
  z70 := Try.sizeOf150
  v70 := Try.zeroValue150
  t76 := Try.underlying152
  a76 := Try.isAgg152
  z76 := Try.sizeOf152
  v76 := Try.zeroValue152
  t77 := Try.underlying153
  a77 := Try.isAgg153
  z77 := Try.sizeOf153
  v77 := Try.zeroValue153 }
def Try.cmpInt_ren : Go.Shelf.Ren := ⟨fun | 5 => 61 | 7 => 70 | n => n, fun | 22 => 3 | 3 => 3 | 4 => 4 | n => n, fun | n => n⟩
theorem Try.cmpInt : SlLaysC2.n5 Try.prog Try.cmpInt_ren := {
  mixed := by kernel_rfl
  f5 := ⟨Try.f61.name, by decide, Try.func61.trans (congrArg some (by kernel_rfl))⟩
  f7 := ⟨Try.f70.name, by decide, Try.func70.trans (congrArg some (by kernel_rfl))⟩
  t3 := Try.underlying3
  a3 := Try.isAgg3
  z3 := Try.sizeOf3
  v3 := Try.zeroValue3
  t4 := Try.underlying4
  a4 := Try.isAgg4
  z4 := Try.sizeOf4
  v4 := Try.zeroValue4
  t22 := Try.underlying3
  a22 := Try.isAgg3
  z22 := Try.sizeOf3
  v22 := Try.zeroValue3 }
end Go.Proofs
namespace Go.Proofs.Ytkijjgdcbgmglaa.Q
open Go.RowKit Go.Lib Go.Shelf Go.Maps Go.Sort Go.Proofs.Ytkijjgdcbgmglaa Go.Proofs.YtkijjgdcbgmglaaW.PrintWords Go.Proofs.YtkijjgdcbgmglaaW.PrintLast Go.Proofs.YtkijjgdcbgmglaaW.PrintMore
set_option linter.unusedVariables false
set_option maxRecDepth 100000
set_option linter.unusedSimpArgs false
instance : Inhabited Told := ⟨zTold⟩
theorem closure_listed (x y : Told) (W : World) : Calls Try.prog 60 #[v105 x, v105 y] W fun e w' => e = .returned (.int .i64 (Lib.compareInt x.st.f0 y.st.f0)) ∧ ∃ q os', w' = grow (W.drewN q) os' := by
  have hu := Try.underlying105
  have hcon := fun W' => AnyG.cmp_Compare_int Try.cmpInt x.st.f0 y.st.f0 W'
  change ∀ W', Calls Try.prog 61 _ _ _ at hcon
  generalize Lib.compareInt x.st.f0 y.st.f0 = r at hcon ⊢
  go_enter Try.func60, Try.ntmps60
  go_wp2_with (go_at_call 61; refine (hcon _).mono ?_; rintro e w' ⟨rfl, rfl⟩)
  go_ret
  exact ⟨rfl, 0, _, by rw [alloc_eq_grow, alloc_eq_grow, grow_grow]; rfl⟩
theorem cmpLays (blk off size : Nat) (w : World) : CmpLays Try.prog 60 #[] c105 5 (fun x y => Lib.compareInt x.st.f0 y.st.f0) blk off size w :=
  fun _ _ _ _ x y => closure_listed x y _
theorem ltX (x y : Told) : ltOf (fun x y : Told => Lib.compareInt x.st.f0 y.st.f0) x y = decide (x.st.f0 < y.st.f0) := by
  unfold ltOf Lib.compareInt
  by_cases h1 : x.st.f0 < y.st.f0
  · simp [h1]
  · by_cases h2 : y.st.f0 < x.st.f0 <;> simp [h1, h2]
theorem swoX : SWO (ltOf fun x y : Told => Lib.compareInt x.st.f0 y.st.f0) where
  irrefl x := by rw [ltX]; simp
  trans x y z h1 h2 := by rw [ltX] at *; simp at *; omega
  ntrans x y z h1 h2 := by rw [ltX] at *; simp at *; omega

theorem sortStep_calls (blk off cap : Nat) (d : Array Told) (w : World) (hH : HoldsK c105 5 w blk off d) (hblk : blk < w.heap.size) (hsz : d.size < 4611686018427387904) :
    Calls Try.prog 68 #[.slice (some ⟨blk, off, none⟩) d.size cap, .func (.func 60) #[] #[]] w fun e w' => e = .returned (.tuple #[]) ∧ ∃ d' n os, PermIn 0 d.size d d' ∧ SortedIn (ltOf fun x y : Told => Lib.compareInt x.st.f0 y.st.f0) 0 d.size d' ∧ w' = sortWorldK c105 5 w blk off n d' os := by
  have eg : ∀ args w, (callFunc 60 args).run Try.prog w = .ok (.enter 60 args) w := enters_of Try.func60 (by kernel_rfl) rfl
  exact AnyQ.slices_SortFunc Try.sortStep 5 Try.isAgg105 Try.sizeOf105 c105 (fun _ => rfl) (fun x v hv => by simp [c105] at hv; rcases hv with rfl | rfl | rfl | rfl | rfl <;> rfl) (fun x y => Lib.compareInt x.st.f0 y.st.f0) swoX 60 #[] blk off cap d w eg (cmpLays blk off d.size w) hH hblk hsz

theorem reps105_on (w : World) (base : Nat) (ok : Nat → Prop) : ∀ (zs pre : List Told), Reps (k105.M w base ok) 5 pre (pre.flatMap c105) → Reps (k105.M w base ok) 5 (pre ++ zs) ((pre ++ zs).flatMap c105)
  | [], pre, h => by rw [List.append_nil]; exact h
  | z :: zs, pre, h => by
    have := reps105_on w base ok zs (pre ++ [z]) (by rw [flat_snoc]; exact Reps.snoc h (k105_mkM w base ok z) rfl)
    rwa [List.append_assoc] at this
theorem reps105 (w : World) (base : Nat) (ok : Nat → Prop) (xs : List Told) : Reps (k105.M w base ok) 5 xs (xs.flatMap c105) := reps105_on w base ok xs [] (Reps.none _ _)
theorem C_of_own {w : World} {base : Nat} {A : Option Addr} {n c : Nat} {xs : List Told} (h : w.ownsRow base 105 5 (.slice A n c) xs.length (xs.flatMap c105)) : Kd.C k105 w A xs.length xs ∧ xs.length ≤ c ∧ n = xs.length := by
  have hR : Kd.R k105 105 w base (fun _ => True) (.slice A n c) xs := ⟨fun _ _ => trivial, _, h, reps105 _ _ _ _⟩
  have hr := Kd.R_reads' hR
  obtain ⟨h1, h2, h3⟩ := hr
  subst h1
  exact ⟨h3, h2, rfl⟩
theorem holds_of_own {w : World} {base g n c : Nat} {xs : List Told} (h : w.ownsRow base 105 5 (.slice (some ⟨g, 0, none⟩) n c) xs.length (xs.flatMap c105)) : HoldsK c105 5 w g 0 xs.toArray ∧ g < w.heap.size ∧ base ≤ g := by
  have hC := (C_of_own h).1
  rcases h.2 with ⟨h0, _⟩ | ⟨g', cap, cur, e, hb, hg, -⟩
  · cases h0
  · injection e with e1 e2 e3
    injection e1 with e1
    injection e1 with e1
    subst e1
    refine ⟨fun t ht => ?_, blk_lt hg, hb⟩
    rw [size_flatK] at ht
    have ht' : t < xs.length * 5 := by simpa using ht
    rw [get_flatK _ _ _ _ ht]
    refine ⟨?_, blk_frozen hg _⟩
    have h4 : t % 5 < 5 := Nat.mod_lt _ (by decide)
    have ht4 : t = t / 5 * 5 + t % 5 := by omega
    have hp : t / 5 < xs.length := by omega
    generalize t % 5 = q at *
    generalize t / 5 = p at *
    obtain ⟨ad, hA, a0, a1, a2, a3, a4⟩ := at_T105 hC (p : Int) (by omega) (by omega)
    cases hA
    have hx : rd_T105 xs (p : Int) = xs.toArray[p]! := by
      unfold rd_T105
      simp [List.getD_eq_getElem?_getD, hp]
    rw [hx] at a0 a1 a2 a3 a4
    simp only [Int.toNat_natCast, Addr.add_lit] at a0 a1 a2 a3 a4
    generalize xs.toArray[p]! = x at *
    subst ht4
    rcases q with _ | _ | _ | _ | _ | q
    · exact a0
    · exact a1
    · exact a2
    · exact a3
    · exact a4
    · omega
theorem C_of_holds {w : World} {g : Nat} {xs : List Told} (h : HoldsK c105 5 w g 0 xs.toArray) (hl : xs.length ≤ 9223372036854775807) : Kd.C k105 w (some ⟨g, 0, none⟩) xs.length xs := by
  refine ⟨rfl, hl, fun _ => ⟨_, rfl, fun j p hp => ⟨c105 p, rfl, k105_mk w p, fun i u hu => ?_⟩⟩⟩
  have hj : j < xs.length := (List.getElem?_eq_some_iff.1 hp).1
  have hi : i < 5 := (List.getElem?_eq_some_iff.1 hu).1
  have := (h.cell (i := j) (c := i) (by simpa using hj) hi).1
  have hx : xs.toArray[j]! = p := by simp [hj, (List.getElem?_eq_some_iff.1 hp).2]
  rw [hx] at this
  have hu' : (c105 p)[i]! = u := by rw [List.getElem!_eq_getElem?_getD, hu]; rfl
  rw [hu'] at this
  rw [Addr.add_lit]
  rw [← this]
  congr 2
  show 0 + (j * 5 + i) = 0 + j * 5 + i
  omega
theorem below_sort {w : World} {base g n : Nat} {d : Array Told} {os : Array Obj} (hb : base ≤ g) (hg : base ≤ w.heap.size) : Below base w (sortWorldK c105 5 w g 0 n d os) := by
  refine ⟨rfl, rfl, rfl, ?_, fun k hk => ?_⟩
  · show w.heap.size ≤ ((w.heap.modify g _) ++ os).size
    rw [Array.size_append, Array.size_modify]
    omega
  · show ((w.heap.modify g _) ++ os)[k]? = _
    rw [Array.getElem?_append_left (by rw [Array.size_modify]; omega), Array.getElem?_modify, if_neg (by omega)]

theorem collect_calls (Bm b nn : Nat) (D : DataW Told) (w : World) (hm : w.heap[Bm]? = some (.cells #[.map (some b)] 84 (0, 0))) (hown : w.ownsMap Try.prog 3 r105 b nn D) (hn : nn ≤ 1000000) :
    Calls Try.prog 67 #[.func (.func 69) #[] #[.pointer (some ⟨Bm, 0, none⟩)]] w fun e w' => ∃ xs v, AllOf D xs ∧ xs.length ≤ 1000000 ∧ e = .returned v ∧ w'.ownsRow w.heap.size 105 5 v xs.length (xs.flatMap c105) ∧ RowKit.Below w.heap.size w w' := by
  have hs := hown.size_le
  refine callsIn_wide.1 ((collect_in 4 (Nat.le_refl _) _ _ (enters_of Try.func69 (by kernel_rfl) rfl) w (AllOf D) (Maps.size D) (by omega) (values_stops 2 (by decide) Bm b nn D w hm hown)).mono ?_)
  rintro e w' ⟨xs, v, h1, h2, h3, h4, h5⟩
  exact ⟨xs, v, h1, by omega, h3, h4, h5⟩

theorem sorted_pairwise {d' : Array Told} (h : SortedIn (ltOf fun x y : Told => Lib.compareInt x.st.f0 y.st.f0) 0 d'.size d') : d'.toList.Pairwise fun a b => a.st.f0 ≤ b.st.f0 := by
  rw [List.pairwise_iff_getElem]
  intro i j hi hj hij
  have := h i j (Nat.zero_le _) hij (by simpa using hj)
  rw [ltX, getElem!_pos d' i (by simpa using hi), getElem!_pos d' j (by simpa using hj)] at this
  simp at this
  simpa using this

theorem sorting_calls (xs : List Told) (v : Value) (base : Nat) (w : World) (hr : w.ownsRow base 105 5 v xs.length (xs.flatMap c105)) (hb : base ≤ w.heap.size) (hl : xs.length ≤ 1000000) :
    Calls Try.prog 68 #[v, .func (.func 60) #[] #[]] w fun e w' => e = .returned (.tuple #[]) ∧ ∃ A c zs, v = .slice A zs.length c ∧ zs.length ≤ c ∧ zs.Perm xs ∧ zs.Pairwise (fun a b => a.st.f0 ≤ b.st.f0) ∧ Kd.C k105 w' A zs.length zs ∧ RowKit.Below base w w' := by
  by_cases h0 : xs.length = 0
  · obtain rfl := List.eq_nil_of_length_eq_zero h0
    obtain ⟨A, n, c, rfl⟩ : ∃ A n c, v = .slice A n c := by
      rcases hr.2 with ⟨rfl, _⟩ | ⟨g, cap, cur, rfl, -⟩
      · exact ⟨_, _, _, rfl⟩
      · exact ⟨_, _, _, rfl⟩
    obtain ⟨hC, hc, rfl⟩ := C_of_own hr
    refine (AnyF.slices_SortFunc_none { Try.sortStep with } A c _ w).mono ?_
    rintro e w' ⟨rfl, rfl⟩
    exact ⟨rfl, A, c, [], rfl, hc, List.Perm.refl _, List.Pairwise.nil, hC, RowKit.Below.refl _ _⟩
  · obtain ⟨g, cap, rfl⟩ : ∃ g cap, v = .slice (some ⟨g, 0, none⟩) xs.length cap := by
      rcases hr.2 with ⟨-, h⟩ | ⟨g, cap, cur, rfl, -⟩
      · exact absurd h h0
      · exact ⟨_, _, rfl⟩
    obtain ⟨hC, hc, -⟩ := C_of_own hr
    obtain ⟨hH, hg, hbg⟩ := holds_of_own hr
    have hcon := sortStep_calls g 0 cap xs.toArray w hH hg (by simp; omega)
    rw [List.size_toArray] at hcon
    refine hcon.mono ?_
    rintro e w' ⟨rfl, d', n, os, hp, hs, rfl⟩
    have hsz : d'.size = xs.length := by rw [hp.1]; simp
    have hz : d'.toList.length = xs.length := by rw [Array.length_toList]; exact hsz
    refine ⟨rfl, some ⟨g, 0, none⟩, cap, d'.toList, by rw [hz], by rw [hz]; exact hc, ?_, sorted_pairwise (by rw [hsz]; exact hs), ?_, below_sort hbg hb⟩
    · have := hp.2.2
      rw [← hsz, Array.extract_size] at this
      rw [hsz, show xs.length = xs.toArray.size by simp, Array.extract_size] at this
      exact this
    · refine C_of_holds ?_ (by rw [hz]; omega)
      rw [Array.toArray_toList]
      exact holdsK_grow c105 5 _ os g 0 d' (by simpa [putRowK, putRow, mapBlock, Sort.ahead] using hg) (holdsK_putRowK c105 5 _ g 0 xs.toArray d' (holdsK_ahead c105 5 _ _ _ _ _ hH) hp.1)

theorem sortedFunc_calls (Bm b nn : Nat) (D : DataW Told) (f : Int → Option Told) (w : World) (hm : w.heap[Bm]? = some (.cells #[.map (some b)] 84 (0, 0))) (hown : w.ownsMap Try.prog 3 r105 b nn D) (hI : IsT D f) (hG : Good f) (hn : nn ≤ 1000000) :
    Calls Try.prog 58 #[.func (.func 69) #[] #[.pointer (some ⟨Bm, 0, none⟩)], .func (.func 60) #[] #[]] w fun e w' => ∃ A c, e = .returned (.slice A (listOf f).length c) ∧ Kd.C k105 w' A (listOf f).length (listOf f) ∧ (listOf f).length ≤ c ∧ RowKit.Below w.heap.size w w' := by
  have C1 := Lib.hid (collect_calls Bm b nn D w hm hown hn)
  have HI := Lib.hid (And.intro hI hG)
  clear hm hown hI hG
  go_enter Try.func58, Try.ntmps58
  go_wp2_with fail
  refine C1.out.mono ?_
  rintro e w1 ⟨xs, v, hA, hl, rfl, hr, hB⟩
  have C2 := Lib.hid (sorting_calls xs v w.heap.size w1 hr hB.size hl)
  have HA := Lib.hid (And.intro hA hB)
  clear hA hB hr C1
  go_wp2_with fail
  refine C2.out.mono ?_
  rintro e w2 ⟨rfl, A, c, zs, rfl, hc, hp, hs, hC, hB2⟩
  have e := all_listed HI.out.1 HI.out.2 HA.out.1 hp hs
  subst e
  have HC := Lib.hid (And.intro hC (And.intro hc (HA.out.2.trans hB2)))
  clear hC hc hB2 hp hs C2
  go_wp2_with fail
  go_ret
  exact ⟨A, c, rfl, HC.out.1, HC.out.2.1, HC.out.2.2⟩

end Go.Proofs.Ytkijjgdcbgmglaa.Q

/-! Steps, by their variables, out of a map: by hand. -/
namespace Go.Proofs.Ytkijjgdcbgmglaa.Q
open Go.RowKit Go.Lib Go.Maps Go.Proofs.Ytkijjgdcbgmglaa Go.Proofs.YtkijjgdcbgmglaaW.PrintWords Go.Proofs.YtkijjgdcbgmglaaW.PrintLast Go.Proofs.YtkijjgdcbgmglaaW.PrintMore
set_option linter.unusedVariables false
set_option linter.unusedSimpArgs false
theorem info103 : (Try.prog.info? 103).map (fun i => (i.zero, i.size, i.bytes)) = some (some (.agg #[.int .i64 0, .int .i64 0, .int .i64 0, .bool false]), 4, 32) := by kernel_rfl
theorem listOf_len (f : Int → Option Told) : (listOf f).length ≤ 64 := by
  unfold listOf
  have := List.length_filterMap_le (fun i : Nat => f (i : Int)) (List.range 64)
  simpa using this
/-- The steps of a map, by their variables. -/
def stepsOf (f : Int → Option Told) : List S103 := (listOf f).map (·.st)
set_option maxRecDepth 100000 in
set_option maxHeartbeats 2000000 in
theorem listed_calls (b nn : Nat) (D : DataW Told) (f : Int → Option Told) (w : World) (hown : w.ownsMap Try.prog 3 r105 b nn D) (hI : IsT D f) (hG : Good f) (hn : nn ≤ 1000000) :
    Calls Try.prog 38 #[.map (some b)] w fun e w' => ∃ v, e = .returned v ∧ Kd.R k103 103 w' w.heap.size (fun _ => True) v (stepsOf f) ∧ Below w.heap.size w w' := by
  have hu105 := Try.underlying105
  have hu103 := Try.underlying103
  have hu42 := Try.underlying42
  have C1 := Lib.hid (values_calls b w)
  have C2 := Lib.hid (sortedFunc_calls w.heap.size b nn D f (w.alloc (.cells #[.map (some b)] 84)) (heap_alloc_new _ _) (hown.alloc _) hI hG hn)
  have HN := Lib.hid (listOf_len f)
  unfold stepsOf
  generalize listOf f = L at *
  clear hown hI hG
  go_enter Try.func38, Try.ntmps38
  go_wp2_with fail
  refine C1.out.mono ?_
  rintro e w1 ⟨rfl, rfl⟩
  clear C1
  go_wp2_with fail
  refine C2.out.mono ?_
  rintro e w2 ⟨A, c, rfl, hC, hc, hB⟩
  have HC := Lib.hid (And.intro hC (And.intro hc (bAfter (bOne _) hB)))
  clear hC hc hB C2
  go_wp2_with fail
  go_loopg [2, 9] L.length (fun kq v2 v9 V => ∃ i : Nat, v9 = .int .i64 i ∧ Hid (kq + i = L.length) ∧ Hid (Kd.R k103 103 V w2.heap.size (fun _ => True) v2 ((L.take i).map (·.st)) ∧ Below w2.heap.size w2 V))
  case atStart => exact ⟨0, rfl, by simp [Hid], Lib.hid ⟨Kd.R_nil _ _ _ _ _, Below.refl _ _⟩⟩
  case round =>
    obtain ⟨i, rfl, hk, hJ⟩ := hrel
    have hi0 : (0 : Int) ≤ i := by omega
    by_cases hi : i < L.length
    · have hi2 : (i : Int) < L.length := by omega
      have HI := Lib.hid (And.intro hi hk.out)
      obtain ⟨ad, rfl, a0, a1, a2, a3, a4⟩ := at_T105 (Kd.C_below HC.out.1 hJ.out.2) (i : Int) hi0 hi2
      have hx : L[i]? = some (rd_T105 L (i : Int)) := by unfold rd_T105; rw [Int.toNat_natCast, List.getD_eq_getElem?_getD, List.getElem?_eq_getElem hi]; rfl
      simp only [Int.toNat_natCast] at a0 a1 a2 a3 a4
      generalize rd_T105 L (i : Int) = x at *
      obtain ⟨t, ⟨s0, ⟨s1, s2⟩, s3⟩⟩ := x
      dsimp only at a0 a1 a2 a3 a4
      have hrow : (L.take (i + 1)).map (fun t : Told => t.st) = (L.take i).map (fun t : Told => t.st) ++ [(⟨s0, ⟨s1, s2⟩, s3⟩ : S103)] := by
        rw [List.take_add_one, hx, List.map_append]
        rfl
      obtain ⟨W3, hW3, B3, hB3⟩ : ∃ W3, wr.alloc (.cells #[.int .i64 t, .int .i64 s0, .int .i64 s1, .int .i64 s2, .bool s3] 105) = W3 ∧ W3.heap[wr.heap.size]? = some (.cells #[.int .i64 t, .int .i64 s0, .int .i64 s1, .int .i64 s2, .bool s3] 105 (0, 0)) ∧ Below wr.heap.size wr W3 := ⟨_, rfl, heap_alloc_new _ _, bOne _⟩
      have b1 := blk_cell B3 1
      have b2 := blk_cell B3 2
      have b3 := blk_cell B3 3
      have b4 := blk_cell B3 4
      have HJ := Lib.hid (And.intro (Kd.R_below hJ.out.1 hB3) (And.intro (bAfter hJ.out.2 hB3) hrow))
      have hlen : ((L.take i).map (fun t : Told => t.st)).length = i := by simp; omega
      obtain ⟨xs, hxs⟩ : ∃ xs, (L.take i).map (fun t : Told => t.st) = xs := ⟨_, rfl⟩
      rw [hxs] at hlen
      have HX := Lib.hid (And.intro hxs hlen)
      have hR : Kd.R k103 103 W3 w2.heap.size (fun _ => True) u2 xs := by rw [← hxs]; exact HJ.out.1
      have hB := HJ.out.2.1
      clear hi hk hJ B3 hB3 hx hrow hxs hlen
      go_wp2_with (at_builtin; refine Kd.R_append k103 (w0 := w2) w2.heap.size rfl (.tmp 13) (.tmp 16) 45 103 (.agg #[.int .i64 0, .int .i64 0, .int .i64 0, .bool false]) 32 rfl Try.underlying45 info103 rfl (by decide) (by omega) u2 xs (⟨s0, ⟨s1, s2⟩, s3⟩ : S103) [.int .i64 s0, .int .i64 s1, .int .i64 s2, .bool s3] (fun _ => True) (fun _ => False) rfl rfl (k103_mkM _ _ _ ⟨s0, ⟨s1, s2⟩, s3⟩) (fun _ hk => hk.elim) (fun _ _ => trivial) hR hB hB.size ?aL ?_)
      case aL => have := HN.out; have := HX.out.2; have := HI.out.1; omega
      intro v9 w9 ho hb hg hat
      have HN2 : Hid (Kd.R k103 103 w9 w2.heap.size (fun _ => True) v9 ((L.take (i + 1)).map (fun t : Told => t.st)) ∧ Below w2.heap.size w2 w9) := Lib.hid ⟨by rw [HJ.out.2.2, HX.out.1]; exact ho, hb⟩
      clear ho hb hg hat hR hB
      go_wp2_with fail
      obtain ⟨k1, rfl⟩ : ∃ m, gk = m + 1 := ⟨gk - 1, by have := HI.out.1; have := HI.out.2; omega⟩
      go_roundg k1
      case measure => omega
      case rel => exact ⟨i + 1, by first | rfl | exact congrArg _ (wrap_next (by have := HN.out; have := HI.out.1; omega)), by have := HI.out.2; exact Lib.hid (by omega), HN2⟩
    · have hi2 : ¬ (i : Int) < L.length := by omega
      obtain rfl : i = L.length := by have := hk.out; omega
      have HF : Hid (Kd.R k103 103 wr w.heap.size (fun _ => True) u2 (L.map (·.st)) ∧ Below w.heap.size w wr) := Lib.hid ⟨by have := hJ.out.1; rw [List.take_length] at this; exact Kd.R_lower this HC.out.2.2.size, bAfter HC.out.2.2 hJ.out.2⟩
      clear hi hk hJ
      go_wp2_with fail
      go_ret
      exact ⟨_, rfl, HF.out⟩
end Go.Proofs.Ytkijjgdcbgmglaa.Q
