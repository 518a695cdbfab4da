/- The values of a map of told steps, in order: maps.Values, Collect, SortFunc, SortedFunc, by hand. -/
import Derived.Test.YtkijjgdcbgmglaaLives
import Derived.RangeFuncNested
import Derived.RangeFuncBound
import Derived.RangeFuncCalls
import Derived.RangeFuncLeaves
import Derived.RangeFuncBox
import Derived.Shelf.Abstract
import Derived.Shelf.RegionOpen
import Derived.OwnWalkIn
import Derived.TacticsInMore
import Derived.LoopNIn
import Derived.LoopIn
import Derived.Maps.OwnIn
import Derived.RangeFuncMany
import Derived.Shelf.AbstractIn
import Derived.Sort.MapsRangeIn
import Derived.Sort.KeysCollected
import Derived.RegionIn
import Derived.Maps.AppendAt
import Derived.Maps.OwnSet
namespace Go.Proofs.Ytkijjgdcbgmglaa.Q
open Go.RowKit Go.Lib Go.Shelf Go.Maps Go.Proofs.Ytkijjgdcbgmglaa Go.Proofs.YtkijjgdcbgmglaaW.PrintWords Go.Proofs.YtkijjgdcbgmglaaW.PrintLast Go.Proofs.YtkijjgdcbgmglaaW.PrintMore
set_option linter.unusedVariables false
set_option maxRecDepth 100000
set_option linter.unusedSimpArgs false
attribute [local go_sem] Oper.semAt_some
/-- An event of a life, as a kind of row. -/
def k105 : Kd Told := Kd.iso (Kd.pair (Kd.int .i64) k103) (fun x : Told => (x.at_, x.st))
abbrev c105 (t : Told) : List Value := [.int .i64 t.at_, .int .i64 t.st.f0, .int .i64 t.st.f1.f0, .int .i64 t.st.f1.f1, .bool t.st.f2]
theorem k105_open {w : World} {x : Told} {cs : List Value} (h : k105.K w x cs) : cs = c105 x := by
  obtain ⟨_, _, rfl, rfl, s1⟩ := h
  obtain rfl := k103_open s1
  exact rfl
theorem k105_mk (w : World) (x : Told) : k105.K w x (c105 x) := ⟨[.int .i64 x.at_], [.int .i64 x.st.f0, .int .i64 x.st.f1.f0, .int .i64 x.st.f1.f1, .bool x.st.f2], rfl, rfl, k103_mk w x.st⟩
theorem k105_mkM (w : World) (base : Nat) (ok : Nat → Prop) (x : Told) : k105.M w base ok x (c105 x) := ⟨[.int .i64 x.at_], [.int .i64 x.st.f0, .int .i64 x.st.f1.f0, .int .i64 x.st.f1.f1, .bool x.st.f2], rfl, rfl, k103_mkM w base ok x.st⟩
def zTold : Told := ⟨0, ⟨0, ⟨0, 0⟩, false⟩⟩
def rd_T105 (xs : List Told) (i : Int) : Told := xs.getD i.toNat zTold
theorem at_T105 {w : World} {A : Option Addr} {n : Nat} {xs : List Told} (h : Kd.C k105 w A n xs) (i : Int) (h0 : 0 ≤ i) (h1 : i < n) : ∃ ad , A = some ad ∧ w.cell? (ad.add (i.toNat * 5)) = some (.int .i64 (rd_T105 xs i).at_) ∧ w.cell? ⟨(ad.add (i.toNat * 5)).block, (ad.add (i.toNat * 5)).off + 1, none⟩ = some (.int .i64 (rd_T105 xs i).st.f0) ∧ w.cell? ⟨(ad.add (i.toNat * 5)).block, (ad.add (i.toNat * 5)).off + 2, none⟩ = some (.int .i64 (rd_T105 xs i).st.f1.f0) ∧ w.cell? ⟨(ad.add (i.toNat * 5)).block, (ad.add (i.toNat * 5)).off + 3, none⟩ = some (.int .i64 (rd_T105 xs i).st.f1.f1) ∧ w.cell? ⟨(ad.add (i.toNat * 5)).block, (ad.add (i.toNat * 5)).off + 4, none⟩ = some (.bool (rd_T105 xs i).st.f2) := by
  obtain ⟨ad, c, e, _, hK, hc0⟩ := Kd.C_get h zTold i h0 h1
  have hc : ∀ j u, c[j]? = some u → w.cell? (ad.add (i.toNat * 5 + j)) = some u := hc0
  obtain rfl := k105_open hK
  exact ⟨ad, e, hc 0 _ rfl, by rw [← add_field _ _ 1 (by omega)]; exact hc 1 _ rfl, by rw [← add_field _ _ 2 (by omega)]; exact hc 2 _ rfl, by rw [← add_field _ _ 3 (by omega)]; exact hc 3 _ rfl, by rw [← add_field _ _ 4 (by omega)]; exact hc 4 _ rfl⟩
theorem info105 : (Try.prog.info? 105).map (fun i => (i.zero, i.size, i.bytes)) = some (some (.agg #[.int .i64 0, .int .i64 0, .int .i64 0, .int .i64 0, .bool false]), 5, 40) := by kernel_rfl
/-- A block of cells is left as it is by the turns of loops. -/
theorem own_cells {β : Type} (B b : Nat) (o : β → Obj) (ho : ∀ s, (o s).isCells = true) : OwnFrom B (fun (s : β) (W : World) => W.heap[b]? = some (o s)) := fun s X Y row hs hg hr =>
  (hg.block b (blk_lt hs) (fun e => by obtain ⟨_, o', h1, h2⟩ := hr b e.symm; rw [hs] at h1; cases h1; rw [ho s] at h2; cases h2)).trans hs
abbrev stepC (s : Told) : Obj := .cells #[.int .i64 s.at_, .int .i64 s.st.f0, .int .i64 s.st.f1.f0, .int .i64 s.st.f1.f1, .bool s.st.f2] 105 (0, 0)
/-- What has come, by its keys. -/
def SoFar (D0 : DataW Told) (left : Lit → Bool) (ps : List (Int × Told)) : Prop :=
  (ps.map (·.1)).Nodup ∧ (∀ x, x ∈ ps.map (·.1) ↔ (has D0 (.int .i64 x) = true ∧ left (.int .i64 x) = false)) ∧ ∀ p ∈ ps, ∀ zd, D0.atKey (.int .i64 p.1) zd = .held p.2
theorem SoFar.start (D0 : DataW Told) : SoFar D0 (has D0) [] := ⟨List.nodup_nil, (fun x => by cases has D0 (.int .i64 x) <;> simp), fun p hp => by cases hp⟩
theorem SoFar.step {D0 : DataW Told} {left : Lit → Bool} {ps : List (Int × Told)} (h : SoFar D0 left ps) {x : Int} {s : Told} (hlk : left (.int .i64 x) = true) (hat : ∀ zd, D0.atKey (.int .i64 x) zd = .held s) : SoFar D0 (fun z => left z && !z.sameKey (.int .i64 x)) (ps ++ [(x, s)]) := by
  have hhas : has D0 (.int .i64 x) = true := has_true_of_atKey hat
  have hnew : x ∉ ps.map (·.1) := fun hx => by have := ((h.2.1 x).1 hx).2; rw [hlk] at this; cases this
  refine ⟨?_, fun y => ?_, fun p hp => ?_⟩
  · rw [List.map_append]
    exact List.nodup_append.2 ⟨h.1, by simp, fun a ha b hb => by simp at hb; subst hb; exact fun e => hnew (e ▸ ha)⟩
  · rw [List.map_append, List.mem_append, h.2.1 y]
    by_cases hy : y = x
    · subst hy; simp [hhas, Lit.sameKey]
    · simp [hy, Lit.sameKey]
  · rcases List.mem_append.1 hp with h1 | h1
    · exact h.2.2 p h1
    · cases List.mem_singleton.1 h1; exact hat
/-- All has come: each key once. -/
def AllOf (D0 : DataW Told) (xs : List Told) : Prop := ∃ ps : List (Int × Told), xs = ps.map (·.2) ∧ SoFar D0 (fun _ => false) ps

set_option maxRecDepth 100000 in
set_option maxHeartbeats 1000000 in
theorem values1_in (n : Nat) (hn : 1 ≤ n) (l Bm b nn : Nat) (D0 : DataW Told) (J Jx : List Told → World → Prop)
    (hY : ∀ pre x W, J pre W → pre.length < Maps.size D0 → YieldAt Fence.wide (n - 1) Try.prog l #[v105 x] W fun e W' =>
      (e = .returned (.bool true) ∧ J (pre ++ [x]) W' ∧ KeepsWalks W W') ∨ (e = .returned (.bool false) ∧ Jx (pre ++ [x]) W'))
    (W : World) (hJ : AbidesFrom W.heap.size J) (hm : W.heap[Bm]? = some (.cells #[.map (some b)] 84 (0, 0))) (hown : W.ownsMap Try.prog 3 r105 b nn D0) (h0 : J [] W) :
    CallsIn Fence.wide n Try.prog 69 #[.func (.yield l) #[] #[], .pointer (some ⟨Bm, 0, none⟩)] W fun e W' => (∃ v, e = .returned v) ∧
      ((∃ xs, AllOf D0 xs ∧ J xs W') ∨ (∃ pre, True ∧ Jx pre W')) := by
  have hu := Try.underlying105
  have hu84 := Try.underlying84
  have hk3 := int_keyed Try.underlying3
  have b0 := blk_cell hm 0
  refine callsIn_of_wp Try.func69 rfl trivial ?_ rfl
  simp only [Try.ntmps69, List.size_toArray, List.length_cons, List.length_nil, Nat.reduceAdd, Nat.reduceSub, Array.replicate_succ, Array.replicate_zero, List.push_toArray, List.append_toArray, List.nil_append, List.cons_append]
  gi_wp2_with (first
    | (gi_at_range; refine wpListIn_range_own _ rfl _ 84 rfl 3 105 hk3 hu84 r105 b nn _ rfl hown ?_; intro w0 hrg0 hg0 hs0)
    | gi_in)
  go_frame
  gi_loopw [4] (fun _ wr => ∃ (left : Lit → Bool) (cnt : Nat) (ps : List (Int × Told)), wr.ranges Try.prog 3 r105 b W.heap.size nn D0 left cnt ∧ ps.length + cnt ≤ Maps.size D0 ∧ SoFar D0 left ps ∧ J (ps.map (·.2)) wr)
    (fun _ wr => wr.rangeLeft b W.heap.size)
  case atStart =>
    exact ⟨_, _, [], hrg0, by simp, SoFar.start D0, hJ [] W w0 none h0 hg0 (fun r e => by cases e)⟩
  case round =>
    obtain ⟨left, cnt, ps, hrg, hcs, hC, hJs⟩ := hrel
    gi_wp2_with (first
      | (gi_at_next; refine wpListIn_next_ranges _ rfl _ rfl 3 hk3 r105 (Value.int .i64) v105 (fun key kl hk => by obtain ⟨x, hx, _⟩ := Maps.keyOf_int_inv Try.underlying3 hk; exact ⟨x, hx⟩) (fun v y hv => by obtain ⟨c, rfl, _⟩ := r105_inv hv; exact ⟨c, rfl⟩) b W.heap.size nn _ _ _ rfl hrg ?_ ?_)
      | gi_in)
    · intro hc0 hl0
      gi_wp2
      go_end0
      refine ⟨⟨_, rfl⟩, .inl ⟨_, ⟨ps, rfl, ?_⟩, hJs⟩⟩
      have : left = fun _ => false := funext hl0
      rw [← this]
      exact hC
    · intro x c kl yd yp w2 cnt2 hkey hlk hv hat hrg2 hlt hg2 hs2 hen
      obtain ⟨x', ex, rfl, _⟩ := Maps.keyOf_int_inv Try.underlying3 hkey
      cases ex
      rw [r105_mk] at hv
      obtain ⟨rfl, rfl⟩ := Prod.mk.inj (Option.some.inj hv)
      have hJ2 : J (ps.map (·.2)) w2 := hJ _ wr w2 (some W.heap.size) hJs hg2 (fun r e => by cases e; exact ⟨Nat.le_refl _, hrg.iter_walk⟩)
      have hJ3 := hJ _ w2 (w2.alloc (.cells #[.int .i64 c.at_, .int .i64 c.st.f0, .int .i64 c.st.f1.f0, .int .i64 c.st.f1.f1, .bool c.st.f2] 105)) none hJ2 (World.grownBy_alloc _ _ _) (fun r e => by cases e)
      obtain ⟨fn, tmps, assign, body, hy, hR⟩ := hY (ps.map (·.2)) c _ hJ3 (by simp; omega)
      have HR := Lib.hid hR
      have HX := Lib.hid (And.intro hrg (And.intro hJ3 (And.intro hJs hrg2)))
      have HC := Lib.hid (hC.step hlk hat)
      clear hs2 hR hrg hJ2 hJ3 hJs hrg2 hC hat hv hlk
      gi_wp2
      refine HR.out.mono ?_
      rintro e W3 (⟨rfl, hJ4, hk4⟩ | ⟨rfl, hJx4⟩)
      · have HN := Lib.hid (And.intro (show J ((ps ++ [(x, c)]).map (·.2)) W3 by simpa using hJ4) (((HX.out.2.2.2.alloc _).of_walks hk4)))
        clear hJ4 hk4
        gi_wp2
        go_roundw
        case rel => exact ⟨_, cnt2, ps ++ [(x, c)], HN.out.2, by simp; omega, HC.out, HN.out.1⟩
        case measure => rw [HN.out.2.left_eq, HX.out.1.left_eq]; exact hlt
      · have HN := Lib.hid hJx4
        clear hJx4
        gi_wp2
        refine bodyPost_ret (results_none rfl _ _ _) rfl ?_
        exact ⟨⟨_, rfl⟩, .inr ⟨_, trivial, HN.out⟩⟩

theorem values_calls (b : Nat) (w : World) :
    Calls Try.prog 59 #[.map (some b)] w fun e w' => e = .returned (.func (.func 69) #[] #[.pointer (some ⟨w.heap.size, 0, none⟩)]) ∧ w' = w.alloc (.cells #[.map (some b)] 84) := by
  go_enter Try.func59, Try.ntmps59
  go_wp2
  go_ret
  exact ⟨rfl, rfl⟩
theorem values_stops (n : Nat) (hn : 1 ≤ n) (Bm b nn : Nat) (D0 : DataW Told) (w : World) (hm : w.heap[Bm]? = some (.cells #[.map (some b)] 84 (0, 0))) (hown : w.ownsMap Try.prog 3 r105 b nn D0) :
    SeqStopsK Fence.wide n Try.prog 69 #[.pointer (some ⟨Bm, 0, none⟩)] (fun s => #[v105 s]) KeepsWalks (AllOf D0) (fun _ => True) (Maps.size D0) w := fun l J Jx W hW hJ _ hY h0 => by
  have hown' : W.ownsMap Try.prog 3 r105 b nn D0 := by
    have hbl := hown.lt
    obtain ⟨es, clock, hb, Ft, hs, hD⟩ := hown
    exact ⟨es, clock, (hW.block b hbl).trans hb, Ft, hs, hD⟩
  exact values1_in n hn l Bm b nn D0 J Jx hY W hJ ((hW.block Bm (blk_lt hm)).trans hm) hown' h0

theorem cells_new (w : World) (cs : List Value) (t : TypeId) : ∀ j u, cs[j]? = some u → (w.alloc (.cells cs.toArray t)).cell? ((⟨w.heap.size, 0, none⟩ : Addr).add j) = some u := by
  intro j u hj
  have : (⟨w.heap.size, 0, none⟩ : Addr).add j = ⟨w.heap.size, j, none⟩ := by unfold Addr.add; split <;> simp_all
  rw [this, blk_cell (heap_alloc_new w (.cells cs.toArray t)) j]
  simpa using hj
theorem flat_snoc (pre : List Told) (x : Told) : (pre ++ [x]).flatMap c105 = pre.flatMap c105 ++ c105 x := by simp

set_option maxRecDepth 100000 in
set_option maxHeartbeats 2000000 in
theorem appendSeq_in (n : Nat) (hn : 3 ≤ n) (gf : Nat) (lb : Array Value) (eg : ∀ args w, (callFunc gf args).run Try.prog w = .ok (.enter gf args) w) (w : World) (S : List Told → Prop) (N : Nat) (hN : N ≤ 1000000)
    (hseq : SeqStopsK Fence.wide (n - 1) Try.prog gf lb (fun s => #[v105 s]) KeepsWalks S (fun _ => True) N w) :
    CallsIn Fence.wide n Try.prog 74 #[.slice none 0 0, .func (.func gf) #[] lb] w fun e w' => ∃ xs v, S xs ∧ xs.length ≤ N ∧ e = .returned v ∧ w'.ownsRow w.heap.size 105 5 v xs.length (xs.flatMap c105) ∧ Below w.heap.size w w' := by
  have hu := Try.underlying105
  have hu111 := Try.underlying111
  obtain ⟨i0, hi, hz0, hz1, hz2⟩ := info_parts info105
  have h1 : 1 ≤ n := by omega
  refine callsIn_of_wp_marks Try.func74 rfl trivial ?_ rfl
  simp only [Try.ntmps74, List.size_toArray, List.length_cons, List.length_nil, Nat.reduceAdd, Nat.reduceSub, Array.replicate_succ, Array.replicate_zero, List.push_toArray, List.append_toArray, List.nil_append, List.cons_append]
  gi_wp2
  have bX := Go.Boxed.new w 111 (.slice none 0 0)
  have hB0 : Below w.heap.size w (w.alloc (.cells #[.slice none 0 0] 111)) := bOne _
  have hsz : (w.alloc (.cells #[.slice none 0 0] 111)).heap.size = w.heap.size + 1 := by simp
  generalize hW0 : w.alloc (.cells #[.slice none 0 0] 111) = W0 at bX hB0 hsz ⊢
  refine wpIn_rangeFunc_ownH rfl h1 (gf := gf) (lb := lb) rfl trivial eg hseq walksK_t walksK_b hB0 (fun _ => rfl)
    (fun pre W => (∃ v, Go.Boxed W w.heap.size 111 v ∧ W.ownsRow w.heap.size 105 5 v pre.length (pre.flatMap c105) ∧ pre.length ≤ N) ∧ Below w.heap.size w W)
    (fun _ _ _ => False)
    (OwnFrom.and (Own.from (holdsRow_own w.heap.size w.heap.size 111 105 5 List.length (fun pre => pre.flatMap c105) (fun pre _ => pre.length ≤ N)) _) (ownFrom_below (Nat.le_refl _) (by omega)))
    (fun _ _ _ _ _ hs _ _ => hs)
    ⟨⟨_, bX, World.ownsRow_nil _ _ _ _, Nat.zero_le _⟩, hB0⟩
    (fun x a' W => ∃ Bx, w.heap.size < Bx ∧ W.heap[Bx]? = some (stepC x) ∧ a' = { tmps := #[.slice none 0 0, .func (.func gf) #[] lb, .pointer (some ⟨w.heap.size, 0, none⟩), undef, .slice none 0 0, .pointer (some ⟨Bx, 0, none⟩), .func (.func gf) #[] lb, v105 x, undef, undef, undef, undef, undef], defers := [] })
    (fun y a' _ X Y row hs hg hr => by obtain ⟨Bx, h1, h2, h3⟩ := hs; exact ⟨Bx, h1, own_cells W0.heap.size Bx (fun _ : Unit => stepC y) (fun _ => rfl) () X Y row h2 hg hr, h3⟩)
    ?assign ?body ?done ?stop
  case assign =>
    rintro ll pre y W K ⟨⟨v, bv, hr, hl⟩, hB⟩ hK
    have HK := Lib.hid hK
    clear hK
    gi_wp2
    refine HK.out _ _ ((KeepsOthers.alloc _ _).from _) (KeepsWalks.alloc _ _) ⟨⟨v, bv.alloc _, hr.alloc _, hl⟩, hB.alloc hB.size _⟩ ⟨W.heap.size, bv.lt, heap_alloc_new _ _, rfl⟩
  case body =>
    rintro ll pre y a' W hl ⟨r, hr⟩ ⟨⟨v, bv, hrow, hln⟩, hB⟩ ⟨Bx, hBx, bX, rfl⟩ hlt
    have hv := bv.cell
    have hf := bv.frozen
    have x0 := blk_cell bX 0
    have x1 := blk_cell bX 1
    have x2 := blk_cell bX 2
    have x3 := blk_cell bX 3
    have x4 := blk_cell bX 4
    gi_wp2_with (gi_at_builtin; refine wpListIn_append_own _ rfl _ _ 111 rfl w.heap.size 105 i0 _ 5 40 hu111 hi hz0 hz1 hz2 rfl (by decide) _ _ _ rfl (hrow.alloc _) ⟨W.heap.size, 0, none⟩ 1 1 (c105 y) rfl rfl (cells_new _ _ _) (by simp [Value.oneCell']) (by simp only [maxLen]; omega) (by omega) (by have := hB.size; simp; omega) ?_; intro v' w1 hown' hgrow _; obtain ⟨g', cap', rfl⟩ := ownsRow_succ hown'; obtain ⟨hv1, hv2, hr2, hk2, hb2⟩ := bv.appended (by decide) hrow hB.size (Nat.le_refl _) hown' hgrow; have hc1 := hv1.cell; have hf1 := hv1.frozen)
    refine ⟨hk2.from _, hk2.walks, ⟨⟨_, hv2, ?_, ?_⟩, hB.trans hb2⟩⟩
    · rw [flat_snoc, List.length_append]; exact hr2
    · rw [List.length_append, List.length_singleton]; omega
  case done =>
    rintro D xs W hD hS ⟨⟨v, bv, hrow, hln⟩, hB⟩ hK
    have hv := bv.cell
    gi_wp2
    refine ⟨by simp, .inl ⟨_, _, rfl, run_takeDeferred hK, ?_⟩⟩
    exact ⟨_, results_tmp rfl _ _ _, xs, v, hS, hln, rfl, ownsRow_putObj hrow _ hK rfl, hB.trans ((Below.refl _ _).grown (grownBy_putObj' W D _) hB.size (fun k e => by injection e with e; omega))⟩
  case stop =>
    rintro D c pre W _ _ h _
    exact h.elim

theorem collect_in (n : Nat) (hn : 4 ≤ n) (gf : Nat) (lb : Array Value) (eg : ∀ args w, (callFunc gf args).run Try.prog w = .ok (.enter gf args) w) (w : World) (S : List Told → Prop) (N : Nat) (hN : N ≤ 1000000)
    (hseq : SeqStopsK Fence.wide (n - 2) Try.prog gf lb (fun s => #[v105 s]) KeepsWalks S (fun _ => True) N w) :
    CallsIn Fence.wide n Try.prog 67 #[.func (.func gf) #[] lb] w fun e w' => ∃ xs v, S xs ∧ xs.length ≤ N ∧ e = .returned v ∧ w'.ownsRow w.heap.size 105 5 v xs.length (xs.flatMap c105) ∧ Below w.heap.size w w' := by
  have h1 : 1 ≤ n := by omega
  have hcon := Lib.hid (appendSeq_in (n - 1) (by omega) gf lb eg w S N hN (by rw [show n - 1 - 1 = n - 2 by omega]; exact hseq))
  clear hseq
  refine callsIn_of_wp Try.func67 rfl trivial ?_ rfl
  simp only [Try.ntmps67, List.size_toArray, List.length_cons, List.length_nil, Nat.reduceAdd, Nat.reduceSub, Array.replicate_succ, Array.replicate_zero, List.push_toArray, List.append_toArray, List.nil_append, List.cons_append]
  gi_wp2_with (refine ⟨trivial, ?_⟩; gi_at_call 74; refine hcon.out.mono ?_; rintro e w' ⟨xs, v, hS, hl, rfl, hr, hb⟩)
  go_ret
  exact ⟨xs, v, hS, hl, rfl, hr, hb⟩

/-- Only places there are; each holds its own. -/
def Good (f : Int → Option Told) : Prop := ∀ x s, f x = some s → s.st.f0 = x ∧ 0 ≤ x ∧ x < 64
theorem Good.nil : Good (fun _ => none) := fun x s h => by cases h
theorem Good.put {f : Int → Option Told} (h : Good f) (s : Told) (h0 : 0 ≤ s.st.f0) (h1 : s.st.f0 < 64) : Good (fun y => if y = s.st.f0 then some s else f y) := fun x t ht => by
  by_cases hx : x = s.st.f0
  · simp only [hx, if_true] at ht
    cases ht
    exact ⟨hx.symm, by omega, by omega⟩
  · simp only [if_neg hx] at ht
    exact h x t ht

/-- The values, by their places. -/
def listOf (f : Int → Option Told) : List Told := (List.range 64).filterMap fun i : Nat => f (i : Int)
theorem mem_listOf {f : Int → Option Told} (hG : Good f) {s : Told} : s ∈ listOf f ↔ f s.st.f0 = some s := by
  unfold listOf
  rw [List.mem_filterMap]
  constructor
  · rintro ⟨i, _, hi⟩
    have := (hG _ _ hi).1
    rw [this]; exact hi
  · intro h
    obtain ⟨-, h1, h2⟩ := hG _ _ h
    exact ⟨s.st.f0.toNat, List.mem_range.2 (by omega), by rw [Int.toNat_of_nonneg h1]; exact h⟩
theorem sorted_listOf {f : Int → Option Told} (hG : Good f) : (listOf f).Pairwise fun a b => a.st.f0 < b.st.f0 := by
  unfold listOf
  refine List.Pairwise.filterMap _ (R := fun a b : Nat => a < b) (fun a a' h b hb b' hb' => ?_) List.pairwise_lt_range
  have h1 := (hG _ _ hb).1
  have h2 := (hG _ _ hb').1
  omega

theorem all_listed {D : DataW Told} {f : Int → Option Told} (hI : IsT D f) (hG : Good f) {ys zs : List Told} (hA : AllOf D ys) (hP : zs.Perm ys) (hS : zs.Pairwise fun a b => a.st.f0 ≤ b.st.f0) : zs = listOf f := by
  obtain ⟨ps, rfl, hnd, hk, hat⟩ := hA
  have hv : ∀ p ∈ ps, f p.1 = some p.2 := fun p hp => by
    rcases hI.2 p.1 with ⟨s, h1, h2⟩ | ⟨-, h2⟩
    · have e := (h2 (.held s)).symm.trans (hat p hp (.held s))
      injection e with e
      rw [h1, e]
    · have := ((hk p.1).1 (List.mem_map.2 ⟨p, hp, rfl⟩)).1
      rw [h2] at this
      cases this
  have hf0 : ∀ p ∈ ps, p.2.st.f0 = p.1 := fun p hp => (hG _ _ (hv p hp)).1
  have hmem : ∀ s, s ∈ ps.map (·.2) ↔ f s.st.f0 = some s := fun s => by
    rw [List.mem_map]
    constructor
    · rintro ⟨p, hp, rfl⟩
      rw [hf0 p hp]; exact hv p hp
    · intro h
      rcases hI.2 s.st.f0 with ⟨t, h1, h2⟩ | ⟨h1, -⟩
      · have hh := has_true_of_atKey h2
        obtain ⟨p, hp, hpe⟩ := List.mem_map.1 ((hk s.st.f0).2 ⟨hh, rfl⟩)
        refine ⟨p, hp, ?_⟩
        have := hv p hp
        rw [hpe, h] at this
        exact (Option.some.inj this).symm
      · rw [h1] at h; cases h
  have hnd2 : (ps.map (·.2)).Nodup := by
    have e : ps.map (·.1) = (ps.map (·.2)).map (fun t : Told => t.st.f0) := by
      rw [List.map_map]
      exact List.map_congr_left fun p hp => (hf0 p hp).symm
    rw [e] at hnd
    exact (List.pairwise_map.1 hnd).imp fun h e => h (by rw [e])
  have hnl : (listOf f).Nodup := (sorted_listOf hG).imp fun h e => by rw [e] at h; omega
  have hp2 : zs.Perm (listOf f) := hP.trans ((List.perm_ext_iff_of_nodup hnd2 hnl).2 fun s => (hmem s).trans (mem_listOf hG).symm)
  refine List.Perm.eq_of_pairwise (le := fun a b : Told => a.st.f0 ≤ b.st.f0) (fun a b ha hb h1 h2 => ?_) hS ((sorted_listOf hG).imp fun h => by omega) hp2
  have e : a.st.f0 = b.st.f0 := by omega
  have ha' := (mem_listOf hG).1 (hp2.mem_iff.1 ha)
  have hb' := (mem_listOf hG).1 hb
  rw [e, hb'] at ha'
  exact (Option.some.inj ha').symm

end Go.Proofs.Ytkijjgdcbgmglaa.Q
