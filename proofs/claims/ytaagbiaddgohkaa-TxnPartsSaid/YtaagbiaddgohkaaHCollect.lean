/- slices.AppendSeq and Collect of steps, by hand. -/
import Derived.Test.YtaagbiaddgohkaaHValues
import Derived.Maps.AppendAt
namespace Go.Proofs.Ytaagbiaddgohkaa.Q
open Go.RowKit Go.Lib Go.Shelf Go.Maps Go.Proofs.Ytaagbiaddgohkaa Go.Proofs.YtaagbiaddgohkaaW.PrintWords Go.Proofs.YtaagbiaddgohkaaW.PrintLast Go.Proofs.YtaagbiaddgohkaaW.PrintMore
set_option linter.unusedVariables false
set_option linter.unusedSimpArgs false
attribute [local go_sem] Oper.semAt_some

theorem cells_new (w : World) (cs : List Value) (t : TypeId) : ∀ j u, cs[j]? = some u → (w.alloc (.cells cs.toArray t)).cell? ((⟨w.heap.size, 0, none⟩ : Addr).add j) = some u := by
  intro j u hj
  have : (⟨w.heap.size, 0, none⟩ : Addr).add j = ⟨w.heap.size, j, none⟩ := by unfold Addr.add; split <;> simp_all
  rw [this, blk_cell (heap_alloc_new w (.cells cs.toArray t)) j]
  simpa using hj
theorem flat_snoc (pre : List S39) (x : S39) : (pre ++ [x]).flatMap c39 = pre.flatMap c39 ++ c39 x := by simp

set_option maxRecDepth 100000 in
set_option maxHeartbeats 2000000 in
theorem appendSeq_in (n : Nat) (hn : 3 ≤ n) (gf : Nat) (lb : Array Value) (eg : ∀ args w, (callFunc gf args).run Try.prog w = .ok (.enter gf args) w) (w : World) (S : List S39 → Prop) (N : Nat) (hN : N ≤ 1000000)
    (hseq : SeqStopsK Fence.wide (n - 1) Try.prog gf lb (fun s => #[v39 s]) KeepsWalks S (fun _ => True) N w) :
    CallsIn Fence.wide n Try.prog 37 #[.slice none 0 0, .func (.func gf) #[] lb] w fun e w' => ∃ xs v, S xs ∧ xs.length ≤ N ∧ e = .returned v ∧ w'.ownsRow w.heap.size 39 4 v xs.length (xs.flatMap c39) ∧ Below w.heap.size w w' := by
  have hu := Try.underlying39
  have hu28 := Try.underlying28
  obtain ⟨i0, hi, hz0, hz1, hz2⟩ := info_parts info39
  have h1 : 1 ≤ n := by omega
  refine callsIn_of_wp_marks Try.func37 rfl trivial ?_ rfl
  simp only [Try.ntmps37, List.size_toArray, List.length_cons, List.length_nil, Nat.reduceAdd, Nat.reduceSub, Array.replicate_succ, Array.replicate_zero, List.push_toArray, List.append_toArray, List.nil_append, List.cons_append]
  gi_wp2
  have bX := Go.Boxed.new w 28 (.slice none 0 0)
  have hB0 : Below w.heap.size w (w.alloc (.cells #[.slice none 0 0] 28)) := bOne _
  have hsz : (w.alloc (.cells #[.slice none 0 0] 28)).heap.size = w.heap.size + 1 := by simp
  generalize hW0 : w.alloc (.cells #[.slice none 0 0] 28) = W0 at bX hB0 hsz ⊢
  refine wpIn_rangeFunc_ownH rfl h1 (gf := gf) (lb := lb) rfl trivial eg hseq walksK_t walksK_b hB0 (fun _ => rfl)
    (fun pre W => (∃ v, Go.Boxed W w.heap.size 28 v ∧ W.ownsRow w.heap.size 39 4 v pre.length (pre.flatMap c39) ∧ pre.length ≤ N) ∧ Below w.heap.size w W)
    (fun _ _ _ => False)
    (OwnFrom.and (Own.from (holdsRow_own w.heap.size w.heap.size 28 39 4 List.length (fun pre => pre.flatMap c39) (fun pre _ => pre.length ≤ N)) _) (ownFrom_below (Nat.le_refl _) (by omega)))
    (fun _ _ _ _ _ hs _ _ => hs)
    ⟨⟨_, bX, World.ownsRow_nil _ _ _ _, Nat.zero_le _⟩, hB0⟩
    (fun x a' W => ∃ Bx, w.heap.size < Bx ∧ W.heap[Bx]? = some (stepC x) ∧ a' = { tmps := #[.slice none 0 0, .func (.func gf) #[] lb, .pointer (some ⟨w.heap.size, 0, none⟩), undef, .slice none 0 0, .pointer (some ⟨Bx, 0, none⟩), .func (.func gf) #[] lb, v39 x, undef, undef, undef, undef, undef], defers := [] })
    (fun y a' _ X Y row hs hg hr => by obtain ⟨Bx, h1, h2, h3⟩ := hs; exact ⟨Bx, h1, own_cells W0.heap.size Bx (fun _ : Unit => stepC y) (fun _ => rfl) () X Y row h2 hg hr, h3⟩)
    ?assign ?body ?done ?stop
  case assign =>
    rintro ll pre y W K ⟨⟨v, bv, hr, hl⟩, hB⟩ hK
    have HK := Lib.hid hK
    clear hK
    gi_wp2
    refine HK.out _ _ ((KeepsOthers.alloc _ _).from _) (KeepsWalks.alloc _ _) ⟨⟨v, bv.alloc _, hr.alloc _, hl⟩, hB.alloc hB.size _⟩ ⟨W.heap.size, bv.lt, heap_alloc_new _ _, rfl⟩
  case body =>
    rintro ll pre y a' W hl ⟨r, hr⟩ ⟨⟨v, bv, hrow, hln⟩, hB⟩ ⟨Bx, hBx, bX, rfl⟩ hlt
    have hv := bv.cell
    have hf := bv.frozen
    have x0 := blk_cell bX 0
    have x1 := blk_cell bX 1
    have x2 := blk_cell bX 2
    have x3 := blk_cell bX 3
    gi_wp2_with (gi_at_builtin; refine wpListIn_append_own _ rfl _ _ 28 rfl w.heap.size 39 i0 _ 4 32 hu28 hi hz0 hz1 hz2 rfl (by decide) _ _ _ rfl (hrow.alloc _) ⟨W.heap.size, 0, none⟩ 1 1 (c39 y) rfl rfl (cells_new _ _ _) (by simp [Value.oneCell']) (by simp only [maxLen]; omega) (by omega) (by have := hB.size; simp; omega) ?_; intro v' w1 hown' hgrow _; obtain ⟨g', cap', rfl⟩ := ownsRow_succ hown'; obtain ⟨hv1, hv2, hr2, hk2, hb2⟩ := bv.appended (by decide) hrow hB.size (Nat.le_refl _) hown' hgrow; have hc1 := hv1.cell; have hf1 := hv1.frozen)
    refine ⟨hk2.from _, hk2.walks, ⟨⟨_, hv2, ?_, ?_⟩, hB.trans hb2⟩⟩
    · rw [flat_snoc, List.length_append]; exact hr2
    · rw [List.length_append, List.length_singleton]; omega
  case done =>
    rintro D xs W hD hS ⟨⟨v, bv, hrow, hln⟩, hB⟩ hK
    have hv := bv.cell
    gi_wp2
    refine ⟨by simp, .inl ⟨_, _, rfl, run_takeDeferred hK, ?_⟩⟩
    exact ⟨_, results_tmp rfl _ _ _, xs, v, hS, hln, rfl, ownsRow_putObj hrow _ hK rfl, hB.trans ((Below.refl _ _).grown (grownBy_putObj' W D _) hB.size (fun k e => by injection e with e; omega))⟩
  case stop =>
    rintro D c pre W _ _ h _
    exact h.elim

theorem collect_in (n : Nat) (hn : 4 ≤ n) (gf : Nat) (lb : Array Value) (eg : ∀ args w, (callFunc gf args).run Try.prog w = .ok (.enter gf args) w) (w : World) (S : List S39 → Prop) (N : Nat) (hN : N ≤ 1000000)
    (hseq : SeqStopsK Fence.wide (n - 2) Try.prog gf lb (fun s => #[v39 s]) KeepsWalks S (fun _ => True) N w) :
    CallsIn Fence.wide n Try.prog 33 #[.func (.func gf) #[] lb] w fun e w' => ∃ xs v, S xs ∧ xs.length ≤ N ∧ e = .returned v ∧ w'.ownsRow w.heap.size 39 4 v xs.length (xs.flatMap c39) ∧ Below w.heap.size w w' := by
  have h1 : 1 ≤ n := by omega
  have hcon := Lib.hid (appendSeq_in (n - 1) (by omega) gf lb eg w S N hN (by rw [show n - 1 - 1 = n - 2 by omega]; exact hseq))
  clear hseq
  refine callsIn_of_wp Try.func33 rfl trivial ?_ rfl
  simp only [Try.ntmps33, List.size_toArray, List.length_cons, List.length_nil, Nat.reduceAdd, Nat.reduceSub, Array.replicate_succ, Array.replicate_zero, List.push_toArray, List.append_toArray, List.nil_append, List.cons_append]
  gi_wp2_with (refine ⟨trivial, ?_⟩; gi_at_call 37; refine hcon.out.mono ?_; rintro e w' ⟨xs, v, hS, hl, rfl, hr, hb⟩)
  go_ret
  exact ⟨xs, v, hS, hl, rfl, hr, hb⟩

end Go.Proofs.Ytaagbiaddgohkaa.Q
