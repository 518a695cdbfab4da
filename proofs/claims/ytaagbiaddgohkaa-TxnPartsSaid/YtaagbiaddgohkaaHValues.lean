/- maps.Values of a map of steps by whole numbers, by hand: the iterator's contract. -/
import Derived.Test.YtaagbiaddgohkaaHLook
import Derived.Maps.OwnIn
import Derived.RangeFuncMany
import Derived.Shelf.AbstractIn
import Derived.Sort.MapsRangeIn
import Derived.Sort.KeysCollected
import Derived.RegionIn
namespace Go.Proofs.Ytaagbiaddgohkaa.Q
open Go.RowKit Go.Lib Go.Shelf Go.Maps Go.Proofs.Ytaagbiaddgohkaa Go.Proofs.YtaagbiaddgohkaaW.PrintWords Go.Proofs.YtaagbiaddgohkaaW.PrintLast Go.Proofs.YtaagbiaddgohkaaW.PrintMore
set_option linter.unusedVariables false
set_option linter.unusedSimpArgs false
attribute [local go_sem] Oper.semAt_some

/-- A step's cells; its value. -/
abbrev c39 (s : S39) : List Value := [.int .i64 s.f0, .int .i64 s.f1.f0, .int .i64 s.f1.f1, .bool s.f2]
abbrev v39 (s : S39) : Value := .agg #[.int .i64 s.f0, .int .i64 s.f1.f0, .int .i64 s.f1.f1, .bool s.f2]
/-- How a step reads in a map. -/
def r39 : Value → Option (DataW S39 × List MemPlace)
  | .agg ⟨[.int .i64 a, .int .i64 b, .int .i64 c, .bool d]⟩ => some (.held ⟨a, ⟨b, c⟩, d⟩, [])
  | _ => none
theorem r39_mk (s : S39) : r39 (v39 s) = some (.held s, []) := rfl
theorem r39_inv {v : Value} {y : DataW S39 × List MemPlace} (h : r39 v = some y) : ∃ s, v = v39 s ∧ y = (.held s, []) := by
  unfold r39 at h
  split at h
  · rename_i a b c d
    cases h
    exact ⟨⟨a, ⟨b, c⟩, d⟩, rfl, rfl⟩
  · cases h

/-- What has come, by its keys. -/
def SoFar (D0 : DataW S39) (left : Lit → Bool) (ps : List (Int × S39)) : Prop :=
  (ps.map (·.1)).Nodup ∧ (∀ x, x ∈ ps.map (·.1) ↔ (has D0 (.int .i64 x) = true ∧ left (.int .i64 x) = false)) ∧ ∀ p ∈ ps, ∀ zd, D0.atKey (.int .i64 p.1) zd = .held p.2
theorem SoFar.start (D0 : DataW S39) : SoFar D0 (has D0) [] := ⟨List.nodup_nil, (fun x => by cases has D0 (.int .i64 x) <;> simp), fun p hp => by cases hp⟩
theorem SoFar.step {D0 : DataW S39} {left : Lit → Bool} {ps : List (Int × S39)} (h : SoFar D0 left ps) {x : Int} {s : S39} (hlk : left (.int .i64 x) = true) (hat : ∀ zd, D0.atKey (.int .i64 x) zd = .held s) : SoFar D0 (fun z => left z && !z.sameKey (.int .i64 x)) (ps ++ [(x, s)]) := by
  have hhas : has D0 (.int .i64 x) = true := has_true_of_atKey hat
  have hnew : x ∉ ps.map (·.1) := fun hx => by have := ((h.2.1 x).1 hx).2; rw [hlk] at this; cases this
  refine ⟨?_, fun y => ?_, fun p hp => ?_⟩
  · rw [List.map_append]
    exact List.nodup_append.2 ⟨h.1, by simp, fun a ha b hb => by simp at hb; subst hb; exact fun e => hnew (e ▸ ha)⟩
  · rw [List.map_append, List.mem_append, h.2.1 y]
    by_cases hy : y = x
    · subst hy; simp [hhas, Lit.sameKey]
    · simp [hy, Lit.sameKey]
  · rcases List.mem_append.1 hp with h1 | h1
    · exact h.2.2 p h1
    · cases List.mem_singleton.1 h1; exact hat
/-- All has come: each key once. -/
def AllOf (D0 : DataW S39) (xs : List S39) : Prop := ∃ ps : List (Int × S39), xs = ps.map (·.2) ∧ SoFar D0 (fun _ => false) ps

set_option maxRecDepth 100000 in
set_option maxHeartbeats 1000000 in
theorem values1_in (n : Nat) (hn : 1 ≤ n) (l Bm b nn : Nat) (D0 : DataW S39) (J Jx : List S39 → World → Prop)
    (hY : ∀ pre x W, J pre W → pre.length < Maps.size D0 → YieldAt Fence.wide (n - 1) Try.prog l #[v39 x] W fun e W' =>
      (e = .returned (.bool true) ∧ J (pre ++ [x]) W' ∧ KeepsWalks W W') ∨ (e = .returned (.bool false) ∧ Jx (pre ++ [x]) W'))
    (W : World) (hJ : AbidesFrom W.heap.size J) (hm : W.heap[Bm]? = some (.cells #[.map (some b)] 53 (0, 0))) (hown : W.ownsMap Try.prog 3 r39 b nn D0) (h0 : J [] W) :
    CallsIn Fence.wide n Try.prog 35 #[.func (.yield l) #[] #[], .pointer (some ⟨Bm, 0, none⟩)] W fun e W' => (∃ v, e = .returned v) ∧
      ((∃ xs, AllOf D0 xs ∧ J xs W') ∨ (∃ pre, True ∧ Jx pre W')) := by
  have hu := Try.underlying39
  have hu53 := Try.underlying53
  have hk3 := int_keyed Try.underlying3
  have b0 := blk_cell hm 0
  refine callsIn_of_wp Try.func35 rfl trivial ?_ rfl
  simp only [Try.ntmps35, List.size_toArray, List.length_cons, List.length_nil, Nat.reduceAdd, Nat.reduceSub, Array.replicate_succ, Array.replicate_zero, List.push_toArray, List.append_toArray, List.nil_append, List.cons_append]
  gi_wp2_with (first
    | (gi_at_range; refine wpListIn_range_own _ rfl _ 53 rfl 3 39 hk3 hu53 r39 b nn _ rfl hown ?_; intro w0 hrg0 hg0 hs0)
    | gi_in)
  go_frame
  gi_loopw [4] (fun _ wr => ∃ (left : Lit → Bool) (cnt : Nat) (ps : List (Int × S39)), wr.ranges Try.prog 3 r39 b W.heap.size nn D0 left cnt ∧ ps.length + cnt ≤ Maps.size D0 ∧ SoFar D0 left ps ∧ J (ps.map (·.2)) wr)
    (fun _ wr => wr.rangeLeft b W.heap.size)
  case atStart =>
    exact ⟨_, _, [], hrg0, by simp, SoFar.start D0, hJ [] W w0 none h0 hg0 (fun r e => by cases e)⟩
  case round =>
    obtain ⟨left, cnt, ps, hrg, hcs, hC, hJs⟩ := hrel
    gi_wp2_with (first
      | (gi_at_next; refine wpListIn_next_ranges _ rfl _ rfl 3 hk3 r39 (Value.int .i64) v39 (fun key kl hk => by obtain ⟨x, hx, _⟩ := Maps.keyOf_int_inv Try.underlying3 hk; exact ⟨x, hx⟩) (fun v y hv => by obtain ⟨c, rfl, _⟩ := r39_inv hv; exact ⟨c, rfl⟩) b W.heap.size nn _ _ _ rfl hrg ?_ ?_)
      | gi_in)
    · intro hc0 hl0
      gi_wp2
      go_end0
      refine ⟨⟨_, rfl⟩, .inl ⟨_, ⟨ps, rfl, ?_⟩, hJs⟩⟩
      have : left = fun _ => false := funext hl0
      rw [← this]
      exact hC
    · intro x c kl yd yp w2 cnt2 hkey hlk hv hat hrg2 hlt hg2 hs2 hen
      obtain ⟨x', ex, rfl, _⟩ := Maps.keyOf_int_inv Try.underlying3 hkey
      cases ex
      rw [r39_mk] at hv
      obtain ⟨rfl, rfl⟩ := Prod.mk.inj (Option.some.inj hv)
      have hJ2 : J (ps.map (·.2)) w2 := hJ _ wr w2 (some W.heap.size) hJs hg2 (fun r e => by cases e; exact ⟨Nat.le_refl _, hrg.iter_walk⟩)
      have hJ3 := hJ _ w2 (w2.alloc (.cells #[.int .i64 c.f0, .int .i64 c.f1.f0, .int .i64 c.f1.f1, .bool c.f2] 39)) none hJ2 (World.grownBy_alloc _ _ _) (fun r e => by cases e)
      obtain ⟨fn, tmps, assign, body, hy, hR⟩ := hY (ps.map (·.2)) c _ hJ3 (by simp; omega)
      have HR := Lib.hid hR
      have HX := Lib.hid (And.intro hrg (And.intro hJ3 (And.intro hJs hrg2)))
      have HC := Lib.hid (hC.step hlk hat)
      clear hs2 hR hrg hJ2 hJ3 hJs hrg2 hC hat hv hlk
      gi_wp2
      refine HR.out.mono ?_
      rintro e W3 (⟨rfl, hJ4, hk4⟩ | ⟨rfl, hJx4⟩)
      · have HN := Lib.hid (And.intro (show J ((ps ++ [(x, c)]).map (·.2)) W3 by simpa using hJ4) (((HX.out.2.2.2.alloc _).of_walks hk4)))
        clear hJ4 hk4
        gi_wp2
        go_roundw
        case rel => exact ⟨_, cnt2, ps ++ [(x, c)], HN.out.2, by simp; omega, HC.out, HN.out.1⟩
        case measure => rw [HN.out.2.left_eq, HX.out.1.left_eq]; exact hlt
      · have HN := Lib.hid hJx4
        clear hJx4
        gi_wp2
        refine bodyPost_ret (results_none rfl _ _ _) rfl ?_
        exact ⟨⟨_, rfl⟩, .inr ⟨_, trivial, HN.out⟩⟩

theorem values_calls (b : Nat) (w : World) :
    Calls Try.prog 29 #[.map (some b)] w fun e w' => e = .returned (.func (.func 35) #[] #[.pointer (some ⟨w.heap.size, 0, none⟩)]) ∧ w' = w.alloc (.cells #[.map (some b)] 53) := by
  go_enter Try.func29, Try.ntmps29
  go_wp2
  go_ret
  exact ⟨rfl, rfl⟩
theorem values_stops (n : Nat) (hn : 1 ≤ n) (Bm b nn : Nat) (D0 : DataW S39) (w : World) (hm : w.heap[Bm]? = some (.cells #[.map (some b)] 53 (0, 0))) (hown : w.ownsMap Try.prog 3 r39 b nn D0) :
    SeqStopsK Fence.wide n Try.prog 35 #[.pointer (some ⟨Bm, 0, none⟩)] (fun s => #[v39 s]) KeepsWalks (AllOf D0) (fun _ => True) (Maps.size D0) w := fun l J Jx W hW hJ _ hY h0 => by
  have hown' : W.ownsMap Try.prog 3 r39 b nn D0 := by
    have hbl := hown.lt
    obtain ⟨es, clock, hb, Ft, hs, hD⟩ := hown
    exact ⟨es, clock, (hW.block b hbl).trans hb, Ft, hs, hD⟩
  exact values1_in n hn l Bm b nn D0 J Jx hY W hJ ((hW.block Bm (blk_lt hm)).trans hm) hown' h0

end Go.Proofs.Ytaagbiaddgohkaa.Q
