/- slices.Backward of a transaction, by hand: the iterator's contract. -/
import Derived.Test.YtkecbdeekpbbjaaHIdx
import Derived.RangeFuncNested
import Derived.RangeFuncBound
import Derived.RangeFuncCalls
import Derived.RangeFuncLeaves
import Derived.RangeFuncBox
import Derived.Shelf.Abstract
import Derived.Shelf.RegionOpen
import Derived.OwnWalkIn
import Derived.TacticsInMore
import Derived.LoopNIn
import Derived.LoopIn
import Derived.Maps.OwnIn
import Derived.RangeFuncMany
import Derived.Shelf.AbstractIn
import Derived.Sort.MapsRangeIn
import Derived.Sort.KeysCollected
import Derived.RegionIn
import Derived.Maps.AppendAt
/-! slices.Backward of a transaction, by hand: the iterator's contract. -/
namespace Go.Proofs.Ytkecbdeekpbbjaa.Q
open Go.RowKit Go.Lib Go.Shelf Go.Proofs.Ytkecbdeekpbbjaa Go.Proofs.YtkecbdeekpbbjaaW.PrintWords Go.Proofs.YtkecbdeekpbbjaaW.PrintLast Go.Proofs.YtkecbdeekpbbjaaW.PrintMore
set_option linter.unusedVariables false
set_option linter.unusedSimpArgs false
attribute [local go_sem] Oper.semAt_some

/-- What a round keeps: all below a place, and one box. -/
def KB (n0 Bs : Nat) (A B : World) : Prop := Below n0 A B ∧ (Bs < A.heap.size → B.heap[Bs]? = A.heap[Bs]?)
theorem KB.refl (n0 Bs : Nat) (A : World) : KB n0 Bs A A := ⟨Below.refl _ _, fun _ => rfl⟩
theorem KB.trans {n0 Bs : Nat} {A B C : World} (h : KB n0 Bs A B) (k : KB n0 Bs B C) : KB n0 Bs A C := ⟨h.1.trans k.1, fun hb => (k.2 (by have := h.1.size; omega)).trans (h.2 hb)⟩

/-- Backwards, with the places. -/
def rz (zs : List S54) : List (Nat × S54) := (List.range zs.length).map fun j => (zs.length - 1 - j, zs.getD (zs.length - 1 - j) z54)
theorem rz_len (zs : List S54) : (rz zs).length = zs.length := by simp [rz]
theorem rz_take (zs : List S54) {k : Nat} (hk : k < zs.length) : (rz zs).take (k + 1) = (rz zs).take k ++ [(zs.length - 1 - k, zs.getD (zs.length - 1 - k) z54)] := by
  rw [List.take_add_one]
  congr 1
  simp [rz, hk]
abbrev encP (x : Nat × S54) : Array Value := #[.int .i64 (x.1 : Int), .agg #[.int .i64 x.2.f0, .int .i64 x.2.f1.f0, .int .i64 x.2.f1.f1, .bool x.2.f2]]

set_option maxRecDepth 100000 in
set_option maxHeartbeats 4000000 in
theorem backward1_in (n : Nat) (hn : 1 ≤ n) (l Bs c : Nat) (A : Option Addr) (zs : List S54) (V W : World) (hV : Below V.heap.size V W) (hC : Kd.C k54 V A zs.length zs) (hB : W.heap[Bs]? = some (.cells #[.slice A zs.length c] 35 (0, 0))) (hz : zs.length ≤ 1000000)
    (J Jx : List (Nat × S54) → World → Prop)
    (hY : ∀ pre x W1, J pre W1 → pre.length < zs.length → YieldAt Fence.wide (n - 1) Try.prog l (encP x) W1 fun e W' =>
      (e = .returned (.bool true) ∧ J (pre ++ [x]) W' ∧ KB V.heap.size Bs W1 W') ∨ (e = .returned (.bool false) ∧ Jx (pre ++ [x]) W')) (h0 : J [] W) :
    CallsIn Fence.wide n Try.prog 43 #[.func (.yield l) #[] #[], .pointer (some ⟨Bs, 0, none⟩)] W fun e W' => (∃ v, e = .returned v) ∧ ((∃ ys, ys = rz zs ∧ J ys W') ∨ (∃ pre, (∃ k, k ≤ zs.length ∧ pre = (rz zs).take k) ∧ Jx pre W')) := by
  have hu := Try.underlying54
  have hu29 := Try.underlying35
  have b0 : W.cell? ⟨Bs, 0, none⟩ = some (.slice A zs.length c) := blk_cell hB 0
  have H := Lib.hid (And.intro hV (And.intro hC (And.intro hB hz)))
  have HY := Lib.hid hY
  have hwl : wrap64 ((zs.length : Int) - 1) = (zs.length : Int) - 1 := by unfold wrap64; omega
  clear hV hC hB hz hY
  refine callsIn_of_wp Try.func43 rfl trivial ?_ rfl
  simp only [Try.ntmps43, List.size_toArray, List.length_cons, List.length_nil, Nat.reduceAdd, Nat.reduceSub, Array.replicate_succ, Array.replicate_zero, List.push_toArray, List.append_toArray, List.nil_append, List.cons_append]
  gi_wp2
  simp only [hwl]
  gi_loopw [3] (fun i wr => ∃ k : Nat, k ≤ zs.length ∧ i = .int .i64 ((zs.length : Int) - 1 - k) ∧ Hid (J ((rz zs).take k) wr ∧ KB V.heap.size Bs W wr))
    (fun i _ => (intOf i + 1).toNat)
  case atStart => exact ⟨0, Nat.zero_le _, by simp, Lib.hid ⟨by simpa using h0, KB.refl _ _ _⟩⟩
  case round =>
    obtain ⟨k, hk, rfl, hJ⟩ := hrel
    have hb := (hJ.out.2.2 (blk_lt H.out.2.2.1)).trans H.out.2.2.1
    have b0 : wr.cell? ⟨Bs, 0, none⟩ = some (.slice A zs.length c) := blk_cell hb 0
    have HB := Lib.hid hb
    clear hb
    by_cases hlt : k < zs.length
    · obtain ⟨i, hi⟩ : ∃ i : Nat, i = zs.length - 1 - k := ⟨_, rfl⟩
      have hiv : (zs.length : Int) - 1 - k = i := by omega
      have hi0 : (0 : Int) ≤ i := by omega
      have hil : (i : Int) < zs.length := by omega
      have hw1 : wrap64 ((i : Int) - 1) = (i : Int) - 1 := by have := H.out.2.2.2; unfold wrap64; omega
      have hCw := Kd.C_below H.out.2.1 (H.out.1.trans hJ.out.2.1)
      obtain ⟨ad, hA, a0, a1, a2, a3⟩ := at_T54 hCw (i : Int) hi0 hil
      subst hA
      obtain ⟨fn, tmps, assign, body, hy, hR⟩ := HY.out _ (i, rd_T54 zs i) wr hJ.out.1 (by rw [List.length_take, rz_len]; omega)
      have hx : rd_T54 zs (i : Int) = zs.getD (zs.length - 1 - k) z54 := by unfold rd_T54; rw [Int.toNat_natCast, hi]
      have HT := Lib.hid (show (rz zs).take (k + 1) = (rz zs).take k ++ [(i, rd_T54 zs i)] by rw [rz_take zs hlt, hx, hi])
      have HR := Lib.hid hR
      rw [hiv]
      unfold encP at hy
      try dsimp only at hy
      generalize rd_T54 zs (i : Int) = x at *
      simp only [Int.toNat_natCast] at a0 a1 a2 a3
      have HI := Lib.hid (And.intro hiv (And.intro hlt hi))
      clear hCw hiv hi hR hx hlt
      gi_wp2
      refine HR.out.mono ?_
      rintro e W3 (⟨rfl, hJ3, hk3⟩ | ⟨rfl, hJx3⟩)
      · have HN := Lib.hid (And.intro hJ3 (hJ.out.2.trans hk3))
        clear hJ3 hk3
        gi_wp2
        go_roundw
        case rel => exact ⟨k + 1, by have := HI.out.2.1; omega, by first | rfl | (rw [hw1]; congr 1; have := HI.out.1; omega) | (congr 1; have := HI.out.1; omega), Lib.hid ⟨by rw [HT.out]; exact HN.out.1, HN.out.2⟩⟩
        case measure => simp [intOf]; omega
      · have HN := Lib.hid hJx3
        clear hJx3
        gi_wp2
        refine bodyPost_ret (results_none rfl _ _ _) rfl ?_
        exact ⟨⟨_, rfl⟩, .inr ⟨_, ⟨k + 1, by have := HI.out.2.1; omega, HT.out.symm⟩, HN.out⟩⟩
    · obtain rfl : k = zs.length := by omega
      have hm : (zs.length : Int) - 1 - zs.length = -1 := by omega
      rw [hm]
      gi_wp2
      go_end0
      exact ⟨⟨_, rfl⟩, .inl ⟨_, rfl, by have := hJ.out.1; rwa [← rz_len zs, List.take_length] at this⟩⟩

theorem backward_calls (A : Option Addr) (m c : Nat) (w : World) :
    Calls Try.prog 29 #[.slice A m c] w fun e w' => e = .returned (.func (.func 43) #[] #[.pointer (some ⟨w.heap.size, 0, none⟩)]) ∧ w' = w.alloc (.cells #[.slice A m c] 35) := by
  go_enter Try.func29, Try.ntmps29
  go_wp2
  go_ret
  exact ⟨rfl, rfl⟩
theorem backward_stops (n : Nat) (hn : 1 ≤ n) (Bs c : Nat) (A : Option Addr) (zs : List S54) (V w0 : World) (hV : Below V.heap.size V w0) (hC : Kd.C k54 V A zs.length zs) (hB : w0.heap[Bs]? = some (.cells #[.slice A zs.length c] 35 (0, 0))) (hz : zs.length ≤ 1000000) :
    SeqStopsK Fence.wide n Try.prog 43 #[.pointer (some ⟨Bs, 0, none⟩)] encP (KB V.heap.size Bs) (fun ys => ys = rz zs) (fun pre => ∃ k, k ≤ zs.length ∧ pre = (rz zs).take k) zs.length w0 := fun l J Jx W hW _ _ hY h0 =>
  backward1_in n hn l Bs c A zs V W (hV.trans (hW.mono hV.size)) hC ((hW.block Bs (blk_lt hB)).trans hB) hz J Jx hY h0
theorem KB.put {n0 Bs : Nat} {W : World} (l : Nat) (o o' : Obj) (hn : n0 ≤ l) (hb : Bs < l) (h : W.heap[l]? = some o) (hc : o.isCells = false) (hw : o.isWalk = false) : KB n0 Bs W (W.putObj l o') :=
  ⟨(Below.refl n0 W).grown (grownBy_putObj' W l o') (by have := (Array.getElem?_eq_some_iff.1 h).1; omega) (fun k e => by cases e; omega),
    fun hb2 => ((Below.refl (Bs + 1) W).grown (grownBy_putObj' W l o') (by have := (Array.getElem?_eq_some_iff.1 h).1; omega) (fun k e => by cases e; omega)).block Bs (Nat.lt_succ_self _)⟩
/-- A block of cells is left as it is by the turns of loops. -/
theorem own_cells {β : Type} (B b : Nat) (o : β → Obj) (ho : ∀ s, (o s).isCells = true) : OwnFrom B (fun (s : β) (W : World) => W.heap[b]? = some (o s)) := fun s X Y row hs hg hr =>
  (hg.block b (blk_lt hs) (fun e => by obtain ⟨_, o', h1, h2⟩ := hr b e.symm; rw [hs] at h1; cases h1; rw [ho s] at h2; cases h2)).trans hs

abbrev stepC (s : S54) : Obj := .cells #[.int .i64 s.f0, .int .i64 s.f1.f0, .int .i64 s.f1.f1, .bool s.f2] 54 (0, 0)

end Go.Proofs.Ytkecbdeekpbbjaa.Q

/-! maps.Values of a map of steps by whole numbers, by hand: the iterator's contract. -/
namespace Go.Proofs.Ytkecbdeekpbbjaa.Q
open Go.RowKit Go.Lib Go.Shelf Go.Maps Go.Proofs.Ytkecbdeekpbbjaa Go.Proofs.YtkecbdeekpbbjaaW.PrintWords Go.Proofs.YtkecbdeekpbbjaaW.PrintLast Go.Proofs.YtkecbdeekpbbjaaW.PrintMore
set_option linter.unusedVariables false
set_option linter.unusedSimpArgs false
attribute [local go_sem] Oper.semAt_some

/-- A step's cells; its value. -/
abbrev c54 (s : S54) : List Value := [.int .i64 s.f0, .int .i64 s.f1.f0, .int .i64 s.f1.f1, .bool s.f2]
abbrev v54 (s : S54) : Value := .agg #[.int .i64 s.f0, .int .i64 s.f1.f0, .int .i64 s.f1.f1, .bool s.f2]
/-- How a step reads in a map. -/
def r54 : Value → Option (DataW S54 × List MemPlace)
  | .agg ⟨[.int .i64 a, .int .i64 b, .int .i64 c, .bool d]⟩ => some (.held ⟨a, ⟨b, c⟩, d⟩, [])
  | _ => none
theorem r54_mk (s : S54) : r54 (v54 s) = some (.held s, []) := rfl
theorem r54_inv {v : Value} {y : DataW S54 × List MemPlace} (h : r54 v = some y) : ∃ s, v = v54 s ∧ y = (.held s, []) := by
  unfold r54 at h
  split at h
  · rename_i a b c d
    cases h
    exact ⟨⟨a, ⟨b, c⟩, d⟩, rfl, rfl⟩
  · cases h

/-- What has come, by its keys. -/
def SoFar (D0 : DataW S54) (left : Lit → Bool) (ps : List (Int × S54)) : Prop :=
  (ps.map (·.1)).Nodup ∧ (∀ x, x ∈ ps.map (·.1) ↔ (has D0 (.int .i64 x) = true ∧ left (.int .i64 x) = false)) ∧ ∀ p ∈ ps, ∀ zd, D0.atKey (.int .i64 p.1) zd = .held p.2
theorem SoFar.start (D0 : DataW S54) : SoFar D0 (has D0) [] := ⟨List.nodup_nil, (fun x => by cases has D0 (.int .i64 x) <;> simp), fun p hp => by cases hp⟩
theorem SoFar.step {D0 : DataW S54} {left : Lit → Bool} {ps : List (Int × S54)} (h : SoFar D0 left ps) {x : Int} {s : S54} (hlk : left (.int .i64 x) = true) (hat : ∀ zd, D0.atKey (.int .i64 x) zd = .held s) : SoFar D0 (fun z => left z && !z.sameKey (.int .i64 x)) (ps ++ [(x, s)]) := by
  have hhas : has D0 (.int .i64 x) = true := has_true_of_atKey hat
  have hnew : x ∉ ps.map (·.1) := fun hx => by have := ((h.2.1 x).1 hx).2; rw [hlk] at this; cases this
  refine ⟨?_, fun y => ?_, fun p hp => ?_⟩
  · rw [List.map_append]
    exact List.nodup_append.2 ⟨h.1, by simp, fun a ha b hb => by simp at hb; subst hb; exact fun e => hnew (e ▸ ha)⟩
  · rw [List.map_append, List.mem_append, h.2.1 y]
    by_cases hy : y = x
    · subst hy; simp [hhas, Lit.sameKey]
    · simp [hy, Lit.sameKey]
  · rcases List.mem_append.1 hp with h1 | h1
    · exact h.2.2 p h1
    · cases List.mem_singleton.1 h1; exact hat
/-- All has come: each key once. -/
def AllOf (D0 : DataW S54) (xs : List S54) : Prop := ∃ ps : List (Int × S54), xs = ps.map (·.2) ∧ SoFar D0 (fun _ => false) ps

set_option maxRecDepth 100000 in
set_option maxHeartbeats 1000000 in
theorem values1_in (n : Nat) (hn : 1 ≤ n) (l Bm b nn : Nat) (D0 : DataW S54) (J Jx : List S54 → World → Prop)
    (hY : ∀ pre x W, J pre W → pre.length < Maps.size D0 → YieldAt Fence.wide (n - 1) Try.prog l #[v54 x] W fun e W' =>
      (e = .returned (.bool true) ∧ J (pre ++ [x]) W' ∧ KeepsWalks W W') ∨ (e = .returned (.bool false) ∧ Jx (pre ++ [x]) W'))
    (W : World) (hJ : AbidesFrom W.heap.size J) (hm : W.heap[Bm]? = some (.cells #[.map (some b)] 70 (0, 0))) (hown : W.ownsMap Try.prog 3 r54 b nn D0) (h0 : J [] W) :
    CallsIn Fence.wide n Try.prog 53 #[.func (.yield l) #[] #[], .pointer (some ⟨Bm, 0, none⟩)] W fun e W' => (∃ v, e = .returned v) ∧
      ((∃ xs, AllOf D0 xs ∧ J xs W') ∨ (∃ pre, True ∧ Jx pre W')) := by
  have hu := Try.underlying54
  have hu53 := Try.underlying70
  have hk3 := int_keyed Try.underlying3
  have b0 := blk_cell hm 0
  refine callsIn_of_wp Try.func53 rfl trivial ?_ rfl
  simp only [Try.ntmps53, List.size_toArray, List.length_cons, List.length_nil, Nat.reduceAdd, Nat.reduceSub, Array.replicate_succ, Array.replicate_zero, List.push_toArray, List.append_toArray, List.nil_append, List.cons_append]
  gi_wp2_with (first
    | (gi_at_range; refine wpListIn_range_own _ rfl _ 70 rfl 3 54 hk3 hu53 r54 b nn _ rfl hown ?_; intro w0 hrg0 hg0 hs0)
    | gi_in)
  go_frame
  gi_loopw [4] (fun _ wr => ∃ (left : Lit → Bool) (cnt : Nat) (ps : List (Int × S54)), wr.ranges Try.prog 3 r54 b W.heap.size nn D0 left cnt ∧ ps.length + cnt ≤ Maps.size D0 ∧ SoFar D0 left ps ∧ J (ps.map (·.2)) wr)
    (fun _ wr => wr.rangeLeft b W.heap.size)
  case atStart =>
    exact ⟨_, _, [], hrg0, by simp, SoFar.start D0, hJ [] W w0 none h0 hg0 (fun r e => by cases e)⟩
  case round =>
    obtain ⟨left, cnt, ps, hrg, hcs, hC, hJs⟩ := hrel
    gi_wp2_with (first
      | (gi_at_next; refine wpListIn_next_ranges _ rfl _ rfl 3 hk3 r54 (Value.int .i64) v54 (fun key kl hk => by obtain ⟨x, hx, _⟩ := Maps.keyOf_int_inv Try.underlying3 hk; exact ⟨x, hx⟩) (fun v y hv => by obtain ⟨c, rfl, _⟩ := r54_inv hv; exact ⟨c, rfl⟩) b W.heap.size nn _ _ _ rfl hrg ?_ ?_)
      | gi_in)
    · intro hc0 hl0
      gi_wp2
      go_end0
      refine ⟨⟨_, rfl⟩, .inl ⟨_, ⟨ps, rfl, ?_⟩, hJs⟩⟩
      have : left = fun _ => false := funext hl0
      rw [← this]
      exact hC
    · intro x c kl yd yp w2 cnt2 hkey hlk hv hat hrg2 hlt hg2 hs2 hen
      obtain ⟨x', ex, rfl, _⟩ := Maps.keyOf_int_inv Try.underlying3 hkey
      cases ex
      rw [r54_mk] at hv
      obtain ⟨rfl, rfl⟩ := Prod.mk.inj (Option.some.inj hv)
      have hJ2 : J (ps.map (·.2)) w2 := hJ _ wr w2 (some W.heap.size) hJs hg2 (fun r e => by cases e; exact ⟨Nat.le_refl _, hrg.iter_walk⟩)
      have hJ3 := hJ _ w2 (w2.alloc (.cells #[.int .i64 c.f0, .int .i64 c.f1.f0, .int .i64 c.f1.f1, .bool c.f2] 54)) none hJ2 (World.grownBy_alloc _ _ _) (fun r e => by cases e)
      obtain ⟨fn, tmps, assign, body, hy, hR⟩ := hY (ps.map (·.2)) c _ hJ3 (by simp; omega)
      have HR := Lib.hid hR
      have HX := Lib.hid (And.intro hrg (And.intro hJ3 (And.intro hJs hrg2)))
      have HC := Lib.hid (hC.step hlk hat)
      clear hs2 hR hrg hJ2 hJ3 hJs hrg2 hC hat hv hlk
      gi_wp2
      refine HR.out.mono ?_
      rintro e W3 (⟨rfl, hJ4, hk4⟩ | ⟨rfl, hJx4⟩)
      · have HN := Lib.hid (And.intro (show J ((ps ++ [(x, c)]).map (·.2)) W3 by simpa using hJ4) (((HX.out.2.2.2.alloc _).of_walks hk4)))
        clear hJ4 hk4
        gi_wp2
        go_roundw
        case rel => exact ⟨_, cnt2, ps ++ [(x, c)], HN.out.2, by simp; omega, HC.out, HN.out.1⟩
        case measure => rw [HN.out.2.left_eq, HX.out.1.left_eq]; exact hlt
      · have HN := Lib.hid hJx4
        clear hJx4
        gi_wp2
        refine bodyPost_ret (results_none rfl _ _ _) rfl ?_
        exact ⟨⟨_, rfl⟩, .inr ⟨_, trivial, HN.out⟩⟩

theorem values_calls (b : Nat) (w : World) :
    Calls Try.prog 45 #[.map (some b)] w fun e w' => e = .returned (.func (.func 53) #[] #[.pointer (some ⟨w.heap.size, 0, none⟩)]) ∧ w' = w.alloc (.cells #[.map (some b)] 70) := by
  go_enter Try.func45, Try.ntmps45
  go_wp2
  go_ret
  exact ⟨rfl, rfl⟩
theorem values_stops (n : Nat) (hn : 1 ≤ n) (Bm b nn : Nat) (D0 : DataW S54) (w : World) (hm : w.heap[Bm]? = some (.cells #[.map (some b)] 70 (0, 0))) (hown : w.ownsMap Try.prog 3 r54 b nn D0) :
    SeqStopsK Fence.wide n Try.prog 53 #[.pointer (some ⟨Bm, 0, none⟩)] (fun s => #[v54 s]) KeepsWalks (AllOf D0) (fun _ => True) (Maps.size D0) w := fun l J Jx W hW hJ _ hY h0 => by
  have hown' : W.ownsMap Try.prog 3 r54 b nn D0 := by
    have hbl := hown.lt
    obtain ⟨es, clock, hb, Ft, hs, hD⟩ := hown
    exact ⟨es, clock, (hW.block b hbl).trans hb, Ft, hs, hD⟩
  exact values1_in n hn l Bm b nn D0 J Jx hY W hJ ((hW.block Bm (blk_lt hm)).trans hm) hown' h0

end Go.Proofs.Ytkecbdeekpbbjaa.Q

/-! slices.AppendSeq and Collect of steps, by hand. -/
namespace Go.Proofs.Ytkecbdeekpbbjaa.Q
open Go.RowKit Go.Lib Go.Shelf Go.Maps Go.Proofs.Ytkecbdeekpbbjaa Go.Proofs.YtkecbdeekpbbjaaW.PrintWords Go.Proofs.YtkecbdeekpbbjaaW.PrintLast Go.Proofs.YtkecbdeekpbbjaaW.PrintMore
set_option linter.unusedVariables false
set_option linter.unusedSimpArgs false
attribute [local go_sem] Oper.semAt_some

theorem cells_new (w : World) (cs : List Value) (t : TypeId) : ∀ j u, cs[j]? = some u → (w.alloc (.cells cs.toArray t)).cell? ((⟨w.heap.size, 0, none⟩ : Addr).add j) = some u := by
  intro j u hj
  have : (⟨w.heap.size, 0, none⟩ : Addr).add j = ⟨w.heap.size, j, none⟩ := by unfold Addr.add; split <;> simp_all
  rw [this, blk_cell (heap_alloc_new w (.cells cs.toArray t)) j]
  simpa using hj
theorem flat_snoc (pre : List S54) (x : S54) : (pre ++ [x]).flatMap c54 = pre.flatMap c54 ++ c54 x := by simp

set_option maxRecDepth 100000 in
set_option maxHeartbeats 2000000 in
theorem appendSeq_in (n : Nat) (hn : 3 ≤ n) (gf : Nat) (lb : Array Value) (eg : ∀ args w, (callFunc gf args).run Try.prog w = .ok (.enter gf args) w) (w : World) (S : List S54 → Prop) (N : Nat) (hN : N ≤ 1000000)
    (hseq : SeqStopsK Fence.wide (n - 1) Try.prog gf lb (fun s => #[v54 s]) KeepsWalks S (fun _ => True) N w) :
    CallsIn Fence.wide n Try.prog 58 #[.slice none 0 0, .func (.func gf) #[] lb] w fun e w' => ∃ xs v, S xs ∧ xs.length ≤ N ∧ e = .returned v ∧ w'.ownsRow w.heap.size 54 4 v xs.length (xs.flatMap c54) ∧ Below w.heap.size w w' := by
  have hu := Try.underlying54
  have hu28 := Try.underlying34
  obtain ⟨i0, hi, hz0, hz1, hz2⟩ := info_parts info54
  have h1 : 1 ≤ n := by omega
  refine callsIn_of_wp_marks Try.func58 rfl trivial ?_ rfl
  simp only [Try.ntmps58, List.size_toArray, List.length_cons, List.length_nil, Nat.reduceAdd, Nat.reduceSub, Array.replicate_succ, Array.replicate_zero, List.push_toArray, List.append_toArray, List.nil_append, List.cons_append]
  gi_wp2
  have bX := Go.Boxed.new w 34 (.slice none 0 0)
  have hB0 : Below w.heap.size w (w.alloc (.cells #[.slice none 0 0] 34)) := bOne _
  have hsz : (w.alloc (.cells #[.slice none 0 0] 34)).heap.size = w.heap.size + 1 := by simp
  generalize hW0 : w.alloc (.cells #[.slice none 0 0] 34) = W0 at bX hB0 hsz ⊢
  refine wpIn_rangeFunc_ownH rfl h1 (gf := gf) (lb := lb) rfl trivial eg hseq walksK_t walksK_b hB0 (fun _ => rfl)
    (fun pre W => (∃ v, Go.Boxed W w.heap.size 34 v ∧ W.ownsRow w.heap.size 54 4 v pre.length (pre.flatMap c54) ∧ pre.length ≤ N) ∧ Below w.heap.size w W)
    (fun _ _ _ => False)
    (OwnFrom.and (Own.from (holdsRow_own w.heap.size w.heap.size 34 54 4 List.length (fun pre => pre.flatMap c54) (fun pre _ => pre.length ≤ N)) _) (ownFrom_below (Nat.le_refl _) (by omega)))
    (fun _ _ _ _ _ hs _ _ => hs)
    ⟨⟨_, bX, World.ownsRow_nil _ _ _ _, Nat.zero_le _⟩, hB0⟩
    (fun x a' W => ∃ Bx, w.heap.size < Bx ∧ W.heap[Bx]? = some (stepC x) ∧ a' = { tmps := #[.slice none 0 0, .func (.func gf) #[] lb, .pointer (some ⟨w.heap.size, 0, none⟩), undef, .slice none 0 0, .pointer (some ⟨Bx, 0, none⟩), .func (.func gf) #[] lb, v54 x, undef, undef, undef, undef, undef], defers := [] })
    (fun y a' _ X Y row hs hg hr => by obtain ⟨Bx, h1, h2, h3⟩ := hs; exact ⟨Bx, h1, own_cells W0.heap.size Bx (fun _ : Unit => stepC y) (fun _ => rfl) () X Y row h2 hg hr, h3⟩)
    ?assign ?body ?done ?stop
  case assign =>
    rintro ll pre y W K ⟨⟨v, bv, hr, hl⟩, hB⟩ hK
    have HK := Lib.hid hK
    clear hK
    gi_wp2
    refine HK.out _ _ ((KeepsOthers.alloc _ _).from _) (KeepsWalks.alloc _ _) ⟨⟨v, bv.alloc _, hr.alloc _, hl⟩, hB.alloc hB.size _⟩ ⟨W.heap.size, bv.lt, heap_alloc_new _ _, rfl⟩
  case body =>
    rintro ll pre y a' W hl ⟨r, hr⟩ ⟨⟨v, bv, hrow, hln⟩, hB⟩ ⟨Bx, hBx, bX, rfl⟩ hlt
    have hv := bv.cell
    have hf := bv.frozen
    have x0 := blk_cell bX 0
    have x1 := blk_cell bX 1
    have x2 := blk_cell bX 2
    have x3 := blk_cell bX 3
    gi_wp2_with (gi_at_builtin; refine wpListIn_append_own _ rfl _ _ 34 rfl w.heap.size 54 i0 _ 4 32 hu28 hi hz0 hz1 hz2 rfl (by decide) _ _ _ rfl (hrow.alloc _) ⟨W.heap.size, 0, none⟩ 1 1 (c54 y) rfl rfl (cells_new _ _ _) (by simp [Value.oneCell']) (by simp only [maxLen]; omega) (by omega) (by have := hB.size; simp; omega) ?_; intro v' w1 hown' hgrow _; obtain ⟨g', cap', rfl⟩ := ownsRow_succ hown'; obtain ⟨hv1, hv2, hr2, hk2, hb2⟩ := bv.appended (by decide) hrow hB.size (Nat.le_refl _) hown' hgrow; have hc1 := hv1.cell; have hf1 := hv1.frozen)
    refine ⟨hk2.from _, hk2.walks, ⟨⟨_, hv2, ?_, ?_⟩, hB.trans hb2⟩⟩
    · rw [flat_snoc, List.length_append]; exact hr2
    · rw [List.length_append, List.length_singleton]; omega
  case done =>
    rintro D xs W hD hS ⟨⟨v, bv, hrow, hln⟩, hB⟩ hK
    have hv := bv.cell
    gi_wp2
    refine ⟨by simp, .inl ⟨_, _, rfl, run_takeDeferred hK, ?_⟩⟩
    exact ⟨_, results_tmp rfl _ _ _, xs, v, hS, hln, rfl, ownsRow_putObj hrow _ hK rfl, hB.trans ((Below.refl _ _).grown (grownBy_putObj' W D _) hB.size (fun k e => by injection e with e; omega))⟩
  case stop =>
    rintro D c pre W _ _ h _
    exact h.elim

theorem collect_in (n : Nat) (hn : 4 ≤ n) (gf : Nat) (lb : Array Value) (eg : ∀ args w, (callFunc gf args).run Try.prog w = .ok (.enter gf args) w) (w : World) (S : List S54 → Prop) (N : Nat) (hN : N ≤ 1000000)
    (hseq : SeqStopsK Fence.wide (n - 2) Try.prog gf lb (fun s => #[v54 s]) KeepsWalks S (fun _ => True) N w) :
    CallsIn Fence.wide n Try.prog 51 #[.func (.func gf) #[] lb] w fun e w' => ∃ xs v, S xs ∧ xs.length ≤ N ∧ e = .returned v ∧ w'.ownsRow w.heap.size 54 4 v xs.length (xs.flatMap c54) ∧ Below w.heap.size w w' := by
  have h1 : 1 ≤ n := by omega
  have hcon := Lib.hid (appendSeq_in (n - 1) (by omega) gf lb eg w S N hN (by rw [show n - 1 - 1 = n - 2 by omega]; exact hseq))
  clear hseq
  refine callsIn_of_wp Try.func51 rfl trivial ?_ rfl
  simp only [Try.ntmps51, List.size_toArray, List.length_cons, List.length_nil, Nat.reduceAdd, Nat.reduceSub, Array.replicate_succ, Array.replicate_zero, List.push_toArray, List.append_toArray, List.nil_append, List.cons_append]
  gi_wp2_with (refine ⟨trivial, ?_⟩; gi_at_call 58; refine hcon.out.mono ?_; rintro e w' ⟨xs, v, hS, hl, rfl, hr, hb⟩)
  go_ret
  exact ⟨xs, v, hS, hl, rfl, hr, hb⟩

end Go.Proofs.Ytkecbdeekpbbjaa.Q

/-! A map of steps, as a function; its values in order. No program in sight. -/
namespace Go.Proofs.Ytkecbdeekpbbjaa.Q
open Go.RowKit Go.Lib Go.Shelf Go.Maps Go.Proofs.Ytkecbdeekpbbjaa Go.Proofs.YtkecbdeekpbbjaaW.PrintWords Go.Proofs.YtkecbdeekpbbjaaW.PrintLast Go.Proofs.YtkecbdeekpbbjaaW.PrintMore
set_option linter.unusedVariables false
set_option linter.unusedSimpArgs false

/-- A map reads as a function. -/
def Is (D : DataW S54) (f : Int → Option S54) : Prop := IsMap D ∧ ∀ x, (∃ s, f x = some s ∧ ∀ z, D.atKey (.int .i64 x) z = .held s) ∨ (f x = none ∧ has D (.int .i64 x) = false)
theorem Is.nil : Is (.map []) (fun _ => none) := ⟨isMap_empty, fun x => .inr ⟨rfl, rfl⟩⟩
theorem Is.put {D : DataW S54} {f : Int → Option S54} (h : Is D f) (x : Int) (s : S54) : Is (D.put (.int .i64 x) (.held s)) (fun y => if y = x then some s else f y) := by
  refine ⟨h.1.put _ _, fun y => ?_⟩
  by_cases hy : y = x
  · subst hy
    exact .inl ⟨s, by simp, fun z => atKey_put_same h.1 (by simp [WideAt.IsKeyLit]) _ z⟩
  · have hne : (Lit.int .i64 y) ≠ .int .i64 x := fun e => hy (by injection e)
    rcases h.2 y with ⟨s', h1, h2⟩ | ⟨h1, h2⟩
    · exact .inl ⟨s', by simp [hy, h1], fun z => (atKey_put_other hne _ z).trans (h2 z)⟩
    · exact .inr ⟨by simp [hy, h1], (has_put_other hne _).trans h2⟩
/-- Only places there are; each holds its own. -/
def Good (f : Int → Option S54) : Prop := ∀ x s, f x = some s → s.f0 = x ∧ 0 ≤ x ∧ x < 64
theorem Good.nil : Good (fun _ => none) := fun x s h => by cases h
theorem Good.put {f : Int → Option S54} (h : Good f) (s : S54) (h0 : 0 ≤ s.f0) (h1 : s.f0 < 64) : Good (fun y => if y = s.f0 then some s else f y) := fun x t ht => by
  by_cases hx : x = s.f0
  · simp only [hx, if_true] at ht
    cases ht
    exact ⟨hx.symm, by omega, by omega⟩
  · simp only [if_neg hx] at ht
    exact h x t ht

/-- The values, by their places. -/
def listOf (f : Int → Option S54) : List S54 := (List.range 64).filterMap fun i : Nat => f (i : Int)
theorem mem_listOf {f : Int → Option S54} (hG : Good f) {s : S54} : s ∈ listOf f ↔ f s.f0 = some s := by
  unfold listOf
  rw [List.mem_filterMap]
  constructor
  · rintro ⟨i, _, hi⟩
    have := (hG _ _ hi).1
    rw [this]; exact hi
  · intro h
    obtain ⟨-, h1, h2⟩ := hG _ _ h
    exact ⟨s.f0.toNat, List.mem_range.2 (by omega), by rw [Int.toNat_of_nonneg h1]; exact h⟩
theorem sorted_listOf {f : Int → Option S54} (hG : Good f) : (listOf f).Pairwise fun a b => a.f0 < b.f0 := by
  unfold listOf
  refine List.Pairwise.filterMap _ (R := fun a b : Nat => a < b) (fun a a' h b hb b' hb' => ?_) List.pairwise_lt_range
  have h1 := (hG _ _ hb).1
  have h2 := (hG _ _ hb').1
  omega

theorem all_listed {D : DataW S54} {f : Int → Option S54} (hI : Is D f) (hG : Good f) {ys zs : List S54} (hA : AllOf D ys) (hP : zs.Perm ys) (hS : zs.Pairwise fun a b => a.f0 ≤ b.f0) : zs = listOf f := by
  obtain ⟨ps, rfl, hnd, hk, hat⟩ := hA
  have hv : ∀ p ∈ ps, f p.1 = some p.2 := fun p hp => by
    rcases hI.2 p.1 with ⟨s, h1, h2⟩ | ⟨-, h2⟩
    · have e := (h2 (.held s)).symm.trans (hat p hp (.held s))
      injection e with e
      rw [h1, e]
    · have := ((hk p.1).1 (List.mem_map.2 ⟨p, hp, rfl⟩)).1
      rw [h2] at this
      cases this
  have hf0 : ∀ p ∈ ps, p.2.f0 = p.1 := fun p hp => (hG _ _ (hv p hp)).1
  have hmem : ∀ s, s ∈ ps.map (·.2) ↔ f s.f0 = some s := fun s => by
    rw [List.mem_map]
    constructor
    · rintro ⟨p, hp, rfl⟩
      rw [hf0 p hp]; exact hv p hp
    · intro h
      rcases hI.2 s.f0 with ⟨t, h1, h2⟩ | ⟨h1, -⟩
      · have hh := has_true_of_atKey h2
        obtain ⟨p, hp, hpe⟩ := List.mem_map.1 ((hk s.f0).2 ⟨hh, rfl⟩)
        refine ⟨p, hp, ?_⟩
        have := hv p hp
        rw [hpe, h] at this
        exact (Option.some.inj this).symm
      · rw [h1] at h; cases h
  have hnd2 : (ps.map (·.2)).Nodup := by
    have e : ps.map (·.1) = (ps.map (·.2)).map S54.f0 := by
      rw [List.map_map]
      exact List.map_congr_left fun p hp => (hf0 p hp).symm
    rw [e] at hnd
    exact (List.pairwise_map.1 hnd).imp fun h e => h (by rw [e])
  have hnl : (listOf f).Nodup := (sorted_listOf hG).imp fun h e => by rw [e] at h; omega
  have hp2 : zs.Perm (listOf f) := hP.trans ((List.perm_ext_iff_of_nodup hnd2 hnl).2 fun s => (hmem s).trans (mem_listOf hG).symm)
  refine List.Perm.eq_of_pairwise (le := fun a b : S54 => a.f0 ≤ b.f0) (fun a b ha hb h1 h2 => ?_) hS ((sorted_listOf hG).imp fun h => by omega) hp2
  have e : a.f0 = b.f0 := by omega
  have ha' := (mem_listOf hG).1 (hp2.mem_iff.1 ha)
  have hb' := (mem_listOf hG).1 hb
  rw [e, hb'] at ha'
  exact (Option.some.inj ha').symm

/-- One step more, of those that are read; of those that are written. -/
def putR (f : Int → Option S54) (s : S54) : Int → Option S54 := if s.f2 = false ∧ 0 ≤ s.f0 ∧ s.f0 < 64 then (fun y => if y = s.f0 then some s else f y) else f
def putW (f : Int → Option S54) (s : S54) : Int → Option S54 := if s.f2 = true ∧ 0 ≤ s.f0 ∧ s.f0 < 64 then (fun y => if y = s.f0 then some s else f y) else f
theorem good_putR {f : Int → Option S54} (h : Good f) (s : S54) : Good (putR f s) := by
  unfold putR
  split
  · rename_i hc; exact h.put s hc.2.1 hc.2.2
  · exact h
theorem good_putW {f : Int → Option S54} (h : Good f) (s : S54) : Good (putW f s) := by
  unfold putW
  split
  · rename_i hc; exact h.put s hc.2.1 hc.2.2
  · exact h
def readsF (l : List (Nat × S54)) : Int → Option S54 := l.foldl (fun f p => putR f p.2) (fun _ => none)
def writesF (l : List S54) : Int → Option S54 := l.foldl putW (fun _ => none)
theorem good_foldR : ∀ (l : List (Nat × S54)) (f : Int → Option S54), Good f → Good (l.foldl (fun f p => putR f p.2) f)
  | [], _, h => h
  | p :: l, f, h => good_foldR l _ (good_putR h p.2)
theorem good_foldW : ∀ (l : List S54) (f : Int → Option S54), Good f → Good (l.foldl putW f)
  | [], _, h => h
  | p :: l, f, h => good_foldW l _ (good_putW h p)
theorem good_reads (l : List (Nat × S54)) : Good (readsF l) := good_foldR l _ Good.nil
theorem good_writes (l : List S54) : Good (writesF l) := good_foldW l _ Good.nil
theorem readsF_snoc (l : List (Nat × S54)) (p : Nat × S54) : readsF (l ++ [p]) = putR (readsF l) p.2 := by simp [readsF]
theorem writesF_snoc (l : List S54) (p : S54) : writesF (l ++ [p]) = putW (writesF l) p := by simp [writesF]
def readsL (l : List S54) : List S54 := listOf (readsF (rz l))
def writesL (l : List S54) : List S54 := listOf (writesF l)

/-- The row lies in a block of steps. -/
def Typed (W : World) (A : Option Addr) : Prop := ∀ ad, A = some ad → ∃ cs, W.heap[ad.block]? = some (.cells cs 54 (0, 0))
theorem Typed.below {W W' : World} {A : Option Addr} (h : Typed W A) (hb : RowKit.Below W.heap.size W W') : Typed W' A := fun ad e => by
  obtain ⟨cs, h1⟩ := h ad e
  exact ⟨cs, blk_below h1 hb⟩

end Go.Proofs.Ytkecbdeekpbbjaa.Q
