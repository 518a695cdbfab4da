/- slices.Backward of a transaction, by hand: the iterator's contract. -/
import Derived.Test.YtaagbiaddgohkaaHBack
import Derived.RangeFuncNested
import Derived.RangeFuncBound
import Derived.RangeFuncCalls
import Derived.RangeFuncLeaves
import Derived.RangeFuncBox
import Derived.Shelf.Abstract
import Derived.Shelf.RegionOpen
import Derived.OwnWalkIn
import Derived.TacticsInMore
import Derived.LoopNIn
import Derived.LoopIn
namespace Go.Proofs.Ytaagbiaddgohkaa.Q
open Go.RowKit Go.Lib Go.Shelf Go.Proofs.Ytaagbiaddgohkaa Go.Proofs.YtaagbiaddgohkaaW.PrintWords Go.Proofs.YtaagbiaddgohkaaW.PrintLast Go.Proofs.YtaagbiaddgohkaaW.PrintMore
set_option linter.unusedVariables false
set_option linter.unusedSimpArgs false
attribute [local go_sem] Oper.semAt_some

/-- What a round keeps: all below a place, and one box. -/
def KB (n0 Bs : Nat) (A B : World) : Prop := Below n0 A B ∧ (Bs < A.heap.size → B.heap[Bs]? = A.heap[Bs]?)
theorem KB.refl (n0 Bs : Nat) (A : World) : KB n0 Bs A A := ⟨Below.refl _ _, fun _ => rfl⟩
theorem KB.trans {n0 Bs : Nat} {A B C : World} (h : KB n0 Bs A B) (k : KB n0 Bs B C) : KB n0 Bs A C := ⟨h.1.trans k.1, fun hb => (k.2 (by have := h.1.size; omega)).trans (h.2 hb)⟩

/-- Backwards, with the places. -/
def rz (zs : List S39) : List (Nat × S39) := (List.range zs.length).map fun j => (zs.length - 1 - j, zs.getD (zs.length - 1 - j) z39)
theorem rz_len (zs : List S39) : (rz zs).length = zs.length := by simp [rz]
theorem rz_take (zs : List S39) {k : Nat} (hk : k < zs.length) : (rz zs).take (k + 1) = (rz zs).take k ++ [(zs.length - 1 - k, zs.getD (zs.length - 1 - k) z39)] := by
  rw [List.take_add_one]
  congr 1
  simp [rz, hk]
abbrev encP (x : Nat × S39) : Array Value := #[.int .i64 (x.1 : Int), .agg #[.int .i64 x.2.f0, .int .i64 x.2.f1.f0, .int .i64 x.2.f1.f1, .bool x.2.f2]]

set_option maxRecDepth 100000 in
set_option maxHeartbeats 4000000 in
theorem backward1_in (n : Nat) (hn : 1 ≤ n) (l Bs c : Nat) (A : Option Addr) (zs : List S39) (V W : World) (hV : Below V.heap.size V W) (hC : Kd.C k39 V A zs.length zs) (hB : W.heap[Bs]? = some (.cells #[.slice A zs.length c] 29 (0, 0))) (hz : zs.length ≤ 1000000)
    (J Jx : List (Nat × S39) → World → Prop)
    (hY : ∀ pre x W1, J pre W1 → pre.length < zs.length → YieldAt Fence.wide (n - 1) Try.prog l (encP x) W1 fun e W' =>
      (e = .returned (.bool true) ∧ J (pre ++ [x]) W' ∧ KB V.heap.size Bs W1 W') ∨ (e = .returned (.bool false) ∧ Jx (pre ++ [x]) W')) (h0 : J [] W) :
    CallsIn Fence.wide n Try.prog 32 #[.func (.yield l) #[] #[], .pointer (some ⟨Bs, 0, none⟩)] W fun e W' => (∃ v, e = .returned v) ∧ ((∃ ys, ys = rz zs ∧ J ys W') ∨ (∃ pre, (∃ k, k ≤ zs.length ∧ pre = (rz zs).take k) ∧ Jx pre W')) := by
  have hu := Try.underlying39
  have hu29 := Try.underlying29
  have b0 : W.cell? ⟨Bs, 0, none⟩ = some (.slice A zs.length c) := blk_cell hB 0
  have H := Lib.hid (And.intro hV (And.intro hC (And.intro hB hz)))
  have HY := Lib.hid hY
  have hwl : wrap64 ((zs.length : Int) - 1) = (zs.length : Int) - 1 := by unfold wrap64; omega
  clear hV hC hB hz hY
  refine callsIn_of_wp Try.func32 rfl trivial ?_ rfl
  simp only [Try.ntmps32, List.size_toArray, List.length_cons, List.length_nil, Nat.reduceAdd, Nat.reduceSub, Array.replicate_succ, Array.replicate_zero, List.push_toArray, List.append_toArray, List.nil_append, List.cons_append]
  gi_wp2
  simp only [hwl]
  gi_loopw [3] (fun i wr => ∃ k : Nat, k ≤ zs.length ∧ i = .int .i64 ((zs.length : Int) - 1 - k) ∧ Hid (J ((rz zs).take k) wr ∧ KB V.heap.size Bs W wr))
    (fun i _ => (intOf i + 1).toNat)
  case atStart => exact ⟨0, Nat.zero_le _, by simp, Lib.hid ⟨by simpa using h0, KB.refl _ _ _⟩⟩
  case round =>
    obtain ⟨k, hk, rfl, hJ⟩ := hrel
    have hb := (hJ.out.2.2 (blk_lt H.out.2.2.1)).trans H.out.2.2.1
    have b0 : wr.cell? ⟨Bs, 0, none⟩ = some (.slice A zs.length c) := blk_cell hb 0
    have HB := Lib.hid hb
    clear hb
    by_cases hlt : k < zs.length
    · obtain ⟨i, hi⟩ : ∃ i : Nat, i = zs.length - 1 - k := ⟨_, rfl⟩
      have hiv : (zs.length : Int) - 1 - k = i := by omega
      have hi0 : (0 : Int) ≤ i := by omega
      have hil : (i : Int) < zs.length := by omega
      have hw1 : wrap64 ((i : Int) - 1) = (i : Int) - 1 := by have := H.out.2.2.2; unfold wrap64; omega
      have hCw := Kd.C_below H.out.2.1 (H.out.1.trans hJ.out.2.1)
      obtain ⟨ad, hA, a0, a1, a2, a3⟩ := at_T39 hCw (i : Int) hi0 hil
      subst hA
      obtain ⟨fn, tmps, assign, body, hy, hR⟩ := HY.out _ (i, rd_T39 zs i) wr hJ.out.1 (by rw [List.length_take, rz_len]; omega)
      have hx : rd_T39 zs (i : Int) = zs.getD (zs.length - 1 - k) z39 := by unfold rd_T39; rw [Int.toNat_natCast, hi]
      have HT := Lib.hid (show (rz zs).take (k + 1) = (rz zs).take k ++ [(i, rd_T39 zs i)] by rw [rz_take zs hlt, hx, hi])
      have HR := Lib.hid hR
      rw [hiv]
      unfold encP at hy
      try dsimp only at hy
      generalize rd_T39 zs (i : Int) = x at *
      simp only [Int.toNat_natCast] at a0 a1 a2 a3
      have HI := Lib.hid (And.intro hiv (And.intro hlt hi))
      clear hCw hiv hi hR hx hlt
      gi_wp2
      refine HR.out.mono ?_
      rintro e W3 (⟨rfl, hJ3, hk3⟩ | ⟨rfl, hJx3⟩)
      · have HN := Lib.hid (And.intro hJ3 (hJ.out.2.trans hk3))
        clear hJ3 hk3
        gi_wp2
        go_roundw
        case rel => exact ⟨k + 1, by have := HI.out.2.1; omega, by first | rfl | (rw [hw1]; congr 1; have := HI.out.1; omega) | (congr 1; have := HI.out.1; omega), Lib.hid ⟨by rw [HT.out]; exact HN.out.1, HN.out.2⟩⟩
        case measure => simp [intOf]; omega
      · have HN := Lib.hid hJx3
        clear hJx3
        gi_wp2
        refine bodyPost_ret (results_none rfl _ _ _) rfl ?_
        exact ⟨⟨_, rfl⟩, .inr ⟨_, ⟨k + 1, by have := HI.out.2.1; omega, HT.out.symm⟩, HN.out⟩⟩
    · obtain rfl : k = zs.length := by omega
      have hm : (zs.length : Int) - 1 - zs.length = -1 := by omega
      rw [hm]
      gi_wp2
      go_end0
      exact ⟨⟨_, rfl⟩, .inl ⟨_, rfl, by have := hJ.out.1; rwa [← rz_len zs, List.take_length] at this⟩⟩

theorem backward_calls (A : Option Addr) (m c : Nat) (w : World) :
    Calls Try.prog 23 #[.slice A m c] w fun e w' => e = .returned (.func (.func 32) #[] #[.pointer (some ⟨w.heap.size, 0, none⟩)]) ∧ w' = w.alloc (.cells #[.slice A m c] 29) := by
  go_enter Try.func23, Try.ntmps23
  go_wp2
  go_ret
  exact ⟨rfl, rfl⟩
theorem backward_stops (n : Nat) (hn : 1 ≤ n) (Bs c : Nat) (A : Option Addr) (zs : List S39) (V w0 : World) (hV : Below V.heap.size V w0) (hC : Kd.C k39 V A zs.length zs) (hB : w0.heap[Bs]? = some (.cells #[.slice A zs.length c] 29 (0, 0))) (hz : zs.length ≤ 1000000) :
    SeqStopsK Fence.wide n Try.prog 32 #[.pointer (some ⟨Bs, 0, none⟩)] encP (KB V.heap.size Bs) (fun ys => ys = rz zs) (fun pre => ∃ k, k ≤ zs.length ∧ pre = (rz zs).take k) zs.length w0 := fun l J Jx W hW _ _ hY h0 =>
  backward1_in n hn l Bs c A zs V W (hV.trans (hW.mono hV.size)) hC ((hW.block Bs (blk_lt hB)).trans hB) hz J Jx hY h0
theorem KB.put {n0 Bs : Nat} {W : World} (l : Nat) (o o' : Obj) (hn : n0 ≤ l) (hb : Bs < l) (h : W.heap[l]? = some o) (hc : o.isCells = false) (hw : o.isWalk = false) : KB n0 Bs W (W.putObj l o') :=
  ⟨(Below.refl n0 W).grown (grownBy_putObj' W l o') (by have := (Array.getElem?_eq_some_iff.1 h).1; omega) (fun k e => by cases e; omega),
    fun hb2 => ((Below.refl (Bs + 1) W).grown (grownBy_putObj' W l o') (by have := (Array.getElem?_eq_some_iff.1 h).1; omega) (fun k e => by cases e; omega)).block Bs (Nat.lt_succ_self _)⟩
/-- A block of cells is left as it is by the turns of loops. -/
theorem own_cells {β : Type} (B b : Nat) (o : β → Obj) (ho : ∀ s, (o s).isCells = true) : OwnFrom B (fun (s : β) (W : World) => W.heap[b]? = some (o s)) := fun s X Y row hs hg hr =>
  (hg.block b (blk_lt hs) (fun e => by obtain ⟨_, o', h1, h2⟩ := hr b e.symm; rw [hs] at h1; cases h1; rw [ho s] at h2; cases h2)).trans hs

end Go.Proofs.Ytaagbiaddgohkaa.Q
