/- What one leaves, and when it was committed, by hand. -/
import Derived.Test.YtkijjgdcbgmglaaHLife
namespace Go.Proofs.Ytkijjgdcbgmglaa.Q
open Go.RowKit Go.Lib Go.Maps Go.Proofs.Ytkijjgdcbgmglaa Go.Proofs.YtkijjgdcbgmglaaW.PrintWords Go.Proofs.YtkijjgdcbgmglaaW.PrintLast Go.Proofs.YtkijjgdcbgmglaaW.PrintMore
set_option linter.unusedVariables false
set_option linter.unusedSimpArgs false

set_option maxRecDepth 100000 in
set_option maxHeartbeats 1000000 in
theorem leaves_calls (W : World) (b rb wb k : Nat) (l : Life) (hA : LifeAt W b rb wb k l) (x : Int) (h0 : -9223372036854775808 ≤ x) (h1 : x ≤ 9223372036854775807) :
    Calls Try.prog 50 #[ptr b, .int .i64 x] W fun e w' => e = .returned (.bool (leavesL l x)) ∧ Below W.heap.size W w' := by
  have hl := look105 hA.hw x h0 h1
  have hlv : leavesL l x = ((l.writes x).isSome && l.com) := rfl
  rw [hlv]
  have hu105 := Try.underlying105
  have hu86 := Try.underlying86
  generalize (l.writes x).isSome = bb at *
  generalize (l.writes x).getD zT = t at *
  obtain ⟨ta, tx, ⟨t0, t1⟩, tw⟩ := t
  dsimp only [v105] at hl
  obtain ⟨W1, hW1, K1, hB1⟩ : ∃ W1, W.alloc (.cells #[.int .i64 ta, .int .i64 tx, .int .i64 t0, .int .i64 t1, .bool tw] 105) = W1 ∧ W1.heap[W.heap.size]? = some (.cells #[.int .i64 ta, .int .i64 tx, .int .i64 t0, .int .i64 t1, .bool tw] 105 (0, 0)) ∧ Below W.heap.size W W1 := ⟨_, rfl, heap_alloc_new _ _, bOne _⟩
  have c4 : W.cell? ⟨b, 4, none⟩ = some (.map (some wb)) := blk_cell hA.hb 4
  have c2 : W1.cell? ⟨b, 2, none⟩ = some (.bool l.com) := blk_cell (blk_below hA.hb hB1) 2
  have HB := Lib.hid hB1
  clear hA hlv K1 hB1
  cases bb with
  | true =>
    go_enter Try.func50, Try.ntmps50
    go_wp2_with fail
    go_ret
    exact ⟨by simp, HB.out⟩
  | false =>
    go_enter Try.func50, Try.ntmps50
    go_wp2_with fail
    go_ret
    exact ⟨by simp, HB.out⟩
set_option maxRecDepth 100000 in
theorem commit_calls (W : World) (b rb wb k : Nat) (l : Life) (hA : LifeAt W b rb wb k l) : Calls Try.prog 52 #[ptr b] W fun e w' => e = .returned (.int .i64 (commitL l)) ∧ Below W.heap.size W w' := by
  have hu86 := Try.underlying86
  have c1 : W.cell? ⟨b, 1, none⟩ = some (.int .i64 l.fin) := blk_cell hA.hb 1
  have c2 : W.cell? ⟨b, 2, none⟩ = some (.bool l.com) := blk_cell hA.hb 2
  clear hA
  unfold commitL
  cases hc : l.com with
  | true =>
    rw [hc] at c2
    rw [if_pos rfl]
    clear hc
    go_enter Try.func52, Try.ntmps52
    go_wp2_with fail
    go_ret
    exact ⟨rfl, Below.refl _ _⟩
  | false =>
    rw [hc] at c2
    rw [if_neg (by simp)]
    clear hc
    go_enter Try.func52, Try.ntmps52
    go_wp2_with fail
    go_ret
    exact ⟨rfl, Below.refl _ _⟩
set_option maxRecDepth 100000 in
theorem after_calls (W : World) (b rb wb k : Nat) (l : Life) (hA : LifeAt W b rb wb k l) (n x : Int) (h0 : -9223372036854775808 ≤ x) (h1 : x ≤ 9223372036854775807) :
    Calls Try.prog 51 #[ptr b, .int .i64 n, .int .i64 x] W fun e w' => e = .returned (.bool (afterL l n x)) ∧ Below W.heap.size W w' := by
  have HL := Lib.hid (leaves_calls W b rb wb k l hA x h0 h1)
  have HA := Lib.hid hA
  have ha : afterL l n x = (leavesL l x && decide (n < commitL l)) := rfl
  rw [ha]
  clear ha hA
  cases hl : leavesL l x with
  | true =>
    rw [hl] at HL
    clear hl
    go_enter Try.func51, Try.ntmps51
    go_wp2_with fail
    refine HL.out.mono ?_
    rintro e w2 ⟨rfl, hB2⟩
    have HC := Lib.hid (commit_calls w2 b rb wb k l (HA.out.below hB2))
    have HB := Lib.hid hB2
    clear hB2 HL
    go_wp2_with fail
    refine HC.out.mono ?_
    rintro e w3 ⟨rfl, hB3⟩
    have HE := Lib.hid (bAfter HB.out hB3)
    clear hB3 HC
    go_wp2_with fail
    go_ret
    exact ⟨by simp, HE.out⟩
  | false =>
    rw [hl] at HL
    clear hl
    go_enter Try.func51, Try.ntmps51
    go_wp2_with fail
    refine HL.out.mono ?_
    rintro e w2 ⟨rfl, hB2⟩
    have HB := Lib.hid hB2
    clear hB2 HL
    go_wp2_with fail
    go_ret
    exact ⟨by simp, HB.out⟩
end Go.Proofs.Ytkijjgdcbgmglaa.Q
