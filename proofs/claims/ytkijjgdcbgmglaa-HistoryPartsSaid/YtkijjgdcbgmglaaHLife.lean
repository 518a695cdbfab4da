/- A step of a life, by hand. -/
import Derived.Test.YtkijjgdcbgmglaaLives
import Derived.Test.YtkijjgdcbgmglaaGrowR
import Derived.Test.YtkijjgdcbgmglaaQ3
import Derived.WalkKit
import Derived.Deep.LoopGhost
/-! A step of a life, by hand. -/
namespace Go.Proofs.Ytkijjgdcbgmglaa.Q
open Go.RowKit Go.Lib Go.Maps Go.Proofs.Ytkijjgdcbgmglaa Go.Proofs.YtkijjgdcbgmglaaW.PrintWords Go.Proofs.YtkijjgdcbgmglaaW.PrintLast Go.Proofs.YtkijjgdcbgmglaaW.PrintMore
set_option linter.unusedVariables false
set_option linter.unusedSimpArgs false

/-- Only such blocks are turned. -/
structure Turned (ok : Nat → Prop) (W W' : World) : Prop where
  os : W'.os = W.os
  tape : W'.tape = W.tape
  output : W'.output = W.output
  size : W.heap.size ≤ W'.heap.size
  block : ∀ k, k < W.heap.size → ¬ ok k → W'.heap[k]? = W.heap[k]?
theorem Turned.refl (ok : Nat → Prop) (W : World) : Turned ok W W := ⟨rfl, rfl, rfl, Nat.le_refl _, fun _ _ _ => rfl⟩
theorem Turned.trans {ok : Nat → Prop} {A B C : World} (h : Turned ok A B) (k : Turned ok B C) : Turned ok A C :=
  ⟨k.os.trans h.os, k.tape.trans h.tape, k.output.trans h.output, Nat.le_trans h.size k.size, fun i hi hn => (k.block i (Nat.lt_of_lt_of_le hi h.size) hn).trans (h.block i hi hn)⟩
theorem Turned.below {ok : Nat → Prop} {W W' : World} (h : Below W.heap.size W W') : Turned ok W W' := ⟨h.os, h.tape, h.output, h.size, fun k hk _ => h.block k hk⟩
theorem Turned.grown {ok : Nat → Prop} {W W' : World} {row : Option Nat} (hg : W.grownBy W' row) (hr : ∀ p, row = some p → ok p) : Turned ok W W' := ⟨hg.os, hg.tape, hg.output, hg.size, fun k hk hn => hg.block k hk (fun e => hn (hr k e.symm))⟩
theorem right_val (a b : Int) : value_Right.f a b = some (valR a b) := by
  unfold value_Right.f valR
  split
  · rfl
  split
  · rfl
  split
  · split <;> rfl
  · rfl
theorem wf64 {x : Int} (h0 : -9223372036854775808 ≤ x) (h1 : x ≤ 9223372036854775807) : (Lit.int .i64 x).wf = true := by
  simp only [Lit.wf, Bool.and_eq_true, decide_eq_true_eq]
  have m0 : IntKind.i64.min = -9223372036854775808 := by decide
  have m1 : IntKind.i64.max = 9223372036854775807 := by decide
  rw [m0, m1]
  exact ⟨h0, h1⟩
def zT : Told := ⟨0, ⟨0, ⟨0, 0⟩, false⟩⟩

set_option maxRecDepth 100000 in
theorem look105 {W : World} {b k : Nat} {f : Int → Option Told} (h : MapAt W b k f) (x : Int) (h0 : -9223372036854775808 ≤ x) (h1 : x ≤ 9223372036854775807) :
    (Instr.lookup 84 (.map (some b)) (.int .i64 x) true).run Try.prog W = .ok (.tuple #[v105 ((f x).getD zT), .bool (f x).isSome]) W := by
  obtain ⟨m, D, hown, hI, hm⟩ := h
  have hz : (zeroValue 105).run Try.prog W = .ok (v105 zT) W := by kernel_rfl
  obtain ⟨v, ps, h2, h3⟩ := hown.look_ok (int_keyed Try.underlying3) Try.underlying84 hz (zd := .held zT) (zp := []) rfl (Maps.keyOf_int_mk Try.underlying3 (wf64 h0 h1))
  obtain ⟨t, rfl, h4⟩ := r105_inv h3
  injection h4 with h4 h5
  rw [h2]
  rcases hI.2 x with ⟨s, e1, e2⟩ | ⟨e1, e2⟩
  · rw [e2] at h4
    injection h4 with h4
    subst h4
    rw [e1, has_true_of_atKey e2]
    rfl
  · rw [atKey_of_not_has e2] at h4
    injection h4 with h4
    subst h4
    rw [e1, e2]
    rfl
/-- How a step ends, in memory. -/
def Stepped (W : World) (b rb wb k : Nat) (r : Life × Bool) (x : Ending) (w' : World) : Prop :=
  x = .returned (.bool r.2) ∧ LifeAt w' b rb wb k r.1 ∧ Turned (fun q => q = rb ∨ q = wb) W w'
set_option maxRecDepth 100000 in
set_option maxHeartbeats 2000000 in
theorem life_no (W : World) (b rb wb k : Nat) (l : Life) (hA : LifeAt W b rb wb k l) (n e0 e1 e2 e3 e4 : Int) (hn : e2 < 0 ∨ 64 ≤ e2 ∨ valR e3 e4 = false) :
    Calls Try.prog 64 #[ptr b, .int .i64 n, .agg #[.int .i64 e0, .int .i64 e1, .int .i64 e2, .int .i64 e3, .int .i64 e4]] W (Stepped W b rb wb (k + 1) (stepL l n ⟨e0, e1, e2, ⟨e3, e4⟩⟩)) := by
  have hs : stepL l n ⟨e0, e1, e2, ⟨e3, e4⟩⟩ = (l, false) := by unfold stepL; rw [if_pos hn]
  rw [hs]
  have hu44 := Try.underlying44
  have hu42 := Try.underlying42
  obtain ⟨W1, hW1, K1, hB1⟩ : ∃ W1, W.alloc (.cells #[.int .i64 e0, .int .i64 e1, .int .i64 e2, .int .i64 e3, .int .i64 e4] 44) = W1 ∧ W1.heap[W.heap.size]? = some (.cells #[.int .i64 e0, .int .i64 e1, .int .i64 e2, .int .i64 e3, .int .i64 e4] 44 (0, 0)) ∧ Below W.heap.size W W1 := ⟨_, rfl, heap_alloc_new _ _, bOne _⟩
  have q2 : W1.cell? ⟨W.heap.size, 2, none⟩ = some (.int .i64 e2) := blk_cell K1 2
  have q3 : W1.cell? ⟨W.heap.size, 3, none⟩ = some (.int .i64 e3) := blk_cell K1 3
  have q4 : W1.cell? ⟨W.heap.size, 4, none⟩ = some (.int .i64 e4) := blk_cell K1 4
  have HH := Lib.hid (And.intro hA hB1)
  have HN := Lib.hid hn
  clear hA hB1 K1 hs hn
  by_cases c1 : e2 < 0
  · go_enter Try.func64, Try.ntmps64
    go_wp2_with fail
    go_ret
    exact ⟨rfl, (HH.out.1.below HH.out.2).more (Nat.le_succ _), Turned.below HH.out.2⟩
  by_cases c2 : 64 ≤ e2
  · have c2' : e2 ≥ 64 := c2
    go_enter Try.func64, Try.ntmps64
    go_wp2_with fail
    go_ret
    exact ⟨rfl, (HH.out.1.below HH.out.2).more (Nat.le_succ _), Turned.below HH.out.2⟩
  have c2' : ¬ e2 ≥ 64 := c2
  have hv : valR e3 e4 = false := by
    rcases HN.out with h | h | h
    · exact absurd h c1
    · exact absurd h c2
    · exact h
  have HR := value_Right.calls e3 e4 (valR e3 e4) W1 (right_val e3 e4)
  rw [hv] at HR
  replace HR := Lib.hid HR
  clear hv
  go_enter Try.func64, Try.ntmps64
  go_wp2_with fail
  refine HR.out.mono ?_
  rintro e w2 ⟨rfl, hB2⟩
  have HB := Lib.hid (bAfter HH.out.2 hB2)
  clear hB2 HR q2 q3 q4
  go_wp2_with fail
  go_ret
  exact ⟨rfl, (HH.out.1.below HB.out).more (Nat.le_succ _), Turned.below HB.out⟩
set_option maxRecDepth 100000 in
set_option maxHeartbeats 4000000 in
theorem life_write (W : World) (b rb wb k : Nat) (l : Life) (hA : LifeAt W b rb wb k l) (hne : rb ≠ wb) (hk : k < 1000000) (n e1 e2 e3 e4 : Int) (h0 : 0 ≤ e2) (h1 : e2 < 64) (hv : valR e3 e4 = true) :
    Calls Try.prog 64 #[ptr b, .int .i64 n, .agg #[.int .i64 2, .int .i64 e1, .int .i64 e2, .int .i64 e3, .int .i64 e4]] W (Stepped W b rb wb (k + 1) (stepL l n ⟨2, e1, e2, ⟨e3, e4⟩⟩)) := by
  have hs : stepL l n ⟨2, e1, e2, ⟨e3, e4⟩⟩ = (⟨l.beg, l.fin, l.com, l.reads, put l.writes e2 ⟨n, ⟨e2, ⟨e3, e4⟩, true⟩⟩⟩, true) := by
    unfold stepL
    rw [if_neg (by rintro (h | h | h) <;> first | (dsimp only at h; omega) | (rw [hv] at h; cases h)), if_pos rfl]
  rw [hs]
  have hu44 := Try.underlying44
  have hu42 := Try.underlying42
  have hu103 := Try.underlying103
  have hu105 := Try.underlying105
  have hu86 := Try.underlying86
  have hu84 := Try.underlying84
  have hk3 := int_keyed Try.underlying3
  obtain ⟨W1, hW1, K1, hB1⟩ : ∃ W1, W.alloc (.cells #[.int .i64 2, .int .i64 e1, .int .i64 e2, .int .i64 e3, .int .i64 e4] 44) = W1 ∧ W1.heap[W.heap.size]? = some (.cells #[.int .i64 2, .int .i64 e1, .int .i64 e2, .int .i64 e3, .int .i64 e4] 44 (0, 0)) ∧ Below W.heap.size W W1 := ⟨_, rfl, heap_alloc_new _ _, bOne _⟩
  have q2 : W1.cell? ⟨W.heap.size, 2, none⟩ = some (.int .i64 e2) := blk_cell K1 2
  have q3 : W1.cell? ⟨W.heap.size, 3, none⟩ = some (.int .i64 e3) := blk_cell K1 3
  have q4 : W1.cell? ⟨W.heap.size, 4, none⟩ = some (.int .i64 e4) := blk_cell K1 4
  have HR := value_Right.calls e3 e4 (valR e3 e4) W1 (right_val e3 e4)
  rw [hv] at HR
  replace HR := Lib.hid HR
  have HH := Lib.hid (And.intro (hA.below hB1) (And.intro hB1 K1))
  have c1 : ¬ e2 < 0 := by omega
  have c2 : ¬ e2 ≥ 64 := by omega
  clear hA hB1 K1 hs hv
  go_enter Try.func64, Try.ntmps64
  go_wp2_with fail
  refine HR.out.mono ?_
  rintro e w2 ⟨rfl, hB2⟩
  have q0 : w2.cell? ⟨W.heap.size, 0, none⟩ = some (.int .i64 2) := blk_cell (blk_below HH.out.2.2 hB2) 0
  have q2 : w2.cell? ⟨W.heap.size, 2, none⟩ = some (.int .i64 e2) := blk_cell (blk_below HH.out.2.2 hB2) 2
  have q3 : w2.cell? ⟨W.heap.size, 3, none⟩ = some (.int .i64 e3) := blk_cell (blk_below HH.out.2.2 hB2) 3
  have q4 : w2.cell? ⟨W.heap.size, 4, none⟩ = some (.int .i64 e4) := blk_cell (blk_below HH.out.2.2 hB2) 4
  obtain ⟨W3, hW3, K3, hB3⟩ : ∃ W3, w2.alloc (.cells #[.int .i64 n, .int .i64 e2, .int .i64 e3, .int .i64 e4, .bool true] 105) = W3 ∧ W3.heap[w2.heap.size]? = some (.cells #[.int .i64 n, .int .i64 e2, .int .i64 e3, .int .i64 e4, .bool true] 105 (0, 0)) ∧ Below w2.heap.size w2 W3 := ⟨_, rfl, heap_alloc_new _ _, bOne _⟩
  have q0' : W3.cell? ⟨W.heap.size, 0, none⟩ = some (.int .i64 2) := blk_cell (blk_below (blk_below HH.out.2.2 hB2) hB3) 0
  have HA3 := HH.out.1.below (bAfter hB2 hB3)
  have K13 := blk_below (blk_below HH.out.2.2 hB2) hB3
  have n0 : ∀ W', Below W3.heap.size W3 W' → W'.cell? ⟨b, 4, none⟩ = some (.map (some wb)) := fun W' hB => blk_cell (blk_below HA3.hb hB) 4
  have n1 : ∀ W', Below W3.heap.size W3 W' → W'.cell? ⟨W.heap.size, 2, none⟩ = some (.int .i64 e2) := fun W' hB => blk_cell (blk_below K13 hB) 2
  have n2 : ∀ W', Below W3.heap.size W3 W' → W'.cell? ⟨w2.heap.size, 0, none⟩ = some (.int .i64 n) := fun W' hB => blk_cell (blk_below K3 hB) 0
  have n3 : ∀ W', Below W3.heap.size W3 W' → W'.cell? ⟨w2.heap.size, 1, none⟩ = some (.int .i64 e2) := fun W' hB => blk_cell (blk_below K3 hB) 1
  have n4 : ∀ W', Below W3.heap.size W3 W' → W'.cell? ⟨w2.heap.size, 2, none⟩ = some (.int .i64 e3) := fun W' hB => blk_cell (blk_below K3 hB) 2
  have n5 : ∀ W', Below W3.heap.size W3 W' → W'.cell? ⟨w2.heap.size, 3, none⟩ = some (.int .i64 e4) := fun W' hB => blk_cell (blk_below K3 hB) 3
  have n6 : ∀ W', Below W3.heap.size W3 W' → W'.cell? ⟨w2.heap.size, 4, none⟩ = some (.bool true) := fun W' hB => blk_cell (blk_below K3 hB) 4
  have HB := Lib.hid (And.intro HA3 (bAfter HH.out.2.1 (bAfter hB2 hB3)))
  clear hB2 HR hB3 HA3 K13 K3
  go_wp2_with fail
  apply GR.wp_region_grow (R := RB) 7 (by kernel_rfl) (by kernel_rfl) (by kernel_rfl)
  · intro c a d v w h; cases d <;> exact h
  simp only [List.take_succ_cons, List.take_zero, List.drop_succ_cons, List.drop_zero]
  apply GR.gw_val (by rfl)
  · (intro W' hB hD; have z0 := n0 W' hB; have z1 := n1 W' hB; have z2 := n2 W' hB; have z3 := n3 W' hB; have z4 := n4 W' hB; have z5 := n5 W' hB; have z6 := n6 W' hB; go_simp; first | done | rfl)
  simp only [Act.put, List.setIfInBounds_toArray, List.set_cons_zero, List.set_cons_succ]
  apply GR.gw_val (by rfl)
  · (intro W' hB hD; have z0 := n0 W' hB; have z1 := n1 W' hB; have z2 := n2 W' hB; have z3 := n3 W' hB; have z4 := n4 W' hB; have z5 := n5 W' hB; have z6 := n6 W' hB; go_simp; first | done | rfl)
  simp only [Act.put, List.setIfInBounds_toArray, List.set_cons_zero, List.set_cons_succ]
  apply GR.gw_val (by rfl)
  · (intro W' hB hD; have z0 := n0 W' hB; have z1 := n1 W' hB; have z2 := n2 W' hB; have z3 := n3 W' hB; have z4 := n4 W' hB; have z5 := n5 W' hB; have z6 := n6 W' hB; go_simp; first | done | rfl)
  simp only [Act.put, List.setIfInBounds_toArray, List.set_cons_zero, List.set_cons_succ]
  apply GR.gw_val (by rfl)
  · (intro W' hB hD; have z0 := n0 W' hB; have z1 := n1 W' hB; have z2 := n2 W' hB; have z3 := n3 W' hB; have z4 := n4 W' hB; have z5 := n5 W' hB; have z6 := n6 W' hB; go_simp; first | done | rfl)
  simp only [Act.put, List.setIfInBounds_toArray, List.set_cons_zero, List.set_cons_succ]
  apply GR.gw_val (by rfl)
  · (intro W' hB hD; have z0 := n0 W' hB; have z1 := n1 W' hB; have z2 := n2 W' hB; have z3 := n3 W' hB; have z4 := n4 W' hB; have z5 := n5 W' hB; have z6 := n6 W' hB; go_simp; first | done | rfl)
  simp only [Act.put, List.setIfInBounds_toArray, List.set_cons_zero, List.set_cons_succ]
  apply GR.gw_val (by rfl)
  · (intro W' hB hD; have z0 := n0 W' hB; have z1 := n1 W' hB; have z2 := n2 W' hB; have z3 := n3 W' hB; have z4 := n4 W' hB; have z5 := n5 W' hB; have z6 := n6 W' hB; go_simp; first | done | rfl)
  simp only [Act.put, List.setIfInBounds_toArray, List.set_cons_zero, List.set_cons_succ]
  apply GR.gw_val (by rfl)
  · (intro W' hB hD; have z0 := n0 W' hB; have z1 := n1 W' hB; have z2 := n2 W' hB; have z3 := n3 W' hB; have z4 := n4 W' hB; have z5 := n5 W' hB; have z6 := n6 W' hB; go_simp; first | done | rfl)
  simp only [Act.put, List.setIfInBounds_toArray, List.set_cons_zero, List.set_cons_succ]
  apply GR.gw_nil
  intro Wz hBz hF hP
  have hAz := HB.out.1.below hBz
  obtain ⟨m, D, hown, hI, hm⟩ := hAz.hw
  have HZ := Lib.hid (And.intro hAz (And.intro (bAfter HB.out.2 hBz) (And.intro hI hm)))
  clear hF hP hAz hI hm hBz n0 n1 n2 n3 n4 n5 n6
  refine wpList_mapUpdate_own _ rfl _ _ _ 84 rfl 3 105 hk3 hu84 r105 wb m D rfl hown (by have := HZ.out.2.2.2; simp only [maxLen]; omega) _ _ _ rfl rfl (Maps.keyOf_int_mk Try.underlying3 (wf64 (by omega) (by omega))) (.held ⟨n, ⟨e2, ⟨e3, e4⟩, true⟩⟩) [] rfl ?_
  intro w6 hown6 hgrow6
  obtain ⟨hAz, hBz, hI, hm⟩ := HZ.out
  have hfin : LifeAt w6 b rb wb (k + 1) ⟨l.beg, l.fin, l.com, l.reads, put l.writes e2 ⟨n, ⟨e2, ⟨e3, e4⟩, true⟩⟩⟩ :=
    ⟨(hgrow6.block _ (blk_lt hAz.hb) (fun e => by injection e with e; exact hAz.hw.not_cells (e ▸ hAz.hb))).trans hAz.hb, (hAz.hr.same (hgrow6.block _ hAz.hr.lt (fun e => by injection e with e; exact hne e))).more (Nat.le_succ _), ⟨m + 1, _, hown6, hI.put e2 _, by omega⟩⟩
  have HE := Lib.hid (And.intro hfin ((Turned.below hBz).trans (Turned.grown (ok := fun q => q = rb ∨ q = wb) hgrow6 (fun p e => by injection e with e; exact Or.inr e.symm))))
  clear hfin hAz hBz hI hm hown6 hgrow6 hown HZ
  go_wp2_with fail
  go_ret
  exact ⟨rfl, HE.out.1, HE.out.2⟩
end Go.Proofs.Ytkijjgdcbgmglaa.Q

/-! What one leaves, and when it was committed, by hand. -/
namespace Go.Proofs.Ytkijjgdcbgmglaa.Q
open Go.RowKit Go.Lib Go.Maps Go.Proofs.Ytkijjgdcbgmglaa Go.Proofs.YtkijjgdcbgmglaaW.PrintWords Go.Proofs.YtkijjgdcbgmglaaW.PrintLast Go.Proofs.YtkijjgdcbgmglaaW.PrintMore
set_option linter.unusedVariables false
set_option linter.unusedSimpArgs false

set_option maxRecDepth 100000 in
set_option maxHeartbeats 1000000 in
theorem leaves_calls (W : World) (b rb wb k : Nat) (l : Life) (hA : LifeAt W b rb wb k l) (x : Int) (h0 : -9223372036854775808 ≤ x) (h1 : x ≤ 9223372036854775807) :
    Calls Try.prog 50 #[ptr b, .int .i64 x] W fun e w' => e = .returned (.bool (leavesL l x)) ∧ Below W.heap.size W w' := by
  have hl := look105 hA.hw x h0 h1
  have hlv : leavesL l x = ((l.writes x).isSome && l.com) := rfl
  rw [hlv]
  have hu105 := Try.underlying105
  have hu86 := Try.underlying86
  generalize (l.writes x).isSome = bb at *
  generalize (l.writes x).getD zT = t at *
  obtain ⟨ta, tx, ⟨t0, t1⟩, tw⟩ := t
  dsimp only [v105] at hl
  obtain ⟨W1, hW1, K1, hB1⟩ : ∃ W1, W.alloc (.cells #[.int .i64 ta, .int .i64 tx, .int .i64 t0, .int .i64 t1, .bool tw] 105) = W1 ∧ W1.heap[W.heap.size]? = some (.cells #[.int .i64 ta, .int .i64 tx, .int .i64 t0, .int .i64 t1, .bool tw] 105 (0, 0)) ∧ Below W.heap.size W W1 := ⟨_, rfl, heap_alloc_new _ _, bOne _⟩
  have c4 : W.cell? ⟨b, 4, none⟩ = some (.map (some wb)) := blk_cell hA.hb 4
  have c2 : W1.cell? ⟨b, 2, none⟩ = some (.bool l.com) := blk_cell (blk_below hA.hb hB1) 2
  have HB := Lib.hid hB1
  clear hA hlv K1 hB1
  cases bb with
  | true =>
    go_enter Try.func50, Try.ntmps50
    go_wp2_with fail
    go_ret
    exact ⟨by simp, HB.out⟩
  | false =>
    go_enter Try.func50, Try.ntmps50
    go_wp2_with fail
    go_ret
    exact ⟨by simp, HB.out⟩
set_option maxRecDepth 100000 in
theorem commit_calls (W : World) (b rb wb k : Nat) (l : Life) (hA : LifeAt W b rb wb k l) : Calls Try.prog 52 #[ptr b] W fun e w' => e = .returned (.int .i64 (commitL l)) ∧ Below W.heap.size W w' := by
  have hu86 := Try.underlying86
  have c1 : W.cell? ⟨b, 1, none⟩ = some (.int .i64 l.fin) := blk_cell hA.hb 1
  have c2 : W.cell? ⟨b, 2, none⟩ = some (.bool l.com) := blk_cell hA.hb 2
  clear hA
  unfold commitL
  cases hc : l.com with
  | true =>
    rw [hc] at c2
    rw [if_pos rfl]
    clear hc
    go_enter Try.func52, Try.ntmps52
    go_wp2_with fail
    go_ret
    exact ⟨rfl, Below.refl _ _⟩
  | false =>
    rw [hc] at c2
    rw [if_neg (by simp)]
    clear hc
    go_enter Try.func52, Try.ntmps52
    go_wp2_with fail
    go_ret
    exact ⟨rfl, Below.refl _ _⟩
set_option maxRecDepth 100000 in
theorem after_calls (W : World) (b rb wb k : Nat) (l : Life) (hA : LifeAt W b rb wb k l) (n x : Int) (h0 : -9223372036854775808 ≤ x) (h1 : x ≤ 9223372036854775807) :
    Calls Try.prog 51 #[ptr b, .int .i64 n, .int .i64 x] W fun e w' => e = .returned (.bool (afterL l n x)) ∧ Below W.heap.size W w' := by
  have HL := Lib.hid (leaves_calls W b rb wb k l hA x h0 h1)
  have HA := Lib.hid hA
  have ha : afterL l n x = (leavesL l x && decide (n < commitL l)) := rfl
  rw [ha]
  clear ha hA
  cases hl : leavesL l x with
  | true =>
    rw [hl] at HL
    clear hl
    go_enter Try.func51, Try.ntmps51
    go_wp2_with fail
    refine HL.out.mono ?_
    rintro e w2 ⟨rfl, hB2⟩
    have HC := Lib.hid (commit_calls w2 b rb wb k l (HA.out.below hB2))
    have HB := Lib.hid hB2
    clear hB2 HL
    go_wp2_with fail
    refine HC.out.mono ?_
    rintro e w3 ⟨rfl, hB3⟩
    have HE := Lib.hid (bAfter HB.out hB3)
    clear hB3 HC
    go_wp2_with fail
    go_ret
    exact ⟨by simp, HE.out⟩
  | false =>
    rw [hl] at HL
    clear hl
    go_enter Try.func51, Try.ntmps51
    go_wp2_with fail
    refine HL.out.mono ?_
    rintro e w2 ⟨rfl, hB2⟩
    have HB := Lib.hid hB2
    clear hB2 HL
    go_wp2_with fail
    go_ret
    exact ⟨by simp, HB.out⟩
end Go.Proofs.Ytkijjgdcbgmglaa.Q

/-! A step of a life that is no write, by hand; a step of any kind. -/
namespace Go.Proofs.Ytkijjgdcbgmglaa.Q
open Go.RowKit Go.Lib Go.Maps Go.Proofs.Ytkijjgdcbgmglaa Go.Proofs.YtkijjgdcbgmglaaW.PrintWords Go.Proofs.YtkijjgdcbgmglaaW.PrintLast Go.Proofs.YtkijjgdcbgmglaaW.PrintMore
set_option linter.unusedVariables false
set_option linter.unusedSimpArgs false
set_option maxRecDepth 100000 in
set_option maxHeartbeats 4000000 in
theorem life_read (W : World) (b rb wb k : Nat) (l : Life) (hA : LifeAt W b rb wb k l) (hne : rb ≠ wb) (hk : k < 1000000) (n e0 e1 e2 e3 e4 : Int) (h0 : 0 ≤ e2) (h1 : e2 < 64) (hv : valR e3 e4 = true) (he : e0 ≠ 2) :
    Calls Try.prog 64 #[ptr b, .int .i64 n, .agg #[.int .i64 e0, .int .i64 e1, .int .i64 e2, .int .i64 e3, .int .i64 e4]] W (Stepped W b rb wb (k + 1) (stepL l n ⟨e0, e1, e2, ⟨e3, e4⟩⟩)) := by
  obtain ⟨bw, hbw⟩ : ∃ x, (l.writes e2).isSome = x := ⟨_, rfl⟩
  obtain ⟨br, hbr⟩ : ∃ x, (l.reads e2).isSome = x := ⟨_, rfl⟩
  have hs : stepL l n ⟨e0, e1, e2, ⟨e3, e4⟩⟩ = if br = false ∧ bw = false then (⟨l.beg, l.fin, l.com, put l.reads e2 ⟨n, ⟨e2, ⟨e3, e4⟩, false⟩⟩, l.writes⟩, true) else (l, true) := by
    unfold stepL
    rw [if_neg (by rintro (h | h | h) <;> first | (dsimp only at h; omega) | (rw [hv] at h; cases h)), if_neg he]
    rw [← hbw, ← hbr]
    cases hr : l.reads e2 <;> cases hw : l.writes e2 <;> simp [hr, hw]
  rw [hs]
  obtain ⟨r, hr⟩ : ∃ r, (if br = false ∧ bw = false then ((⟨l.beg, l.fin, l.com, put l.reads e2 ⟨n, ⟨e2, ⟨e3, e4⟩, false⟩⟩, l.writes⟩, true) : Life × Bool) else (l, true)) = r := ⟨_, rfl⟩
  rw [hr]
  have HP := Lib.hid hr
  clear hr
  obtain ⟨⟨ta, tx, ⟨t0, t1⟩, tw⟩, hta⟩ : ∃ t, (l.writes e2).getD zT = t := ⟨_, rfl⟩
  obtain ⟨⟨sa, sx, ⟨s0, s1⟩, sw⟩, hsa⟩ : ∃ t, (l.reads e2).getD zT = t := ⟨_, rfl⟩
  have HT := Lib.hid (And.intro hta (And.intro hbw (And.intro hsa hbr)))
  clear hta hbw hsa hbr
  have hu44 := Try.underlying44
  have hu42 := Try.underlying42
  have hu103 := Try.underlying103
  have hu105 := Try.underlying105
  have hu86 := Try.underlying86
  have hu84 := Try.underlying84
  have hk3 := int_keyed Try.underlying3
  obtain ⟨W1, hW1, K1, hB1⟩ : ∃ W1, W.alloc (.cells #[.int .i64 e0, .int .i64 e1, .int .i64 e2, .int .i64 e3, .int .i64 e4] 44) = W1 ∧ W1.heap[W.heap.size]? = some (.cells #[.int .i64 e0, .int .i64 e1, .int .i64 e2, .int .i64 e3, .int .i64 e4] 44 (0, 0)) ∧ Below W.heap.size W W1 := ⟨_, rfl, heap_alloc_new _ _, bOne _⟩
  have q2 : W1.cell? ⟨W.heap.size, 2, none⟩ = some (.int .i64 e2) := blk_cell K1 2
  have q3 : W1.cell? ⟨W.heap.size, 3, none⟩ = some (.int .i64 e3) := blk_cell K1 3
  have q4 : W1.cell? ⟨W.heap.size, 4, none⟩ = some (.int .i64 e4) := blk_cell K1 4
  have HR := value_Right.calls e3 e4 (valR e3 e4) W1 (right_val e3 e4)
  rw [hv] at HR
  replace HR := Lib.hid HR
  have HH := Lib.hid (And.intro (hA.below hB1) (And.intro hB1 K1))
  have c1 : ¬ e2 < 0 := by omega
  have c2 : ¬ e2 ≥ 64 := by omega
  have heb : (e0 == 2) = false := by simpa using he
  clear hA hB1 K1 hs hv
  go_enter Try.func64, Try.ntmps64
  go_wp2_with fail
  refine HR.out.mono ?_
  rintro e w2 ⟨rfl, hB2⟩
  have q0 : w2.cell? ⟨W.heap.size, 0, none⟩ = some (.int .i64 e0) := blk_cell (blk_below HH.out.2.2 hB2) 0
  have q2 : w2.cell? ⟨W.heap.size, 2, none⟩ = some (.int .i64 e2) := blk_cell (blk_below HH.out.2.2 hB2) 2
  have q3 : w2.cell? ⟨W.heap.size, 3, none⟩ = some (.int .i64 e3) := blk_cell (blk_below HH.out.2.2 hB2) 3
  have q4 : w2.cell? ⟨W.heap.size, 4, none⟩ = some (.int .i64 e4) := blk_cell (blk_below HH.out.2.2 hB2) 4
  obtain ⟨Wa, W3, hWa, hS3, K3, hB3⟩ := laid (P := Try.prog) w2 105 [.int .i64 0, .int .i64 0, .int .i64 0, .int .i64 0, .bool false] [.int .i64 n, .int .i64 e2, .int .i64 e3, .int .i64 e4, .bool false] rfl (by kernel_rfl) (by simp [Value.oneCell'])
  have q0' : W3.cell? ⟨W.heap.size, 0, none⟩ = some (.int .i64 e0) := blk_cell (blk_below (blk_below HH.out.2.2 hB2) hB3) 0
  have HB := Lib.hid (And.intro (HH.out.1.below (bAfter hB2 hB3)) (And.intro (bAfter HH.out.2.1 (bAfter hB2 hB3)) (And.intro (blk_below (blk_below HH.out.2.2 hB2) hB3) K3)))
  clear hB2 HR hB3 K3
  have HAW3 := HB.out.1.below (Below.refl _ _)
  have n0 : ∀ W', Below W3.heap.size W3 W' → W'.cell? ⟨b, 4, none⟩ = some (.map (some wb)) := fun W' hB => blk_cell (blk_below HAW3.hb hB) 4
  have n7 : ∀ W', Below W3.heap.size W3 W' → W'.cell? ⟨b, 3, none⟩ = some (.map (some rb)) := fun W' hB => blk_cell (blk_below HAW3.hb hB) 3
  have n1 : ∀ W', Below W3.heap.size W3 W' → W'.cell? ⟨W.heap.size, 2, none⟩ = some (.int .i64 e2) := fun W' hB => blk_cell (blk_below (blk_below HB.out.2.2.1 (Below.refl _ _)) hB) 2
  have n2 : ∀ W', Below W3.heap.size W3 W' → W'.cell? ⟨w2.heap.size, 0, none⟩ = some (.int .i64 n) := fun W' hB => blk_cell (blk_below (blk_below HB.out.2.2.2 (Below.refl _ _)) hB) 0
  have n3 : ∀ W', Below W3.heap.size W3 W' → W'.cell? ⟨w2.heap.size, 1, none⟩ = some (.int .i64 e2) := fun W' hB => blk_cell (blk_below (blk_below HB.out.2.2.2 (Below.refl _ _)) hB) 1
  have n4 : ∀ W', Below W3.heap.size W3 W' → W'.cell? ⟨w2.heap.size, 2, none⟩ = some (.int .i64 e3) := fun W' hB => blk_cell (blk_below (blk_below HB.out.2.2.2 (Below.refl _ _)) hB) 2
  have n5 : ∀ W', Below W3.heap.size W3 W' → W'.cell? ⟨w2.heap.size, 3, none⟩ = some (.int .i64 e4) := fun W' hB => blk_cell (blk_below (blk_below HB.out.2.2.2 (Below.refl _ _)) hB) 3
  have n6 : ∀ W', Below W3.heap.size W3 W' → W'.cell? ⟨w2.heap.size, 4, none⟩ = some (.bool false) := fun W' hB => blk_cell (blk_below (blk_below HB.out.2.2.2 (Below.refl _ _)) hB) 4
  have nL : ∀ W', Below W3.heap.size W3 W' → (Instr.lookup 84 (.map (some wb)) (.int .i64 e2) true).run Try.prog W' = .ok (.tuple #[.agg #[.int .i64 ta, .int .i64 tx, .int .i64 t0, .int .i64 t1, .bool tw], .bool bw]) W' := fun W' hB => by
    have := look105 (HAW3.below hB).hw e2 (by omega) (by omega)
    rw [HT.out.1, HT.out.2.1] at this
    exact this
  have nM : ∀ W', Below W3.heap.size W3 W' → (Instr.lookup 84 (.map (some rb)) (.int .i64 e2) true).run Try.prog W' = .ok (.tuple #[.agg #[.int .i64 sa, .int .i64 sx, .int .i64 s0, .int .i64 s1, .bool sw], .bool br]) W' := fun W' hB => by
    have := look105 (HAW3.below hB).hr e2 (by omega) (by omega)
    rw [HT.out.2.2.1, HT.out.2.2.2] at this
    exact this
  clear HAW3
  go_wp2_with (refine wpList_st rfl rfl hS3 ?_)
  apply GR.wp_region_grow (R := RB) 11 (by kernel_rfl) (by kernel_rfl) (by kernel_rfl)
  · intro c a d v w h; cases d <;> exact h
  simp only [List.take_succ_cons, List.take_zero, List.drop_succ_cons, List.drop_zero]
  iterate 10
    apply GR.gw_val (by rfl)
    · (intro W' hB hD; have zn0 := n0 W' hB; have zn1 := n1 W' hB; have zn2 := n2 W' hB; have zn3 := n3 W' hB; have zn4 := n4 W' hB; have zn5 := n5 W' hB; have zn6 := n6 W' hB; have zn7 := n7 W' hB; have znL := nL W' hB; have znM := nM W' hB; go_simp; first | done | rfl)
    simp only [Act.put, List.setIfInBounds_toArray, List.set_cons_zero, List.set_cons_succ]
  apply GR.gw_rel (stable_TZ W3.heap.size (.cells [.int .i64 0, .int .i64 0, .int .i64 0, .int .i64 0, .bool false].toArray 105 (0, 0))) (by rfl)
  · intro W' hB hD
    refine ⟨_, _, ?_, bOne (.cells [.int .i64 0, .int .i64 0, .int .i64 0, .int .i64 0, .bool false].toArray 105), W'.heap.size, rfl, hB.size, heap_alloc_new _ _⟩
    go_simp
    first | done | rfl
  rintro v ⟨-, pV7, rfl, -, -⟩
  simp only [Act.put, List.setIfInBounds_toArray, List.set_cons_zero, List.set_cons_succ]
  apply GR.gw_nil
  intro WaV7 hVa hF hP
  have hx := hF (fun W => TZ W3.heap.size (.cells [.int .i64 0, .int .i64 0, .int .i64 0, .int .i64 0, .bool false].toArray 105 (0, 0)) W (ptr pV7)) (by simp)
  rw [TZ_ptr] at hx
  clear hF hP
  obtain ⟨hp, Kp⟩ := hx
  obtain ⟨V7, hSV7, KV7, hOV7⟩ := st_whole (P := Try.prog) (ty := 105) (vs := [.int .i64 ta, .int .i64 tx, .int .i64 t0, .int .i64 t1, .bool tw]) Kp rfl (by kernel_rfl) (by simp [Value.oneCell'])
  have HV7 := Lib.hid (hVa.trans (hOV7.below hp hVa.size))
  clear hVa Kp hp KV7 hOV7
  clear n0 n1 n2 n3 n4 n5 n6 n7 nL nM
  clear q0 q2 q3 q4 q0' hS3 hWa
  have HAV7 := HB.out.1.below HV7.out
  have n0 : ∀ W', Below V7.heap.size V7 W' → W'.cell? ⟨b, 4, none⟩ = some (.map (some wb)) := fun W' hB => blk_cell (blk_below HAV7.hb hB) 4
  have n7 : ∀ W', Below V7.heap.size V7 W' → W'.cell? ⟨b, 3, none⟩ = some (.map (some rb)) := fun W' hB => blk_cell (blk_below HAV7.hb hB) 3
  have n1 : ∀ W', Below V7.heap.size V7 W' → W'.cell? ⟨W.heap.size, 2, none⟩ = some (.int .i64 e2) := fun W' hB => blk_cell (blk_below (blk_below HB.out.2.2.1 HV7.out) hB) 2
  have n2 : ∀ W', Below V7.heap.size V7 W' → W'.cell? ⟨w2.heap.size, 0, none⟩ = some (.int .i64 n) := fun W' hB => blk_cell (blk_below (blk_below HB.out.2.2.2 HV7.out) hB) 0
  have n3 : ∀ W', Below V7.heap.size V7 W' → W'.cell? ⟨w2.heap.size, 1, none⟩ = some (.int .i64 e2) := fun W' hB => blk_cell (blk_below (blk_below HB.out.2.2.2 HV7.out) hB) 1
  have n4 : ∀ W', Below V7.heap.size V7 W' → W'.cell? ⟨w2.heap.size, 2, none⟩ = some (.int .i64 e3) := fun W' hB => blk_cell (blk_below (blk_below HB.out.2.2.2 HV7.out) hB) 2
  have n5 : ∀ W', Below V7.heap.size V7 W' → W'.cell? ⟨w2.heap.size, 3, none⟩ = some (.int .i64 e4) := fun W' hB => blk_cell (blk_below (blk_below HB.out.2.2.2 HV7.out) hB) 3
  have n6 : ∀ W', Below V7.heap.size V7 W' → W'.cell? ⟨w2.heap.size, 4, none⟩ = some (.bool false) := fun W' hB => blk_cell (blk_below (blk_below HB.out.2.2.2 HV7.out) hB) 4
  have nL : ∀ W', Below V7.heap.size V7 W' → (Instr.lookup 84 (.map (some wb)) (.int .i64 e2) true).run Try.prog W' = .ok (.tuple #[.agg #[.int .i64 ta, .int .i64 tx, .int .i64 t0, .int .i64 t1, .bool tw], .bool bw]) W' := fun W' hB => by
    have := look105 (HAV7.below hB).hw e2 (by omega) (by omega)
    rw [HT.out.1, HT.out.2.1] at this
    exact this
  have nM : ∀ W', Below V7.heap.size V7 W' → (Instr.lookup 84 (.map (some rb)) (.int .i64 e2) true).run Try.prog W' = .ok (.tuple #[.agg #[.int .i64 sa, .int .i64 sx, .int .i64 s0, .int .i64 s1, .bool sw], .bool br]) W' := fun W' hB => by
    have := look105 (HAV7.below hB).hr e2 (by omega) (by omega)
    rw [HT.out.2.2.1, HT.out.2.2.2] at this
    exact this
  clear HAV7
  go_wp2_with (refine wpList_st rfl rfl hSV7 ?_)
  apply GR.wp_region_grow (R := RB) 11 (by kernel_rfl) (by kernel_rfl) (by kernel_rfl)
  · intro c a d v w h; cases d <;> exact h
  simp only [List.take_succ_cons, List.take_zero, List.drop_succ_cons, List.drop_zero]
  iterate 10
    apply GR.gw_val (by rfl)
    · (intro W' hB hD; have zn0 := n0 W' hB; have zn1 := n1 W' hB; have zn2 := n2 W' hB; have zn3 := n3 W' hB; have zn4 := n4 W' hB; have zn5 := n5 W' hB; have zn6 := n6 W' hB; have zn7 := n7 W' hB; have znL := nL W' hB; have znM := nM W' hB; go_simp; first | done | rfl)
    simp only [Act.put, List.setIfInBounds_toArray, List.set_cons_zero, List.set_cons_succ]
  apply GR.gw_rel (stable_TZ V7.heap.size (.cells [.int .i64 0, .int .i64 0, .int .i64 0, .int .i64 0, .bool false].toArray 105 (0, 0))) (by rfl)
  · intro W' hB hD
    refine ⟨_, _, ?_, bOne (.cells [.int .i64 0, .int .i64 0, .int .i64 0, .int .i64 0, .bool false].toArray 105), W'.heap.size, rfl, hB.size, heap_alloc_new _ _⟩
    go_simp
    first | done | rfl
  rintro v ⟨-, pV8, rfl, -, -⟩
  simp only [Act.put, List.setIfInBounds_toArray, List.set_cons_zero, List.set_cons_succ]
  apply GR.gw_nil
  intro WaV8 hVa hF hP
  have hx := hF (fun W => TZ V7.heap.size (.cells [.int .i64 0, .int .i64 0, .int .i64 0, .int .i64 0, .bool false].toArray 105 (0, 0)) W (ptr pV8)) (by simp)
  rw [TZ_ptr] at hx
  clear hF hP
  obtain ⟨hp, Kp⟩ := hx
  obtain ⟨V8, hSV8, KV8, hOV8⟩ := st_whole (P := Try.prog) (ty := 105) (vs := [.int .i64 sa, .int .i64 sx, .int .i64 s0, .int .i64 s1, .bool sw]) Kp rfl (by kernel_rfl) (by simp [Value.oneCell'])
  have HV8 := Lib.hid (hVa.trans (hOV8.below hp hVa.size))
  clear hVa Kp hp KV8 hOV8
  clear n0 n1 n2 n3 n4 n5 n6 n7 nL nM
  have HV := Lib.hid (And.intro (HB.out.1.below (bAfter HV7.out HV8.out)) (bAfter HB.out.2.1 (bAfter HV7.out HV8.out)))
  by_cases hb : br = false ∧ bw = false
  · have hr := HP.out
    rw [if_pos hb] at hr
    subst hr
    clear HP
    obtain ⟨rfl, rfl⟩ := hb
    have n0 : ∀ W', Below V8.heap.size V8 W' → W'.cell? ⟨b, 3, none⟩ = some (.map (some rb)) := fun W' hB => blk_cell (blk_below HV.out.1.hb hB) 3
    have n1 : ∀ W', Below V8.heap.size V8 W' → W'.cell? ⟨W.heap.size, 2, none⟩ = some (.int .i64 e2) := fun W' hB => blk_cell (blk_below (blk_below HB.out.2.2.1 (bAfter HV7.out HV8.out)) hB) 2
    have n2 : ∀ W', Below V8.heap.size V8 W' → W'.cell? ⟨w2.heap.size, 0, none⟩ = some (.int .i64 n) := fun W' hB => blk_cell (blk_below (blk_below HB.out.2.2.2 (bAfter HV7.out HV8.out)) hB) 0
    have n3 : ∀ W', Below V8.heap.size V8 W' → W'.cell? ⟨w2.heap.size, 1, none⟩ = some (.int .i64 e2) := fun W' hB => blk_cell (blk_below (blk_below HB.out.2.2.2 (bAfter HV7.out HV8.out)) hB) 1
    have n4 : ∀ W', Below V8.heap.size V8 W' → W'.cell? ⟨w2.heap.size, 2, none⟩ = some (.int .i64 e3) := fun W' hB => blk_cell (blk_below (blk_below HB.out.2.2.2 (bAfter HV7.out HV8.out)) hB) 2
    have n5 : ∀ W', Below V8.heap.size V8 W' → W'.cell? ⟨w2.heap.size, 3, none⟩ = some (.int .i64 e4) := fun W' hB => blk_cell (blk_below (blk_below HB.out.2.2.2 (bAfter HV7.out HV8.out)) hB) 3
    have n6 : ∀ W', Below V8.heap.size V8 W' → W'.cell? ⟨w2.heap.size, 4, none⟩ = some (.bool false) := fun W' hB => blk_cell (blk_below (blk_below HB.out.2.2.2 (bAfter HV7.out HV8.out)) hB) 4
    go_wp2_with (refine wpList_st rfl rfl hSV8 ?_)
    clear hSV8 hSV7
    apply GR.wp_region_grow (R := RB) 7 (by kernel_rfl) (by kernel_rfl) (by kernel_rfl)
    · intro c a d v w h; cases d <;> exact h
    simp only [List.take_succ_cons, List.take_zero, List.drop_succ_cons, List.drop_zero]
    iterate 7
      apply GR.gw_val (by rfl)
      · (intro W' hB hD; have z0 := n0 W' hB; have z1 := n1 W' hB; have z2 := n2 W' hB; have z3 := n3 W' hB; have z4 := n4 W' hB; have z5 := n5 W' hB; have z6 := n6 W' hB; go_simp; first | done | rfl)
      simp only [Act.put, List.setIfInBounds_toArray, List.set_cons_zero, List.set_cons_succ]
    apply GR.gw_nil
    intro Wz hBz hF hP
    have hAz := HV.out.1.below hBz
    obtain ⟨m, D, hown, hI, hm⟩ := hAz.hr
    have HZ := Lib.hid (And.intro hAz (And.intro (bAfter HV.out.2 hBz) (And.intro hI hm)))
    clear hF hP hAz hI hm hBz n0 n1 n2 n3 n4 n5 n6
    refine wpList_mapUpdate_own _ rfl _ _ _ 84 rfl 3 105 hk3 hu84 r105 rb m D rfl hown (by have := HZ.out.2.2.2; simp only [maxLen]; omega) _ _ _ rfl rfl (Maps.keyOf_int_mk Try.underlying3 (wf64 (by omega) (by omega))) (.held ⟨n, ⟨e2, ⟨e3, e4⟩, false⟩⟩) [] rfl ?_
    intro w6 hown6 hgrow6
    obtain ⟨hAz, hBz, hI, hm⟩ := HZ.out
    have hfin : LifeAt w6 b rb wb (k + 1) ⟨l.beg, l.fin, l.com, put l.reads e2 ⟨n, ⟨e2, ⟨e3, e4⟩, false⟩⟩, l.writes⟩ :=
      ⟨(hgrow6.block _ (blk_lt hAz.hb) (fun e => by injection e with e; exact hAz.hr.not_cells (e ▸ hAz.hb))).trans hAz.hb, ⟨m + 1, _, hown6, hI.put e2 _, by omega⟩, (hAz.hw.same (hgrow6.block _ hAz.hw.lt (fun e => by injection e with e; exact hne e.symm))).more (Nat.le_succ _)⟩
    have HE := Lib.hid (And.intro hfin ((Turned.below hBz).trans (Turned.grown (ok := fun q => q = rb ∨ q = wb) hgrow6 (fun p e => by injection e with e; exact Or.inl e.symm))))
    clear hfin hAz hBz hI hm hown6 hgrow6 hown HZ
    go_wp2_with fail
    go_ret
    exact ⟨rfl, HE.out.1, HE.out.2⟩
  · have hr := HP.out
    rw [if_neg hb] at hr
    subst hr
    clear HP
    have HV' := Lib.hid (And.intro ((HV.out.1).more (Nat.le_succ k)) (Turned.below (ok := fun q => q = rb ∨ q = wb) HV.out.2))
    clear HV
    cases br with
    | true =>
      clear hb
      go_wp2_with (refine wpList_st rfl rfl hSV8 ?_)
      go_ret
      exact ⟨rfl, HV'.out.1, HV'.out.2⟩
    | false =>
      cases bw with
      | true =>
        clear hb
        go_wp2_with (refine wpList_st rfl rfl hSV8 ?_)
        go_ret
        exact ⟨rfl, HV'.out.1, HV'.out.2⟩
      | false => exact absurd ⟨rfl, rfl⟩ hb
/-- A step of a life. -/
theorem life_step (W : World) (b rb wb k : Nat) (l : Life) (hA : LifeAt W b rb wb k l) (hne : rb ≠ wb) (hk : k < 1000000) (n e0 e1 e2 e3 e4 : Int) :
    Calls Try.prog 64 #[ptr b, .int .i64 n, .agg #[.int .i64 e0, .int .i64 e1, .int .i64 e2, .int .i64 e3, .int .i64 e4]] W (Stepped W b rb wb (k + 1) (stepL l n ⟨e0, e1, e2, ⟨e3, e4⟩⟩)) := by
  by_cases hn : e2 < 0 ∨ 64 ≤ e2 ∨ valR e3 e4 = false
  · exact life_no W b rb wb k l hA n e0 e1 e2 e3 e4 hn
  · have h0 : 0 ≤ e2 := by by_cases h : e2 < 0; exact absurd (Or.inl h) hn; omega
    have h1 : e2 < 64 := by by_cases h : 64 ≤ e2; exact absurd (Or.inr (Or.inl h)) hn; omega
    have hv : valR e3 e4 = true := by cases h : valR e3 e4 with | true => rfl | false => exact absurd (Or.inr (Or.inr h)) hn
    by_cases he : e0 = 2
    · subst he
      exact life_write W b rb wb k l hA hne hk n e1 e2 e3 e4 h0 h1 hv
    · exact life_read W b rb wb k l hA hne hk n e0 e1 e2 e3 e4 h0 h1 hv he
end Go.Proofs.Ytkijjgdcbgmglaa.Q
