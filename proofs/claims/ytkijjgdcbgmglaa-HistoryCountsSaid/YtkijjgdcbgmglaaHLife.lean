/- A step of a life, by hand. -/
import Derived.Test.YtkijjgdcbgmglaaLives
import Derived.Test.YtkijjgdcbgmglaaGrowR
import Derived.Test.YtkijjgdcbgmglaaQ3
import Derived.WalkKit
import Derived.Deep.LoopGhost
namespace Go.Proofs.Ytkijjgdcbgmglaa.Q
open Go.RowKit Go.Lib Go.Maps Go.Proofs.Ytkijjgdcbgmglaa Go.Proofs.YtkijjgdcbgmglaaW.PrintWords Go.Proofs.YtkijjgdcbgmglaaW.PrintLast Go.Proofs.YtkijjgdcbgmglaaW.PrintMore
set_option linter.unusedVariables false
set_option linter.unusedSimpArgs false

/-- Only such blocks are turned. -/
structure Turned (ok : Nat → Prop) (W W' : World) : Prop where
  os : W'.os = W.os
  tape : W'.tape = W.tape
  output : W'.output = W.output
  size : W.heap.size ≤ W'.heap.size
  block : ∀ k, k < W.heap.size → ¬ ok k → W'.heap[k]? = W.heap[k]?
theorem Turned.refl (ok : Nat → Prop) (W : World) : Turned ok W W := ⟨rfl, rfl, rfl, Nat.le_refl _, fun _ _ _ => rfl⟩
theorem Turned.trans {ok : Nat → Prop} {A B C : World} (h : Turned ok A B) (k : Turned ok B C) : Turned ok A C :=
  ⟨k.os.trans h.os, k.tape.trans h.tape, k.output.trans h.output, Nat.le_trans h.size k.size, fun i hi hn => (k.block i (Nat.lt_of_lt_of_le hi h.size) hn).trans (h.block i hi hn)⟩
theorem Turned.below {ok : Nat → Prop} {W W' : World} (h : Below W.heap.size W W') : Turned ok W W' := ⟨h.os, h.tape, h.output, h.size, fun k hk _ => h.block k hk⟩
theorem Turned.grown {ok : Nat → Prop} {W W' : World} {row : Option Nat} (hg : W.grownBy W' row) (hr : ∀ p, row = some p → ok p) : Turned ok W W' := ⟨hg.os, hg.tape, hg.output, hg.size, fun k hk hn => hg.block k hk (fun e => hn (hr k e.symm))⟩
theorem right_val (a b : Int) : value_Right.f a b = some (valR a b) := by
  unfold value_Right.f valR
  split
  · rfl
  split
  · rfl
  split
  · split <;> rfl
  · rfl
theorem wf64 {x : Int} (h0 : -9223372036854775808 ≤ x) (h1 : x ≤ 9223372036854775807) : (Lit.int .i64 x).wf = true := by
  simp only [Lit.wf, Bool.and_eq_true, decide_eq_true_eq]
  have m0 : IntKind.i64.min = -9223372036854775808 := by decide
  have m1 : IntKind.i64.max = 9223372036854775807 := by decide
  rw [m0, m1]
  exact ⟨h0, h1⟩
def zT : Told := ⟨0, ⟨0, ⟨0, 0⟩, false⟩⟩

set_option maxRecDepth 100000 in
theorem look105 {W : World} {b k : Nat} {f : Int → Option Told} (h : MapAt W b k f) (x : Int) (h0 : -9223372036854775808 ≤ x) (h1 : x ≤ 9223372036854775807) :
    (Instr.lookup 84 (.map (some b)) (.int .i64 x) true).run Try.prog W = .ok (.tuple #[v105 ((f x).getD zT), .bool (f x).isSome]) W := by
  obtain ⟨m, D, hown, hI, hm⟩ := h
  have hz : (zeroValue 105).run Try.prog W = .ok (v105 zT) W := by kernel_rfl
  obtain ⟨v, ps, h2, h3⟩ := hown.look_ok (int_keyed Try.underlying3) Try.underlying84 hz (zd := .held zT) (zp := []) rfl (Maps.keyOf_int_mk Try.underlying3 (wf64 h0 h1))
  obtain ⟨t, rfl, h4⟩ := r105_inv h3
  injection h4 with h4 h5
  rw [h2]
  rcases hI.2 x with ⟨s, e1, e2⟩ | ⟨e1, e2⟩
  · rw [e2] at h4
    injection h4 with h4
    subst h4
    rw [e1, has_true_of_atKey e2]
    rfl
  · rw [atKey_of_not_has e2] at h4
    injection h4 with h4
    subst h4
    rw [e1, e2]
    rfl
/-- How a step ends, in memory. -/
def Stepped (W : World) (b rb wb k : Nat) (r : Life × Bool) (x : Ending) (w' : World) : Prop :=
  x = .returned (.bool r.2) ∧ LifeAt w' b rb wb k r.1 ∧ Turned (fun q => q = rb ∨ q = wb) W w'
set_option maxRecDepth 100000 in
set_option maxHeartbeats 2000000 in
theorem life_no (W : World) (b rb wb k : Nat) (l : Life) (hA : LifeAt W b rb wb k l) (n e0 e1 e2 e3 e4 : Int) (hn : e2 < 0 ∨ 64 ≤ e2 ∨ valR e3 e4 = false) :
    Calls Try.prog 64 #[ptr b, .int .i64 n, .agg #[.int .i64 e0, .int .i64 e1, .int .i64 e2, .int .i64 e3, .int .i64 e4]] W (Stepped W b rb wb (k + 1) (stepL l n ⟨e0, e1, e2, ⟨e3, e4⟩⟩)) := by
  have hs : stepL l n ⟨e0, e1, e2, ⟨e3, e4⟩⟩ = (l, false) := by unfold stepL; rw [if_pos hn]
  rw [hs]
  have hu44 := Try.underlying44
  have hu42 := Try.underlying42
  obtain ⟨W1, hW1, K1, hB1⟩ : ∃ W1, W.alloc (.cells #[.int .i64 e0, .int .i64 e1, .int .i64 e2, .int .i64 e3, .int .i64 e4] 44) = W1 ∧ W1.heap[W.heap.size]? = some (.cells #[.int .i64 e0, .int .i64 e1, .int .i64 e2, .int .i64 e3, .int .i64 e4] 44 (0, 0)) ∧ Below W.heap.size W W1 := ⟨_, rfl, heap_alloc_new _ _, bOne _⟩
  have q2 : W1.cell? ⟨W.heap.size, 2, none⟩ = some (.int .i64 e2) := blk_cell K1 2
  have q3 : W1.cell? ⟨W.heap.size, 3, none⟩ = some (.int .i64 e3) := blk_cell K1 3
  have q4 : W1.cell? ⟨W.heap.size, 4, none⟩ = some (.int .i64 e4) := blk_cell K1 4
  have HH := Lib.hid (And.intro hA hB1)
  have HN := Lib.hid hn
  clear hA hB1 K1 hs hn
  by_cases c1 : e2 < 0
  · go_enter Try.func64, Try.ntmps64
    go_wp2_with fail
    go_ret
    exact ⟨rfl, (HH.out.1.below HH.out.2).more (Nat.le_succ _), Turned.below HH.out.2⟩
  by_cases c2 : 64 ≤ e2
  · have c2' : e2 ≥ 64 := c2
    go_enter Try.func64, Try.ntmps64
    go_wp2_with fail
    go_ret
    exact ⟨rfl, (HH.out.1.below HH.out.2).more (Nat.le_succ _), Turned.below HH.out.2⟩
  have c2' : ¬ e2 ≥ 64 := c2
  have hv : valR e3 e4 = false := by
    rcases HN.out with h | h | h
    · exact absurd h c1
    · exact absurd h c2
    · exact h
  have HR := value_Right.calls e3 e4 (valR e3 e4) W1 (right_val e3 e4)
  rw [hv] at HR
  replace HR := Lib.hid HR
  clear hv
  go_enter Try.func64, Try.ntmps64
  go_wp2_with fail
  refine HR.out.mono ?_
  rintro e w2 ⟨rfl, hB2⟩
  have HB := Lib.hid (bAfter HH.out.2 hB2)
  clear hB2 HR q2 q3 q4
  go_wp2_with fail
  go_ret
  exact ⟨rfl, (HH.out.1.below HB.out).more (Nat.le_succ _), Turned.below HB.out⟩
set_option maxRecDepth 100000 in
set_option maxHeartbeats 4000000 in
theorem life_write (W : World) (b rb wb k : Nat) (l : Life) (hA : LifeAt W b rb wb k l) (hne : rb ≠ wb) (hk : k < 1000000) (n e1 e2 e3 e4 : Int) (h0 : 0 ≤ e2) (h1 : e2 < 64) (hv : valR e3 e4 = true) :
    Calls Try.prog 64 #[ptr b, .int .i64 n, .agg #[.int .i64 2, .int .i64 e1, .int .i64 e2, .int .i64 e3, .int .i64 e4]] W (Stepped W b rb wb (k + 1) (stepL l n ⟨2, e1, e2, ⟨e3, e4⟩⟩)) := by
  have hs : stepL l n ⟨2, e1, e2, ⟨e3, e4⟩⟩ = (⟨l.beg, l.fin, l.com, l.reads, put l.writes e2 ⟨n, ⟨e2, ⟨e3, e4⟩, true⟩⟩⟩, true) := by
    unfold stepL
    rw [if_neg (by rintro (h | h | h) <;> first | (dsimp only at h; omega) | (rw [hv] at h; cases h)), if_pos rfl]
  rw [hs]
  have hu44 := Try.underlying44
  have hu42 := Try.underlying42
  have hu103 := Try.underlying103
  have hu105 := Try.underlying105
  have hu86 := Try.underlying86
  have hu84 := Try.underlying84
  have hk3 := int_keyed Try.underlying3
  obtain ⟨W1, hW1, K1, hB1⟩ : ∃ W1, W.alloc (.cells #[.int .i64 2, .int .i64 e1, .int .i64 e2, .int .i64 e3, .int .i64 e4] 44) = W1 ∧ W1.heap[W.heap.size]? = some (.cells #[.int .i64 2, .int .i64 e1, .int .i64 e2, .int .i64 e3, .int .i64 e4] 44 (0, 0)) ∧ Below W.heap.size W W1 := ⟨_, rfl, heap_alloc_new _ _, bOne _⟩
  have q2 : W1.cell? ⟨W.heap.size, 2, none⟩ = some (.int .i64 e2) := blk_cell K1 2
  have q3 : W1.cell? ⟨W.heap.size, 3, none⟩ = some (.int .i64 e3) := blk_cell K1 3
  have q4 : W1.cell? ⟨W.heap.size, 4, none⟩ = some (.int .i64 e4) := blk_cell K1 4
  have HR := value_Right.calls e3 e4 (valR e3 e4) W1 (right_val e3 e4)
  rw [hv] at HR
  replace HR := Lib.hid HR
  have HH := Lib.hid (And.intro (hA.below hB1) (And.intro hB1 K1))
  have c1 : ¬ e2 < 0 := by omega
  have c2 : ¬ e2 ≥ 64 := by omega
  clear hA hB1 K1 hs hv
  go_enter Try.func64, Try.ntmps64
  go_wp2_with fail
  refine HR.out.mono ?_
  rintro e w2 ⟨rfl, hB2⟩
  have q0 : w2.cell? ⟨W.heap.size, 0, none⟩ = some (.int .i64 2) := blk_cell (blk_below HH.out.2.2 hB2) 0
  have q2 : w2.cell? ⟨W.heap.size, 2, none⟩ = some (.int .i64 e2) := blk_cell (blk_below HH.out.2.2 hB2) 2
  have q3 : w2.cell? ⟨W.heap.size, 3, none⟩ = some (.int .i64 e3) := blk_cell (blk_below HH.out.2.2 hB2) 3
  have q4 : w2.cell? ⟨W.heap.size, 4, none⟩ = some (.int .i64 e4) := blk_cell (blk_below HH.out.2.2 hB2) 4
  obtain ⟨W3, hW3, K3, hB3⟩ : ∃ W3, w2.alloc (.cells #[.int .i64 n, .int .i64 e2, .int .i64 e3, .int .i64 e4, .bool true] 105) = W3 ∧ W3.heap[w2.heap.size]? = some (.cells #[.int .i64 n, .int .i64 e2, .int .i64 e3, .int .i64 e4, .bool true] 105 (0, 0)) ∧ Below w2.heap.size w2 W3 := ⟨_, rfl, heap_alloc_new _ _, bOne _⟩
  have q0' : W3.cell? ⟨W.heap.size, 0, none⟩ = some (.int .i64 2) := blk_cell (blk_below (blk_below HH.out.2.2 hB2) hB3) 0
  have HA3 := HH.out.1.below (bAfter hB2 hB3)
  have K13 := blk_below (blk_below HH.out.2.2 hB2) hB3
  have n0 : ∀ W', Below W3.heap.size W3 W' → W'.cell? ⟨b, 4, none⟩ = some (.map (some wb)) := fun W' hB => blk_cell (blk_below HA3.hb hB) 4
  have n1 : ∀ W', Below W3.heap.size W3 W' → W'.cell? ⟨W.heap.size, 2, none⟩ = some (.int .i64 e2) := fun W' hB => blk_cell (blk_below K13 hB) 2
  have n2 : ∀ W', Below W3.heap.size W3 W' → W'.cell? ⟨w2.heap.size, 0, none⟩ = some (.int .i64 n) := fun W' hB => blk_cell (blk_below K3 hB) 0
  have n3 : ∀ W', Below W3.heap.size W3 W' → W'.cell? ⟨w2.heap.size, 1, none⟩ = some (.int .i64 e2) := fun W' hB => blk_cell (blk_below K3 hB) 1
  have n4 : ∀ W', Below W3.heap.size W3 W' → W'.cell? ⟨w2.heap.size, 2, none⟩ = some (.int .i64 e3) := fun W' hB => blk_cell (blk_below K3 hB) 2
  have n5 : ∀ W', Below W3.heap.size W3 W' → W'.cell? ⟨w2.heap.size, 3, none⟩ = some (.int .i64 e4) := fun W' hB => blk_cell (blk_below K3 hB) 3
  have n6 : ∀ W', Below W3.heap.size W3 W' → W'.cell? ⟨w2.heap.size, 4, none⟩ = some (.bool true) := fun W' hB => blk_cell (blk_below K3 hB) 4
  have HB := Lib.hid (And.intro HA3 (bAfter HH.out.2.1 (bAfter hB2 hB3)))
  clear hB2 HR hB3 HA3 K13 K3
  go_wp2_with fail
  apply GR.wp_region_grow (R := RB) 7 (by kernel_rfl) (by kernel_rfl) (by kernel_rfl)
  · intro c a d v w h; cases d <;> exact h
  simp only [List.take_succ_cons, List.take_zero, List.drop_succ_cons, List.drop_zero]
  apply GR.gw_val (by rfl)
  · (intro W' hB hD; have z0 := n0 W' hB; have z1 := n1 W' hB; have z2 := n2 W' hB; have z3 := n3 W' hB; have z4 := n4 W' hB; have z5 := n5 W' hB; have z6 := n6 W' hB; go_simp; first | done | rfl)
  simp only [Act.put, List.setIfInBounds_toArray, List.set_cons_zero, List.set_cons_succ]
  apply GR.gw_val (by rfl)
  · (intro W' hB hD; have z0 := n0 W' hB; have z1 := n1 W' hB; have z2 := n2 W' hB; have z3 := n3 W' hB; have z4 := n4 W' hB; have z5 := n5 W' hB; have z6 := n6 W' hB; go_simp; first | done | rfl)
  simp only [Act.put, List.setIfInBounds_toArray, List.set_cons_zero, List.set_cons_succ]
  apply GR.gw_val (by rfl)
  · (intro W' hB hD; have z0 := n0 W' hB; have z1 := n1 W' hB; have z2 := n2 W' hB; have z3 := n3 W' hB; have z4 := n4 W' hB; have z5 := n5 W' hB; have z6 := n6 W' hB; go_simp; first | done | rfl)
  simp only [Act.put, List.setIfInBounds_toArray, List.set_cons_zero, List.set_cons_succ]
  apply GR.gw_val (by rfl)
  · (intro W' hB hD; have z0 := n0 W' hB; have z1 := n1 W' hB; have z2 := n2 W' hB; have z3 := n3 W' hB; have z4 := n4 W' hB; have z5 := n5 W' hB; have z6 := n6 W' hB; go_simp; first | done | rfl)
  simp only [Act.put, List.setIfInBounds_toArray, List.set_cons_zero, List.set_cons_succ]
  apply GR.gw_val (by rfl)
  · (intro W' hB hD; have z0 := n0 W' hB; have z1 := n1 W' hB; have z2 := n2 W' hB; have z3 := n3 W' hB; have z4 := n4 W' hB; have z5 := n5 W' hB; have z6 := n6 W' hB; go_simp; first | done | rfl)
  simp only [Act.put, List.setIfInBounds_toArray, List.set_cons_zero, List.set_cons_succ]
  apply GR.gw_val (by rfl)
  · (intro W' hB hD; have z0 := n0 W' hB; have z1 := n1 W' hB; have z2 := n2 W' hB; have z3 := n3 W' hB; have z4 := n4 W' hB; have z5 := n5 W' hB; have z6 := n6 W' hB; go_simp; first | done | rfl)
  simp only [Act.put, List.setIfInBounds_toArray, List.set_cons_zero, List.set_cons_succ]
  apply GR.gw_val (by rfl)
  · (intro W' hB hD; have z0 := n0 W' hB; have z1 := n1 W' hB; have z2 := n2 W' hB; have z3 := n3 W' hB; have z4 := n4 W' hB; have z5 := n5 W' hB; have z6 := n6 W' hB; go_simp; first | done | rfl)
  simp only [Act.put, List.setIfInBounds_toArray, List.set_cons_zero, List.set_cons_succ]
  apply GR.gw_nil
  intro Wz hBz hF hP
  have hAz := HB.out.1.below hBz
  obtain ⟨m, D, hown, hI, hm⟩ := hAz.hw
  have HZ := Lib.hid (And.intro hAz (And.intro (bAfter HB.out.2 hBz) (And.intro hI hm)))
  clear hF hP hAz hI hm hBz n0 n1 n2 n3 n4 n5 n6
  refine wpList_mapUpdate_own _ rfl _ _ _ 84 rfl 3 105 hk3 hu84 r105 wb m D rfl hown (by have := HZ.out.2.2.2; simp only [maxLen]; omega) _ _ _ rfl rfl (Maps.keyOf_int_mk Try.underlying3 (wf64 (by omega) (by omega))) (.held ⟨n, ⟨e2, ⟨e3, e4⟩, true⟩⟩) [] rfl ?_
  intro w6 hown6 hgrow6
  obtain ⟨hAz, hBz, hI, hm⟩ := HZ.out
  have hfin : LifeAt w6 b rb wb (k + 1) ⟨l.beg, l.fin, l.com, l.reads, put l.writes e2 ⟨n, ⟨e2, ⟨e3, e4⟩, true⟩⟩⟩ :=
    ⟨(hgrow6.block _ (blk_lt hAz.hb) (fun e => by injection e with e; exact hAz.hw.not_cells (e ▸ hAz.hb))).trans hAz.hb, (hAz.hr.same (hgrow6.block _ hAz.hr.lt (fun e => by injection e with e; exact hne e))).more (Nat.le_succ _), ⟨m + 1, _, hown6, hI.put e2 _, by omega⟩⟩
  have HE := Lib.hid (And.intro hfin ((Turned.below hBz).trans (Turned.grown (ok := fun q => q = rb ∨ q = wb) hgrow6 (fun p e => by injection e with e; exact Or.inr e.symm))))
  clear hfin hAz hBz hI hm hown6 hgrow6 hown HZ
  go_wp2_with fail
  go_ret
  exact ⟨rfl, HE.out.1, HE.out.2⟩
end Go.Proofs.Ytkijjgdcbgmglaa.Q
