/- Put and Mark of a store, by hand: the function values that they hand on, and what comes of the store. -/
import Derived.Test.YtnamlnlhigdnkaaQ0
import Derived.Test.YtnamlnlhigdnkaaQ4
import Derived.Test.YtnamlnlhigdnkaaQ4
import Derived.Test.YtnamlnlhigdnkaaQ4
import Derived.Test.YtnamlnlhigdnkaaQ4
import Derived.Lib.Hide
import Derived.Test.YtnamlnlhigdnkaaHClone
import Derived.Test.YtnamlnlhigdnkaaGrow
namespace Go.Proofs.Ytnamlnlhigdnkaa.Q
open Go.RowKit Go.Lib Go.Proofs.Ytnamlnlhigdnkaa Go.Proofs.YtnamlnlhigdnkaaW.PrintWords Go.Proofs.YtnamlnlhigdnkaaW.PrintLast Go.Proofs.YtnamlnlhigdnkaaW.PrintMore
set_option linter.unusedVariables false
set_option linter.unusedSimpArgs false

/-- The function value, run on an element of a row: the element is turned, and nothing else that was there. -/
def Turns (n : Nat) (caps : Array Value) (up : S35 → S35) (B : Nat) (w : World) : Prop :=
  ∀ (W : World) (g m cap : Nat) (xs : List S35) (i : Int), Below B w W → B ≤ g → Kd.R k35 35 W B (fun _ => True) (.slice (some ⟨g, 0, none⟩) m cap) xs → 0 ≤ i → i < m →
    Calls Try.prog n (#[.pointer (some ⟨g, i.toNat * 5, none⟩)] ++ caps) W fun e w' => e = .returned (.tuple #[]) ∧ Kd.R k35 35 w' B (fun _ => True) (.slice (some ⟨g, 0, none⟩) m cap) (xs.set i.toNat (up (rd_T35 xs i))) ∧ Below B w w'

set_option maxHeartbeats 2000000 in
theorem put1_calls (v0 v1 x y : Int) (b1 b2 b3 B : Nat) (w : World) (hb1 : b1 < B) (hb2 : b2 < B) (hb3 : b3 < B) (h1 : w.heap[b1]? = some (.cells #[.int .i64 v0, .int .i64 v1] 31 (0, 0))) (h2 : w.heap[b2]? = some (.cells #[.int .i64 x] 3 (0, 0))) (h3 : w.heap[b3]? = some (.cells #[.int .i64 y] 3 (0, 0))) :
    Turns 29 #[.pointer (some ⟨b1, 0, none⟩), .pointer (some ⟨b2, 0, none⟩), .pointer (some ⟨b3, 0, none⟩)] (fun _ => ⟨⟨v0, v1⟩, x, y, 0⟩) B w := by
  intro W g m cap xs i hB hg hR h0 hi
  have c1 : W.cell? ⟨b1, 0, none⟩ = some (.int .i64 v0) := (hB.cell hb1).trans (by simp [World.cell?, h1])
  have c2 : W.cell? ⟨b1, 1, none⟩ = some (.int .i64 v1) := (hB.cell hb1).trans (by simp [World.cell?, h1])
  have c3 : W.cell? ⟨b2, 0, none⟩ = some (.int .i64 x) := (hB.cell hb2).trans (by simp [World.cell?, h2])
  have c4 : W.cell? ⟨b3, 0, none⟩ = some (.int .i64 y) := (hB.cell hb3).trans (by simp [World.cell?, h3])
  obtain ⟨c, hcl, hM, hcc, hfz⟩ := Kd.R_elem hR z35 i h0 hi
  have hu35 := Try.underlying35
  have hu31 := Try.underlying31
  have HR := Aside0.mk hR
  have HB := Aside0.mk hB
  clear hR hB
  go_enter Try.func29, Try.ntmps29
  go_wp2_with (refine Kd.R_store k35 (w0 := w) B rfl rfl 35 _ _ rfl 35 i 0 xs ⟨⟨v0, v1⟩, x, y, 0⟩ _ [.int .i64 v0, .int .i64 v1, .int .i64 x, .int .i64 y, .int .u64 0] c (fun _ => True) (fun k => True ∧ k ≠ g) rfl rfl rfl ?qc1 ?qc2 ?qc3 HR.out h0 hi hcl hcc (Nat.le_refl _) ?qc4 (fun _ h => h) HB.out ?_)
  case qc1 => rfl
  case qc2 => kernel_rfl
  case qc3 => simp [Value.oneCell']
  case qc4 =>
    have h5 : c.length = 5 := hcl
    show k35.M _ _ _ _ (c.take 0 ++ _ ++ c.drop 5)
    rw [List.drop_eq_nil_of_le (by omega), List.take_zero, List.append_nil, List.nil_append]
    exact k35_mkM _ _ _ ⟨⟨v0, v1⟩, x, y, 0⟩
  intro w1 hR1 hB1 _
  go_wp2
  exact bodyPost_end (by simp [results, Try.results29, go_sem]) rfl ⟨rfl, hR1, hB1⟩

set_option maxHeartbeats 4000000 in
theorem mark1_calls (slot : Int) (b1 B : Nat) (w : World) (hb1 : b1 < B) (h1 : w.heap[b1]? = some (.cells #[.int .i64 slot] 3 (0, 0))) (M : Int → Int) (hM : ∀ m, set_With.f m slot = some (M m)) :
    Turns 32 #[.pointer (some ⟨b1, 0, none⟩)] (fun v => ⟨v.f0, v.f1, v.f2, M v.f3⟩) B w := by
  intro W g m cap xs i hB hg hR h0 hi
  have c1 : ∀ W1, Below W.heap.size W W1 → W1.cell? ⟨b1, 0, none⟩ = some (.int .i64 slot) := fun W1 hW1 => by
    have h2 : W.cell? ⟨b1, 0, none⟩ = some (.int .i64 slot) := (hB.cell hb1).trans (by simp [World.cell?, h1])
    exact (hW1.cell (World.block_lt_of_cell? W _ h2)).trans h2
  obtain ⟨c, hcl, hMc, hcc, hfz⟩ := Kd.R_elem hR z35 i h0 hi
  have e5 := k35_openM hMc
  have c5 : ∀ W1, Below W.heap.size W W1 → W1.cell? ⟨g, i.toNat * 5 + 4, none⟩ = some (.int .u64 (rd_T35 xs i).f3) := fun W1 hW1 => by
    have h4 := hcc 4 (.int .u64 (rd_T35 xs i).f3) (by rw [e5]; rfl)
    exact (hW1.cell (World.block_lt_of_cell? W _ h4)).trans h4
  have hu35 := Try.underlying35
  have hu31 := Try.underlying31
  have C1 := Lib.hid fun W => set_With.calls _ slot _ W (hM (rd_T35 xs i).f3)
  have HR := Aside0.mk hR
  have HB := Aside0.mk hB
  clear hR hB
  go_enter Try.func32, Try.ntmps32
  go_wp2_with fail
  apply wp_region_grow 9 (by kernel_rfl) (by kernel_rfl) (by kernel_rfl)
  simp only [List.take_succ_cons, List.take_zero, List.drop_succ_cons, List.drop_zero]
  repeat
    first
      | (apply gw_val (by rfl)
         · (intro W hB hD; go_simp; try rfl)
         simp only [Act.put, List.setIfInBounds_toArray, List.set_cons_zero, List.set_cons_succ])
      | (apply gw_call (by rfl)
         · (intro W hB hD; go_simp; exact ⟨rfl, rfl⟩)
         · (intro W hB hD; with_reducible exact (C1.out _).mono fun _ _ h => ⟨h.1, h.2.below⟩)
         simp only [Act.put, List.setIfInBounds_toArray, List.set_cons_zero, List.set_cons_succ])
  apply gw_nil
  intro W1 hW1 _ _
  have HB1 := Aside0.mk (below_then HB.out (Nat.le_trans hg (Nat.le_of_lt (World.block_lt_of_cell? W _ (hcc 0 (.int .i64 (rd_T35 xs i).f0.f0) (by rw [e5]; rfl))))) hW1)
  have HR1 := Aside0.mk (Kd.R_below HR.out hW1)
  have hcc1 : ∀ (j : Nat) (u : Value), c[j]? = some u → W1.cell? ⟨g, i.toNat * 5 + j, none⟩ = some u := fun j u h => (hW1.cell (World.block_lt_of_cell? W _ (hcc j u h))).trans (hcc j u h)
  clear c1 c5 C1 hcc hfz HR HB hW1
  go_wp2_with (refine Kd.R_store k35 (w0 := w) B rfl rfl 33 _ _ rfl 35 i 4 xs ⟨(rd_T35 xs i).f0, (rd_T35 xs i).f1, (rd_T35 xs i).f2, M (rd_T35 xs i).f3⟩ _ [.int .u64 (M (rd_T35 xs i).f3)] c (fun _ => True) (fun k => True ∧ k ≠ g) rfl rfl rfl ?qc1 ?qc2 ?qc3 HR1.out h0 hi hcl hcc1 (Nat.le_refl _) ?qc4 (fun _ h => h) HB1.out ?_)
  case qc1 => rfl
  case qc2 => kernel_rfl
  case qc3 => simp [Value.oneCell']
  case qc4 =>
    rw [e5]
    exact k35_mkM _ _ _ ⟨(rd_T35 xs i).f0, (rd_T35 xs i).f1, (rd_T35 xs i).f2, M (rd_T35 xs i).f3⟩
  intro w1 hR1 hB1 _
  go_wp2
  exact bodyPost_end (by simp [results, Try.results32, go_sem]) rfl ⟨rfl, hR1, hB1⟩

end Go.Proofs.Ytnamlnlhigdnkaa.Q
