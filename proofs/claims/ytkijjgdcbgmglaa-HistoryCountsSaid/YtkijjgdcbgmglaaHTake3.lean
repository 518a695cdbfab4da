/- An event is taken, by hand (ends). -/
import Derived.Test.YtkijjgdcbgmglaaHTake2
import Derived.RegionTactic
import Derived.BigRegion
namespace Go.Proofs.Ytkijjgdcbgmglaa.Q
open Go.RowKit Go.Lib Go.Maps Go.Proofs.Ytkijjgdcbgmglaa Go.Proofs.YtkijjgdcbgmglaaW.PrintWords Go.Proofs.YtkijjgdcbgmglaaW.PrintLast Go.Proofs.YtkijjgdcbgmglaaW.PrintMore
set_option linter.unusedVariables false
set_option linter.unusedSimpArgs false
attribute [local go_sem high] eqA42
set_option maxRecDepth 100000 in
set_option maxHeartbeats 4000000 in
theorem take_none0 (W : World) (base pb k : Nat) (v : Value) (bs : List (Nat × Nat × Nat)) (all : List Life) (hp : W.heap[pb]? = some (.cells #[v] 69 (0, 0))) (hb : base ≤ pb) (hL : LivesV base W k v bs all) (hl : all.length ≤ 1000) (n e0 e2 e3 e4 : Int) (k0 : (e0 == 0) = false) (c2 : (e2 == 0) = false) (k1 : (e0 == 1) = false) (k2 : (e0 == 2) = false) (k3 : (e0 == 3) = false) (k4 : (e0 == 4) = false) (i : Nat) (hi : i < all.length) (hf : ∀ l, all[i]? = some l → l.fin < 0) :
    Calls Try.prog 48 #[ptr pb, .int .i64 n, .agg #[.int .i64 e0, .int .i64 ((i : Int) + 1), .int .i64 e2, .int .i64 e3, .int .i64 e4]] W (Taken base W pb (k + 1) (takeL all n ⟨e0, ((i : Int) + 1), e2, ⟨e3, e4⟩⟩)) := by
  obtain ⟨r, hr⟩ : ∃ r, takeL all n ⟨e0, ((i : Int) + 1), e2, ⟨e3, e4⟩⟩ = r := ⟨_, rfl⟩
  rw [hr]
  have h0' : ¬ e0 = 0 := by simpa using k0
  have hu44 := Try.underlying44
  have hu42 := Try.underlying42
  have hu86 := Try.underlying86
  have hu83 := Try.underlying83
  have hu69 := Try.underlying69
  obtain ⟨W1, hW1, K1, hB1⟩ : ∃ W1, W.alloc (.cells #[.int .i64 e0, .int .i64 ((i : Int) + 1), .int .i64 e2, .int .i64 e3, .int .i64 e4] 44) = W1 ∧ W1.heap[W.heap.size]? = some (.cells #[.int .i64 e0, .int .i64 ((i : Int) + 1), .int .i64 e2, .int .i64 e3, .int .i64 e4] 44 (0, 0)) ∧ Below W.heap.size W W1 := ⟨_, rfl, heap_alloc_new _ _, bOne _⟩
  have q0 : W1.cell? ⟨W.heap.size, 0, none⟩ = some (.int .i64 e0) := blk_cell K1 0
  have q1 : W1.cell? ⟨W.heap.size, 1, none⟩ = some (.int .i64 (((i : Int) + 1))) := blk_cell K1 1
  have q2 : W1.cell? ⟨W.heap.size, 2, none⟩ = some (.int .i64 e2) := blk_cell K1 2
  have q3 : W1.cell? ⟨W.heap.size, 3, none⟩ = some (.int .i64 e3) := blk_cell K1 3
  have q4 : W1.cell? ⟨W.heap.size, 4, none⟩ = some (.int .i64 e4) := blk_cell K1 4
  have hbW : base ≤ W.heap.size := Nat.le_trans hb (Nat.le_of_lt (blk_lt hp))
  obtain ⟨⟨b, rb, wb⟩, hbi⟩ : ∃ q, bs[i]? = some q := ⟨_, List.getElem?_eq_getElem (by rw [hL.at_.len]; exact hi)⟩
  obtain ⟨l, hli⟩ : ∃ l, all[i]? = some l := ⟨_, List.getElem?_eq_getElem hi⟩
  have hA := hL.at_.at_ i b rb wb l hbi hli
  rcases own_at_ hL.row with ⟨rfl, hz⟩ | ⟨g, c, rfl, -, -, -, hc⟩
  · omega
  have a0 : W1.cell? ⟨g, i, none⟩ = some (ptr b) := (bcell hB1).1 g i (World.block_lt_of_cell? _ _ (hc i (ptr b) (by rw [List.getElem?_map, hbi]; rfl)).1) |>.trans (hc i (ptr b) (by rw [List.getElem?_map, hbi]; rfl)).1
  have a1 : W1.cell? ⟨b, 1, none⟩ = some (.int .i64 l.fin) := blk_cell (blk_below hA.hb hB1) 1
  have p0 : W1.cell? ⟨pb, 0, none⟩ = some (.slice (some ⟨g, 0, none⟩) all.length c) := blk_cell (blk_below hp hB1) 0
  have d1 : decide ((i : Int) + 1 < 1) = false := by simp; omega
  have d2 : decide ((i : Int) + 1 > (all.length : Int)) = false := by simp; omega
  have hw : wrap64 ((i : Int) + 1 - 1) = i := by unfold wrap64; omega
  have hw' : wrap64 ((i : Int) + 1 + -1) = i := by unfold wrap64; omega
  have hi0 : (0 : Int) ≤ i := by omega
  have hi1 : (i : Int) < all.length := by omega
  have hit : ((i : Int) + 1 - 1).toNat = i := by omega
  have HF := Lib.hid (show ∀ V, Below W1.heap.size W1 V → V.heap[pb]? = some (.cells #[.slice (some ⟨g, 0, none⟩) all.length c] 69 (0, 0)) ∧ LivesV base V (k + 1) (.slice (some ⟨g, 0, none⟩) all.length c) bs all ∧ Below base W V from fun V hV => ⟨blk_below (blk_below hp hB1) hV, (hL.below (bAfter hB1 hV)).more (Nat.le_succ _), below_le (bAfter hB1 hV) hbW⟩)
  have hff := hf l hli
  have d3 : decide (l.fin ≥ 0) = false := by simp; omega
  have HE := Lib.hid (show r = (all, false) by
    rw [← hr]
    unfold takeL
    rw [if_neg h0', if_neg (by dsimp only; omega)]
    simp only [hit, hli]
    rw [if_neg (by omega), if_neg (by simpa using And.intro k1 k2), if_neg (by simpa using And.intro k3 k4)])
  clear hr hp hL hB1 K1 h0' hbW hc hf hA hli hbi hi hit hff
  go_enter Try.func48, Try.ntmps48
  go_wp2_with fail
  all_goals
    go_quiet (fail)
    go_wp2_with fail
    go_quiet (fail)
    go_wp2_with fail
    go_ret
    exact ⟨by rw [HE.out]; first | rfl | simp, _, _, by rw [HE.out]; exact HF.out _ (pw_below_drewN (Below.refl _ _) _)⟩
set_option maxRecDepth 100000 in
set_option maxHeartbeats 4000000 in
theorem take_none1 (W : World) (base pb k : Nat) (v : Value) (bs : List (Nat × Nat × Nat)) (all : List Life) (hp : W.heap[pb]? = some (.cells #[v] 69 (0, 0))) (hb : base ≤ pb) (hL : LivesV base W k v bs all) (hl : all.length ≤ 1000) (n e0 e3 e4 : Int) (k0 : (e0 == 0) = false) (k1 : (e0 == 1) = false) (k2 : (e0 == 2) = false) (k3 : (e0 == 3) = false) (k4 : (e0 == 4) = false) (i : Nat) (hi : i < all.length) (hf : ∀ l, all[i]? = some l → l.fin < 0) :
    Calls Try.prog 48 #[ptr pb, .int .i64 n, .agg #[.int .i64 e0, .int .i64 ((i : Int) + 1), .int .i64 0, .int .i64 e3, .int .i64 e4]] W (Taken base W pb (k + 1) (takeL all n ⟨e0, ((i : Int) + 1), 0, ⟨e3, e4⟩⟩)) := by
  obtain ⟨r, hr⟩ : ∃ r, takeL all n ⟨e0, ((i : Int) + 1), 0, ⟨e3, e4⟩⟩ = r := ⟨_, rfl⟩
  rw [hr]
  have h0' : ¬ e0 = 0 := by simpa using k0
  have hu44 := Try.underlying44
  have hu42 := Try.underlying42
  have hu86 := Try.underlying86
  have hu83 := Try.underlying83
  have hu69 := Try.underlying69
  obtain ⟨W1, hW1, K1, hB1⟩ : ∃ W1, W.alloc (.cells #[.int .i64 e0, .int .i64 ((i : Int) + 1), .int .i64 0, .int .i64 e3, .int .i64 e4] 44) = W1 ∧ W1.heap[W.heap.size]? = some (.cells #[.int .i64 e0, .int .i64 ((i : Int) + 1), .int .i64 0, .int .i64 e3, .int .i64 e4] 44 (0, 0)) ∧ Below W.heap.size W W1 := ⟨_, rfl, heap_alloc_new _ _, bOne _⟩
  have q0 : W1.cell? ⟨W.heap.size, 0, none⟩ = some (.int .i64 e0) := blk_cell K1 0
  have q1 : W1.cell? ⟨W.heap.size, 1, none⟩ = some (.int .i64 (((i : Int) + 1))) := blk_cell K1 1
  have q2 : W1.cell? ⟨W.heap.size, 2, none⟩ = some (.int .i64 0) := blk_cell K1 2
  have q3 : W1.cell? ⟨W.heap.size, 3, none⟩ = some (.int .i64 e3) := blk_cell K1 3
  have q4 : W1.cell? ⟨W.heap.size, 4, none⟩ = some (.int .i64 e4) := blk_cell K1 4
  have hbW : base ≤ W.heap.size := Nat.le_trans hb (Nat.le_of_lt (blk_lt hp))
  obtain ⟨⟨b, rb, wb⟩, hbi⟩ : ∃ q, bs[i]? = some q := ⟨_, List.getElem?_eq_getElem (by rw [hL.at_.len]; exact hi)⟩
  obtain ⟨l, hli⟩ : ∃ l, all[i]? = some l := ⟨_, List.getElem?_eq_getElem hi⟩
  have hA := hL.at_.at_ i b rb wb l hbi hli
  rcases own_at_ hL.row with ⟨rfl, hz⟩ | ⟨g, c, rfl, -, -, -, hc⟩
  · omega
  have a0 : W1.cell? ⟨g, i, none⟩ = some (ptr b) := (bcell hB1).1 g i (World.block_lt_of_cell? _ _ (hc i (ptr b) (by rw [List.getElem?_map, hbi]; rfl)).1) |>.trans (hc i (ptr b) (by rw [List.getElem?_map, hbi]; rfl)).1
  have a1 : W1.cell? ⟨b, 1, none⟩ = some (.int .i64 l.fin) := blk_cell (blk_below hA.hb hB1) 1
  have p0 : W1.cell? ⟨pb, 0, none⟩ = some (.slice (some ⟨g, 0, none⟩) all.length c) := blk_cell (blk_below hp hB1) 0
  have d1 : decide ((i : Int) + 1 < 1) = false := by simp; omega
  have d2 : decide ((i : Int) + 1 > (all.length : Int)) = false := by simp; omega
  have hw : wrap64 ((i : Int) + 1 - 1) = i := by unfold wrap64; omega
  have hw' : wrap64 ((i : Int) + 1 + -1) = i := by unfold wrap64; omega
  have hi0 : (0 : Int) ≤ i := by omega
  have hi1 : (i : Int) < all.length := by omega
  have hit : ((i : Int) + 1 - 1).toNat = i := by omega
  have HF := Lib.hid (show ∀ V, Below W1.heap.size W1 V → V.heap[pb]? = some (.cells #[.slice (some ⟨g, 0, none⟩) all.length c] 69 (0, 0)) ∧ LivesV base V (k + 1) (.slice (some ⟨g, 0, none⟩) all.length c) bs all ∧ Below base W V from fun V hV => ⟨blk_below (blk_below hp hB1) hV, (hL.below (bAfter hB1 hV)).more (Nat.le_succ _), below_le (bAfter hB1 hV) hbW⟩)
  have hff := hf l hli
  have d3 : decide (l.fin ≥ 0) = false := by simp; omega
  have HE := Lib.hid (show r = (all, false) by
    rw [← hr]
    unfold takeL
    rw [if_neg h0', if_neg (by dsimp only; omega)]
    simp only [hit, hli]
    rw [if_neg (by omega), if_neg (by simpa using And.intro k1 k2), if_neg (by simpa using And.intro k3 k4)])
  clear hr hp hL hB1 K1 h0' hbW hc hf hA hli hbi hi hit hff
  go_enter Try.func48, Try.ntmps48
  go_wp2_with fail
  all_goals
    go_quiet (fail)
    go_wp2_with fail
    go_quiet (fail)
    go_wp2_with fail
    go_ret
    exact ⟨by rw [HE.out]; first | rfl | simp, _, _, by rw [HE.out]; exact HF.out _ (pw_below_drewN (Below.refl _ _) _)⟩
theorem end_fin (W W1 : World) (base pb k : Nat) (v : Value) (bs : List (Nat × Nat × Nat)) (all : List Life) (i b rb wb : Nat) (l : Life) (n : Int) (com : Bool) (hp : W.heap[pb]? = some (.cells #[v] 69 (0, 0))) (hb : base ≤ pb) (hL : LivesV base W k v bs all) (hbi : bs[i]? = some (b, rb, wb)) (hli : all[i]? = some l) (hi : i < all.length) (hB1 : Below W.heap.size W W1) (hbW : base ≤ W.heap.size) (m : Nat) :
    ((((W1.drewN m).setCell ⟨b, 1, none⟩ (.int .i64 n)).setCell ⟨b, 2, none⟩ (.bool com)).heap[pb]? = some (.cells #[v] 69 (0, 0))) ∧ LivesV base (((W1.drewN m).setCell ⟨b, 1, none⟩ (.int .i64 n)).setCell ⟨b, 2, none⟩ (.bool com)) (k + 1) v bs (all.set i ⟨l.beg, n, com, l.reads, l.writes⟩) ∧ Below base W (((W1.drewN m).setCell ⟨b, 1, none⟩ (.int .i64 n)).setCell ⟨b, 2, none⟩ (.bool com)) := by
  have hBV : Below W.heap.size W (W1.drewN m) := bAfter hB1 (pw_below_drewN (Below.refl _ _) m)
  generalize W1.drewN m = V at *
  have hLV := hL.below hBV
  have hpV := blk_below hp hBV
  have hA := hLV.at_.at_ i b rb wb l hbi hli
  obtain ⟨m1, m2, m3⟩ := mem_blocks hbi
  have hO : ∀ q, q ≠ b → ((V.setCell ⟨b, 1, none⟩ (.int .i64 n)).setCell ⟨b, 2, none⟩ (.bool com)).heap[q]? = V.heap[q]? := fun q hq => (Below.heap_setCell (V.setCell ⟨b, 1, none⟩ (.int .i64 n)) ⟨b, 2, none⟩ (.bool com) q hq).trans (Below.heap_setCell V ⟨b, 1, none⟩ (.int .i64 n) q hq)
  have nb : ∀ q cs t, V.heap[q]? = some (.cells cs t (0, 0)) → t ≠ 86 → q ≠ b := fun q cs t hq ht e => by
    subst e
    rw [hA.hb] at hq
    injection hq with hq
    injection hq with _ hq
    exact ht hq.symm
  have n1 : rb ≠ b := fun e => hA.hr.not_cells (by rw [e]; exact hA.hb)
  have n2 : wb ≠ b := fun e => hA.hw.not_cells (by rw [e]; exact hA.hb)
  refine ⟨(hO pb (nb _ _ _ hpV (by decide))).trans hpV, ⟨?_, ?_⟩, ?_⟩
  · rw [List.length_set]
    obtain ⟨h0, h2⟩ := hLV.row
    refine ⟨h0, ?_⟩
    rcases h2 with ⟨e, h3⟩ | ⟨g', cap, cur, e, h3, h4, h5⟩
    · exact .inl ⟨e, h3⟩
    · exact .inr ⟨g', cap, cur, e, h3, (hO g' (nb _ _ _ h4 (by decide))).trans h4, h5⟩
  · refine (hLV.at_.more (Nat.le_succ k)).turn hbi hi (fun q _ h1 _ _ => hO q h1) ⟨?_, ?_, ?_⟩
    · exact blk_set (blk_set hA.hb 1 _) 2 _
    · exact (hA.hr.same (hO rb n1)).more (Nat.le_succ k)
    · exact (hA.hw.same (hO wb n2)).more (Nat.le_succ k)
  · have lb := hL.at_.lo b m1
    exact ((below_le hBV hbW).setCell (p := ⟨b, 1, none⟩) lb _).setCell (p := ⟨b, 2, none⟩) lb _
set_option maxRecDepth 100000 in
set_option maxHeartbeats 4000000 in
theorem take_end00 (W : World) (base pb k : Nat) (v : Value) (bs : List (Nat × Nat × Nat)) (all : List Life) (hp : W.heap[pb]? = some (.cells #[v] 69 (0, 0))) (hb : base ≤ pb) (hL : LivesV base W k v bs all) (hl : all.length ≤ 1000) (n e0 e2 e3 e4 : Int) (k0 : (e0 == 0) = false) (c2 : (e2 == 0) = false) (k3 : (e0 == 3) = true) (k1 : (e0 == 1) = false) (k2 : (e0 == 2) = false) (i : Nat) (hi : i < all.length) (hf : ∀ l, all[i]? = some l → l.fin < 0) :
    Calls Try.prog 48 #[ptr pb, .int .i64 n, .agg #[.int .i64 e0, .int .i64 ((i : Int) + 1), .int .i64 e2, .int .i64 e3, .int .i64 e4]] W (Taken base W pb (k + 1) (takeL all n ⟨e0, ((i : Int) + 1), e2, ⟨e3, e4⟩⟩)) := by
  obtain ⟨r, hr⟩ : ∃ r, takeL all n ⟨e0, ((i : Int) + 1), e2, ⟨e3, e4⟩⟩ = r := ⟨_, rfl⟩
  rw [hr]
  have h0' : ¬ e0 = 0 := by simpa using k0
  have hu44 := Try.underlying44
  have hu42 := Try.underlying42
  have hu86 := Try.underlying86
  have hu83 := Try.underlying83
  have hu69 := Try.underlying69
  obtain ⟨W1, hW1, K1, hB1⟩ : ∃ W1, W.alloc (.cells #[.int .i64 e0, .int .i64 ((i : Int) + 1), .int .i64 e2, .int .i64 e3, .int .i64 e4] 44) = W1 ∧ W1.heap[W.heap.size]? = some (.cells #[.int .i64 e0, .int .i64 ((i : Int) + 1), .int .i64 e2, .int .i64 e3, .int .i64 e4] 44 (0, 0)) ∧ Below W.heap.size W W1 := ⟨_, rfl, heap_alloc_new _ _, bOne _⟩
  have q0 : W1.cell? ⟨W.heap.size, 0, none⟩ = some (.int .i64 e0) := blk_cell K1 0
  have q1 : W1.cell? ⟨W.heap.size, 1, none⟩ = some (.int .i64 (((i : Int) + 1))) := blk_cell K1 1
  have q2 : W1.cell? ⟨W.heap.size, 2, none⟩ = some (.int .i64 e2) := blk_cell K1 2
  have q3 : W1.cell? ⟨W.heap.size, 3, none⟩ = some (.int .i64 e3) := blk_cell K1 3
  have q4 : W1.cell? ⟨W.heap.size, 4, none⟩ = some (.int .i64 e4) := blk_cell K1 4
  have hbW : base ≤ W.heap.size := Nat.le_trans hb (Nat.le_of_lt (blk_lt hp))
  obtain ⟨⟨b, rb, wb⟩, hbi⟩ : ∃ q, bs[i]? = some q := ⟨_, List.getElem?_eq_getElem (by rw [hL.at_.len]; exact hi)⟩
  obtain ⟨l, hli⟩ : ∃ l, all[i]? = some l := ⟨_, List.getElem?_eq_getElem hi⟩
  have hA := hL.at_.at_ i b rb wb l hbi hli
  rcases own_at_ hL.row with ⟨rfl, hz⟩ | ⟨g, c, rfl, -, -, -, hc⟩
  · omega
  have a0 : W1.cell? ⟨g, i, none⟩ = some (ptr b) := (bcell hB1).1 g i (World.block_lt_of_cell? _ _ (hc i (ptr b) (by rw [List.getElem?_map, hbi]; rfl)).1) |>.trans (hc i (ptr b) (by rw [List.getElem?_map, hbi]; rfl)).1
  have a1 : W1.cell? ⟨b, 1, none⟩ = some (.int .i64 l.fin) := blk_cell (blk_below hA.hb hB1) 1
  have p0 : W1.cell? ⟨pb, 0, none⟩ = some (.slice (some ⟨g, 0, none⟩) all.length c) := blk_cell (blk_below hp hB1) 0
  have d1 : decide ((i : Int) + 1 < 1) = false := by simp; omega
  have d2 : decide ((i : Int) + 1 > (all.length : Int)) = false := by simp; omega
  have hw : wrap64 ((i : Int) + 1 - 1) = i := by unfold wrap64; omega
  have hw' : wrap64 ((i : Int) + 1 + -1) = i := by unfold wrap64; omega
  have hi0 : (0 : Int) ≤ i := by omega
  have hi1 : (i : Int) < all.length := by omega
  have hit : ((i : Int) + 1 - 1).toNat = i := by omega
  have hff := hf l hli
  have d3 : decide (l.fin ≥ 0) = false := by simp; omega
  have HE := Lib.hid (show r = (all.set i ⟨l.beg, n, true, l.reads, l.writes⟩, plainE ⟨e0, (i : Int) + 1, e2, ⟨e3, e4⟩⟩) by
    rw [← hr]
    unfold takeL
    rw [if_neg h0', if_neg (by dsimp only; omega)]
    simp only [hit, hli]
    rw [if_neg (by omega), if_neg (by simpa using And.intro k1 k2), if_pos (by simp at k3; first | exact .inl k3 | (simp at k4; exact .inr k4))]
    have : decide (e0 = 3) = true := k3
    rw [this])
  have b1 : W1.frozen? ⟨b, 1, none⟩ = false := blk_frozen (blk_below hA.hb hB1) 1
  have b2 : W1.frozen? ⟨b, 2, none⟩ = false := blk_frozen (blk_below hA.hb hB1) 2
  have b2 : W1.cell? ⟨b, 2, none⟩ = some (.bool l.com) := blk_cell (blk_below hA.hb hB1) 2
  have HF := Lib.hid (end_fin W W1 base pb k (.slice (some ⟨g, 0, none⟩) all.length c) bs all i b rb wb l n true hp hb hL hbi hli hi hB1 hbW)
  clear hr hp hL hB1 K1 h0' hbW hc hf hA hli hbi hi hit hff
  go_enter Try.func48, Try.ntmps48
  go_wp2_with fail
  all_goals
    go_quiet (fail)
    go_wp2_with fail
    go_quiet (fail)
    go_wp2_with fail
    go_region
    go_wp2_with fail
    go_ret
    exact ⟨by rw [HE.out]; first | rfl | (have h2 : e2 ≠ 0 := (by simpa using c2); simp [plainE, h2]), _, _, by rw [HE.out]; exact HF.out _⟩
set_option maxRecDepth 100000 in
set_option maxHeartbeats 4000000 in
theorem take_end10 (W : World) (base pb k : Nat) (v : Value) (bs : List (Nat × Nat × Nat)) (all : List Life) (hp : W.heap[pb]? = some (.cells #[v] 69 (0, 0))) (hb : base ≤ pb) (hL : LivesV base W k v bs all) (hl : all.length ≤ 1000) (n e0 e3 e4 : Int) (k0 : (e0 == 0) = false) (k3 : (e0 == 3) = true) (k1 : (e0 == 1) = false) (k2 : (e0 == 2) = false) (i : Nat) (hi : i < all.length) (hf : ∀ l, all[i]? = some l → l.fin < 0) :
    Calls Try.prog 48 #[ptr pb, .int .i64 n, .agg #[.int .i64 e0, .int .i64 ((i : Int) + 1), .int .i64 0, .int .i64 e3, .int .i64 e4]] W (Taken base W pb (k + 1) (takeL all n ⟨e0, ((i : Int) + 1), 0, ⟨e3, e4⟩⟩)) := by
  obtain ⟨r, hr⟩ : ∃ r, takeL all n ⟨e0, ((i : Int) + 1), 0, ⟨e3, e4⟩⟩ = r := ⟨_, rfl⟩
  rw [hr]
  have h0' : ¬ e0 = 0 := by simpa using k0
  have hu44 := Try.underlying44
  have hu42 := Try.underlying42
  have hu86 := Try.underlying86
  have hu83 := Try.underlying83
  have hu69 := Try.underlying69
  obtain ⟨W1, hW1, K1, hB1⟩ : ∃ W1, W.alloc (.cells #[.int .i64 e0, .int .i64 ((i : Int) + 1), .int .i64 0, .int .i64 e3, .int .i64 e4] 44) = W1 ∧ W1.heap[W.heap.size]? = some (.cells #[.int .i64 e0, .int .i64 ((i : Int) + 1), .int .i64 0, .int .i64 e3, .int .i64 e4] 44 (0, 0)) ∧ Below W.heap.size W W1 := ⟨_, rfl, heap_alloc_new _ _, bOne _⟩
  have q0 : W1.cell? ⟨W.heap.size, 0, none⟩ = some (.int .i64 e0) := blk_cell K1 0
  have q1 : W1.cell? ⟨W.heap.size, 1, none⟩ = some (.int .i64 (((i : Int) + 1))) := blk_cell K1 1
  have q2 : W1.cell? ⟨W.heap.size, 2, none⟩ = some (.int .i64 0) := blk_cell K1 2
  have q3 : W1.cell? ⟨W.heap.size, 3, none⟩ = some (.int .i64 e3) := blk_cell K1 3
  have q4 : W1.cell? ⟨W.heap.size, 4, none⟩ = some (.int .i64 e4) := blk_cell K1 4
  have hbW : base ≤ W.heap.size := Nat.le_trans hb (Nat.le_of_lt (blk_lt hp))
  obtain ⟨⟨b, rb, wb⟩, hbi⟩ : ∃ q, bs[i]? = some q := ⟨_, List.getElem?_eq_getElem (by rw [hL.at_.len]; exact hi)⟩
  obtain ⟨l, hli⟩ : ∃ l, all[i]? = some l := ⟨_, List.getElem?_eq_getElem hi⟩
  have hA := hL.at_.at_ i b rb wb l hbi hli
  rcases own_at_ hL.row with ⟨rfl, hz⟩ | ⟨g, c, rfl, -, -, -, hc⟩
  · omega
  have a0 : W1.cell? ⟨g, i, none⟩ = some (ptr b) := (bcell hB1).1 g i (World.block_lt_of_cell? _ _ (hc i (ptr b) (by rw [List.getElem?_map, hbi]; rfl)).1) |>.trans (hc i (ptr b) (by rw [List.getElem?_map, hbi]; rfl)).1
  have a1 : W1.cell? ⟨b, 1, none⟩ = some (.int .i64 l.fin) := blk_cell (blk_below hA.hb hB1) 1
  have p0 : W1.cell? ⟨pb, 0, none⟩ = some (.slice (some ⟨g, 0, none⟩) all.length c) := blk_cell (blk_below hp hB1) 0
  have d1 : decide ((i : Int) + 1 < 1) = false := by simp; omega
  have d2 : decide ((i : Int) + 1 > (all.length : Int)) = false := by simp; omega
  have hw : wrap64 ((i : Int) + 1 - 1) = i := by unfold wrap64; omega
  have hw' : wrap64 ((i : Int) + 1 + -1) = i := by unfold wrap64; omega
  have hi0 : (0 : Int) ≤ i := by omega
  have hi1 : (i : Int) < all.length := by omega
  have hit : ((i : Int) + 1 - 1).toNat = i := by omega
  have hff := hf l hli
  have d3 : decide (l.fin ≥ 0) = false := by simp; omega
  have HE := Lib.hid (show r = (all.set i ⟨l.beg, n, true, l.reads, l.writes⟩, plainE ⟨e0, (i : Int) + 1, 0, ⟨e3, e4⟩⟩) by
    rw [← hr]
    unfold takeL
    rw [if_neg h0', if_neg (by dsimp only; omega)]
    simp only [hit, hli]
    rw [if_neg (by omega), if_neg (by simpa using And.intro k1 k2), if_pos (by simp at k3; first | exact .inl k3 | (simp at k4; exact .inr k4))]
    have : decide (e0 = 3) = true := k3
    rw [this])
  have b1 : W1.frozen? ⟨b, 1, none⟩ = false := blk_frozen (blk_below hA.hb hB1) 1
  have b2 : W1.frozen? ⟨b, 2, none⟩ = false := blk_frozen (blk_below hA.hb hB1) 2
  have b2 : W1.cell? ⟨b, 2, none⟩ = some (.bool l.com) := blk_cell (blk_below hA.hb hB1) 2
  have HF := Lib.hid (end_fin W W1 base pb k (.slice (some ⟨g, 0, none⟩) all.length c) bs all i b rb wb l n true hp hb hL hbi hli hi hB1 hbW)
  clear hr hp hL hB1 K1 h0' hbW hc hf hA hli hbi hi hit hff
  go_enter Try.func48, Try.ntmps48
  go_wp2_with fail
  all_goals
    go_quiet (fail)
    go_wp2_with fail
    go_quiet (fail)
    go_wp2_with fail
    go_region
    go_wp2_with fail
    go_ret
    exact ⟨by rw [HE.out]; first | rfl | (simp [plainE]; done) | (simp [plainE]; rfl), _, _, by rw [HE.out]; exact HF.out _⟩
set_option maxRecDepth 100000 in
set_option maxHeartbeats 4000000 in
theorem take_end01 (W : World) (base pb k : Nat) (v : Value) (bs : List (Nat × Nat × Nat)) (all : List Life) (hp : W.heap[pb]? = some (.cells #[v] 69 (0, 0))) (hb : base ≤ pb) (hL : LivesV base W k v bs all) (hl : all.length ≤ 1000) (n e0 e2 e3 e4 : Int) (k0 : (e0 == 0) = false) (c2 : (e2 == 0) = false) (k3 : (e0 == 3) = false) (k4 : (e0 == 4) = true) (k1 : (e0 == 1) = false) (k2 : (e0 == 2) = false) (i : Nat) (hi : i < all.length) (hf : ∀ l, all[i]? = some l → l.fin < 0) :
    Calls Try.prog 48 #[ptr pb, .int .i64 n, .agg #[.int .i64 e0, .int .i64 ((i : Int) + 1), .int .i64 e2, .int .i64 e3, .int .i64 e4]] W (Taken base W pb (k + 1) (takeL all n ⟨e0, ((i : Int) + 1), e2, ⟨e3, e4⟩⟩)) := by
  obtain ⟨r, hr⟩ : ∃ r, takeL all n ⟨e0, ((i : Int) + 1), e2, ⟨e3, e4⟩⟩ = r := ⟨_, rfl⟩
  rw [hr]
  have h0' : ¬ e0 = 0 := by simpa using k0
  have hu44 := Try.underlying44
  have hu42 := Try.underlying42
  have hu86 := Try.underlying86
  have hu83 := Try.underlying83
  have hu69 := Try.underlying69
  obtain ⟨W1, hW1, K1, hB1⟩ : ∃ W1, W.alloc (.cells #[.int .i64 e0, .int .i64 ((i : Int) + 1), .int .i64 e2, .int .i64 e3, .int .i64 e4] 44) = W1 ∧ W1.heap[W.heap.size]? = some (.cells #[.int .i64 e0, .int .i64 ((i : Int) + 1), .int .i64 e2, .int .i64 e3, .int .i64 e4] 44 (0, 0)) ∧ Below W.heap.size W W1 := ⟨_, rfl, heap_alloc_new _ _, bOne _⟩
  have q0 : W1.cell? ⟨W.heap.size, 0, none⟩ = some (.int .i64 e0) := blk_cell K1 0
  have q1 : W1.cell? ⟨W.heap.size, 1, none⟩ = some (.int .i64 (((i : Int) + 1))) := blk_cell K1 1
  have q2 : W1.cell? ⟨W.heap.size, 2, none⟩ = some (.int .i64 e2) := blk_cell K1 2
  have q3 : W1.cell? ⟨W.heap.size, 3, none⟩ = some (.int .i64 e3) := blk_cell K1 3
  have q4 : W1.cell? ⟨W.heap.size, 4, none⟩ = some (.int .i64 e4) := blk_cell K1 4
  have hbW : base ≤ W.heap.size := Nat.le_trans hb (Nat.le_of_lt (blk_lt hp))
  obtain ⟨⟨b, rb, wb⟩, hbi⟩ : ∃ q, bs[i]? = some q := ⟨_, List.getElem?_eq_getElem (by rw [hL.at_.len]; exact hi)⟩
  obtain ⟨l, hli⟩ : ∃ l, all[i]? = some l := ⟨_, List.getElem?_eq_getElem hi⟩
  have hA := hL.at_.at_ i b rb wb l hbi hli
  rcases own_at_ hL.row with ⟨rfl, hz⟩ | ⟨g, c, rfl, -, -, -, hc⟩
  · omega
  have a0 : W1.cell? ⟨g, i, none⟩ = some (ptr b) := (bcell hB1).1 g i (World.block_lt_of_cell? _ _ (hc i (ptr b) (by rw [List.getElem?_map, hbi]; rfl)).1) |>.trans (hc i (ptr b) (by rw [List.getElem?_map, hbi]; rfl)).1
  have a1 : W1.cell? ⟨b, 1, none⟩ = some (.int .i64 l.fin) := blk_cell (blk_below hA.hb hB1) 1
  have p0 : W1.cell? ⟨pb, 0, none⟩ = some (.slice (some ⟨g, 0, none⟩) all.length c) := blk_cell (blk_below hp hB1) 0
  have d1 : decide ((i : Int) + 1 < 1) = false := by simp; omega
  have d2 : decide ((i : Int) + 1 > (all.length : Int)) = false := by simp; omega
  have hw : wrap64 ((i : Int) + 1 - 1) = i := by unfold wrap64; omega
  have hw' : wrap64 ((i : Int) + 1 + -1) = i := by unfold wrap64; omega
  have hi0 : (0 : Int) ≤ i := by omega
  have hi1 : (i : Int) < all.length := by omega
  have hit : ((i : Int) + 1 - 1).toNat = i := by omega
  have hff := hf l hli
  have d3 : decide (l.fin ≥ 0) = false := by simp; omega
  have HE := Lib.hid (show r = (all.set i ⟨l.beg, n, false, l.reads, l.writes⟩, plainE ⟨e0, (i : Int) + 1, e2, ⟨e3, e4⟩⟩) by
    rw [← hr]
    unfold takeL
    rw [if_neg h0', if_neg (by dsimp only; omega)]
    simp only [hit, hli]
    rw [if_neg (by omega), if_neg (by simpa using And.intro k1 k2), if_pos (by simp at k3; first | exact .inl k3 | (simp at k4; exact .inr k4))]
    have : decide (e0 = 3) = false := k3
    rw [this])
  have b1 : W1.frozen? ⟨b, 1, none⟩ = false := blk_frozen (blk_below hA.hb hB1) 1
  have b2 : W1.frozen? ⟨b, 2, none⟩ = false := blk_frozen (blk_below hA.hb hB1) 2
  have b2 : W1.cell? ⟨b, 2, none⟩ = some (.bool l.com) := blk_cell (blk_below hA.hb hB1) 2
  have HF := Lib.hid (end_fin W W1 base pb k (.slice (some ⟨g, 0, none⟩) all.length c) bs all i b rb wb l n false hp hb hL hbi hli hi hB1 hbW)
  clear hr hp hL hB1 K1 h0' hbW hc hf hA hli hbi hi hit hff
  go_enter Try.func48, Try.ntmps48
  go_wp2_with fail
  all_goals
    go_quiet (fail)
    go_wp2_with fail
    go_quiet (fail)
    go_wp2_with fail
    go_region
    go_wp2_with fail
    go_ret
    exact ⟨by rw [HE.out]; first | rfl | (have h2 : e2 ≠ 0 := (by simpa using c2); simp [plainE, h2]), _, _, by rw [HE.out]; exact HF.out _⟩
set_option maxRecDepth 100000 in
set_option maxHeartbeats 4000000 in
theorem take_end11 (W : World) (base pb k : Nat) (v : Value) (bs : List (Nat × Nat × Nat)) (all : List Life) (hp : W.heap[pb]? = some (.cells #[v] 69 (0, 0))) (hb : base ≤ pb) (hL : LivesV base W k v bs all) (hl : all.length ≤ 1000) (n e0 e3 e4 : Int) (k0 : (e0 == 0) = false) (k3 : (e0 == 3) = false) (k4 : (e0 == 4) = true) (k1 : (e0 == 1) = false) (k2 : (e0 == 2) = false) (i : Nat) (hi : i < all.length) (hf : ∀ l, all[i]? = some l → l.fin < 0) :
    Calls Try.prog 48 #[ptr pb, .int .i64 n, .agg #[.int .i64 e0, .int .i64 ((i : Int) + 1), .int .i64 0, .int .i64 e3, .int .i64 e4]] W (Taken base W pb (k + 1) (takeL all n ⟨e0, ((i : Int) + 1), 0, ⟨e3, e4⟩⟩)) := by
  obtain ⟨r, hr⟩ : ∃ r, takeL all n ⟨e0, ((i : Int) + 1), 0, ⟨e3, e4⟩⟩ = r := ⟨_, rfl⟩
  rw [hr]
  have h0' : ¬ e0 = 0 := by simpa using k0
  have hu44 := Try.underlying44
  have hu42 := Try.underlying42
  have hu86 := Try.underlying86
  have hu83 := Try.underlying83
  have hu69 := Try.underlying69
  obtain ⟨W1, hW1, K1, hB1⟩ : ∃ W1, W.alloc (.cells #[.int .i64 e0, .int .i64 ((i : Int) + 1), .int .i64 0, .int .i64 e3, .int .i64 e4] 44) = W1 ∧ W1.heap[W.heap.size]? = some (.cells #[.int .i64 e0, .int .i64 ((i : Int) + 1), .int .i64 0, .int .i64 e3, .int .i64 e4] 44 (0, 0)) ∧ Below W.heap.size W W1 := ⟨_, rfl, heap_alloc_new _ _, bOne _⟩
  have q0 : W1.cell? ⟨W.heap.size, 0, none⟩ = some (.int .i64 e0) := blk_cell K1 0
  have q1 : W1.cell? ⟨W.heap.size, 1, none⟩ = some (.int .i64 (((i : Int) + 1))) := blk_cell K1 1
  have q2 : W1.cell? ⟨W.heap.size, 2, none⟩ = some (.int .i64 0) := blk_cell K1 2
  have q3 : W1.cell? ⟨W.heap.size, 3, none⟩ = some (.int .i64 e3) := blk_cell K1 3
  have q4 : W1.cell? ⟨W.heap.size, 4, none⟩ = some (.int .i64 e4) := blk_cell K1 4
  have hbW : base ≤ W.heap.size := Nat.le_trans hb (Nat.le_of_lt (blk_lt hp))
  obtain ⟨⟨b, rb, wb⟩, hbi⟩ : ∃ q, bs[i]? = some q := ⟨_, List.getElem?_eq_getElem (by rw [hL.at_.len]; exact hi)⟩
  obtain ⟨l, hli⟩ : ∃ l, all[i]? = some l := ⟨_, List.getElem?_eq_getElem hi⟩
  have hA := hL.at_.at_ i b rb wb l hbi hli
  rcases own_at_ hL.row with ⟨rfl, hz⟩ | ⟨g, c, rfl, -, -, -, hc⟩
  · omega
  have a0 : W1.cell? ⟨g, i, none⟩ = some (ptr b) := (bcell hB1).1 g i (World.block_lt_of_cell? _ _ (hc i (ptr b) (by rw [List.getElem?_map, hbi]; rfl)).1) |>.trans (hc i (ptr b) (by rw [List.getElem?_map, hbi]; rfl)).1
  have a1 : W1.cell? ⟨b, 1, none⟩ = some (.int .i64 l.fin) := blk_cell (blk_below hA.hb hB1) 1
  have p0 : W1.cell? ⟨pb, 0, none⟩ = some (.slice (some ⟨g, 0, none⟩) all.length c) := blk_cell (blk_below hp hB1) 0
  have d1 : decide ((i : Int) + 1 < 1) = false := by simp; omega
  have d2 : decide ((i : Int) + 1 > (all.length : Int)) = false := by simp; omega
  have hw : wrap64 ((i : Int) + 1 - 1) = i := by unfold wrap64; omega
  have hw' : wrap64 ((i : Int) + 1 + -1) = i := by unfold wrap64; omega
  have hi0 : (0 : Int) ≤ i := by omega
  have hi1 : (i : Int) < all.length := by omega
  have hit : ((i : Int) + 1 - 1).toNat = i := by omega
  have hff := hf l hli
  have d3 : decide (l.fin ≥ 0) = false := by simp; omega
  have HE := Lib.hid (show r = (all.set i ⟨l.beg, n, false, l.reads, l.writes⟩, plainE ⟨e0, (i : Int) + 1, 0, ⟨e3, e4⟩⟩) by
    rw [← hr]
    unfold takeL
    rw [if_neg h0', if_neg (by dsimp only; omega)]
    simp only [hit, hli]
    rw [if_neg (by omega), if_neg (by simpa using And.intro k1 k2), if_pos (by simp at k3; first | exact .inl k3 | (simp at k4; exact .inr k4))]
    have : decide (e0 = 3) = false := k3
    rw [this])
  have b1 : W1.frozen? ⟨b, 1, none⟩ = false := blk_frozen (blk_below hA.hb hB1) 1
  have b2 : W1.frozen? ⟨b, 2, none⟩ = false := blk_frozen (blk_below hA.hb hB1) 2
  have b2 : W1.cell? ⟨b, 2, none⟩ = some (.bool l.com) := blk_cell (blk_below hA.hb hB1) 2
  have HF := Lib.hid (end_fin W W1 base pb k (.slice (some ⟨g, 0, none⟩) all.length c) bs all i b rb wb l n false hp hb hL hbi hli hi hB1 hbW)
  clear hr hp hL hB1 K1 h0' hbW hc hf hA hli hbi hi hit hff
  go_enter Try.func48, Try.ntmps48
  go_wp2_with fail
  all_goals
    go_quiet (fail)
    go_wp2_with fail
    go_quiet (fail)
    go_wp2_with fail
    go_region
    go_wp2_with fail
    go_ret
    exact ⟨by rw [HE.out]; first | rfl | (simp [plainE]; done) | (simp [plainE]; rfl), _, _, by rw [HE.out]; exact HF.out _⟩
/-- An event is taken. -/
theorem take_calls (W : World) (base pb k : Nat) (v : Value) (bs : List (Nat × Nat × Nat)) (all : List Life) (hp : W.heap[pb]? = some (.cells #[v] 69 (0, 0))) (hb : base ≤ pb) (hL : LivesV base W k v bs all) (hl : all.length ≤ 1000) (hk : k < 1000000) (n e0 e1 e2 e3 e4 : Int) :
    Calls Try.prog 48 #[ptr pb, .int .i64 n, .agg #[.int .i64 e0, .int .i64 e1, .int .i64 e2, .int .i64 e3, .int .i64 e4]] W (Taken base W pb (k + 1) (takeL all n ⟨e0, e1, e2, ⟨e3, e4⟩⟩)) := by
  by_cases h0 : e0 = 0
  · subst h0
    have hL' := hL.more (Nat.le_succ k)
    cases c2 : (e2 == 0) with
    | false => exact take_begin0 W base pb (k + 1) v bs all hp hb hL' hl n e1 e2 e3 e4 c2
    | true =>
      obtain rfl : e2 = 0 := by simpa using c2
      cases c3 : (e3 == 0 && (e4 == 0)) with
      | false => exact take_begin1 W base pb (k + 1) v bs all hp hb hL' hl n e1 0 e3 e4 c3
      | true =>
        obtain ⟨rfl, rfl⟩ : e3 = 0 ∧ e4 = 0 := by simpa using c3
        cases ce : (e1 == (all.length : Int) + 1) with
        | false => exact take_begin2 W base pb (k + 1) v bs all hp hb hL' hl n e1 0 0 0 ce
        | true => exact take_begin3 W base pb (k + 1) v bs all hp hb hL' hl n e1 0 0 0 ce
  · have k0 : (e0 == 0) = false := by simpa using h0
    by_cases h1 : e1 < 1
    · exact take_low W base pb k v bs all hp hb hL hl n e0 e1 e2 e3 e4 k0 h1
    by_cases h2 : (all.length : Int) < e1
    · exact take_high W base pb k v bs all hp hb hL hl n e0 e1 e2 e3 e4 k0 (by omega) h2
    obtain ⟨i, rfl⟩ : ∃ i : Nat, e1 = (i : Int) + 1 := ⟨(e1 - 1).toNat, by omega⟩
    have hi : i < all.length := by omega
    have hli : all[i]? = some all[i] := List.getElem?_eq_getElem hi
    by_cases hf : 0 ≤ (all[i]).fin
    · exact take_over W base pb k v bs all hp hb hL hl n e0 e2 e3 e4 k0 i hi (fun l h => by rw [hli] at h; injection h with h; subst h; exact hf)
    have hf' : ∀ l, all[i]? = some l → l.fin < 0 := fun l h => by rw [hli] at h; injection h with h; subst h; omega
    cases k1 : (e0 == 1 || e0 == 2) with
    | true =>
      cases c2 : (e2 == 0) with
      | false => exact take_step0 W base pb k v bs all hp hb hL hl n e0 e2 e3 e4 k0 c2 k1 hk i hi hf'
      | true =>
        obtain rfl : e2 = 0 := by simpa using c2
        exact take_step1 W base pb k v bs all hp hb hL hl n e0 e3 e4 k0 k1 hk i hi hf'
    | false =>
      obtain ⟨k1, k2⟩ : (e0 == 1) = false ∧ (e0 == 2) = false := by simpa using k1
      cases k3 : (e0 == 3) with
      | true =>
        cases c2 : (e2 == 0) with
        | false => exact take_end00 W base pb k v bs all hp hb hL hl n e0 e2 e3 e4 k0 c2 k3 k1 k2 i hi hf'
        | true =>
          obtain rfl : e2 = 0 := by simpa using c2
          exact take_end10 W base pb k v bs all hp hb hL hl n e0 e3 e4 k0 k3 k1 k2 i hi hf'
      | false =>
        cases k4 : (e0 == 4) with
        | true =>
          cases c2 : (e2 == 0) with
          | false => exact take_end01 W base pb k v bs all hp hb hL hl n e0 e2 e3 e4 k0 c2 k3 k4 k1 k2 i hi hf'
          | true =>
            obtain rfl : e2 = 0 := by simpa using c2
            exact take_end11 W base pb k v bs all hp hb hL hl n e0 e3 e4 k0 k3 k4 k1 k2 i hi hf'
        | false =>
          cases c2 : (e2 == 0) with
          | false => exact take_none0 W base pb k v bs all hp hb hL hl n e0 e2 e3 e4 k0 c2 k1 k2 k3 k4 i hi hf'
          | true =>
            obtain rfl : e2 = 0 := by simpa using c2
            exact take_none1 W base pb k v bs all hp hb hL hl n e0 e3 e4 k0 k1 k2 k3 k4 i hi hf'
end Go.Proofs.Ytkijjgdcbgmglaa.Q
