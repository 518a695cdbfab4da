/- An event is taken, by hand (steps, ends). -/
import Derived.Test.YtkijjgdcbgmglaaHTake
import Derived.RegionTactic
import Derived.BigRegion
namespace Go.Proofs.Ytkijjgdcbgmglaa.Q
open Go.RowKit Go.Lib Go.Maps Go.Proofs.Ytkijjgdcbgmglaa Go.Proofs.YtkijjgdcbgmglaaW.PrintWords Go.Proofs.YtkijjgdcbgmglaaW.PrintLast Go.Proofs.YtkijjgdcbgmglaaW.PrintMore
set_option linter.unusedVariables false
set_option linter.unusedSimpArgs false
attribute [local go_sem high] eqA42
set_option maxRecDepth 100000 in
set_option maxHeartbeats 4000000 in
theorem take_step0 (W : World) (base pb k : Nat) (v : Value) (bs : List (Nat × Nat × Nat)) (all : List Life) (hp : W.heap[pb]? = some (.cells #[v] 69 (0, 0))) (hb : base ≤ pb) (hL : LivesV base W k v bs all) (hl : all.length ≤ 1000) (n e0 e2 e3 e4 : Int) (k0 : (e0 == 0) = false) (c2 : (e2 == 0) = false) (k1 : (e0 == 1 || e0 == 2) = true) (hk : k < 1000000) (i : Nat) (hi : i < all.length) (hf : ∀ l, all[i]? = some l → l.fin < 0) :
    Calls Try.prog 48 #[ptr pb, .int .i64 n, .agg #[.int .i64 e0, .int .i64 ((i : Int) + 1), .int .i64 e2, .int .i64 e3, .int .i64 e4]] W (Taken base W pb (k + 1) (takeL all n ⟨e0, ((i : Int) + 1), e2, ⟨e3, e4⟩⟩)) := by
  obtain ⟨r, hr⟩ : ∃ r, takeL all n ⟨e0, ((i : Int) + 1), e2, ⟨e3, e4⟩⟩ = r := ⟨_, rfl⟩
  rw [hr]
  have h0' : ¬ e0 = 0 := by simpa using k0
  have hu44 := Try.underlying44
  have hu42 := Try.underlying42
  have hu86 := Try.underlying86
  have hu83 := Try.underlying83
  have hu69 := Try.underlying69
  obtain ⟨W1, hW1, K1, hB1⟩ : ∃ W1, W.alloc (.cells #[.int .i64 e0, .int .i64 ((i : Int) + 1), .int .i64 e2, .int .i64 e3, .int .i64 e4] 44) = W1 ∧ W1.heap[W.heap.size]? = some (.cells #[.int .i64 e0, .int .i64 ((i : Int) + 1), .int .i64 e2, .int .i64 e3, .int .i64 e4] 44 (0, 0)) ∧ Below W.heap.size W W1 := ⟨_, rfl, heap_alloc_new _ _, bOne _⟩
  have q0 : W1.cell? ⟨W.heap.size, 0, none⟩ = some (.int .i64 e0) := blk_cell K1 0
  have q1 : W1.cell? ⟨W.heap.size, 1, none⟩ = some (.int .i64 (((i : Int) + 1))) := blk_cell K1 1
  have q2 : W1.cell? ⟨W.heap.size, 2, none⟩ = some (.int .i64 e2) := blk_cell K1 2
  have q3 : W1.cell? ⟨W.heap.size, 3, none⟩ = some (.int .i64 e3) := blk_cell K1 3
  have q4 : W1.cell? ⟨W.heap.size, 4, none⟩ = some (.int .i64 e4) := blk_cell K1 4
  have hbW : base ≤ W.heap.size := Nat.le_trans hb (Nat.le_of_lt (blk_lt hp))
  obtain ⟨⟨b, rb, wb⟩, hbi⟩ : ∃ q, bs[i]? = some q := ⟨_, List.getElem?_eq_getElem (by rw [hL.at_.len]; exact hi)⟩
  obtain ⟨l, hli⟩ : ∃ l, all[i]? = some l := ⟨_, List.getElem?_eq_getElem hi⟩
  have hA := hL.at_.at_ i b rb wb l hbi hli
  rcases own_at_ hL.row with ⟨rfl, hz⟩ | ⟨g, c, rfl, -, -, -, hc⟩
  · omega
  have a0 : W1.cell? ⟨g, i, none⟩ = some (ptr b) := (bcell hB1).1 g i (World.block_lt_of_cell? _ _ (hc i (ptr b) (by rw [List.getElem?_map, hbi]; rfl)).1) |>.trans (hc i (ptr b) (by rw [List.getElem?_map, hbi]; rfl)).1
  have a1 : W1.cell? ⟨b, 1, none⟩ = some (.int .i64 l.fin) := blk_cell (blk_below hA.hb hB1) 1
  have p0 : W1.cell? ⟨pb, 0, none⟩ = some (.slice (some ⟨g, 0, none⟩) all.length c) := blk_cell (blk_below hp hB1) 0
  have d1 : decide ((i : Int) + 1 < 1) = false := by simp; omega
  have d2 : decide ((i : Int) + 1 > (all.length : Int)) = false := by simp; omega
  have hw : wrap64 ((i : Int) + 1 - 1) = i := by unfold wrap64; omega
  have hw' : wrap64 ((i : Int) + 1 + -1) = i := by unfold wrap64; omega
  have hi0 : (0 : Int) ≤ i := by omega
  have hi1 : (i : Int) < all.length := by omega
  have hit : ((i : Int) + 1 - 1).toNat = i := by omega
  have hff := hf l hli
  have d3 : decide (l.fin ≥ 0) = false := by simp; omega
  have HE := Lib.hid (show r = (all.set i (stepL l n ⟨e0, (i : Int) + 1, e2, ⟨e3, e4⟩⟩).1, (stepL l n ⟨e0, (i : Int) + 1, e2, ⟨e3, e4⟩⟩).2) by
    rw [← hr]
    unfold takeL
    rw [if_neg h0', if_neg (by dsimp only; omega)]
    simp only [hit, hli]
    rw [if_neg (by omega), if_pos (by simpa using k1)])
  have hne : rb ≠ wb := by
    have := hL.at_.nd
    unfold blocksOf at this
    have h2 := List.mem_of_getElem? hbi
    have h3 := (List.pairwise_flatMap.1 this).1 _ h2
    simp at h3
    exact h3.2
  have hS : ∀ V, Below W1.heap.size W1 V → Calls Try.prog 64 #[ptr b, .int .i64 n, .agg #[.int .i64 e0, .int .i64 ((i : Int) + 1), .int .i64 e2, .int .i64 e3, .int .i64 e4]] V (Stepped V b rb wb (k + 1) (stepL l n ⟨e0, (i : Int) + 1, e2, ⟨e3, e4⟩⟩)) := fun V hV => life_step V b rb wb k l ((hA.below hB1).below hV) hne hk n e0 _ e2 e3 e4
  have HS := Lib.hid hS
  have hF : ∀ V V', Below W1.heap.size W1 V → LifeAt V' b rb wb (k + 1) (stepL l n ⟨e0, (i : Int) + 1, e2, ⟨e3, e4⟩⟩).1 → Turned (fun q => q = rb ∨ q = wb) V V' → V'.heap[pb]? = some (.cells #[.slice (some ⟨g, 0, none⟩) all.length c] 69 (0, 0)) ∧ LivesV base V' (k + 1) (.slice (some ⟨g, 0, none⟩) all.length c) bs (all.set i (stepL l n ⟨e0, (i : Int) + 1, e2, ⟨e3, e4⟩⟩).1) ∧ Below base W V' := by
    intro V V' hV hl' hT
    have hBV := bAfter hB1 hV
    have hLV := hL.below hBV
    have hpV := blk_below hp hBV
    obtain ⟨m1, m2, m3⟩ := mem_blocks hbi
    have nm : ∀ q cs t, V.heap[q]? = some (.cells cs t (0, 0)) → ¬ (q = rb ∨ q = wb) := fun q cs t hq hor => by
      rcases hor with rfl | rfl
      · exact ((hA.below hBV).hr).not_cells hq
      · exact ((hA.below hBV).hw).not_cells hq
    have hg9 : V.grownBy V' none ∨ True := .inr trivial
    refine ⟨(hT.block _ (blk_lt hpV) (nm _ _ _ hpV)).trans hpV, ⟨?_, ?_⟩, ?_⟩
    · rw [List.length_set]
      obtain ⟨h0, h2⟩ := hLV.row
      refine ⟨h0, ?_⟩
      rcases h2 with ⟨e, h3⟩ | ⟨g', cap, cur, e, h3, h4, h5⟩
      · exact .inl ⟨e, h3⟩
      · exact .inr ⟨g', cap, cur, e, h3, (hT.block _ (blk_lt h4) (nm _ _ _ h4)).trans h4, h5⟩
    · refine ((hLV.at_.more (Nat.le_succ k)).turn (W' := V') hbi hi (fun q hq _ h2 h3 => hT.block q (hLV.at_.lt q hq) (by rintro (h | h); exact h2 h; exact h3 h)) hl')
    · have b2 := hL.at_.lo rb m2
      have b3 := hL.at_.lo wb m3
      exact (below_le hBV hbW).trans ⟨hT.os, hT.tape, hT.output, hT.size, fun q hq => hT.block q (by have := hBV.size; omega) (by rintro (h | h) <;> omega)⟩
  have HF := Lib.hid hF
  have q5 := ld_whole (P := Try.prog) (ty := 44) K1 hu44 rfl (by kernel_rfl)
  clear hr hp hL hB1 K1 h0' hbW hc hf hA hli hbi hi hit hF hS hff hne
  go_enter Try.func48, Try.ntmps48
  go_wp2_with fail
  all_goals
    go_quiet (fail)
    go_wp2_with fail
    go_quiet (fail)
    cases k11 : (e0 == 1) with
    | true =>
      go_wp2_with fail
      refine Calls.mono (HS.out _ ?hb) ?_
      case hb => exact pw_below_drewN (Below.refl _ _) _
      rintro e w2 ⟨rfl, h2, h3⟩
      have HN := Lib.hid (HF.out _ _ (pw_below_drewN (Below.refl _ _) _) h2 h3)
      clear h2 h3
      go_wp2_with fail
      go_ret
      exact ⟨by rw [HE.out]; first | rfl | simp, _, _, by rw [HE.out]; exact HN.out⟩
    | false =>
      have k2 : (e0 == 2) = true := by rw [k11] at k1; simpa using k1
      go_wp2_with fail
      refine Calls.mono (HS.out _ ?hb) ?_
      case hb => exact pw_below_drewN (Below.refl _ _) _
      rintro e w2 ⟨rfl, h2, h3⟩
      have HN := Lib.hid (HF.out _ _ (pw_below_drewN (Below.refl _ _) _) h2 h3)
      clear h2 h3
      go_wp2_with fail
      go_ret
      exact ⟨by rw [HE.out]; first | rfl | simp, _, _, by rw [HE.out]; exact HN.out⟩
set_option maxRecDepth 100000 in
set_option maxHeartbeats 4000000 in
theorem take_step1 (W : World) (base pb k : Nat) (v : Value) (bs : List (Nat × Nat × Nat)) (all : List Life) (hp : W.heap[pb]? = some (.cells #[v] 69 (0, 0))) (hb : base ≤ pb) (hL : LivesV base W k v bs all) (hl : all.length ≤ 1000) (n e0 e3 e4 : Int) (k0 : (e0 == 0) = false) (k1 : (e0 == 1 || e0 == 2) = true) (hk : k < 1000000) (i : Nat) (hi : i < all.length) (hf : ∀ l, all[i]? = some l → l.fin < 0) :
    Calls Try.prog 48 #[ptr pb, .int .i64 n, .agg #[.int .i64 e0, .int .i64 ((i : Int) + 1), .int .i64 0, .int .i64 e3, .int .i64 e4]] W (Taken base W pb (k + 1) (takeL all n ⟨e0, ((i : Int) + 1), 0, ⟨e3, e4⟩⟩)) := by
  obtain ⟨r, hr⟩ : ∃ r, takeL all n ⟨e0, ((i : Int) + 1), 0, ⟨e3, e4⟩⟩ = r := ⟨_, rfl⟩
  rw [hr]
  have h0' : ¬ e0 = 0 := by simpa using k0
  have hu44 := Try.underlying44
  have hu42 := Try.underlying42
  have hu86 := Try.underlying86
  have hu83 := Try.underlying83
  have hu69 := Try.underlying69
  obtain ⟨W1, hW1, K1, hB1⟩ : ∃ W1, W.alloc (.cells #[.int .i64 e0, .int .i64 ((i : Int) + 1), .int .i64 0, .int .i64 e3, .int .i64 e4] 44) = W1 ∧ W1.heap[W.heap.size]? = some (.cells #[.int .i64 e0, .int .i64 ((i : Int) + 1), .int .i64 0, .int .i64 e3, .int .i64 e4] 44 (0, 0)) ∧ Below W.heap.size W W1 := ⟨_, rfl, heap_alloc_new _ _, bOne _⟩
  have q0 : W1.cell? ⟨W.heap.size, 0, none⟩ = some (.int .i64 e0) := blk_cell K1 0
  have q1 : W1.cell? ⟨W.heap.size, 1, none⟩ = some (.int .i64 (((i : Int) + 1))) := blk_cell K1 1
  have q2 : W1.cell? ⟨W.heap.size, 2, none⟩ = some (.int .i64 0) := blk_cell K1 2
  have q3 : W1.cell? ⟨W.heap.size, 3, none⟩ = some (.int .i64 e3) := blk_cell K1 3
  have q4 : W1.cell? ⟨W.heap.size, 4, none⟩ = some (.int .i64 e4) := blk_cell K1 4
  have hbW : base ≤ W.heap.size := Nat.le_trans hb (Nat.le_of_lt (blk_lt hp))
  obtain ⟨⟨b, rb, wb⟩, hbi⟩ : ∃ q, bs[i]? = some q := ⟨_, List.getElem?_eq_getElem (by rw [hL.at_.len]; exact hi)⟩
  obtain ⟨l, hli⟩ : ∃ l, all[i]? = some l := ⟨_, List.getElem?_eq_getElem hi⟩
  have hA := hL.at_.at_ i b rb wb l hbi hli
  rcases own_at_ hL.row with ⟨rfl, hz⟩ | ⟨g, c, rfl, -, -, -, hc⟩
  · omega
  have a0 : W1.cell? ⟨g, i, none⟩ = some (ptr b) := (bcell hB1).1 g i (World.block_lt_of_cell? _ _ (hc i (ptr b) (by rw [List.getElem?_map, hbi]; rfl)).1) |>.trans (hc i (ptr b) (by rw [List.getElem?_map, hbi]; rfl)).1
  have a1 : W1.cell? ⟨b, 1, none⟩ = some (.int .i64 l.fin) := blk_cell (blk_below hA.hb hB1) 1
  have p0 : W1.cell? ⟨pb, 0, none⟩ = some (.slice (some ⟨g, 0, none⟩) all.length c) := blk_cell (blk_below hp hB1) 0
  have d1 : decide ((i : Int) + 1 < 1) = false := by simp; omega
  have d2 : decide ((i : Int) + 1 > (all.length : Int)) = false := by simp; omega
  have hw : wrap64 ((i : Int) + 1 - 1) = i := by unfold wrap64; omega
  have hw' : wrap64 ((i : Int) + 1 + -1) = i := by unfold wrap64; omega
  have hi0 : (0 : Int) ≤ i := by omega
  have hi1 : (i : Int) < all.length := by omega
  have hit : ((i : Int) + 1 - 1).toNat = i := by omega
  have hff := hf l hli
  have d3 : decide (l.fin ≥ 0) = false := by simp; omega
  have HE := Lib.hid (show r = (all.set i (stepL l n ⟨e0, (i : Int) + 1, 0, ⟨e3, e4⟩⟩).1, (stepL l n ⟨e0, (i : Int) + 1, 0, ⟨e3, e4⟩⟩).2) by
    rw [← hr]
    unfold takeL
    rw [if_neg h0', if_neg (by dsimp only; omega)]
    simp only [hit, hli]
    rw [if_neg (by omega), if_pos (by simpa using k1)])
  have hne : rb ≠ wb := by
    have := hL.at_.nd
    unfold blocksOf at this
    have h2 := List.mem_of_getElem? hbi
    have h3 := (List.pairwise_flatMap.1 this).1 _ h2
    simp at h3
    exact h3.2
  have hS : ∀ V, Below W1.heap.size W1 V → Calls Try.prog 64 #[ptr b, .int .i64 n, .agg #[.int .i64 e0, .int .i64 ((i : Int) + 1), .int .i64 0, .int .i64 e3, .int .i64 e4]] V (Stepped V b rb wb (k + 1) (stepL l n ⟨e0, (i : Int) + 1, 0, ⟨e3, e4⟩⟩)) := fun V hV => life_step V b rb wb k l ((hA.below hB1).below hV) hne hk n e0 _ 0 e3 e4
  have HS := Lib.hid hS
  have hF : ∀ V V', Below W1.heap.size W1 V → LifeAt V' b rb wb (k + 1) (stepL l n ⟨e0, (i : Int) + 1, 0, ⟨e3, e4⟩⟩).1 → Turned (fun q => q = rb ∨ q = wb) V V' → V'.heap[pb]? = some (.cells #[.slice (some ⟨g, 0, none⟩) all.length c] 69 (0, 0)) ∧ LivesV base V' (k + 1) (.slice (some ⟨g, 0, none⟩) all.length c) bs (all.set i (stepL l n ⟨e0, (i : Int) + 1, 0, ⟨e3, e4⟩⟩).1) ∧ Below base W V' := by
    intro V V' hV hl' hT
    have hBV := bAfter hB1 hV
    have hLV := hL.below hBV
    have hpV := blk_below hp hBV
    obtain ⟨m1, m2, m3⟩ := mem_blocks hbi
    have nm : ∀ q cs t, V.heap[q]? = some (.cells cs t (0, 0)) → ¬ (q = rb ∨ q = wb) := fun q cs t hq hor => by
      rcases hor with rfl | rfl
      · exact ((hA.below hBV).hr).not_cells hq
      · exact ((hA.below hBV).hw).not_cells hq
    have hg9 : V.grownBy V' none ∨ True := .inr trivial
    refine ⟨(hT.block _ (blk_lt hpV) (nm _ _ _ hpV)).trans hpV, ⟨?_, ?_⟩, ?_⟩
    · rw [List.length_set]
      obtain ⟨h0, h2⟩ := hLV.row
      refine ⟨h0, ?_⟩
      rcases h2 with ⟨e, h3⟩ | ⟨g', cap, cur, e, h3, h4, h5⟩
      · exact .inl ⟨e, h3⟩
      · exact .inr ⟨g', cap, cur, e, h3, (hT.block _ (blk_lt h4) (nm _ _ _ h4)).trans h4, h5⟩
    · refine ((hLV.at_.more (Nat.le_succ k)).turn (W' := V') hbi hi (fun q hq _ h2 h3 => hT.block q (hLV.at_.lt q hq) (by rintro (h | h); exact h2 h; exact h3 h)) hl')
    · have b2 := hL.at_.lo rb m2
      have b3 := hL.at_.lo wb m3
      exact (below_le hBV hbW).trans ⟨hT.os, hT.tape, hT.output, hT.size, fun q hq => hT.block q (by have := hBV.size; omega) (by rintro (h | h) <;> omega)⟩
  have HF := Lib.hid hF
  have q5 := ld_whole (P := Try.prog) (ty := 44) K1 hu44 rfl (by kernel_rfl)
  clear hr hp hL hB1 K1 h0' hbW hc hf hA hli hbi hi hit hF hS hff hne
  go_enter Try.func48, Try.ntmps48
  go_wp2_with fail
  all_goals
    go_quiet (fail)
    go_wp2_with fail
    go_quiet (fail)
    cases k11 : (e0 == 1) with
    | true =>
      go_wp2_with fail
      refine Calls.mono (HS.out _ ?hb) ?_
      case hb => exact pw_below_drewN (Below.refl _ _) _
      rintro e w2 ⟨rfl, h2, h3⟩
      have HN := Lib.hid (HF.out _ _ (pw_below_drewN (Below.refl _ _) _) h2 h3)
      clear h2 h3
      go_wp2_with fail
      go_ret
      exact ⟨by rw [HE.out]; first | rfl | simp, _, _, by rw [HE.out]; exact HN.out⟩
    | false =>
      have k2 : (e0 == 2) = true := by rw [k11] at k1; simpa using k1
      go_wp2_with fail
      refine Calls.mono (HS.out _ ?hb) ?_
      case hb => exact pw_below_drewN (Below.refl _ _) _
      rintro e w2 ⟨rfl, h2, h3⟩
      have HN := Lib.hid (HF.out _ _ (pw_below_drewN (Below.refl _ _) _) h2 h3)
      clear h2 h3
      go_wp2_with fail
      go_ret
      exact ⟨by rw [HE.out]; first | rfl | simp, _, _, by rw [HE.out]; exact HN.out⟩
end Go.Proofs.Ytkijjgdcbgmglaa.Q
