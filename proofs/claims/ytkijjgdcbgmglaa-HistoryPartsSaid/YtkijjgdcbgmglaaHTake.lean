/- An event is taken, by hand. -/
import Derived.Test.YtkijjgdcbgmglaaHLife
import Derived.BigQuiet
import Derived.Deep.QuietTactic
import Derived.Maps.AppendAt
import Derived.RegionTactic
import Derived.BigRegion
/-! An event is taken, by hand. -/
namespace Go.Proofs.Ytkijjgdcbgmglaa.Q
open Go.RowKit Go.Lib Go.Maps Go.Proofs.Ytkijjgdcbgmglaa Go.Proofs.YtkijjgdcbgmglaaW.PrintWords Go.Proofs.YtkijjgdcbgmglaaW.PrintLast Go.Proofs.YtkijjgdcbgmglaaW.PrintMore
set_option linter.unusedVariables false
set_option linter.unusedSimpArgs false
theorem eqA42 (d : Nat) (w : World) (x0 y0 : Int) (x1 y1 : Int) :
    (Op.equalIn (d + 2) 42 (.agg #[.int .i64 x0, .int .i64 x1]) (.agg #[.int .i64 y0, .int .i64 y1])).run Try.prog w = .ok (x0 == y0 && (x1 == y1)) w := by
  refine eqA_of Try.underlying42 (by kernel_rfl) ?_
  refine eqf_cons (by rfl) (by go_simp; rfl) (by go_simp; rfl) (by go_simp) ?_
  exact eqf_last (by rfl) (by go_simp; rfl) (by go_simp; rfl) (by go_simp)
attribute [local go_sem high] eqA42
/-- All lives, as a row of pointers. -/
structure LivesV (base : Nat) (W : World) (k : Nat) (v : Value) (bs : List (Nat × Nat × Nat)) (all : List Life) : Prop where
  row : W.ownsRow base 83 1 v all.length (bs.map fun b => ptr b.1)
  at_ : LivesAt base W k bs all
theorem LivesV.below {base : Nat} {W W' : World} {k : Nat} {v : Value} {bs : List (Nat × Nat × Nat)} {all : List Life} (h : LivesV base W k v bs all) (hB : Below W.heap.size W W') : LivesV base W' k v bs all := ⟨pw_own_below h.row hB, h.at_.below hB⟩
theorem LivesV.more {base : Nat} {W : World} {k k' : Nat} {v : Value} {bs : List (Nat × Nat × Nat)} {all : List Life} (h : LivesV base W k v bs all) (hk : k ≤ k') : LivesV base W k' v bs all := ⟨h.row, h.at_.more hk⟩
/-- What kind of blocks they are. -/
theorem LivesAt.kind {base : Nat} {W : World} {k : Nat} {bs : List (Nat × Nat × Nat)} {all : List Life} (h : LivesAt base W k bs all) : ∀ q ∈ blocksOf bs, ∀ cs t, W.heap[q]? = some (.cells cs t (0, 0)) → t = 86 := by
  intro q hq cs t hc
  obtain ⟨⟨b, rb, wb⟩, hm, hq⟩ := List.mem_flatMap.1 hq
  obtain ⟨i, hi⟩ := List.mem_iff_getElem?.1 hm
  have hlt : i < all.length := by have := (List.getElem?_eq_some_iff.1 hi).1; rw [← h.len]; exact this
  have hA := h.at_ i b rb wb _ hi (List.getElem?_eq_getElem hlt)
  simp only [List.mem_cons, List.not_mem_nil, or_false] at hq
  rcases hq with rfl | rfl | rfl
  · have := hA.hb
    rw [hc] at this
    injection this with this
    injection this
  · exact absurd hc hA.hr.not_cells
  · exact absurd hc hA.hw.not_cells
theorem LivesAt.apart {base : Nat} {W : World} {k : Nat} {bs : List (Nat × Nat × Nat)} {all : List Life} (h : LivesAt base W k bs all) {g t : Nat} {cs : Array Value} (hg : W.heap[g]? = some (.cells cs t (0, 0))) (ht : t ≠ 86) : ∀ q ∈ blocksOf bs, q ≠ g := fun q hq e => ht (h.kind q hq cs t (e ▸ hg))
theorem LivesAt.grown {base : Nat} {W W' : World} {k : Nat} {bs : List (Nat × Nat × Nat)} {all : List Life} (h : LivesAt base W k bs all) {row : Option Nat} (hg : W.grownBy W' row) (hr : ∀ g, row = some g → ∃ cs t, W.heap[g]? = some (.cells cs t (0, 0)) ∧ t ≠ 86) : LivesAt base W' k bs all :=
  h.same fun q hq => hg.block q (h.lt q hq) (fun e => by obtain ⟨cs, t, h1, h2⟩ := hr q e.symm; exact h.apart h1 h2 q hq rfl)
/-- One more begins. -/
theorem LivesAt.snoc {base : Nat} {W : World} {k : Nat} {bs : List (Nat × Nat × Nat)} {all : List Life} (h : LivesAt base W k bs all) {b rb wb : Nat} {l : Life} (hl : LifeAt W b rb wb k l) (h1 : ∀ q ∈ blocksOf bs, q ≠ b ∧ q ≠ rb ∧ q ≠ wb) (h2 : b ≠ rb ∧ b ≠ wb ∧ rb ≠ wb) (h3 : base ≤ b ∧ base ≤ rb ∧ base ≤ wb) :
    LivesAt base W k (bs ++ [(b, rb, wb)]) (all ++ [l]) := by
  have hbl : blocksOf (bs ++ [(b, rb, wb)]) = blocksOf bs ++ [b, rb, wb] := by simp [blocksOf]
  refine ⟨by simp [h.len], ?_, ?_, ?_⟩
  · rw [hbl]
    refine List.nodup_append.2 ⟨h.nd, by simp [h2.1, h2.2.1, h2.2.2], fun q hq p hp => ?_⟩
    obtain ⟨a1, a2, a3⟩ := h1 q hq
    simp only [List.mem_cons, List.not_mem_nil, or_false] at hp
    rcases hp with rfl | rfl | rfl <;> assumption
  · intro q hq
    rw [hbl] at hq
    rcases List.mem_append.1 hq with hq | hq
    · exact h.lo q hq
    · simp only [List.mem_cons, List.not_mem_nil, or_false] at hq
      rcases hq with rfl | rfl | rfl
      · exact h3.1
      · exact h3.2.1
      · exact h3.2.2
  · intro i b' rb' wb' l' hb hl'
    rcases Nat.lt_trichotomy i bs.length with hi | hi | hi
    · rw [List.getElem?_append_left hi] at hb
      rw [List.getElem?_append_left (by rw [← h.len]; exact hi)] at hl'
      exact h.at_ i b' rb' wb' l' hb hl'
    · subst hi
      rw [List.getElem?_append_right (Nat.le_refl _)] at hb
      rw [List.getElem?_append_right (by rw [h.len]; exact Nat.le_refl _)] at hl'
      simp only [Nat.sub_self, h.len] at hb hl'
      simp at hb hl'
      obtain ⟨rfl, rfl, rfl⟩ := hb
      subst hl'
      exact hl
    · rw [List.getElem?_eq_none (by simp; omega)] at hb
      cases hb
theorem newLife_at {base k : Nat} {W1 : World} (n : Int) {bs : List (Nat × Nat × Nat)} {all : List Life} (h : LivesAt base W1 k bs all) (hb : base ≤ W1.heap.size) {W2 W3 W4 : World} (e2 : W1.alloc (.map #[] 0) = W2) (e3 : W2.alloc (.map #[] 0) = W3)
    (hB4 : Below W3.heap.size W3 W4) (K4 : W4.heap[W3.heap.size]? = some (.cells #[.int .i64 n, .int .i64 (-1), .bool false, .map (some W1.heap.size), .map (some W2.heap.size)] 86 (0, 0))) :
    LivesAt base W4 k (bs ++ [(W3.heap.size, W1.heap.size, W2.heap.size)]) (all ++ [newLife n]) := by
  have s2 : W2.heap.size = W1.heap.size + 1 := by rw [← e2]; simp
  have s3 : W3.heap.size = W2.heap.size + 1 := by rw [← e3]; simp
  have hB2 : Below W1.heap.size W1 W2 := e2 ▸ bOne _
  have hB3 : Below W2.heap.size W2 W3 := e3 ▸ bOne _
  have hA := (((h.below hB2).below hB3).below hB4)
  have m1 : MapAt W2 W1.heap.size k (fun _ => none) := ⟨0, _, e2 ▸ World.ownsMap_made W1 Try.prog 3 r105, IsT.nil, Nat.zero_le _⟩
  have m2 : MapAt W3 W2.heap.size k (fun _ => none) := ⟨0, _, e3 ▸ World.ownsMap_made W2 Try.prog 3 r105, IsT.nil, Nat.zero_le _⟩
  have m1' := (m1.same (hB3.block _ m1.lt)).same (hB4.block _ (by omega))
  have m2' := m2.same (hB4.block _ m2.lt)
  refine hA.snoc (l := newLife n) ⟨K4, m1', m2'⟩ (fun q hq => ?_) ⟨by omega, by omega, by omega⟩ ⟨by omega, by omega, by omega⟩
  have := h.lt q hq
  exact ⟨by omega, by omega, by omega⟩
/-- A row of one's own: what lies where. -/
theorem own_at_ {W : World} {base size n : Nat} {e : TypeId} {v : Value} {xs : List Value} (h : W.ownsRow base e size v n xs) : (v = .slice none 0 0 ∧ n = 0) ∨ ∃ g cap, v = .slice (some ⟨g, 0, none⟩) n cap ∧ base ≤ g ∧ n ≤ cap ∧ (∃ cur, W.heap[g]? = some (.cells cur e (0, 0))) ∧ ∀ j u, xs[j]? = some u → W.cell? ⟨g, j, none⟩ = some u ∧ W.frozen? ⟨g, j, none⟩ = false := by
  rcases h.2 with h1 | ⟨g, cap, cur, h1, hb, hg, hn, -, hs, ht⟩
  · exact .inl h1
  · refine .inr ⟨g, cap, h1, hb, hn, ⟨cur, hg⟩, fun j u hu => ⟨?_, blk_frozen hg j⟩⟩
    rw [blk_cell hg j]
    have : (cur.toList.take (n * size))[j]? = some u := by rw [ht]; exact hu
    rw [List.getElem?_take] at this
    split at this
    · simpa using this
    · cases this
/-- How an event is taken, in memory. -/
def Taken (base : Nat) (W : World) (pb k : Nat) (r : List Life × Bool) (x : Ending) (w' : World) : Prop :=
  x = .returned (.bool r.2) ∧ ∃ v bs, w'.heap[pb]? = some (.cells #[v] 69 (0, 0)) ∧ LivesV base w' k v bs r.1 ∧ Below base W w'
theorem info83 : (Try.prog.info? 83).map (fun i => (i.zero, i.size, i.bytes)) = some (some (.pointer none), 1, 8) := by kernel_rfl
set_option maxRecDepth 100000 in
set_option maxHeartbeats 4000000 in
theorem take_begin0 (W : World) (base pb k : Nat) (v : Value) (bs : List (Nat × Nat × Nat)) (all : List Life) (hp : W.heap[pb]? = some (.cells #[v] 69 (0, 0))) (hb : base ≤ pb) (hL : LivesV base W k v bs all) (hl : all.length ≤ 1000) (n e1 e2 e3 e4 : Int) (c2 : (e2 == 0) = false) :
    Calls Try.prog 48 #[ptr pb, .int .i64 n, .agg #[.int .i64 0, .int .i64 e1, .int .i64 e2, .int .i64 e3, .int .i64 e4]] W (Taken base W pb k (takeL all n ⟨0, e1, e2, ⟨e3, e4⟩⟩)) := by
  obtain ⟨r, hr⟩ : ∃ r, takeL all n ⟨0, e1, e2, ⟨e3, e4⟩⟩ = r := ⟨_, rfl⟩
  rw [hr]
  have HP := Lib.hid hr
  clear hr
  have hu44 := Try.underlying44
  have hu42 := Try.underlying42
  have hu86 := Try.underlying86
  have hu84 := Try.underlying84
  have hu69 := Try.underlying69
  have hmm := @run_makeMap Try.prog
  obtain ⟨A, c, rfl⟩ := own_slice hL.row
  obtain ⟨W1, hW1, K1, hB1⟩ : ∃ W1, W.alloc (.cells #[.int .i64 0, .int .i64 e1, .int .i64 e2, .int .i64 e3, .int .i64 e4] 44) = W1 ∧ W1.heap[W.heap.size]? = some (.cells #[.int .i64 0, .int .i64 e1, .int .i64 e2, .int .i64 e3, .int .i64 e4] 44 (0, 0)) ∧ Below W.heap.size W W1 := ⟨_, rfl, heap_alloc_new _ _, bOne _⟩
  have q0 : W1.cell? ⟨W.heap.size, 0, none⟩ = some (.int .i64 0) := blk_cell K1 0
  have q2 : W1.cell? ⟨W.heap.size, 2, none⟩ = some (.int .i64 e2) := blk_cell K1 2
  have q3 : W1.cell? ⟨W.heap.size, 3, none⟩ = some (.int .i64 e3) := blk_cell K1 3
  have q4 : W1.cell? ⟨W.heap.size, 4, none⟩ = some (.int .i64 e4) := blk_cell K1 4
  have p0 : W1.cell? ⟨pb, 0, none⟩ = some (.slice A all.length c) := blk_cell (blk_below hp hB1) 0
  obtain ⟨W2, hW2, hB2⟩ : ∃ V, W1.alloc (.map #[] 0) = V ∧ Below W1.heap.size W1 V := ⟨_, rfl, bOne _⟩
  obtain ⟨W3, hW3, hB3⟩ : ∃ V, W2.alloc (.map #[] 0) = V ∧ Below W2.heap.size W2 V := ⟨_, rfl, bOne _⟩
  obtain ⟨W4, hW4, K4, hB4⟩ : ∃ V, W3.alloc (.cells #[.int .i64 n, .int .i64 (-1), .bool false, .map (some W1.heap.size), .map (some W2.heap.size)] 86) = V ∧ V.heap[W3.heap.size]? = some (.cells #[.int .i64 n, .int .i64 (-1), .bool false, .map (some W1.heap.size), .map (some W2.heap.size)] 86 (0, 0)) ∧ Below W3.heap.size W3 V := ⟨_, rfl, heap_alloc_new _ _, bOne _⟩
  obtain ⟨W5, hW5, K5, hB5⟩ : ∃ V, W4.alloc (.cells #[ptr W3.heap.size] 83) = V ∧ V.heap[W4.heap.size]? = some (.cells #[ptr W3.heap.size] 83 (0, 0)) ∧ Below W4.heap.size W4 V := ⟨_, rfl, heap_alloc_new _ _, bOne _⟩
  have hB14 := bAfter hB2 (bAfter hB3 hB4)
  have hB05 := bAfter hB1 (bAfter hB14 hB5)
  have hbW : base ≤ W.heap.size := Nat.le_trans hb (Nat.le_of_lt (blk_lt hp))
  have hN : LivesAt base W5 k (bs ++ [(W3.heap.size, W1.heap.size, W2.heap.size)]) (all ++ [newLife n]) := (newLife_at n (hL.at_.below hB1) (Nat.le_trans hbW hB1.size) hW2 hW3 hB4 K4).below hB5
  have hown : W5.ownsRow base 83 1 (.slice A all.length c) all.length (bs.map fun b => ptr b.1) := pw_own_below hL.row hB05
  have hz5 : base ≤ W5.heap.size := Nat.le_trans hbW hB05.size
  obtain ⟨i0, hi0, hz0, hz1, hz2⟩ := info_parts info83
  have HH := Lib.hid (And.intro (blk_below hp hB05) (And.intro (blk_below K1 (bAfter hB14 hB5)) (And.intro hN (And.intro (below_le hB05 hbW) (And.intro hb hbW)))))
  have HL := Lib.hid hl
  clear hp hL hB1 hB2 hB3 hB4 hB5 K1 K4 hB14 hB05 hN hbW
  go_enter Try.func48, Try.ntmps48
  go_wp2_with (at_builtin; refine wpList_append_own_at (w := W5) rfl _ _ 69 rfl base 83 i0 _ 1 8 Try.underlying69 hi0 hz0 hz1 hz2 rfl (by decide) (.slice A all.length c) all.length _ rfl hown ⟨W4.heap.size, 0, none⟩ 1 1 [ptr W3.heap.size] rfl rfl (World.news_of_block (cs := #[ptr W3.heap.size]) (t := 83) (fr := (0, 0)) K5) (by simp [Value.oneCell']) ?h63 ?hby ?hba ?_)
  case h63 => have := HL.out; simp only [maxLen]; omega
  case hby => have := HL.out; omega
  case hba => exact hz5
  intro v9 w9 hown9 hg9 _ hat9
  have hO9 : ∀ g, (Value.slice A all.length c).ownBlock = some g → ∃ cs t, W5.heap[g]? = some (.cells cs t (0, 0)) ∧ t ≠ 86 := fun g hg => by
    obtain ⟨cs, hc⟩ := own_typed hown g hg
    exact ⟨cs, 83, hc, by decide⟩
  have hN9 := HH.out.2.2.1.grown hg9 hO9
  have hp9 : w9.heap[pb]? = some (.cells #[.slice A all.length c] 69 (0, 0)) := (hg9.block pb (blk_lt HH.out.1) (own_ne hown HH.out.1 (by decide))).trans HH.out.1
  have k19 : w9.heap[W.heap.size]? = some (.cells #[.int .i64 0, .int .i64 e1, .int .i64 e2, .int .i64 e3, .int .i64 e4] 44 (0, 0)) := (hg9.block _ (blk_lt HH.out.2.1) (own_ne hown HH.out.2.1 (by decide))).trans HH.out.2.1
  have hB9 : Below base W w9 := HH.out.2.2.2.1.grown hg9 hz5 (fun g hg => own_base hown g hg)
  obtain ⟨B, c9, rfl⟩ := own_slice hown9
  have f9 := blk_frozen hp9 0
  have p9 : w9.cell? ⟨pb, 0, none⟩ = some (.slice A all.length c) := blk_cell hp9 0
  obtain ⟨W6, hW6⟩ : ∃ V, w9.setCell ⟨pb, 0, none⟩ (.slice B (all.length + 1) c9) = V := ⟨_, rfl⟩
  have K6 : W6.heap[pb]? = some (.cells #[.slice B (all.length + 1) c9] 69 (0, 0)) := by rw [← hW6]; exact blk_set hp9 0 _
  have k16 : W6.heap[W.heap.size]? = some (.cells #[.int .i64 0, .int .i64 e1, .int .i64 e2, .int .i64 e3, .int .i64 e4] 44 (0, 0)) := by rw [← hW6]; exact blk_far k19 (show W.heap.size ≠ pb from blk_ne k19 hp9 (by decide)) _
  have hN6 : LivesV base W6 k (.slice B (all.length + 1) c9) (bs ++ [(W3.heap.size, W1.heap.size, W2.heap.size)]) (all ++ [newLife n]) := by
    refine ⟨?_, ?_⟩
    · rw [← hW6, List.length_append, List.map_append]
      exact own_setCell hown9 (p := ⟨pb, 0, none⟩) (own_ne hown9 hp9 (by decide)) _
    · rw [← hW6]
      exact hN9.same fun q hq => Below.heap_setCell _ _ _ q (hN9.apart hp9 (by decide) q hq)
  have hB6 : Below base W W6 := by rw [← hW6]; exact hB9.setCell (p := ⟨pb, 0, none⟩) HH.out.2.2.2.2.1 _
  have hfin : ∀ V, Below W6.heap.size W6 V → V.heap[pb]? = some (.cells #[.slice B (all.length + 1) c9] 69 (0, 0)) ∧ LivesV base V k (.slice B (all.length + 1) c9) (bs ++ [(W3.heap.size, W1.heap.size, W2.heap.size)]) (all ++ [newLife n]) ∧ Below base W V := fun V hV => ⟨blk_below K6 hV, hN6.below hV, hB6.trans (below_le hV (Nat.le_trans HH.out.2.2.2.2.2 hB6.size))⟩
  have HF := Lib.hid hfin
  have hE : r = (all ++ [newLife n], false && decide (e1 = (all.length : Int) + 1) && decide (e1 ≤ 32)) := by
    rw [← HP.out]
    unfold takeL
    rw [if_pos rfl]
    have : plainE ⟨0, e1, e2, ⟨e3, e4⟩⟩ = false := by have h2 : e2 ≠ 0 := (by simpa using c2); simp [plainE, h2]
    rw [this]
  have HE := Lib.hid hE
  have x0 : W6.cell? ⟨pb, 0, none⟩ = some (.slice B (all.length + 1) c9) := blk_cell K6 0
  have x1 : W6.cell? ⟨W.heap.size, 1, none⟩ = some (.int .i64 e1) := blk_cell k16 1
  clear hfin hE hB6 hN6 k16 K6 hB9 k19 hN9 hO9 hown9 hg9 hat9 hp9 HP HH hown hz5 K5
  go_wp2_with fail
  go_quiet (fail)
  go_wp2_with fail
  go_ret
  exact ⟨by rw [HE.out]; first | rfl | simp | simp [ce] | simp [HCE.out], _, _, by rw [HE.out]; exact HF.out _ (pw_below_drewN (Below.refl _ _) _)⟩

set_option maxRecDepth 100000 in
set_option maxHeartbeats 4000000 in
theorem take_begin1 (W : World) (base pb k : Nat) (v : Value) (bs : List (Nat × Nat × Nat)) (all : List Life) (hp : W.heap[pb]? = some (.cells #[v] 69 (0, 0))) (hb : base ≤ pb) (hL : LivesV base W k v bs all) (hl : all.length ≤ 1000) (n e1 e2 e3 e4 : Int) (c2 : (e3 == 0 && (e4 == 0)) = false) :
    Calls Try.prog 48 #[ptr pb, .int .i64 n, .agg #[.int .i64 0, .int .i64 e1, .int .i64 0, .int .i64 e3, .int .i64 e4]] W (Taken base W pb k (takeL all n ⟨0, e1, 0, ⟨e3, e4⟩⟩)) := by
  obtain ⟨r, hr⟩ : ∃ r, takeL all n ⟨0, e1, 0, ⟨e3, e4⟩⟩ = r := ⟨_, rfl⟩
  rw [hr]
  have HP := Lib.hid hr
  clear hr
  have hu44 := Try.underlying44
  have hu42 := Try.underlying42
  have hu86 := Try.underlying86
  have hu84 := Try.underlying84
  have hu69 := Try.underlying69
  have hmm := @run_makeMap Try.prog
  obtain ⟨A, c, rfl⟩ := own_slice hL.row
  obtain ⟨W1, hW1, K1, hB1⟩ : ∃ W1, W.alloc (.cells #[.int .i64 0, .int .i64 e1, .int .i64 0, .int .i64 e3, .int .i64 e4] 44) = W1 ∧ W1.heap[W.heap.size]? = some (.cells #[.int .i64 0, .int .i64 e1, .int .i64 0, .int .i64 e3, .int .i64 e4] 44 (0, 0)) ∧ Below W.heap.size W W1 := ⟨_, rfl, heap_alloc_new _ _, bOne _⟩
  have q0 : W1.cell? ⟨W.heap.size, 0, none⟩ = some (.int .i64 0) := blk_cell K1 0
  have q2 : W1.cell? ⟨W.heap.size, 2, none⟩ = some (.int .i64 0) := blk_cell K1 2
  have q3 : W1.cell? ⟨W.heap.size, 3, none⟩ = some (.int .i64 e3) := blk_cell K1 3
  have q4 : W1.cell? ⟨W.heap.size, 4, none⟩ = some (.int .i64 e4) := blk_cell K1 4
  have p0 : W1.cell? ⟨pb, 0, none⟩ = some (.slice A all.length c) := blk_cell (blk_below hp hB1) 0
  obtain ⟨W2, hW2, hB2⟩ : ∃ V, W1.alloc (.map #[] 0) = V ∧ Below W1.heap.size W1 V := ⟨_, rfl, bOne _⟩
  obtain ⟨W3, hW3, hB3⟩ : ∃ V, W2.alloc (.map #[] 0) = V ∧ Below W2.heap.size W2 V := ⟨_, rfl, bOne _⟩
  obtain ⟨W4, hW4, K4, hB4⟩ : ∃ V, W3.alloc (.cells #[.int .i64 n, .int .i64 (-1), .bool false, .map (some W1.heap.size), .map (some W2.heap.size)] 86) = V ∧ V.heap[W3.heap.size]? = some (.cells #[.int .i64 n, .int .i64 (-1), .bool false, .map (some W1.heap.size), .map (some W2.heap.size)] 86 (0, 0)) ∧ Below W3.heap.size W3 V := ⟨_, rfl, heap_alloc_new _ _, bOne _⟩
  obtain ⟨W5, hW5, K5, hB5⟩ : ∃ V, W4.alloc (.cells #[ptr W3.heap.size] 83) = V ∧ V.heap[W4.heap.size]? = some (.cells #[ptr W3.heap.size] 83 (0, 0)) ∧ Below W4.heap.size W4 V := ⟨_, rfl, heap_alloc_new _ _, bOne _⟩
  have hB14 := bAfter hB2 (bAfter hB3 hB4)
  have hB05 := bAfter hB1 (bAfter hB14 hB5)
  have hbW : base ≤ W.heap.size := Nat.le_trans hb (Nat.le_of_lt (blk_lt hp))
  have hN : LivesAt base W5 k (bs ++ [(W3.heap.size, W1.heap.size, W2.heap.size)]) (all ++ [newLife n]) := (newLife_at n (hL.at_.below hB1) (Nat.le_trans hbW hB1.size) hW2 hW3 hB4 K4).below hB5
  have hown : W5.ownsRow base 83 1 (.slice A all.length c) all.length (bs.map fun b => ptr b.1) := pw_own_below hL.row hB05
  have hz5 : base ≤ W5.heap.size := Nat.le_trans hbW hB05.size
  obtain ⟨i0, hi0, hz0, hz1, hz2⟩ := info_parts info83
  have HH := Lib.hid (And.intro (blk_below hp hB05) (And.intro (blk_below K1 (bAfter hB14 hB5)) (And.intro hN (And.intro (below_le hB05 hbW) (And.intro hb hbW)))))
  have HL := Lib.hid hl
  clear hp hL hB1 hB2 hB3 hB4 hB5 K1 K4 hB14 hB05 hN hbW
  go_enter Try.func48, Try.ntmps48
  go_wp2_with (at_builtin; refine wpList_append_own_at (w := W5) rfl _ _ 69 rfl base 83 i0 _ 1 8 Try.underlying69 hi0 hz0 hz1 hz2 rfl (by decide) (.slice A all.length c) all.length _ rfl hown ⟨W4.heap.size, 0, none⟩ 1 1 [ptr W3.heap.size] rfl rfl (World.news_of_block (cs := #[ptr W3.heap.size]) (t := 83) (fr := (0, 0)) K5) (by simp [Value.oneCell']) ?h63 ?hby ?hba ?_)
  case h63 => have := HL.out; simp only [maxLen]; omega
  case hby => have := HL.out; omega
  case hba => exact hz5
  intro v9 w9 hown9 hg9 _ hat9
  have hO9 : ∀ g, (Value.slice A all.length c).ownBlock = some g → ∃ cs t, W5.heap[g]? = some (.cells cs t (0, 0)) ∧ t ≠ 86 := fun g hg => by
    obtain ⟨cs, hc⟩ := own_typed hown g hg
    exact ⟨cs, 83, hc, by decide⟩
  have hN9 := HH.out.2.2.1.grown hg9 hO9
  have hp9 : w9.heap[pb]? = some (.cells #[.slice A all.length c] 69 (0, 0)) := (hg9.block pb (blk_lt HH.out.1) (own_ne hown HH.out.1 (by decide))).trans HH.out.1
  have k19 : w9.heap[W.heap.size]? = some (.cells #[.int .i64 0, .int .i64 e1, .int .i64 0, .int .i64 e3, .int .i64 e4] 44 (0, 0)) := (hg9.block _ (blk_lt HH.out.2.1) (own_ne hown HH.out.2.1 (by decide))).trans HH.out.2.1
  have hB9 : Below base W w9 := HH.out.2.2.2.1.grown hg9 hz5 (fun g hg => own_base hown g hg)
  obtain ⟨B, c9, rfl⟩ := own_slice hown9
  have f9 := blk_frozen hp9 0
  have p9 : w9.cell? ⟨pb, 0, none⟩ = some (.slice A all.length c) := blk_cell hp9 0
  obtain ⟨W6, hW6⟩ : ∃ V, w9.setCell ⟨pb, 0, none⟩ (.slice B (all.length + 1) c9) = V := ⟨_, rfl⟩
  have K6 : W6.heap[pb]? = some (.cells #[.slice B (all.length + 1) c9] 69 (0, 0)) := by rw [← hW6]; exact blk_set hp9 0 _
  have k16 : W6.heap[W.heap.size]? = some (.cells #[.int .i64 0, .int .i64 e1, .int .i64 0, .int .i64 e3, .int .i64 e4] 44 (0, 0)) := by rw [← hW6]; exact blk_far k19 (show W.heap.size ≠ pb from blk_ne k19 hp9 (by decide)) _
  have hN6 : LivesV base W6 k (.slice B (all.length + 1) c9) (bs ++ [(W3.heap.size, W1.heap.size, W2.heap.size)]) (all ++ [newLife n]) := by
    refine ⟨?_, ?_⟩
    · rw [← hW6, List.length_append, List.map_append]
      exact own_setCell hown9 (p := ⟨pb, 0, none⟩) (own_ne hown9 hp9 (by decide)) _
    · rw [← hW6]
      exact hN9.same fun q hq => Below.heap_setCell _ _ _ q (hN9.apart hp9 (by decide) q hq)
  have hB6 : Below base W W6 := by rw [← hW6]; exact hB9.setCell (p := ⟨pb, 0, none⟩) HH.out.2.2.2.2.1 _
  have hfin : ∀ V, Below W6.heap.size W6 V → V.heap[pb]? = some (.cells #[.slice B (all.length + 1) c9] 69 (0, 0)) ∧ LivesV base V k (.slice B (all.length + 1) c9) (bs ++ [(W3.heap.size, W1.heap.size, W2.heap.size)]) (all ++ [newLife n]) ∧ Below base W V := fun V hV => ⟨blk_below K6 hV, hN6.below hV, hB6.trans (below_le hV (Nat.le_trans HH.out.2.2.2.2.2 hB6.size))⟩
  have HF := Lib.hid hfin
  have hE : r = (all ++ [newLife n], false && decide (e1 = (all.length : Int) + 1) && decide (e1 ≤ 32)) := by
    rw [← HP.out]
    unfold takeL
    rw [if_pos rfl]
    have : plainE ⟨0, e1, 0, ⟨e3, e4⟩⟩ = false := by have h2 : ¬ (e3 = 0 ∧ e4 = 0) := (by intro h; rw [h.1, h.2] at c2; cases c2); simp only [plainE, decide_eq_false_iff_not]; exact fun h => h2 ⟨h.2.1, h.2.2⟩
    rw [this]
  have HE := Lib.hid hE
  have x0 : W6.cell? ⟨pb, 0, none⟩ = some (.slice B (all.length + 1) c9) := blk_cell K6 0
  have x1 : W6.cell? ⟨W.heap.size, 1, none⟩ = some (.int .i64 e1) := blk_cell k16 1
  clear hfin hE hB6 hN6 k16 K6 hB9 k19 hN9 hO9 hown9 hg9 hat9 hp9 HP HH hown hz5 K5
  go_wp2_with fail
  go_quiet (fail)
  go_wp2_with fail
  go_ret
  exact ⟨by rw [HE.out]; first | rfl | simp | simp [ce] | simp [HCE.out], _, _, by rw [HE.out]; exact HF.out _ (pw_below_drewN (Below.refl _ _) _)⟩

set_option maxRecDepth 100000 in
set_option maxHeartbeats 4000000 in
theorem take_begin2 (W : World) (base pb k : Nat) (v : Value) (bs : List (Nat × Nat × Nat)) (all : List Life) (hp : W.heap[pb]? = some (.cells #[v] 69 (0, 0))) (hb : base ≤ pb) (hL : LivesV base W k v bs all) (hl : all.length ≤ 1000) (n e1 e2 e3 e4 : Int) (ce : (e1 == (all.length : Int) + 1) = false) :
    Calls Try.prog 48 #[ptr pb, .int .i64 n, .agg #[.int .i64 0, .int .i64 e1, .int .i64 0, .int .i64 0, .int .i64 0]] W (Taken base W pb k (takeL all n ⟨0, e1, 0, ⟨0, 0⟩⟩)) := by
  obtain ⟨r, hr⟩ : ∃ r, takeL all n ⟨0, e1, 0, ⟨0, 0⟩⟩ = r := ⟨_, rfl⟩
  rw [hr]
  have HP := Lib.hid hr
  clear hr
  have hu44 := Try.underlying44
  have hu42 := Try.underlying42
  have hu86 := Try.underlying86
  have hu84 := Try.underlying84
  have hu69 := Try.underlying69
  have hmm := @run_makeMap Try.prog
  obtain ⟨A, c, rfl⟩ := own_slice hL.row
  obtain ⟨W1, hW1, K1, hB1⟩ : ∃ W1, W.alloc (.cells #[.int .i64 0, .int .i64 e1, .int .i64 0, .int .i64 0, .int .i64 0] 44) = W1 ∧ W1.heap[W.heap.size]? = some (.cells #[.int .i64 0, .int .i64 e1, .int .i64 0, .int .i64 0, .int .i64 0] 44 (0, 0)) ∧ Below W.heap.size W W1 := ⟨_, rfl, heap_alloc_new _ _, bOne _⟩
  have q0 : W1.cell? ⟨W.heap.size, 0, none⟩ = some (.int .i64 0) := blk_cell K1 0
  have q2 : W1.cell? ⟨W.heap.size, 2, none⟩ = some (.int .i64 0) := blk_cell K1 2
  have q3 : W1.cell? ⟨W.heap.size, 3, none⟩ = some (.int .i64 0) := blk_cell K1 3
  have q4 : W1.cell? ⟨W.heap.size, 4, none⟩ = some (.int .i64 0) := blk_cell K1 4
  have p0 : W1.cell? ⟨pb, 0, none⟩ = some (.slice A all.length c) := blk_cell (blk_below hp hB1) 0
  obtain ⟨W2, hW2, hB2⟩ : ∃ V, W1.alloc (.map #[] 0) = V ∧ Below W1.heap.size W1 V := ⟨_, rfl, bOne _⟩
  obtain ⟨W3, hW3, hB3⟩ : ∃ V, W2.alloc (.map #[] 0) = V ∧ Below W2.heap.size W2 V := ⟨_, rfl, bOne _⟩
  obtain ⟨W4, hW4, K4, hB4⟩ : ∃ V, W3.alloc (.cells #[.int .i64 n, .int .i64 (-1), .bool false, .map (some W1.heap.size), .map (some W2.heap.size)] 86) = V ∧ V.heap[W3.heap.size]? = some (.cells #[.int .i64 n, .int .i64 (-1), .bool false, .map (some W1.heap.size), .map (some W2.heap.size)] 86 (0, 0)) ∧ Below W3.heap.size W3 V := ⟨_, rfl, heap_alloc_new _ _, bOne _⟩
  obtain ⟨W5, hW5, K5, hB5⟩ : ∃ V, W4.alloc (.cells #[ptr W3.heap.size] 83) = V ∧ V.heap[W4.heap.size]? = some (.cells #[ptr W3.heap.size] 83 (0, 0)) ∧ Below W4.heap.size W4 V := ⟨_, rfl, heap_alloc_new _ _, bOne _⟩
  have hB14 := bAfter hB2 (bAfter hB3 hB4)
  have hB05 := bAfter hB1 (bAfter hB14 hB5)
  have hbW : base ≤ W.heap.size := Nat.le_trans hb (Nat.le_of_lt (blk_lt hp))
  have hN : LivesAt base W5 k (bs ++ [(W3.heap.size, W1.heap.size, W2.heap.size)]) (all ++ [newLife n]) := (newLife_at n (hL.at_.below hB1) (Nat.le_trans hbW hB1.size) hW2 hW3 hB4 K4).below hB5
  have hown : W5.ownsRow base 83 1 (.slice A all.length c) all.length (bs.map fun b => ptr b.1) := pw_own_below hL.row hB05
  have hz5 : base ≤ W5.heap.size := Nat.le_trans hbW hB05.size
  obtain ⟨i0, hi0, hz0, hz1, hz2⟩ := info_parts info83
  have HH := Lib.hid (And.intro (blk_below hp hB05) (And.intro (blk_below K1 (bAfter hB14 hB5)) (And.intro hN (And.intro (below_le hB05 hbW) (And.intro hb hbW)))))
  have HL := Lib.hid hl
  have HCE := Lib.hid ce
  clear ce
  clear hp hL hB1 hB2 hB3 hB4 hB5 K1 K4 hB14 hB05 hN hbW
  go_enter Try.func48, Try.ntmps48
  go_wp2_with (at_builtin; refine wpList_append_own_at (w := W5) rfl _ _ 69 rfl base 83 i0 _ 1 8 Try.underlying69 hi0 hz0 hz1 hz2 rfl (by decide) (.slice A all.length c) all.length _ rfl hown ⟨W4.heap.size, 0, none⟩ 1 1 [ptr W3.heap.size] rfl rfl (World.news_of_block (cs := #[ptr W3.heap.size]) (t := 83) (fr := (0, 0)) K5) (by simp [Value.oneCell']) ?h63 ?hby ?hba ?_)
  case h63 => have := HL.out; simp only [maxLen]; omega
  case hby => have := HL.out; omega
  case hba => exact hz5
  intro v9 w9 hown9 hg9 _ hat9
  have hO9 : ∀ g, (Value.slice A all.length c).ownBlock = some g → ∃ cs t, W5.heap[g]? = some (.cells cs t (0, 0)) ∧ t ≠ 86 := fun g hg => by
    obtain ⟨cs, hc⟩ := own_typed hown g hg
    exact ⟨cs, 83, hc, by decide⟩
  have hN9 := HH.out.2.2.1.grown hg9 hO9
  have hp9 : w9.heap[pb]? = some (.cells #[.slice A all.length c] 69 (0, 0)) := (hg9.block pb (blk_lt HH.out.1) (own_ne hown HH.out.1 (by decide))).trans HH.out.1
  have k19 : w9.heap[W.heap.size]? = some (.cells #[.int .i64 0, .int .i64 e1, .int .i64 0, .int .i64 0, .int .i64 0] 44 (0, 0)) := (hg9.block _ (blk_lt HH.out.2.1) (own_ne hown HH.out.2.1 (by decide))).trans HH.out.2.1
  have hB9 : Below base W w9 := HH.out.2.2.2.1.grown hg9 hz5 (fun g hg => own_base hown g hg)
  obtain ⟨B, c9, rfl⟩ := own_slice hown9
  have f9 := blk_frozen hp9 0
  have p9 : w9.cell? ⟨pb, 0, none⟩ = some (.slice A all.length c) := blk_cell hp9 0
  obtain ⟨W6, hW6⟩ : ∃ V, w9.setCell ⟨pb, 0, none⟩ (.slice B (all.length + 1) c9) = V := ⟨_, rfl⟩
  have K6 : W6.heap[pb]? = some (.cells #[.slice B (all.length + 1) c9] 69 (0, 0)) := by rw [← hW6]; exact blk_set hp9 0 _
  have k16 : W6.heap[W.heap.size]? = some (.cells #[.int .i64 0, .int .i64 e1, .int .i64 0, .int .i64 0, .int .i64 0] 44 (0, 0)) := by rw [← hW6]; exact blk_far k19 (show W.heap.size ≠ pb from blk_ne k19 hp9 (by decide)) _
  have hN6 : LivesV base W6 k (.slice B (all.length + 1) c9) (bs ++ [(W3.heap.size, W1.heap.size, W2.heap.size)]) (all ++ [newLife n]) := by
    refine ⟨?_, ?_⟩
    · rw [← hW6, List.length_append, List.map_append]
      exact own_setCell hown9 (p := ⟨pb, 0, none⟩) (own_ne hown9 hp9 (by decide)) _
    · rw [← hW6]
      exact hN9.same fun q hq => Below.heap_setCell _ _ _ q (hN9.apart hp9 (by decide) q hq)
  have hB6 : Below base W W6 := by rw [← hW6]; exact hB9.setCell (p := ⟨pb, 0, none⟩) HH.out.2.2.2.2.1 _
  have hfin : ∀ V, Below W6.heap.size W6 V → V.heap[pb]? = some (.cells #[.slice B (all.length + 1) c9] 69 (0, 0)) ∧ LivesV base V k (.slice B (all.length + 1) c9) (bs ++ [(W3.heap.size, W1.heap.size, W2.heap.size)]) (all ++ [newLife n]) ∧ Below base W V := fun V hV => ⟨blk_below K6 hV, hN6.below hV, hB6.trans (below_le hV (Nat.le_trans HH.out.2.2.2.2.2 hB6.size))⟩
  have HF := Lib.hid hfin
  have hE : r = (all ++ [newLife n], true && decide (e1 = (all.length : Int) + 1) && decide (e1 ≤ 32)) := by
    rw [← HP.out]
    unfold takeL
    rw [if_pos rfl]
    have : plainE ⟨0, e1, 0, ⟨0, 0⟩⟩ = true := by simp [plainE]
    rw [this]
  have HE := Lib.hid hE
  have x0 : W6.cell? ⟨pb, 0, none⟩ = some (.slice B (all.length + 1) c9) := blk_cell K6 0
  have x1 : W6.cell? ⟨W.heap.size, 1, none⟩ = some (.int .i64 e1) := blk_cell k16 1
  clear hfin hE hB6 hN6 k16 K6 hB9 k19 hN9 hO9 hown9 hg9 hat9 hp9 HP HH hown hz5 K5
  have ce0 := HCE.out
  have ce1 : (e1 == ((all.length + 1 : Nat) : Int)) = false := by rw [← ce0]; rfl
  go_wp2_with fail
  go_quiet (fail)
  go_wp2_with fail
  go_ret
  exact ⟨by rw [HE.out]; have h : decide (e1 = (all.length : Int) + 1) = false := HCE.out; dsimp only; rw [h]; simp, _, _, by rw [HE.out]; exact HF.out _ (pw_below_drewN (Below.refl _ _) _)⟩

set_option maxRecDepth 100000 in
set_option maxHeartbeats 4000000 in
theorem take_begin3 (W : World) (base pb k : Nat) (v : Value) (bs : List (Nat × Nat × Nat)) (all : List Life) (hp : W.heap[pb]? = some (.cells #[v] 69 (0, 0))) (hb : base ≤ pb) (hL : LivesV base W k v bs all) (hl : all.length ≤ 1000) (n e1 e2 e3 e4 : Int) (ce : (e1 == (all.length : Int) + 1) = true) :
    Calls Try.prog 48 #[ptr pb, .int .i64 n, .agg #[.int .i64 0, .int .i64 e1, .int .i64 0, .int .i64 0, .int .i64 0]] W (Taken base W pb k (takeL all n ⟨0, e1, 0, ⟨0, 0⟩⟩)) := by
  obtain ⟨r, hr⟩ : ∃ r, takeL all n ⟨0, e1, 0, ⟨0, 0⟩⟩ = r := ⟨_, rfl⟩
  rw [hr]
  have HP := Lib.hid hr
  clear hr
  have hu44 := Try.underlying44
  have hu42 := Try.underlying42
  have hu86 := Try.underlying86
  have hu84 := Try.underlying84
  have hu69 := Try.underlying69
  have hmm := @run_makeMap Try.prog
  obtain ⟨A, c, rfl⟩ := own_slice hL.row
  obtain ⟨W1, hW1, K1, hB1⟩ : ∃ W1, W.alloc (.cells #[.int .i64 0, .int .i64 e1, .int .i64 0, .int .i64 0, .int .i64 0] 44) = W1 ∧ W1.heap[W.heap.size]? = some (.cells #[.int .i64 0, .int .i64 e1, .int .i64 0, .int .i64 0, .int .i64 0] 44 (0, 0)) ∧ Below W.heap.size W W1 := ⟨_, rfl, heap_alloc_new _ _, bOne _⟩
  have q0 : W1.cell? ⟨W.heap.size, 0, none⟩ = some (.int .i64 0) := blk_cell K1 0
  have q2 : W1.cell? ⟨W.heap.size, 2, none⟩ = some (.int .i64 0) := blk_cell K1 2
  have q3 : W1.cell? ⟨W.heap.size, 3, none⟩ = some (.int .i64 0) := blk_cell K1 3
  have q4 : W1.cell? ⟨W.heap.size, 4, none⟩ = some (.int .i64 0) := blk_cell K1 4
  have p0 : W1.cell? ⟨pb, 0, none⟩ = some (.slice A all.length c) := blk_cell (blk_below hp hB1) 0
  obtain ⟨W2, hW2, hB2⟩ : ∃ V, W1.alloc (.map #[] 0) = V ∧ Below W1.heap.size W1 V := ⟨_, rfl, bOne _⟩
  obtain ⟨W3, hW3, hB3⟩ : ∃ V, W2.alloc (.map #[] 0) = V ∧ Below W2.heap.size W2 V := ⟨_, rfl, bOne _⟩
  obtain ⟨W4, hW4, K4, hB4⟩ : ∃ V, W3.alloc (.cells #[.int .i64 n, .int .i64 (-1), .bool false, .map (some W1.heap.size), .map (some W2.heap.size)] 86) = V ∧ V.heap[W3.heap.size]? = some (.cells #[.int .i64 n, .int .i64 (-1), .bool false, .map (some W1.heap.size), .map (some W2.heap.size)] 86 (0, 0)) ∧ Below W3.heap.size W3 V := ⟨_, rfl, heap_alloc_new _ _, bOne _⟩
  obtain ⟨W5, hW5, K5, hB5⟩ : ∃ V, W4.alloc (.cells #[ptr W3.heap.size] 83) = V ∧ V.heap[W4.heap.size]? = some (.cells #[ptr W3.heap.size] 83 (0, 0)) ∧ Below W4.heap.size W4 V := ⟨_, rfl, heap_alloc_new _ _, bOne _⟩
  have hB14 := bAfter hB2 (bAfter hB3 hB4)
  have hB05 := bAfter hB1 (bAfter hB14 hB5)
  have hbW : base ≤ W.heap.size := Nat.le_trans hb (Nat.le_of_lt (blk_lt hp))
  have hN : LivesAt base W5 k (bs ++ [(W3.heap.size, W1.heap.size, W2.heap.size)]) (all ++ [newLife n]) := (newLife_at n (hL.at_.below hB1) (Nat.le_trans hbW hB1.size) hW2 hW3 hB4 K4).below hB5
  have hown : W5.ownsRow base 83 1 (.slice A all.length c) all.length (bs.map fun b => ptr b.1) := pw_own_below hL.row hB05
  have hz5 : base ≤ W5.heap.size := Nat.le_trans hbW hB05.size
  obtain ⟨i0, hi0, hz0, hz1, hz2⟩ := info_parts info83
  have HH := Lib.hid (And.intro (blk_below hp hB05) (And.intro (blk_below K1 (bAfter hB14 hB5)) (And.intro hN (And.intro (below_le hB05 hbW) (And.intro hb hbW)))))
  have HL := Lib.hid hl
  have HCE := Lib.hid ce
  clear ce
  clear hp hL hB1 hB2 hB3 hB4 hB5 K1 K4 hB14 hB05 hN hbW
  go_enter Try.func48, Try.ntmps48
  go_wp2_with (at_builtin; refine wpList_append_own_at (w := W5) rfl _ _ 69 rfl base 83 i0 _ 1 8 Try.underlying69 hi0 hz0 hz1 hz2 rfl (by decide) (.slice A all.length c) all.length _ rfl hown ⟨W4.heap.size, 0, none⟩ 1 1 [ptr W3.heap.size] rfl rfl (World.news_of_block (cs := #[ptr W3.heap.size]) (t := 83) (fr := (0, 0)) K5) (by simp [Value.oneCell']) ?h63 ?hby ?hba ?_)
  case h63 => have := HL.out; simp only [maxLen]; omega
  case hby => have := HL.out; omega
  case hba => exact hz5
  intro v9 w9 hown9 hg9 _ hat9
  have hO9 : ∀ g, (Value.slice A all.length c).ownBlock = some g → ∃ cs t, W5.heap[g]? = some (.cells cs t (0, 0)) ∧ t ≠ 86 := fun g hg => by
    obtain ⟨cs, hc⟩ := own_typed hown g hg
    exact ⟨cs, 83, hc, by decide⟩
  have hN9 := HH.out.2.2.1.grown hg9 hO9
  have hp9 : w9.heap[pb]? = some (.cells #[.slice A all.length c] 69 (0, 0)) := (hg9.block pb (blk_lt HH.out.1) (own_ne hown HH.out.1 (by decide))).trans HH.out.1
  have k19 : w9.heap[W.heap.size]? = some (.cells #[.int .i64 0, .int .i64 e1, .int .i64 0, .int .i64 0, .int .i64 0] 44 (0, 0)) := (hg9.block _ (blk_lt HH.out.2.1) (own_ne hown HH.out.2.1 (by decide))).trans HH.out.2.1
  have hB9 : Below base W w9 := HH.out.2.2.2.1.grown hg9 hz5 (fun g hg => own_base hown g hg)
  obtain ⟨B, c9, rfl⟩ := own_slice hown9
  have f9 := blk_frozen hp9 0
  have p9 : w9.cell? ⟨pb, 0, none⟩ = some (.slice A all.length c) := blk_cell hp9 0
  obtain ⟨W6, hW6⟩ : ∃ V, w9.setCell ⟨pb, 0, none⟩ (.slice B (all.length + 1) c9) = V := ⟨_, rfl⟩
  have K6 : W6.heap[pb]? = some (.cells #[.slice B (all.length + 1) c9] 69 (0, 0)) := by rw [← hW6]; exact blk_set hp9 0 _
  have k16 : W6.heap[W.heap.size]? = some (.cells #[.int .i64 0, .int .i64 e1, .int .i64 0, .int .i64 0, .int .i64 0] 44 (0, 0)) := by rw [← hW6]; exact blk_far k19 (show W.heap.size ≠ pb from blk_ne k19 hp9 (by decide)) _
  have hN6 : LivesV base W6 k (.slice B (all.length + 1) c9) (bs ++ [(W3.heap.size, W1.heap.size, W2.heap.size)]) (all ++ [newLife n]) := by
    refine ⟨?_, ?_⟩
    · rw [← hW6, List.length_append, List.map_append]
      exact own_setCell hown9 (p := ⟨pb, 0, none⟩) (own_ne hown9 hp9 (by decide)) _
    · rw [← hW6]
      exact hN9.same fun q hq => Below.heap_setCell _ _ _ q (hN9.apart hp9 (by decide) q hq)
  have hB6 : Below base W W6 := by rw [← hW6]; exact hB9.setCell (p := ⟨pb, 0, none⟩) HH.out.2.2.2.2.1 _
  have hfin : ∀ V, Below W6.heap.size W6 V → V.heap[pb]? = some (.cells #[.slice B (all.length + 1) c9] 69 (0, 0)) ∧ LivesV base V k (.slice B (all.length + 1) c9) (bs ++ [(W3.heap.size, W1.heap.size, W2.heap.size)]) (all ++ [newLife n]) ∧ Below base W V := fun V hV => ⟨blk_below K6 hV, hN6.below hV, hB6.trans (below_le hV (Nat.le_trans HH.out.2.2.2.2.2 hB6.size))⟩
  have HF := Lib.hid hfin
  have hE : r = (all ++ [newLife n], true && decide (e1 = (all.length : Int) + 1) && decide (e1 ≤ 32)) := by
    rw [← HP.out]
    unfold takeL
    rw [if_pos rfl]
    have : plainE ⟨0, e1, 0, ⟨0, 0⟩⟩ = true := by simp [plainE]
    rw [this]
  have HE := Lib.hid hE
  have x0 : W6.cell? ⟨pb, 0, none⟩ = some (.slice B (all.length + 1) c9) := blk_cell K6 0
  have x1 : W6.cell? ⟨W.heap.size, 1, none⟩ = some (.int .i64 e1) := blk_cell k16 1
  clear hfin hE hB6 hN6 k16 K6 hB9 k19 hN9 hO9 hown9 hg9 hat9 hp9 HP HH hown hz5 K5
  have ce0 := HCE.out
  have ce1 : (e1 == ((all.length + 1 : Nat) : Int)) = true := by rw [← ce0]; rfl
  go_wp2_with fail
  go_quiet (fail)
  go_wp2_with fail
  go_ret
  exact ⟨by rw [HE.out]; have h : decide (e1 = (all.length : Int) + 1) = true := HCE.out; dsimp only; rw [h]; simp, _, _, by rw [HE.out]; exact HF.out _ (pw_below_drewN (Below.refl _ _) _)⟩

set_option maxRecDepth 100000 in
set_option maxHeartbeats 4000000 in
theorem take_low (W : World) (base pb k : Nat) (v : Value) (bs : List (Nat × Nat × Nat)) (all : List Life) (hp : W.heap[pb]? = some (.cells #[v] 69 (0, 0))) (hb : base ≤ pb) (hL : LivesV base W k v bs all) (hl : all.length ≤ 1000) (n e0 e1 e2 e3 e4 : Int) (k0 : (e0 == 0) = false) (h1 : e1 < 1) :
    Calls Try.prog 48 #[ptr pb, .int .i64 n, .agg #[.int .i64 e0, .int .i64 e1, .int .i64 e2, .int .i64 e3, .int .i64 e4]] W (Taken base W pb (k + 1) (takeL all n ⟨e0, e1, e2, ⟨e3, e4⟩⟩)) := by
  obtain ⟨r, hr⟩ : ∃ r, takeL all n ⟨e0, e1, e2, ⟨e3, e4⟩⟩ = r := ⟨_, rfl⟩
  rw [hr]
  have h0' : ¬ e0 = 0 := by simpa using k0
  have hu44 := Try.underlying44
  have hu42 := Try.underlying42
  have hu86 := Try.underlying86
  have hu83 := Try.underlying83
  have hu69 := Try.underlying69
  obtain ⟨W1, hW1, K1, hB1⟩ : ∃ W1, W.alloc (.cells #[.int .i64 e0, .int .i64 e1, .int .i64 e2, .int .i64 e3, .int .i64 e4] 44) = W1 ∧ W1.heap[W.heap.size]? = some (.cells #[.int .i64 e0, .int .i64 e1, .int .i64 e2, .int .i64 e3, .int .i64 e4] 44 (0, 0)) ∧ Below W.heap.size W W1 := ⟨_, rfl, heap_alloc_new _ _, bOne _⟩
  have q0 : W1.cell? ⟨W.heap.size, 0, none⟩ = some (.int .i64 e0) := blk_cell K1 0
  have q1 : W1.cell? ⟨W.heap.size, 1, none⟩ = some (.int .i64 (e1)) := blk_cell K1 1
  have q2 : W1.cell? ⟨W.heap.size, 2, none⟩ = some (.int .i64 e2) := blk_cell K1 2
  have q3 : W1.cell? ⟨W.heap.size, 3, none⟩ = some (.int .i64 e3) := blk_cell K1 3
  have q4 : W1.cell? ⟨W.heap.size, 4, none⟩ = some (.int .i64 e4) := blk_cell K1 4
  have hbW : base ≤ W.heap.size := Nat.le_trans hb (Nat.le_of_lt (blk_lt hp))
  have HF := Lib.hid (show ∀ V, Below W1.heap.size W1 V → V.heap[pb]? = some (.cells #[v] 69 (0, 0)) ∧ LivesV base V (k + 1) v bs all ∧ Below base W V from fun V hV => ⟨blk_below (blk_below hp hB1) hV, (hL.below (bAfter hB1 hV)).more (Nat.le_succ _), below_le (bAfter hB1 hV) hbW⟩)
  have HE := Lib.hid (show r = (all, false) by rw [← hr]; unfold takeL; rw [if_neg h0', if_pos (Or.inl h1)])
  have d1 : decide (e1 < 1) = true := by simpa using h1
  clear hr h1 hp hL hB1 K1 h0' hbW
  go_enter Try.func48, Try.ntmps48
  go_wp2_with fail
  all_goals
    go_quiet (fail)
    go_wp2_with fail
    go_ret
    exact ⟨by rw [HE.out]; first | rfl | simp, _, _, by rw [HE.out]; exact HF.out _ (pw_below_drewN (Below.refl _ _) _)⟩
set_option maxRecDepth 100000 in
set_option maxHeartbeats 4000000 in
theorem take_high (W : World) (base pb k : Nat) (v : Value) (bs : List (Nat × Nat × Nat)) (all : List Life) (hp : W.heap[pb]? = some (.cells #[v] 69 (0, 0))) (hb : base ≤ pb) (hL : LivesV base W k v bs all) (hl : all.length ≤ 1000) (n e0 e1 e2 e3 e4 : Int) (k0 : (e0 == 0) = false) (h1 : 1 ≤ e1) (h2 : (all.length : Int) < e1) :
    Calls Try.prog 48 #[ptr pb, .int .i64 n, .agg #[.int .i64 e0, .int .i64 e1, .int .i64 e2, .int .i64 e3, .int .i64 e4]] W (Taken base W pb (k + 1) (takeL all n ⟨e0, e1, e2, ⟨e3, e4⟩⟩)) := by
  obtain ⟨r, hr⟩ : ∃ r, takeL all n ⟨e0, e1, e2, ⟨e3, e4⟩⟩ = r := ⟨_, rfl⟩
  rw [hr]
  have h0' : ¬ e0 = 0 := by simpa using k0
  have hu44 := Try.underlying44
  have hu42 := Try.underlying42
  have hu86 := Try.underlying86
  have hu83 := Try.underlying83
  have hu69 := Try.underlying69
  obtain ⟨W1, hW1, K1, hB1⟩ : ∃ W1, W.alloc (.cells #[.int .i64 e0, .int .i64 e1, .int .i64 e2, .int .i64 e3, .int .i64 e4] 44) = W1 ∧ W1.heap[W.heap.size]? = some (.cells #[.int .i64 e0, .int .i64 e1, .int .i64 e2, .int .i64 e3, .int .i64 e4] 44 (0, 0)) ∧ Below W.heap.size W W1 := ⟨_, rfl, heap_alloc_new _ _, bOne _⟩
  have q0 : W1.cell? ⟨W.heap.size, 0, none⟩ = some (.int .i64 e0) := blk_cell K1 0
  have q1 : W1.cell? ⟨W.heap.size, 1, none⟩ = some (.int .i64 (e1)) := blk_cell K1 1
  have q2 : W1.cell? ⟨W.heap.size, 2, none⟩ = some (.int .i64 e2) := blk_cell K1 2
  have q3 : W1.cell? ⟨W.heap.size, 3, none⟩ = some (.int .i64 e3) := blk_cell K1 3
  have q4 : W1.cell? ⟨W.heap.size, 4, none⟩ = some (.int .i64 e4) := blk_cell K1 4
  have hbW : base ≤ W.heap.size := Nat.le_trans hb (Nat.le_of_lt (blk_lt hp))
  obtain ⟨A, c, rfl⟩ := own_slice hL.row
  have HF := Lib.hid (show ∀ V, Below W1.heap.size W1 V → V.heap[pb]? = some (.cells #[.slice A all.length c] 69 (0, 0)) ∧ LivesV base V (k + 1) (.slice A all.length c) bs all ∧ Below base W V from fun V hV => ⟨blk_below (blk_below hp hB1) hV, (hL.below (bAfter hB1 hV)).more (Nat.le_succ _), below_le (bAfter hB1 hV) hbW⟩)
  have p0 : W1.cell? ⟨pb, 0, none⟩ = some (.slice A all.length c) := blk_cell (blk_below hp hB1) 0
  have HE := Lib.hid (show r = (all, false) by rw [← hr]; unfold takeL; rw [if_neg h0', if_pos (Or.inr h2)])
  have d1 : decide (e1 < 1) = false := by simp; omega
  have d2 : decide (e1 > (all.length : Int)) = true := by simpa using h2
  clear hr h1 h2 hp hL hB1 K1 h0' hbW
  go_enter Try.func48, Try.ntmps48
  go_wp2_with fail
  all_goals
    go_quiet (fail)
    go_wp2_with fail
    go_ret
    exact ⟨by rw [HE.out]; first | rfl | simp, _, _, by rw [HE.out]; exact HF.out _ (pw_below_drewN (Below.refl _ _) _)⟩
set_option maxRecDepth 100000 in
set_option maxHeartbeats 4000000 in
theorem take_over (W : World) (base pb k : Nat) (v : Value) (bs : List (Nat × Nat × Nat)) (all : List Life) (hp : W.heap[pb]? = some (.cells #[v] 69 (0, 0))) (hb : base ≤ pb) (hL : LivesV base W k v bs all) (hl : all.length ≤ 1000) (n e0 e2 e3 e4 : Int) (k0 : (e0 == 0) = false) (i : Nat) (hi : i < all.length) (hf : ∀ l, all[i]? = some l → 0 ≤ l.fin) :
    Calls Try.prog 48 #[ptr pb, .int .i64 n, .agg #[.int .i64 e0, .int .i64 ((i : Int) + 1), .int .i64 e2, .int .i64 e3, .int .i64 e4]] W (Taken base W pb (k + 1) (takeL all n ⟨e0, ((i : Int) + 1), e2, ⟨e3, e4⟩⟩)) := by
  obtain ⟨r, hr⟩ : ∃ r, takeL all n ⟨e0, ((i : Int) + 1), e2, ⟨e3, e4⟩⟩ = r := ⟨_, rfl⟩
  rw [hr]
  have h0' : ¬ e0 = 0 := by simpa using k0
  have hu44 := Try.underlying44
  have hu42 := Try.underlying42
  have hu86 := Try.underlying86
  have hu83 := Try.underlying83
  have hu69 := Try.underlying69
  obtain ⟨W1, hW1, K1, hB1⟩ : ∃ W1, W.alloc (.cells #[.int .i64 e0, .int .i64 ((i : Int) + 1), .int .i64 e2, .int .i64 e3, .int .i64 e4] 44) = W1 ∧ W1.heap[W.heap.size]? = some (.cells #[.int .i64 e0, .int .i64 ((i : Int) + 1), .int .i64 e2, .int .i64 e3, .int .i64 e4] 44 (0, 0)) ∧ Below W.heap.size W W1 := ⟨_, rfl, heap_alloc_new _ _, bOne _⟩
  have q0 : W1.cell? ⟨W.heap.size, 0, none⟩ = some (.int .i64 e0) := blk_cell K1 0
  have q1 : W1.cell? ⟨W.heap.size, 1, none⟩ = some (.int .i64 (((i : Int) + 1))) := blk_cell K1 1
  have q2 : W1.cell? ⟨W.heap.size, 2, none⟩ = some (.int .i64 e2) := blk_cell K1 2
  have q3 : W1.cell? ⟨W.heap.size, 3, none⟩ = some (.int .i64 e3) := blk_cell K1 3
  have q4 : W1.cell? ⟨W.heap.size, 4, none⟩ = some (.int .i64 e4) := blk_cell K1 4
  have hbW : base ≤ W.heap.size := Nat.le_trans hb (Nat.le_of_lt (blk_lt hp))
  obtain ⟨⟨b, rb, wb⟩, hbi⟩ : ∃ q, bs[i]? = some q := ⟨_, List.getElem?_eq_getElem (by rw [hL.at_.len]; exact hi)⟩
  obtain ⟨l, hli⟩ : ∃ l, all[i]? = some l := ⟨_, List.getElem?_eq_getElem hi⟩
  have hA := hL.at_.at_ i b rb wb l hbi hli
  rcases own_at_ hL.row with ⟨rfl, hz⟩ | ⟨g, c, rfl, -, -, -, hc⟩
  · omega
  have a0 : W1.cell? ⟨g, i, none⟩ = some (ptr b) := (bcell hB1).1 g i (World.block_lt_of_cell? _ _ (hc i (ptr b) (by rw [List.getElem?_map, hbi]; rfl)).1) |>.trans (hc i (ptr b) (by rw [List.getElem?_map, hbi]; rfl)).1
  have a1 : W1.cell? ⟨b, 1, none⟩ = some (.int .i64 l.fin) := blk_cell (blk_below hA.hb hB1) 1
  have p0 : W1.cell? ⟨pb, 0, none⟩ = some (.slice (some ⟨g, 0, none⟩) all.length c) := blk_cell (blk_below hp hB1) 0
  have d1 : decide ((i : Int) + 1 < 1) = false := by simp; omega
  have d2 : decide ((i : Int) + 1 > (all.length : Int)) = false := by simp; omega
  have hw : wrap64 ((i : Int) + 1 - 1) = i := by unfold wrap64; omega
  have hw' : wrap64 ((i : Int) + 1 + -1) = i := by unfold wrap64; omega
  have hi0 : (0 : Int) ≤ i := by omega
  have hi1 : (i : Int) < all.length := by omega
  have hit : ((i : Int) + 1 - 1).toNat = i := by omega
  have HF := Lib.hid (show ∀ V, Below W1.heap.size W1 V → V.heap[pb]? = some (.cells #[.slice (some ⟨g, 0, none⟩) all.length c] 69 (0, 0)) ∧ LivesV base V (k + 1) (.slice (some ⟨g, 0, none⟩) all.length c) bs all ∧ Below base W V from fun V hV => ⟨blk_below (blk_below hp hB1) hV, (hL.below (bAfter hB1 hV)).more (Nat.le_succ _), below_le (bAfter hB1 hV) hbW⟩)
  have HE := Lib.hid (show r = (all, false) by
    rw [← hr]
    unfold takeL
    rw [if_neg h0', if_neg (by dsimp only; omega)]
    simp only [hit, hli]
    rw [if_pos (hf l hli)])
  have d3 : decide (l.fin ≥ 0) = true := by simpa using hf l hli
  clear hr hp hL hB1 K1 h0' hbW hc hf hA hli hbi hi hit
  go_enter Try.func48, Try.ntmps48
  go_wp2_with fail
  all_goals
    go_quiet (fail)
    go_wp2_with fail
    go_ret
    exact ⟨by rw [HE.out]; first | rfl | simp, _, _, by rw [HE.out]; exact HF.out _ (pw_below_drewN (Below.refl _ _) _)⟩
end Go.Proofs.Ytkijjgdcbgmglaa.Q

/-! An event is taken, by hand (steps, ends). -/
namespace Go.Proofs.Ytkijjgdcbgmglaa.Q
open Go.RowKit Go.Lib Go.Maps Go.Proofs.Ytkijjgdcbgmglaa Go.Proofs.YtkijjgdcbgmglaaW.PrintWords Go.Proofs.YtkijjgdcbgmglaaW.PrintLast Go.Proofs.YtkijjgdcbgmglaaW.PrintMore
set_option linter.unusedVariables false
set_option linter.unusedSimpArgs false
attribute [local go_sem high] eqA42
set_option maxRecDepth 100000 in
set_option maxHeartbeats 4000000 in
theorem take_step0 (W : World) (base pb k : Nat) (v : Value) (bs : List (Nat × Nat × Nat)) (all : List Life) (hp : W.heap[pb]? = some (.cells #[v] 69 (0, 0))) (hb : base ≤ pb) (hL : LivesV base W k v bs all) (hl : all.length ≤ 1000) (n e0 e2 e3 e4 : Int) (k0 : (e0 == 0) = false) (c2 : (e2 == 0) = false) (k1 : (e0 == 1 || e0 == 2) = true) (hk : k < 1000000) (i : Nat) (hi : i < all.length) (hf : ∀ l, all[i]? = some l → l.fin < 0) :
    Calls Try.prog 48 #[ptr pb, .int .i64 n, .agg #[.int .i64 e0, .int .i64 ((i : Int) + 1), .int .i64 e2, .int .i64 e3, .int .i64 e4]] W (Taken base W pb (k + 1) (takeL all n ⟨e0, ((i : Int) + 1), e2, ⟨e3, e4⟩⟩)) := by
  obtain ⟨r, hr⟩ : ∃ r, takeL all n ⟨e0, ((i : Int) + 1), e2, ⟨e3, e4⟩⟩ = r := ⟨_, rfl⟩
  rw [hr]
  have h0' : ¬ e0 = 0 := by simpa using k0
  have hu44 := Try.underlying44
  have hu42 := Try.underlying42
  have hu86 := Try.underlying86
  have hu83 := Try.underlying83
  have hu69 := Try.underlying69
  obtain ⟨W1, hW1, K1, hB1⟩ : ∃ W1, W.alloc (.cells #[.int .i64 e0, .int .i64 ((i : Int) + 1), .int .i64 e2, .int .i64 e3, .int .i64 e4] 44) = W1 ∧ W1.heap[W.heap.size]? = some (.cells #[.int .i64 e0, .int .i64 ((i : Int) + 1), .int .i64 e2, .int .i64 e3, .int .i64 e4] 44 (0, 0)) ∧ Below W.heap.size W W1 := ⟨_, rfl, heap_alloc_new _ _, bOne _⟩
  have q0 : W1.cell? ⟨W.heap.size, 0, none⟩ = some (.int .i64 e0) := blk_cell K1 0
  have q1 : W1.cell? ⟨W.heap.size, 1, none⟩ = some (.int .i64 (((i : Int) + 1))) := blk_cell K1 1
  have q2 : W1.cell? ⟨W.heap.size, 2, none⟩ = some (.int .i64 e2) := blk_cell K1 2
  have q3 : W1.cell? ⟨W.heap.size, 3, none⟩ = some (.int .i64 e3) := blk_cell K1 3
  have q4 : W1.cell? ⟨W.heap.size, 4, none⟩ = some (.int .i64 e4) := blk_cell K1 4
  have hbW : base ≤ W.heap.size := Nat.le_trans hb (Nat.le_of_lt (blk_lt hp))
  obtain ⟨⟨b, rb, wb⟩, hbi⟩ : ∃ q, bs[i]? = some q := ⟨_, List.getElem?_eq_getElem (by rw [hL.at_.len]; exact hi)⟩
  obtain ⟨l, hli⟩ : ∃ l, all[i]? = some l := ⟨_, List.getElem?_eq_getElem hi⟩
  have hA := hL.at_.at_ i b rb wb l hbi hli
  rcases own_at_ hL.row with ⟨rfl, hz⟩ | ⟨g, c, rfl, -, -, -, hc⟩
  · omega
  have a0 : W1.cell? ⟨g, i, none⟩ = some (ptr b) := (bcell hB1).1 g i (World.block_lt_of_cell? _ _ (hc i (ptr b) (by rw [List.getElem?_map, hbi]; rfl)).1) |>.trans (hc i (ptr b) (by rw [List.getElem?_map, hbi]; rfl)).1
  have a1 : W1.cell? ⟨b, 1, none⟩ = some (.int .i64 l.fin) := blk_cell (blk_below hA.hb hB1) 1
  have p0 : W1.cell? ⟨pb, 0, none⟩ = some (.slice (some ⟨g, 0, none⟩) all.length c) := blk_cell (blk_below hp hB1) 0
  have d1 : decide ((i : Int) + 1 < 1) = false := by simp; omega
  have d2 : decide ((i : Int) + 1 > (all.length : Int)) = false := by simp; omega
  have hw : wrap64 ((i : Int) + 1 - 1) = i := by unfold wrap64; omega
  have hw' : wrap64 ((i : Int) + 1 + -1) = i := by unfold wrap64; omega
  have hi0 : (0 : Int) ≤ i := by omega
  have hi1 : (i : Int) < all.length := by omega
  have hit : ((i : Int) + 1 - 1).toNat = i := by omega
  have hff := hf l hli
  have d3 : decide (l.fin ≥ 0) = false := by simp; omega
  have HE := Lib.hid (show r = (all.set i (stepL l n ⟨e0, (i : Int) + 1, e2, ⟨e3, e4⟩⟩).1, (stepL l n ⟨e0, (i : Int) + 1, e2, ⟨e3, e4⟩⟩).2) by
    rw [← hr]
    unfold takeL
    rw [if_neg h0', if_neg (by dsimp only; omega)]
    simp only [hit, hli]
    rw [if_neg (by omega), if_pos (by simpa using k1)])
  have hne : rb ≠ wb := by
    have := hL.at_.nd
    unfold blocksOf at this
    have h2 := List.mem_of_getElem? hbi
    have h3 := (List.pairwise_flatMap.1 this).1 _ h2
    simp at h3
    exact h3.2
  have hS : ∀ V, Below W1.heap.size W1 V → Calls Try.prog 64 #[ptr b, .int .i64 n, .agg #[.int .i64 e0, .int .i64 ((i : Int) + 1), .int .i64 e2, .int .i64 e3, .int .i64 e4]] V (Stepped V b rb wb (k + 1) (stepL l n ⟨e0, (i : Int) + 1, e2, ⟨e3, e4⟩⟩)) := fun V hV => life_step V b rb wb k l ((hA.below hB1).below hV) hne hk n e0 _ e2 e3 e4
  have HS := Lib.hid hS
  have hF : ∀ V V', Below W1.heap.size W1 V → LifeAt V' b rb wb (k + 1) (stepL l n ⟨e0, (i : Int) + 1, e2, ⟨e3, e4⟩⟩).1 → Turned (fun q => q = rb ∨ q = wb) V V' → V'.heap[pb]? = some (.cells #[.slice (some ⟨g, 0, none⟩) all.length c] 69 (0, 0)) ∧ LivesV base V' (k + 1) (.slice (some ⟨g, 0, none⟩) all.length c) bs (all.set i (stepL l n ⟨e0, (i : Int) + 1, e2, ⟨e3, e4⟩⟩).1) ∧ Below base W V' := by
    intro V V' hV hl' hT
    have hBV := bAfter hB1 hV
    have hLV := hL.below hBV
    have hpV := blk_below hp hBV
    obtain ⟨m1, m2, m3⟩ := mem_blocks hbi
    have nm : ∀ q cs t, V.heap[q]? = some (.cells cs t (0, 0)) → ¬ (q = rb ∨ q = wb) := fun q cs t hq hor => by
      rcases hor with rfl | rfl
      · exact ((hA.below hBV).hr).not_cells hq
      · exact ((hA.below hBV).hw).not_cells hq
    have hg9 : V.grownBy V' none ∨ True := .inr trivial
    refine ⟨(hT.block _ (blk_lt hpV) (nm _ _ _ hpV)).trans hpV, ⟨?_, ?_⟩, ?_⟩
    · rw [List.length_set]
      obtain ⟨h0, h2⟩ := hLV.row
      refine ⟨h0, ?_⟩
      rcases h2 with ⟨e, h3⟩ | ⟨g', cap, cur, e, h3, h4, h5⟩
      · exact .inl ⟨e, h3⟩
      · exact .inr ⟨g', cap, cur, e, h3, (hT.block _ (blk_lt h4) (nm _ _ _ h4)).trans h4, h5⟩
    · refine ((hLV.at_.more (Nat.le_succ k)).turn (W' := V') hbi hi (fun q hq _ h2 h3 => hT.block q (hLV.at_.lt q hq) (by rintro (h | h); exact h2 h; exact h3 h)) hl')
    · have b2 := hL.at_.lo rb m2
      have b3 := hL.at_.lo wb m3
      exact (below_le hBV hbW).trans ⟨hT.os, hT.tape, hT.output, hT.size, fun q hq => hT.block q (by have := hBV.size; omega) (by rintro (h | h) <;> omega)⟩
  have HF := Lib.hid hF
  have q5 := ld_whole (P := Try.prog) (ty := 44) K1 hu44 rfl (by kernel_rfl)
  clear hr hp hL hB1 K1 h0' hbW hc hf hA hli hbi hi hit hF hS hff hne
  go_enter Try.func48, Try.ntmps48
  go_wp2_with fail
  all_goals
    go_quiet (fail)
    go_wp2_with fail
    go_quiet (fail)
    cases k11 : (e0 == 1) with
    | true =>
      go_wp2_with fail
      refine Calls.mono (HS.out _ ?hb) ?_
      case hb => exact pw_below_drewN (Below.refl _ _) _
      rintro e w2 ⟨rfl, h2, h3⟩
      have HN := Lib.hid (HF.out _ _ (pw_below_drewN (Below.refl _ _) _) h2 h3)
      clear h2 h3
      go_wp2_with fail
      go_ret
      exact ⟨by rw [HE.out]; first | rfl | simp, _, _, by rw [HE.out]; exact HN.out⟩
    | false =>
      have k2 : (e0 == 2) = true := by rw [k11] at k1; simpa using k1
      go_wp2_with fail
      refine Calls.mono (HS.out _ ?hb) ?_
      case hb => exact pw_below_drewN (Below.refl _ _) _
      rintro e w2 ⟨rfl, h2, h3⟩
      have HN := Lib.hid (HF.out _ _ (pw_below_drewN (Below.refl _ _) _) h2 h3)
      clear h2 h3
      go_wp2_with fail
      go_ret
      exact ⟨by rw [HE.out]; first | rfl | simp, _, _, by rw [HE.out]; exact HN.out⟩
set_option maxRecDepth 100000 in
set_option maxHeartbeats 4000000 in
theorem take_step1 (W : World) (base pb k : Nat) (v : Value) (bs : List (Nat × Nat × Nat)) (all : List Life) (hp : W.heap[pb]? = some (.cells #[v] 69 (0, 0))) (hb : base ≤ pb) (hL : LivesV base W k v bs all) (hl : all.length ≤ 1000) (n e0 e3 e4 : Int) (k0 : (e0 == 0) = false) (k1 : (e0 == 1 || e0 == 2) = true) (hk : k < 1000000) (i : Nat) (hi : i < all.length) (hf : ∀ l, all[i]? = some l → l.fin < 0) :
    Calls Try.prog 48 #[ptr pb, .int .i64 n, .agg #[.int .i64 e0, .int .i64 ((i : Int) + 1), .int .i64 0, .int .i64 e3, .int .i64 e4]] W (Taken base W pb (k + 1) (takeL all n ⟨e0, ((i : Int) + 1), 0, ⟨e3, e4⟩⟩)) := by
  obtain ⟨r, hr⟩ : ∃ r, takeL all n ⟨e0, ((i : Int) + 1), 0, ⟨e3, e4⟩⟩ = r := ⟨_, rfl⟩
  rw [hr]
  have h0' : ¬ e0 = 0 := by simpa using k0
  have hu44 := Try.underlying44
  have hu42 := Try.underlying42
  have hu86 := Try.underlying86
  have hu83 := Try.underlying83
  have hu69 := Try.underlying69
  obtain ⟨W1, hW1, K1, hB1⟩ : ∃ W1, W.alloc (.cells #[.int .i64 e0, .int .i64 ((i : Int) + 1), .int .i64 0, .int .i64 e3, .int .i64 e4] 44) = W1 ∧ W1.heap[W.heap.size]? = some (.cells #[.int .i64 e0, .int .i64 ((i : Int) + 1), .int .i64 0, .int .i64 e3, .int .i64 e4] 44 (0, 0)) ∧ Below W.heap.size W W1 := ⟨_, rfl, heap_alloc_new _ _, bOne _⟩
  have q0 : W1.cell? ⟨W.heap.size, 0, none⟩ = some (.int .i64 e0) := blk_cell K1 0
  have q1 : W1.cell? ⟨W.heap.size, 1, none⟩ = some (.int .i64 (((i : Int) + 1))) := blk_cell K1 1
  have q2 : W1.cell? ⟨W.heap.size, 2, none⟩ = some (.int .i64 0) := blk_cell K1 2
  have q3 : W1.cell? ⟨W.heap.size, 3, none⟩ = some (.int .i64 e3) := blk_cell K1 3
  have q4 : W1.cell? ⟨W.heap.size, 4, none⟩ = some (.int .i64 e4) := blk_cell K1 4
  have hbW : base ≤ W.heap.size := Nat.le_trans hb (Nat.le_of_lt (blk_lt hp))
  obtain ⟨⟨b, rb, wb⟩, hbi⟩ : ∃ q, bs[i]? = some q := ⟨_, List.getElem?_eq_getElem (by rw [hL.at_.len]; exact hi)⟩
  obtain ⟨l, hli⟩ : ∃ l, all[i]? = some l := ⟨_, List.getElem?_eq_getElem hi⟩
  have hA := hL.at_.at_ i b rb wb l hbi hli
  rcases own_at_ hL.row with ⟨rfl, hz⟩ | ⟨g, c, rfl, -, -, -, hc⟩
  · omega
  have a0 : W1.cell? ⟨g, i, none⟩ = some (ptr b) := (bcell hB1).1 g i (World.block_lt_of_cell? _ _ (hc i (ptr b) (by rw [List.getElem?_map, hbi]; rfl)).1) |>.trans (hc i (ptr b) (by rw [List.getElem?_map, hbi]; rfl)).1
  have a1 : W1.cell? ⟨b, 1, none⟩ = some (.int .i64 l.fin) := blk_cell (blk_below hA.hb hB1) 1
  have p0 : W1.cell? ⟨pb, 0, none⟩ = some (.slice (some ⟨g, 0, none⟩) all.length c) := blk_cell (blk_below hp hB1) 0
  have d1 : decide ((i : Int) + 1 < 1) = false := by simp; omega
  have d2 : decide ((i : Int) + 1 > (all.length : Int)) = false := by simp; omega
  have hw : wrap64 ((i : Int) + 1 - 1) = i := by unfold wrap64; omega
  have hw' : wrap64 ((i : Int) + 1 + -1) = i := by unfold wrap64; omega
  have hi0 : (0 : Int) ≤ i := by omega
  have hi1 : (i : Int) < all.length := by omega
  have hit : ((i : Int) + 1 - 1).toNat = i := by omega
  have hff := hf l hli
  have d3 : decide (l.fin ≥ 0) = false := by simp; omega
  have HE := Lib.hid (show r = (all.set i (stepL l n ⟨e0, (i : Int) + 1, 0, ⟨e3, e4⟩⟩).1, (stepL l n ⟨e0, (i : Int) + 1, 0, ⟨e3, e4⟩⟩).2) by
    rw [← hr]
    unfold takeL
    rw [if_neg h0', if_neg (by dsimp only; omega)]
    simp only [hit, hli]
    rw [if_neg (by omega), if_pos (by simpa using k1)])
  have hne : rb ≠ wb := by
    have := hL.at_.nd
    unfold blocksOf at this
    have h2 := List.mem_of_getElem? hbi
    have h3 := (List.pairwise_flatMap.1 this).1 _ h2
    simp at h3
    exact h3.2
  have hS : ∀ V, Below W1.heap.size W1 V → Calls Try.prog 64 #[ptr b, .int .i64 n, .agg #[.int .i64 e0, .int .i64 ((i : Int) + 1), .int .i64 0, .int .i64 e3, .int .i64 e4]] V (Stepped V b rb wb (k + 1) (stepL l n ⟨e0, (i : Int) + 1, 0, ⟨e3, e4⟩⟩)) := fun V hV => life_step V b rb wb k l ((hA.below hB1).below hV) hne hk n e0 _ 0 e3 e4
  have HS := Lib.hid hS
  have hF : ∀ V V', Below W1.heap.size W1 V → LifeAt V' b rb wb (k + 1) (stepL l n ⟨e0, (i : Int) + 1, 0, ⟨e3, e4⟩⟩).1 → Turned (fun q => q = rb ∨ q = wb) V V' → V'.heap[pb]? = some (.cells #[.slice (some ⟨g, 0, none⟩) all.length c] 69 (0, 0)) ∧ LivesV base V' (k + 1) (.slice (some ⟨g, 0, none⟩) all.length c) bs (all.set i (stepL l n ⟨e0, (i : Int) + 1, 0, ⟨e3, e4⟩⟩).1) ∧ Below base W V' := by
    intro V V' hV hl' hT
    have hBV := bAfter hB1 hV
    have hLV := hL.below hBV
    have hpV := blk_below hp hBV
    obtain ⟨m1, m2, m3⟩ := mem_blocks hbi
    have nm : ∀ q cs t, V.heap[q]? = some (.cells cs t (0, 0)) → ¬ (q = rb ∨ q = wb) := fun q cs t hq hor => by
      rcases hor with rfl | rfl
      · exact ((hA.below hBV).hr).not_cells hq
      · exact ((hA.below hBV).hw).not_cells hq
    have hg9 : V.grownBy V' none ∨ True := .inr trivial
    refine ⟨(hT.block _ (blk_lt hpV) (nm _ _ _ hpV)).trans hpV, ⟨?_, ?_⟩, ?_⟩
    · rw [List.length_set]
      obtain ⟨h0, h2⟩ := hLV.row
      refine ⟨h0, ?_⟩
      rcases h2 with ⟨e, h3⟩ | ⟨g', cap, cur, e, h3, h4, h5⟩
      · exact .inl ⟨e, h3⟩
      · exact .inr ⟨g', cap, cur, e, h3, (hT.block _ (blk_lt h4) (nm _ _ _ h4)).trans h4, h5⟩
    · refine ((hLV.at_.more (Nat.le_succ k)).turn (W' := V') hbi hi (fun q hq _ h2 h3 => hT.block q (hLV.at_.lt q hq) (by rintro (h | h); exact h2 h; exact h3 h)) hl')
    · have b2 := hL.at_.lo rb m2
      have b3 := hL.at_.lo wb m3
      exact (below_le hBV hbW).trans ⟨hT.os, hT.tape, hT.output, hT.size, fun q hq => hT.block q (by have := hBV.size; omega) (by rintro (h | h) <;> omega)⟩
  have HF := Lib.hid hF
  have q5 := ld_whole (P := Try.prog) (ty := 44) K1 hu44 rfl (by kernel_rfl)
  clear hr hp hL hB1 K1 h0' hbW hc hf hA hli hbi hi hit hF hS hff hne
  go_enter Try.func48, Try.ntmps48
  go_wp2_with fail
  all_goals
    go_quiet (fail)
    go_wp2_with fail
    go_quiet (fail)
    cases k11 : (e0 == 1) with
    | true =>
      go_wp2_with fail
      refine Calls.mono (HS.out _ ?hb) ?_
      case hb => exact pw_below_drewN (Below.refl _ _) _
      rintro e w2 ⟨rfl, h2, h3⟩
      have HN := Lib.hid (HF.out _ _ (pw_below_drewN (Below.refl _ _) _) h2 h3)
      clear h2 h3
      go_wp2_with fail
      go_ret
      exact ⟨by rw [HE.out]; first | rfl | simp, _, _, by rw [HE.out]; exact HN.out⟩
    | false =>
      have k2 : (e0 == 2) = true := by rw [k11] at k1; simpa using k1
      go_wp2_with fail
      refine Calls.mono (HS.out _ ?hb) ?_
      case hb => exact pw_below_drewN (Below.refl _ _) _
      rintro e w2 ⟨rfl, h2, h3⟩
      have HN := Lib.hid (HF.out _ _ (pw_below_drewN (Below.refl _ _) _) h2 h3)
      clear h2 h3
      go_wp2_with fail
      go_ret
      exact ⟨by rw [HE.out]; first | rfl | simp, _, _, by rw [HE.out]; exact HN.out⟩
end Go.Proofs.Ytkijjgdcbgmglaa.Q

/-! An event is taken, by hand (ends). -/
namespace Go.Proofs.Ytkijjgdcbgmglaa.Q
open Go.RowKit Go.Lib Go.Maps Go.Proofs.Ytkijjgdcbgmglaa Go.Proofs.YtkijjgdcbgmglaaW.PrintWords Go.Proofs.YtkijjgdcbgmglaaW.PrintLast Go.Proofs.YtkijjgdcbgmglaaW.PrintMore
set_option linter.unusedVariables false
set_option linter.unusedSimpArgs false
attribute [local go_sem high] eqA42
set_option maxRecDepth 100000 in
set_option maxHeartbeats 4000000 in
theorem take_none0 (W : World) (base pb k : Nat) (v : Value) (bs : List (Nat × Nat × Nat)) (all : List Life) (hp : W.heap[pb]? = some (.cells #[v] 69 (0, 0))) (hb : base ≤ pb) (hL : LivesV base W k v bs all) (hl : all.length ≤ 1000) (n e0 e2 e3 e4 : Int) (k0 : (e0 == 0) = false) (c2 : (e2 == 0) = false) (k1 : (e0 == 1) = false) (k2 : (e0 == 2) = false) (k3 : (e0 == 3) = false) (k4 : (e0 == 4) = false) (i : Nat) (hi : i < all.length) (hf : ∀ l, all[i]? = some l → l.fin < 0) :
    Calls Try.prog 48 #[ptr pb, .int .i64 n, .agg #[.int .i64 e0, .int .i64 ((i : Int) + 1), .int .i64 e2, .int .i64 e3, .int .i64 e4]] W (Taken base W pb (k + 1) (takeL all n ⟨e0, ((i : Int) + 1), e2, ⟨e3, e4⟩⟩)) := by
  obtain ⟨r, hr⟩ : ∃ r, takeL all n ⟨e0, ((i : Int) + 1), e2, ⟨e3, e4⟩⟩ = r := ⟨_, rfl⟩
  rw [hr]
  have h0' : ¬ e0 = 0 := by simpa using k0
  have hu44 := Try.underlying44
  have hu42 := Try.underlying42
  have hu86 := Try.underlying86
  have hu83 := Try.underlying83
  have hu69 := Try.underlying69
  obtain ⟨W1, hW1, K1, hB1⟩ : ∃ W1, W.alloc (.cells #[.int .i64 e0, .int .i64 ((i : Int) + 1), .int .i64 e2, .int .i64 e3, .int .i64 e4] 44) = W1 ∧ W1.heap[W.heap.size]? = some (.cells #[.int .i64 e0, .int .i64 ((i : Int) + 1), .int .i64 e2, .int .i64 e3, .int .i64 e4] 44 (0, 0)) ∧ Below W.heap.size W W1 := ⟨_, rfl, heap_alloc_new _ _, bOne _⟩
  have q0 : W1.cell? ⟨W.heap.size, 0, none⟩ = some (.int .i64 e0) := blk_cell K1 0
  have q1 : W1.cell? ⟨W.heap.size, 1, none⟩ = some (.int .i64 (((i : Int) + 1))) := blk_cell K1 1
  have q2 : W1.cell? ⟨W.heap.size, 2, none⟩ = some (.int .i64 e2) := blk_cell K1 2
  have q3 : W1.cell? ⟨W.heap.size, 3, none⟩ = some (.int .i64 e3) := blk_cell K1 3
  have q4 : W1.cell? ⟨W.heap.size, 4, none⟩ = some (.int .i64 e4) := blk_cell K1 4
  have hbW : base ≤ W.heap.size := Nat.le_trans hb (Nat.le_of_lt (blk_lt hp))
  obtain ⟨⟨b, rb, wb⟩, hbi⟩ : ∃ q, bs[i]? = some q := ⟨_, List.getElem?_eq_getElem (by rw [hL.at_.len]; exact hi)⟩
  obtain ⟨l, hli⟩ : ∃ l, all[i]? = some l := ⟨_, List.getElem?_eq_getElem hi⟩
  have hA := hL.at_.at_ i b rb wb l hbi hli
  rcases own_at_ hL.row with ⟨rfl, hz⟩ | ⟨g, c, rfl, -, -, -, hc⟩
  · omega
  have a0 : W1.cell? ⟨g, i, none⟩ = some (ptr b) := (bcell hB1).1 g i (World.block_lt_of_cell? _ _ (hc i (ptr b) (by rw [List.getElem?_map, hbi]; rfl)).1) |>.trans (hc i (ptr b) (by rw [List.getElem?_map, hbi]; rfl)).1
  have a1 : W1.cell? ⟨b, 1, none⟩ = some (.int .i64 l.fin) := blk_cell (blk_below hA.hb hB1) 1
  have p0 : W1.cell? ⟨pb, 0, none⟩ = some (.slice (some ⟨g, 0, none⟩) all.length c) := blk_cell (blk_below hp hB1) 0
  have d1 : decide ((i : Int) + 1 < 1) = false := by simp; omega
  have d2 : decide ((i : Int) + 1 > (all.length : Int)) = false := by simp; omega
  have hw : wrap64 ((i : Int) + 1 - 1) = i := by unfold wrap64; omega
  have hw' : wrap64 ((i : Int) + 1 + -1) = i := by unfold wrap64; omega
  have hi0 : (0 : Int) ≤ i := by omega
  have hi1 : (i : Int) < all.length := by omega
  have hit : ((i : Int) + 1 - 1).toNat = i := by omega
  have HF := Lib.hid (show ∀ V, Below W1.heap.size W1 V → V.heap[pb]? = some (.cells #[.slice (some ⟨g, 0, none⟩) all.length c] 69 (0, 0)) ∧ LivesV base V (k + 1) (.slice (some ⟨g, 0, none⟩) all.length c) bs all ∧ Below base W V from fun V hV => ⟨blk_below (blk_below hp hB1) hV, (hL.below (bAfter hB1 hV)).more (Nat.le_succ _), below_le (bAfter hB1 hV) hbW⟩)
  have hff := hf l hli
  have d3 : decide (l.fin ≥ 0) = false := by simp; omega
  have HE := Lib.hid (show r = (all, false) by
    rw [← hr]
    unfold takeL
    rw [if_neg h0', if_neg (by dsimp only; omega)]
    simp only [hit, hli]
    rw [if_neg (by omega), if_neg (by simpa using And.intro k1 k2), if_neg (by simpa using And.intro k3 k4)])
  clear hr hp hL hB1 K1 h0' hbW hc hf hA hli hbi hi hit hff
  go_enter Try.func48, Try.ntmps48
  go_wp2_with fail
  all_goals
    go_quiet (fail)
    go_wp2_with fail
    go_quiet (fail)
    go_wp2_with fail
    go_ret
    exact ⟨by rw [HE.out]; first | rfl | simp, _, _, by rw [HE.out]; exact HF.out _ (pw_below_drewN (Below.refl _ _) _)⟩
set_option maxRecDepth 100000 in
set_option maxHeartbeats 4000000 in
theorem take_none1 (W : World) (base pb k : Nat) (v : Value) (bs : List (Nat × Nat × Nat)) (all : List Life) (hp : W.heap[pb]? = some (.cells #[v] 69 (0, 0))) (hb : base ≤ pb) (hL : LivesV base W k v bs all) (hl : all.length ≤ 1000) (n e0 e3 e4 : Int) (k0 : (e0 == 0) = false) (k1 : (e0 == 1) = false) (k2 : (e0 == 2) = false) (k3 : (e0 == 3) = false) (k4 : (e0 == 4) = false) (i : Nat) (hi : i < all.length) (hf : ∀ l, all[i]? = some l → l.fin < 0) :
    Calls Try.prog 48 #[ptr pb, .int .i64 n, .agg #[.int .i64 e0, .int .i64 ((i : Int) + 1), .int .i64 0, .int .i64 e3, .int .i64 e4]] W (Taken base W pb (k + 1) (takeL all n ⟨e0, ((i : Int) + 1), 0, ⟨e3, e4⟩⟩)) := by
  obtain ⟨r, hr⟩ : ∃ r, takeL all n ⟨e0, ((i : Int) + 1), 0, ⟨e3, e4⟩⟩ = r := ⟨_, rfl⟩
  rw [hr]
  have h0' : ¬ e0 = 0 := by simpa using k0
  have hu44 := Try.underlying44
  have hu42 := Try.underlying42
  have hu86 := Try.underlying86
  have hu83 := Try.underlying83
  have hu69 := Try.underlying69
  obtain ⟨W1, hW1, K1, hB1⟩ : ∃ W1, W.alloc (.cells #[.int .i64 e0, .int .i64 ((i : Int) + 1), .int .i64 0, .int .i64 e3, .int .i64 e4] 44) = W1 ∧ W1.heap[W.heap.size]? = some (.cells #[.int .i64 e0, .int .i64 ((i : Int) + 1), .int .i64 0, .int .i64 e3, .int .i64 e4] 44 (0, 0)) ∧ Below W.heap.size W W1 := ⟨_, rfl, heap_alloc_new _ _, bOne _⟩
  have q0 : W1.cell? ⟨W.heap.size, 0, none⟩ = some (.int .i64 e0) := blk_cell K1 0
  have q1 : W1.cell? ⟨W.heap.size, 1, none⟩ = some (.int .i64 (((i : Int) + 1))) := blk_cell K1 1
  have q2 : W1.cell? ⟨W.heap.size, 2, none⟩ = some (.int .i64 0) := blk_cell K1 2
  have q3 : W1.cell? ⟨W.heap.size, 3, none⟩ = some (.int .i64 e3) := blk_cell K1 3
  have q4 : W1.cell? ⟨W.heap.size, 4, none⟩ = some (.int .i64 e4) := blk_cell K1 4
  have hbW : base ≤ W.heap.size := Nat.le_trans hb (Nat.le_of_lt (blk_lt hp))
  obtain ⟨⟨b, rb, wb⟩, hbi⟩ : ∃ q, bs[i]? = some q := ⟨_, List.getElem?_eq_getElem (by rw [hL.at_.len]; exact hi)⟩
  obtain ⟨l, hli⟩ : ∃ l, all[i]? = some l := ⟨_, List.getElem?_eq_getElem hi⟩
  have hA := hL.at_.at_ i b rb wb l hbi hli
  rcases own_at_ hL.row with ⟨rfl, hz⟩ | ⟨g, c, rfl, -, -, -, hc⟩
  · omega
  have a0 : W1.cell? ⟨g, i, none⟩ = some (ptr b) := (bcell hB1).1 g i (World.block_lt_of_cell? _ _ (hc i (ptr b) (by rw [List.getElem?_map, hbi]; rfl)).1) |>.trans (hc i (ptr b) (by rw [List.getElem?_map, hbi]; rfl)).1
  have a1 : W1.cell? ⟨b, 1, none⟩ = some (.int .i64 l.fin) := blk_cell (blk_below hA.hb hB1) 1
  have p0 : W1.cell? ⟨pb, 0, none⟩ = some (.slice (some ⟨g, 0, none⟩) all.length c) := blk_cell (blk_below hp hB1) 0
  have d1 : decide ((i : Int) + 1 < 1) = false := by simp; omega
  have d2 : decide ((i : Int) + 1 > (all.length : Int)) = false := by simp; omega
  have hw : wrap64 ((i : Int) + 1 - 1) = i := by unfold wrap64; omega
  have hw' : wrap64 ((i : Int) + 1 + -1) = i := by unfold wrap64; omega
  have hi0 : (0 : Int) ≤ i := by omega
  have hi1 : (i : Int) < all.length := by omega
  have hit : ((i : Int) + 1 - 1).toNat = i := by omega
  have HF := Lib.hid (show ∀ V, Below W1.heap.size W1 V → V.heap[pb]? = some (.cells #[.slice (some ⟨g, 0, none⟩) all.length c] 69 (0, 0)) ∧ LivesV base V (k + 1) (.slice (some ⟨g, 0, none⟩) all.length c) bs all ∧ Below base W V from fun V hV => ⟨blk_below (blk_below hp hB1) hV, (hL.below (bAfter hB1 hV)).more (Nat.le_succ _), below_le (bAfter hB1 hV) hbW⟩)
  have hff := hf l hli
  have d3 : decide (l.fin ≥ 0) = false := by simp; omega
  have HE := Lib.hid (show r = (all, false) by
    rw [← hr]
    unfold takeL
    rw [if_neg h0', if_neg (by dsimp only; omega)]
    simp only [hit, hli]
    rw [if_neg (by omega), if_neg (by simpa using And.intro k1 k2), if_neg (by simpa using And.intro k3 k4)])
  clear hr hp hL hB1 K1 h0' hbW hc hf hA hli hbi hi hit hff
  go_enter Try.func48, Try.ntmps48
  go_wp2_with fail
  all_goals
    go_quiet (fail)
    go_wp2_with fail
    go_quiet (fail)
    go_wp2_with fail
    go_ret
    exact ⟨by rw [HE.out]; first | rfl | simp, _, _, by rw [HE.out]; exact HF.out _ (pw_below_drewN (Below.refl _ _) _)⟩
theorem end_fin (W W1 : World) (base pb k : Nat) (v : Value) (bs : List (Nat × Nat × Nat)) (all : List Life) (i b rb wb : Nat) (l : Life) (n : Int) (com : Bool) (hp : W.heap[pb]? = some (.cells #[v] 69 (0, 0))) (hb : base ≤ pb) (hL : LivesV base W k v bs all) (hbi : bs[i]? = some (b, rb, wb)) (hli : all[i]? = some l) (hi : i < all.length) (hB1 : Below W.heap.size W W1) (hbW : base ≤ W.heap.size) (m : Nat) :
    ((((W1.drewN m).setCell ⟨b, 1, none⟩ (.int .i64 n)).setCell ⟨b, 2, none⟩ (.bool com)).heap[pb]? = some (.cells #[v] 69 (0, 0))) ∧ LivesV base (((W1.drewN m).setCell ⟨b, 1, none⟩ (.int .i64 n)).setCell ⟨b, 2, none⟩ (.bool com)) (k + 1) v bs (all.set i ⟨l.beg, n, com, l.reads, l.writes⟩) ∧ Below base W (((W1.drewN m).setCell ⟨b, 1, none⟩ (.int .i64 n)).setCell ⟨b, 2, none⟩ (.bool com)) := by
  have hBV : Below W.heap.size W (W1.drewN m) := bAfter hB1 (pw_below_drewN (Below.refl _ _) m)
  generalize W1.drewN m = V at *
  have hLV := hL.below hBV
  have hpV := blk_below hp hBV
  have hA := hLV.at_.at_ i b rb wb l hbi hli
  obtain ⟨m1, m2, m3⟩ := mem_blocks hbi
  have hO : ∀ q, q ≠ b → ((V.setCell ⟨b, 1, none⟩ (.int .i64 n)).setCell ⟨b, 2, none⟩ (.bool com)).heap[q]? = V.heap[q]? := fun q hq => (Below.heap_setCell (V.setCell ⟨b, 1, none⟩ (.int .i64 n)) ⟨b, 2, none⟩ (.bool com) q hq).trans (Below.heap_setCell V ⟨b, 1, none⟩ (.int .i64 n) q hq)
  have nb : ∀ q cs t, V.heap[q]? = some (.cells cs t (0, 0)) → t ≠ 86 → q ≠ b := fun q cs t hq ht e => by
    subst e
    rw [hA.hb] at hq
    injection hq with hq
    injection hq with _ hq
    exact ht hq.symm
  have n1 : rb ≠ b := fun e => hA.hr.not_cells (by rw [e]; exact hA.hb)
  have n2 : wb ≠ b := fun e => hA.hw.not_cells (by rw [e]; exact hA.hb)
  refine ⟨(hO pb (nb _ _ _ hpV (by decide))).trans hpV, ⟨?_, ?_⟩, ?_⟩
  · rw [List.length_set]
    obtain ⟨h0, h2⟩ := hLV.row
    refine ⟨h0, ?_⟩
    rcases h2 with ⟨e, h3⟩ | ⟨g', cap, cur, e, h3, h4, h5⟩
    · exact .inl ⟨e, h3⟩
    · exact .inr ⟨g', cap, cur, e, h3, (hO g' (nb _ _ _ h4 (by decide))).trans h4, h5⟩
  · refine (hLV.at_.more (Nat.le_succ k)).turn hbi hi (fun q _ h1 _ _ => hO q h1) ⟨?_, ?_, ?_⟩
    · exact blk_set (blk_set hA.hb 1 _) 2 _
    · exact (hA.hr.same (hO rb n1)).more (Nat.le_succ k)
    · exact (hA.hw.same (hO wb n2)).more (Nat.le_succ k)
  · have lb := hL.at_.lo b m1
    exact ((below_le hBV hbW).setCell (p := ⟨b, 1, none⟩) lb _).setCell (p := ⟨b, 2, none⟩) lb _
set_option maxRecDepth 100000 in
set_option maxHeartbeats 4000000 in
theorem take_end00 (W : World) (base pb k : Nat) (v : Value) (bs : List (Nat × Nat × Nat)) (all : List Life) (hp : W.heap[pb]? = some (.cells #[v] 69 (0, 0))) (hb : base ≤ pb) (hL : LivesV base W k v bs all) (hl : all.length ≤ 1000) (n e0 e2 e3 e4 : Int) (k0 : (e0 == 0) = false) (c2 : (e2 == 0) = false) (k3 : (e0 == 3) = true) (k1 : (e0 == 1) = false) (k2 : (e0 == 2) = false) (i : Nat) (hi : i < all.length) (hf : ∀ l, all[i]? = some l → l.fin < 0) :
    Calls Try.prog 48 #[ptr pb, .int .i64 n, .agg #[.int .i64 e0, .int .i64 ((i : Int) + 1), .int .i64 e2, .int .i64 e3, .int .i64 e4]] W (Taken base W pb (k + 1) (takeL all n ⟨e0, ((i : Int) + 1), e2, ⟨e3, e4⟩⟩)) := by
  obtain ⟨r, hr⟩ : ∃ r, takeL all n ⟨e0, ((i : Int) + 1), e2, ⟨e3, e4⟩⟩ = r := ⟨_, rfl⟩
  rw [hr]
  have h0' : ¬ e0 = 0 := by simpa using k0
  have hu44 := Try.underlying44
  have hu42 := Try.underlying42
  have hu86 := Try.underlying86
  have hu83 := Try.underlying83
  have hu69 := Try.underlying69
  obtain ⟨W1, hW1, K1, hB1⟩ : ∃ W1, W.alloc (.cells #[.int .i64 e0, .int .i64 ((i : Int) + 1), .int .i64 e2, .int .i64 e3, .int .i64 e4] 44) = W1 ∧ W1.heap[W.heap.size]? = some (.cells #[.int .i64 e0, .int .i64 ((i : Int) + 1), .int .i64 e2, .int .i64 e3, .int .i64 e4] 44 (0, 0)) ∧ Below W.heap.size W W1 := ⟨_, rfl, heap_alloc_new _ _, bOne _⟩
  have q0 : W1.cell? ⟨W.heap.size, 0, none⟩ = some (.int .i64 e0) := blk_cell K1 0
  have q1 : W1.cell? ⟨W.heap.size, 1, none⟩ = some (.int .i64 (((i : Int) + 1))) := blk_cell K1 1
  have q2 : W1.cell? ⟨W.heap.size, 2, none⟩ = some (.int .i64 e2) := blk_cell K1 2
  have q3 : W1.cell? ⟨W.heap.size, 3, none⟩ = some (.int .i64 e3) := blk_cell K1 3
  have q4 : W1.cell? ⟨W.heap.size, 4, none⟩ = some (.int .i64 e4) := blk_cell K1 4
  have hbW : base ≤ W.heap.size := Nat.le_trans hb (Nat.le_of_lt (blk_lt hp))
  obtain ⟨⟨b, rb, wb⟩, hbi⟩ : ∃ q, bs[i]? = some q := ⟨_, List.getElem?_eq_getElem (by rw [hL.at_.len]; exact hi)⟩
  obtain ⟨l, hli⟩ : ∃ l, all[i]? = some l := ⟨_, List.getElem?_eq_getElem hi⟩
  have hA := hL.at_.at_ i b rb wb l hbi hli
  rcases own_at_ hL.row with ⟨rfl, hz⟩ | ⟨g, c, rfl, -, -, -, hc⟩
  · omega
  have a0 : W1.cell? ⟨g, i, none⟩ = some (ptr b) := (bcell hB1).1 g i (World.block_lt_of_cell? _ _ (hc i (ptr b) (by rw [List.getElem?_map, hbi]; rfl)).1) |>.trans (hc i (ptr b) (by rw [List.getElem?_map, hbi]; rfl)).1
  have a1 : W1.cell? ⟨b, 1, none⟩ = some (.int .i64 l.fin) := blk_cell (blk_below hA.hb hB1) 1
  have p0 : W1.cell? ⟨pb, 0, none⟩ = some (.slice (some ⟨g, 0, none⟩) all.length c) := blk_cell (blk_below hp hB1) 0
  have d1 : decide ((i : Int) + 1 < 1) = false := by simp; omega
  have d2 : decide ((i : Int) + 1 > (all.length : Int)) = false := by simp; omega
  have hw : wrap64 ((i : Int) + 1 - 1) = i := by unfold wrap64; omega
  have hw' : wrap64 ((i : Int) + 1 + -1) = i := by unfold wrap64; omega
  have hi0 : (0 : Int) ≤ i := by omega
  have hi1 : (i : Int) < all.length := by omega
  have hit : ((i : Int) + 1 - 1).toNat = i := by omega
  have hff := hf l hli
  have d3 : decide (l.fin ≥ 0) = false := by simp; omega
  have HE := Lib.hid (show r = (all.set i ⟨l.beg, n, true, l.reads, l.writes⟩, plainE ⟨e0, (i : Int) + 1, e2, ⟨e3, e4⟩⟩) by
    rw [← hr]
    unfold takeL
    rw [if_neg h0', if_neg (by dsimp only; omega)]
    simp only [hit, hli]
    rw [if_neg (by omega), if_neg (by simpa using And.intro k1 k2), if_pos (by simp at k3; first | exact .inl k3 | (simp at k4; exact .inr k4))]
    have : decide (e0 = 3) = true := k3
    rw [this])
  have b1 : W1.frozen? ⟨b, 1, none⟩ = false := blk_frozen (blk_below hA.hb hB1) 1
  have b2 : W1.frozen? ⟨b, 2, none⟩ = false := blk_frozen (blk_below hA.hb hB1) 2
  have b2 : W1.cell? ⟨b, 2, none⟩ = some (.bool l.com) := blk_cell (blk_below hA.hb hB1) 2
  have HF := Lib.hid (end_fin W W1 base pb k (.slice (some ⟨g, 0, none⟩) all.length c) bs all i b rb wb l n true hp hb hL hbi hli hi hB1 hbW)
  clear hr hp hL hB1 K1 h0' hbW hc hf hA hli hbi hi hit hff
  go_enter Try.func48, Try.ntmps48
  go_wp2_with fail
  all_goals
    go_quiet (fail)
    go_wp2_with fail
    go_quiet (fail)
    go_wp2_with fail
    go_region
    go_wp2_with fail
    go_ret
    exact ⟨by rw [HE.out]; first | rfl | (have h2 : e2 ≠ 0 := (by simpa using c2); simp [plainE, h2]), _, _, by rw [HE.out]; exact HF.out _⟩
set_option maxRecDepth 100000 in
set_option maxHeartbeats 4000000 in
theorem take_end10 (W : World) (base pb k : Nat) (v : Value) (bs : List (Nat × Nat × Nat)) (all : List Life) (hp : W.heap[pb]? = some (.cells #[v] 69 (0, 0))) (hb : base ≤ pb) (hL : LivesV base W k v bs all) (hl : all.length ≤ 1000) (n e0 e3 e4 : Int) (k0 : (e0 == 0) = false) (k3 : (e0 == 3) = true) (k1 : (e0 == 1) = false) (k2 : (e0 == 2) = false) (i : Nat) (hi : i < all.length) (hf : ∀ l, all[i]? = some l → l.fin < 0) :
    Calls Try.prog 48 #[ptr pb, .int .i64 n, .agg #[.int .i64 e0, .int .i64 ((i : Int) + 1), .int .i64 0, .int .i64 e3, .int .i64 e4]] W (Taken base W pb (k + 1) (takeL all n ⟨e0, ((i : Int) + 1), 0, ⟨e3, e4⟩⟩)) := by
  obtain ⟨r, hr⟩ : ∃ r, takeL all n ⟨e0, ((i : Int) + 1), 0, ⟨e3, e4⟩⟩ = r := ⟨_, rfl⟩
  rw [hr]
  have h0' : ¬ e0 = 0 := by simpa using k0
  have hu44 := Try.underlying44
  have hu42 := Try.underlying42
  have hu86 := Try.underlying86
  have hu83 := Try.underlying83
  have hu69 := Try.underlying69
  obtain ⟨W1, hW1, K1, hB1⟩ : ∃ W1, W.alloc (.cells #[.int .i64 e0, .int .i64 ((i : Int) + 1), .int .i64 0, .int .i64 e3, .int .i64 e4] 44) = W1 ∧ W1.heap[W.heap.size]? = some (.cells #[.int .i64 e0, .int .i64 ((i : Int) + 1), .int .i64 0, .int .i64 e3, .int .i64 e4] 44 (0, 0)) ∧ Below W.heap.size W W1 := ⟨_, rfl, heap_alloc_new _ _, bOne _⟩
  have q0 : W1.cell? ⟨W.heap.size, 0, none⟩ = some (.int .i64 e0) := blk_cell K1 0
  have q1 : W1.cell? ⟨W.heap.size, 1, none⟩ = some (.int .i64 (((i : Int) + 1))) := blk_cell K1 1
  have q2 : W1.cell? ⟨W.heap.size, 2, none⟩ = some (.int .i64 0) := blk_cell K1 2
  have q3 : W1.cell? ⟨W.heap.size, 3, none⟩ = some (.int .i64 e3) := blk_cell K1 3
  have q4 : W1.cell? ⟨W.heap.size, 4, none⟩ = some (.int .i64 e4) := blk_cell K1 4
  have hbW : base ≤ W.heap.size := Nat.le_trans hb (Nat.le_of_lt (blk_lt hp))
  obtain ⟨⟨b, rb, wb⟩, hbi⟩ : ∃ q, bs[i]? = some q := ⟨_, List.getElem?_eq_getElem (by rw [hL.at_.len]; exact hi)⟩
  obtain ⟨l, hli⟩ : ∃ l, all[i]? = some l := ⟨_, List.getElem?_eq_getElem hi⟩
  have hA := hL.at_.at_ i b rb wb l hbi hli
  rcases own_at_ hL.row with ⟨rfl, hz⟩ | ⟨g, c, rfl, -, -, -, hc⟩
  · omega
  have a0 : W1.cell? ⟨g, i, none⟩ = some (ptr b) := (bcell hB1).1 g i (World.block_lt_of_cell? _ _ (hc i (ptr b) (by rw [List.getElem?_map, hbi]; rfl)).1) |>.trans (hc i (ptr b) (by rw [List.getElem?_map, hbi]; rfl)).1
  have a1 : W1.cell? ⟨b, 1, none⟩ = some (.int .i64 l.fin) := blk_cell (blk_below hA.hb hB1) 1
  have p0 : W1.cell? ⟨pb, 0, none⟩ = some (.slice (some ⟨g, 0, none⟩) all.length c) := blk_cell (blk_below hp hB1) 0
  have d1 : decide ((i : Int) + 1 < 1) = false := by simp; omega
  have d2 : decide ((i : Int) + 1 > (all.length : Int)) = false := by simp; omega
  have hw : wrap64 ((i : Int) + 1 - 1) = i := by unfold wrap64; omega
  have hw' : wrap64 ((i : Int) + 1 + -1) = i := by unfold wrap64; omega
  have hi0 : (0 : Int) ≤ i := by omega
  have hi1 : (i : Int) < all.length := by omega
  have hit : ((i : Int) + 1 - 1).toNat = i := by omega
  have hff := hf l hli
  have d3 : decide (l.fin ≥ 0) = false := by simp; omega
  have HE := Lib.hid (show r = (all.set i ⟨l.beg, n, true, l.reads, l.writes⟩, plainE ⟨e0, (i : Int) + 1, 0, ⟨e3, e4⟩⟩) by
    rw [← hr]
    unfold takeL
    rw [if_neg h0', if_neg (by dsimp only; omega)]
    simp only [hit, hli]
    rw [if_neg (by omega), if_neg (by simpa using And.intro k1 k2), if_pos (by simp at k3; first | exact .inl k3 | (simp at k4; exact .inr k4))]
    have : decide (e0 = 3) = true := k3
    rw [this])
  have b1 : W1.frozen? ⟨b, 1, none⟩ = false := blk_frozen (blk_below hA.hb hB1) 1
  have b2 : W1.frozen? ⟨b, 2, none⟩ = false := blk_frozen (blk_below hA.hb hB1) 2
  have b2 : W1.cell? ⟨b, 2, none⟩ = some (.bool l.com) := blk_cell (blk_below hA.hb hB1) 2
  have HF := Lib.hid (end_fin W W1 base pb k (.slice (some ⟨g, 0, none⟩) all.length c) bs all i b rb wb l n true hp hb hL hbi hli hi hB1 hbW)
  clear hr hp hL hB1 K1 h0' hbW hc hf hA hli hbi hi hit hff
  go_enter Try.func48, Try.ntmps48
  go_wp2_with fail
  all_goals
    go_quiet (fail)
    go_wp2_with fail
    go_quiet (fail)
    go_wp2_with fail
    go_region
    go_wp2_with fail
    go_ret
    exact ⟨by rw [HE.out]; first | rfl | (simp [plainE]; done) | (simp [plainE]; rfl), _, _, by rw [HE.out]; exact HF.out _⟩
set_option maxRecDepth 100000 in
set_option maxHeartbeats 4000000 in
theorem take_end01 (W : World) (base pb k : Nat) (v : Value) (bs : List (Nat × Nat × Nat)) (all : List Life) (hp : W.heap[pb]? = some (.cells #[v] 69 (0, 0))) (hb : base ≤ pb) (hL : LivesV base W k v bs all) (hl : all.length ≤ 1000) (n e0 e2 e3 e4 : Int) (k0 : (e0 == 0) = false) (c2 : (e2 == 0) = false) (k3 : (e0 == 3) = false) (k4 : (e0 == 4) = true) (k1 : (e0 == 1) = false) (k2 : (e0 == 2) = false) (i : Nat) (hi : i < all.length) (hf : ∀ l, all[i]? = some l → l.fin < 0) :
    Calls Try.prog 48 #[ptr pb, .int .i64 n, .agg #[.int .i64 e0, .int .i64 ((i : Int) + 1), .int .i64 e2, .int .i64 e3, .int .i64 e4]] W (Taken base W pb (k + 1) (takeL all n ⟨e0, ((i : Int) + 1), e2, ⟨e3, e4⟩⟩)) := by
  obtain ⟨r, hr⟩ : ∃ r, takeL all n ⟨e0, ((i : Int) + 1), e2, ⟨e3, e4⟩⟩ = r := ⟨_, rfl⟩
  rw [hr]
  have h0' : ¬ e0 = 0 := by simpa using k0
  have hu44 := Try.underlying44
  have hu42 := Try.underlying42
  have hu86 := Try.underlying86
  have hu83 := Try.underlying83
  have hu69 := Try.underlying69
  obtain ⟨W1, hW1, K1, hB1⟩ : ∃ W1, W.alloc (.cells #[.int .i64 e0, .int .i64 ((i : Int) + 1), .int .i64 e2, .int .i64 e3, .int .i64 e4] 44) = W1 ∧ W1.heap[W.heap.size]? = some (.cells #[.int .i64 e0, .int .i64 ((i : Int) + 1), .int .i64 e2, .int .i64 e3, .int .i64 e4] 44 (0, 0)) ∧ Below W.heap.size W W1 := ⟨_, rfl, heap_alloc_new _ _, bOne _⟩
  have q0 : W1.cell? ⟨W.heap.size, 0, none⟩ = some (.int .i64 e0) := blk_cell K1 0
  have q1 : W1.cell? ⟨W.heap.size, 1, none⟩ = some (.int .i64 (((i : Int) + 1))) := blk_cell K1 1
  have q2 : W1.cell? ⟨W.heap.size, 2, none⟩ = some (.int .i64 e2) := blk_cell K1 2
  have q3 : W1.cell? ⟨W.heap.size, 3, none⟩ = some (.int .i64 e3) := blk_cell K1 3
  have q4 : W1.cell? ⟨W.heap.size, 4, none⟩ = some (.int .i64 e4) := blk_cell K1 4
  have hbW : base ≤ W.heap.size := Nat.le_trans hb (Nat.le_of_lt (blk_lt hp))
  obtain ⟨⟨b, rb, wb⟩, hbi⟩ : ∃ q, bs[i]? = some q := ⟨_, List.getElem?_eq_getElem (by rw [hL.at_.len]; exact hi)⟩
  obtain ⟨l, hli⟩ : ∃ l, all[i]? = some l := ⟨_, List.getElem?_eq_getElem hi⟩
  have hA := hL.at_.at_ i b rb wb l hbi hli
  rcases own_at_ hL.row with ⟨rfl, hz⟩ | ⟨g, c, rfl, -, -, -, hc⟩
  · omega
  have a0 : W1.cell? ⟨g, i, none⟩ = some (ptr b) := (bcell hB1).1 g i (World.block_lt_of_cell? _ _ (hc i (ptr b) (by rw [List.getElem?_map, hbi]; rfl)).1) |>.trans (hc i (ptr b) (by rw [List.getElem?_map, hbi]; rfl)).1
  have a1 : W1.cell? ⟨b, 1, none⟩ = some (.int .i64 l.fin) := blk_cell (blk_below hA.hb hB1) 1
  have p0 : W1.cell? ⟨pb, 0, none⟩ = some (.slice (some ⟨g, 0, none⟩) all.length c) := blk_cell (blk_below hp hB1) 0
  have d1 : decide ((i : Int) + 1 < 1) = false := by simp; omega
  have d2 : decide ((i : Int) + 1 > (all.length : Int)) = false := by simp; omega
  have hw : wrap64 ((i : Int) + 1 - 1) = i := by unfold wrap64; omega
  have hw' : wrap64 ((i : Int) + 1 + -1) = i := by unfold wrap64; omega
  have hi0 : (0 : Int) ≤ i := by omega
  have hi1 : (i : Int) < all.length := by omega
  have hit : ((i : Int) + 1 - 1).toNat = i := by omega
  have hff := hf l hli
  have d3 : decide (l.fin ≥ 0) = false := by simp; omega
  have HE := Lib.hid (show r = (all.set i ⟨l.beg, n, false, l.reads, l.writes⟩, plainE ⟨e0, (i : Int) + 1, e2, ⟨e3, e4⟩⟩) by
    rw [← hr]
    unfold takeL
    rw [if_neg h0', if_neg (by dsimp only; omega)]
    simp only [hit, hli]
    rw [if_neg (by omega), if_neg (by simpa using And.intro k1 k2), if_pos (by simp at k3; first | exact .inl k3 | (simp at k4; exact .inr k4))]
    have : decide (e0 = 3) = false := k3
    rw [this])
  have b1 : W1.frozen? ⟨b, 1, none⟩ = false := blk_frozen (blk_below hA.hb hB1) 1
  have b2 : W1.frozen? ⟨b, 2, none⟩ = false := blk_frozen (blk_below hA.hb hB1) 2
  have b2 : W1.cell? ⟨b, 2, none⟩ = some (.bool l.com) := blk_cell (blk_below hA.hb hB1) 2
  have HF := Lib.hid (end_fin W W1 base pb k (.slice (some ⟨g, 0, none⟩) all.length c) bs all i b rb wb l n false hp hb hL hbi hli hi hB1 hbW)
  clear hr hp hL hB1 K1 h0' hbW hc hf hA hli hbi hi hit hff
  go_enter Try.func48, Try.ntmps48
  go_wp2_with fail
  all_goals
    go_quiet (fail)
    go_wp2_with fail
    go_quiet (fail)
    go_wp2_with fail
    go_region
    go_wp2_with fail
    go_ret
    exact ⟨by rw [HE.out]; first | rfl | (have h2 : e2 ≠ 0 := (by simpa using c2); simp [plainE, h2]), _, _, by rw [HE.out]; exact HF.out _⟩
set_option maxRecDepth 100000 in
set_option maxHeartbeats 4000000 in
theorem take_end11 (W : World) (base pb k : Nat) (v : Value) (bs : List (Nat × Nat × Nat)) (all : List Life) (hp : W.heap[pb]? = some (.cells #[v] 69 (0, 0))) (hb : base ≤ pb) (hL : LivesV base W k v bs all) (hl : all.length ≤ 1000) (n e0 e3 e4 : Int) (k0 : (e0 == 0) = false) (k3 : (e0 == 3) = false) (k4 : (e0 == 4) = true) (k1 : (e0 == 1) = false) (k2 : (e0 == 2) = false) (i : Nat) (hi : i < all.length) (hf : ∀ l, all[i]? = some l → l.fin < 0) :
    Calls Try.prog 48 #[ptr pb, .int .i64 n, .agg #[.int .i64 e0, .int .i64 ((i : Int) + 1), .int .i64 0, .int .i64 e3, .int .i64 e4]] W (Taken base W pb (k + 1) (takeL all n ⟨e0, ((i : Int) + 1), 0, ⟨e3, e4⟩⟩)) := by
  obtain ⟨r, hr⟩ : ∃ r, takeL all n ⟨e0, ((i : Int) + 1), 0, ⟨e3, e4⟩⟩ = r := ⟨_, rfl⟩
  rw [hr]
  have h0' : ¬ e0 = 0 := by simpa using k0
  have hu44 := Try.underlying44
  have hu42 := Try.underlying42
  have hu86 := Try.underlying86
  have hu83 := Try.underlying83
  have hu69 := Try.underlying69
  obtain ⟨W1, hW1, K1, hB1⟩ : ∃ W1, W.alloc (.cells #[.int .i64 e0, .int .i64 ((i : Int) + 1), .int .i64 0, .int .i64 e3, .int .i64 e4] 44) = W1 ∧ W1.heap[W.heap.size]? = some (.cells #[.int .i64 e0, .int .i64 ((i : Int) + 1), .int .i64 0, .int .i64 e3, .int .i64 e4] 44 (0, 0)) ∧ Below W.heap.size W W1 := ⟨_, rfl, heap_alloc_new _ _, bOne _⟩
  have q0 : W1.cell? ⟨W.heap.size, 0, none⟩ = some (.int .i64 e0) := blk_cell K1 0
  have q1 : W1.cell? ⟨W.heap.size, 1, none⟩ = some (.int .i64 (((i : Int) + 1))) := blk_cell K1 1
  have q2 : W1.cell? ⟨W.heap.size, 2, none⟩ = some (.int .i64 0) := blk_cell K1 2
  have q3 : W1.cell? ⟨W.heap.size, 3, none⟩ = some (.int .i64 e3) := blk_cell K1 3
  have q4 : W1.cell? ⟨W.heap.size, 4, none⟩ = some (.int .i64 e4) := blk_cell K1 4
  have hbW : base ≤ W.heap.size := Nat.le_trans hb (Nat.le_of_lt (blk_lt hp))
  obtain ⟨⟨b, rb, wb⟩, hbi⟩ : ∃ q, bs[i]? = some q := ⟨_, List.getElem?_eq_getElem (by rw [hL.at_.len]; exact hi)⟩
  obtain ⟨l, hli⟩ : ∃ l, all[i]? = some l := ⟨_, List.getElem?_eq_getElem hi⟩
  have hA := hL.at_.at_ i b rb wb l hbi hli
  rcases own_at_ hL.row with ⟨rfl, hz⟩ | ⟨g, c, rfl, -, -, -, hc⟩
  · omega
  have a0 : W1.cell? ⟨g, i, none⟩ = some (ptr b) := (bcell hB1).1 g i (World.block_lt_of_cell? _ _ (hc i (ptr b) (by rw [List.getElem?_map, hbi]; rfl)).1) |>.trans (hc i (ptr b) (by rw [List.getElem?_map, hbi]; rfl)).1
  have a1 : W1.cell? ⟨b, 1, none⟩ = some (.int .i64 l.fin) := blk_cell (blk_below hA.hb hB1) 1
  have p0 : W1.cell? ⟨pb, 0, none⟩ = some (.slice (some ⟨g, 0, none⟩) all.length c) := blk_cell (blk_below hp hB1) 0
  have d1 : decide ((i : Int) + 1 < 1) = false := by simp; omega
  have d2 : decide ((i : Int) + 1 > (all.length : Int)) = false := by simp; omega
  have hw : wrap64 ((i : Int) + 1 - 1) = i := by unfold wrap64; omega
  have hw' : wrap64 ((i : Int) + 1 + -1) = i := by unfold wrap64; omega
  have hi0 : (0 : Int) ≤ i := by omega
  have hi1 : (i : Int) < all.length := by omega
  have hit : ((i : Int) + 1 - 1).toNat = i := by omega
  have hff := hf l hli
  have d3 : decide (l.fin ≥ 0) = false := by simp; omega
  have HE := Lib.hid (show r = (all.set i ⟨l.beg, n, false, l.reads, l.writes⟩, plainE ⟨e0, (i : Int) + 1, 0, ⟨e3, e4⟩⟩) by
    rw [← hr]
    unfold takeL
    rw [if_neg h0', if_neg (by dsimp only; omega)]
    simp only [hit, hli]
    rw [if_neg (by omega), if_neg (by simpa using And.intro k1 k2), if_pos (by simp at k3; first | exact .inl k3 | (simp at k4; exact .inr k4))]
    have : decide (e0 = 3) = false := k3
    rw [this])
  have b1 : W1.frozen? ⟨b, 1, none⟩ = false := blk_frozen (blk_below hA.hb hB1) 1
  have b2 : W1.frozen? ⟨b, 2, none⟩ = false := blk_frozen (blk_below hA.hb hB1) 2
  have b2 : W1.cell? ⟨b, 2, none⟩ = some (.bool l.com) := blk_cell (blk_below hA.hb hB1) 2
  have HF := Lib.hid (end_fin W W1 base pb k (.slice (some ⟨g, 0, none⟩) all.length c) bs all i b rb wb l n false hp hb hL hbi hli hi hB1 hbW)
  clear hr hp hL hB1 K1 h0' hbW hc hf hA hli hbi hi hit hff
  go_enter Try.func48, Try.ntmps48
  go_wp2_with fail
  all_goals
    go_quiet (fail)
    go_wp2_with fail
    go_quiet (fail)
    go_wp2_with fail
    go_region
    go_wp2_with fail
    go_ret
    exact ⟨by rw [HE.out]; first | rfl | (simp [plainE]; done) | (simp [plainE]; rfl), _, _, by rw [HE.out]; exact HF.out _⟩
/-- An event is taken. -/
theorem take_calls (W : World) (base pb k : Nat) (v : Value) (bs : List (Nat × Nat × Nat)) (all : List Life) (hp : W.heap[pb]? = some (.cells #[v] 69 (0, 0))) (hb : base ≤ pb) (hL : LivesV base W k v bs all) (hl : all.length ≤ 1000) (hk : k < 1000000) (n e0 e1 e2 e3 e4 : Int) :
    Calls Try.prog 48 #[ptr pb, .int .i64 n, .agg #[.int .i64 e0, .int .i64 e1, .int .i64 e2, .int .i64 e3, .int .i64 e4]] W (Taken base W pb (k + 1) (takeL all n ⟨e0, e1, e2, ⟨e3, e4⟩⟩)) := by
  by_cases h0 : e0 = 0
  · subst h0
    have hL' := hL.more (Nat.le_succ k)
    cases c2 : (e2 == 0) with
    | false => exact take_begin0 W base pb (k + 1) v bs all hp hb hL' hl n e1 e2 e3 e4 c2
    | true =>
      obtain rfl : e2 = 0 := by simpa using c2
      cases c3 : (e3 == 0 && (e4 == 0)) with
      | false => exact take_begin1 W base pb (k + 1) v bs all hp hb hL' hl n e1 0 e3 e4 c3
      | true =>
        obtain ⟨rfl, rfl⟩ : e3 = 0 ∧ e4 = 0 := by simpa using c3
        cases ce : (e1 == (all.length : Int) + 1) with
        | false => exact take_begin2 W base pb (k + 1) v bs all hp hb hL' hl n e1 0 0 0 ce
        | true => exact take_begin3 W base pb (k + 1) v bs all hp hb hL' hl n e1 0 0 0 ce
  · have k0 : (e0 == 0) = false := by simpa using h0
    by_cases h1 : e1 < 1
    · exact take_low W base pb k v bs all hp hb hL hl n e0 e1 e2 e3 e4 k0 h1
    by_cases h2 : (all.length : Int) < e1
    · exact take_high W base pb k v bs all hp hb hL hl n e0 e1 e2 e3 e4 k0 (by omega) h2
    obtain ⟨i, rfl⟩ : ∃ i : Nat, e1 = (i : Int) + 1 := ⟨(e1 - 1).toNat, by omega⟩
    have hi : i < all.length := by omega
    have hli : all[i]? = some all[i] := List.getElem?_eq_getElem hi
    by_cases hf : 0 ≤ (all[i]).fin
    · exact take_over W base pb k v bs all hp hb hL hl n e0 e2 e3 e4 k0 i hi (fun l h => by rw [hli] at h; injection h with h; subst h; exact hf)
    have hf' : ∀ l, all[i]? = some l → l.fin < 0 := fun l h => by rw [hli] at h; injection h with h; subst h; omega
    cases k1 : (e0 == 1 || e0 == 2) with
    | true =>
      cases c2 : (e2 == 0) with
      | false => exact take_step0 W base pb k v bs all hp hb hL hl n e0 e2 e3 e4 k0 c2 k1 hk i hi hf'
      | true =>
        obtain rfl : e2 = 0 := by simpa using c2
        exact take_step1 W base pb k v bs all hp hb hL hl n e0 e3 e4 k0 k1 hk i hi hf'
    | false =>
      obtain ⟨k1, k2⟩ : (e0 == 1) = false ∧ (e0 == 2) = false := by simpa using k1
      cases k3 : (e0 == 3) with
      | true =>
        cases c2 : (e2 == 0) with
        | false => exact take_end00 W base pb k v bs all hp hb hL hl n e0 e2 e3 e4 k0 c2 k3 k1 k2 i hi hf'
        | true =>
          obtain rfl : e2 = 0 := by simpa using c2
          exact take_end10 W base pb k v bs all hp hb hL hl n e0 e3 e4 k0 k3 k1 k2 i hi hf'
      | false =>
        cases k4 : (e0 == 4) with
        | true =>
          cases c2 : (e2 == 0) with
          | false => exact take_end01 W base pb k v bs all hp hb hL hl n e0 e2 e3 e4 k0 c2 k3 k4 k1 k2 i hi hf'
          | true =>
            obtain rfl : e2 = 0 := by simpa using c2
            exact take_end11 W base pb k v bs all hp hb hL hl n e0 e3 e4 k0 k3 k4 k1 k2 i hi hf'
        | false =>
          cases c2 : (e2 == 0) with
          | false => exact take_none0 W base pb k v bs all hp hb hL hl n e0 e2 e3 e4 k0 c2 k1 k2 k3 k4 i hi hf'
          | true =>
            obtain rfl : e2 = 0 := by simpa using c2
            exact take_none1 W base pb k v bs all hp hb hL hl n e0 e3 e4 k0 k1 k2 k3 k4 i hi hf'
end Go.Proofs.Ytkijjgdcbgmglaa.Q
