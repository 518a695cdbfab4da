/- What is asked of a transaction ahead of each statement: it answers as it should. -/
import Derived.Test.YtaagbiaddgohkaaHWrites
import Derived.Test.YtaagbiaddgohkaaHEq
namespace Go.Proofs.Ytaagbiaddgohkaa.Q
open Go.RowKit Go.Lib Go.Proofs.Ytaagbiaddgohkaa Go.Proofs.YtaagbiaddgohkaaW.PrintWords Go.Proofs.YtaagbiaddgohkaaW.PrintLast Go.Proofs.YtaagbiaddgohkaaW.PrintMore
set_option linter.unusedVariables false
set_option linter.unusedSimpArgs false
attribute [local go_sem high] eqA34

def warpbeamlaw08_alive.f : Option Bool := some true

def st1 : S39 := ⟨1, ⟨1, 5⟩, true⟩
def st2 : S39 := ⟨1, ⟨1, 6⟩, true⟩
def st3 : S39 := ⟨2, ⟨1, 6⟩, false⟩
theorem al1 : addL [] st1 = ([st1], 0) := by kernel_rfl
theorem al2 : addL [st1] st2 = ([st1, st2], 0) := by kernel_rfl
theorem al3 : addL [st1, st2] st3 = ([st1, st2, st3], 0) := by kernel_rfl
theorem al4 : backL [st1, st2, st3] 1 = ([st1, st3], 0) := by kernel_rfl
theorem al5 : lookL [st1, st3] 1 = (⟨1, 5⟩, true) := by kernel_rfl
theorem al6 : lookL [st1, st2, st3] 1 = (⟨1, 6⟩, true) := by kernel_rfl
theorem al7 : (readsL [st1, st3]).length = 1 := by kernel_rfl
theorem al8 : (writesL [st1, st2, st3]).length = 1 := by kernel_rfl

set_option maxHeartbeats 4000000 in
theorem warpbeamlaw08_alive.calls (r : Bool) (w : World) (h : warpbeamlaw08_alive.f = some r) :
    Calls Try.prog 6 #[] w fun e w' => e = .returned (.bool r) ∧ Below w.heap.size w w' := by
  obtain rfl : true = r := Option.some.inj h
  clear h
  have hu := Try.underlying34
  obtain ⟨L1, hL1⟩ : ∃ L : List S39, [st1] = L := ⟨_, rfl⟩
  obtain ⟨L2, hL2⟩ : ∃ L : List S39, [st1, st2] = L := ⟨_, rfl⟩
  obtain ⟨L3, hL3⟩ : ∃ L : List S39, [st1, st2, st3] = L := ⟨_, rfl⟩
  obtain ⟨L4, hL4⟩ : ∃ L : List S39, [st1, st3] = L := ⟨_, rfl⟩
  have C1 : ∀ W, Calls Try.prog 8 #[.slice none 0 0, .int .i64 1, .agg #[.int .i64 1, .int .i64 5]] W (Got W L1 0) := fun W => by
    have := write_calls none 0 [] 1 ⟨1, 5⟩ W (Kd.R_reads' (Kd.R_nil k39 39 W 0 (fun _ => True))).2.2 (Nat.le_refl _) (by decide)
    rw [show addL [] (S39.mk 1 ⟨1, 5⟩ true) = ([st1], 0) from al1, hL1] at this
    exact this
  have C2 : ∀ W A c, Kd.C k39 W A L1.length L1 → L1.length ≤ c → Calls Try.prog 13 #[.slice A L1.length c] W fun e w' => e = .returned (.int .i64 1) ∧ Below W.heap.size W w' := fun W A c h1 h2 =>
    (txn_Save.calls A c L1 1 W h1 h2 (by rw [← hL1]; rfl)).mono fun e w' h => ⟨h.1, h.2.below⟩
  have C3 : ∀ W A c, Kd.C k39 W A L1.length L1 → L1.length ≤ c → Calls Try.prog 8 #[.slice A L1.length c, .int .i64 1, .agg #[.int .i64 1, .int .i64 6]] W (Got W L2 0) := fun W A c h1 h2 => by
    have := write_calls A c L1 1 ⟨1, 6⟩ W h1 h2 (by rw [← hL1]; decide)
    rw [← hL1, show addL [st1] (S39.mk 1 ⟨1, 6⟩ true) = ([st1, st2], 0) from al2, hL1, hL2] at this
    exact this
  have C4 : ∀ W A c, Kd.C k39 W A L2.length L2 → L2.length ≤ c → Calls Try.prog 15 #[.slice A L2.length c, .int .i64 2, .agg #[.int .i64 1, .int .i64 6]] W (Got W L3 0) := fun W A c h1 h2 => by
    have := read_calls A c L2 2 ⟨1, 6⟩ W h1 h2 (by rw [← hL2]; decide)
    rw [← hL2, show addL [st1, st2] (S39.mk 2 ⟨1, 6⟩ false) = ([st1, st2, st3], 0) from al3, hL2, hL3] at this
    exact this
  have C5 : ∀ W A c, Kd.C k39 W A L3.length L3 → L3.length ≤ c → Calls Try.prog 10 #[.slice A L3.length c, .int .i64 1] W (Got W L4 0) := fun W A c h1 h2 => by
    have := back_calls A c L3 1 W h1 h2 (by rw [← hL3]; decide)
    rw [← hL3, al4, hL3, hL4] at this
    exact this
  have C6 : ∀ W A c, Kd.C k39 W A L4.length L4 → Calls Try.prog 16 #[.slice A L4.length c, .int .i64 1] W fun e w' => e = .returned (.tuple #[.agg #[.int .i64 1, .int .i64 5], .bool true]) ∧ Below W.heap.size W w' := fun W A c h1 => by
    have := look_calls A c L4 1 W h1 (by rw [← hL4]; decide)
    rw [← hL4, al5, hL4] at this
    exact this
  have C7 : ∀ W A c, Kd.C k39 W A L3.length L3 → Calls Try.prog 16 #[.slice A L3.length c, .int .i64 1] W fun e w' => e = .returned (.tuple #[.agg #[.int .i64 1, .int .i64 6], .bool true]) ∧ Below W.heap.size W w' := fun W A c h1 => by
    have := look_calls A c L3 1 W h1 (by rw [← hL3]; decide)
    rw [← hL3, al6, hL3] at this
    exact this
  have C8 : ∀ W A c, Kd.C k39 W A L4.length L4 → Calls Try.prog 14 #[.slice A L4.length c] W fun e w' => ∃ A n c, e = .returned (.slice A n c) ∧ ((n : Int) == 1) = true ∧ Below W.heap.size W w' := fun W A c h1 =>
    (reads_calls A c L4 W h1 (by rw [← hL4]; decide)).mono fun e w' ⟨A', c', h1, _, _, h4⟩ => ⟨A', _, c', h1, by rw [← hL4, al7]; rfl, h4⟩
  have C9 : ∀ W A c, Kd.C k39 W A L3.length L3 → Calls Try.prog 12 #[.slice A L3.length c] W fun e w' => ∃ A n c, e = .returned (.slice A n c) ∧ ((n : Int) == 1) = true ∧ Below W.heap.size W w' := fun W A c h1 =>
    (writes_calls A c L3 W h1 (by rw [← hL3]; decide)).mono fun e w' ⟨A', c', h1, _, _, h4⟩ => ⟨A', _, c', h1, by rw [← hL3, al8]; rfl, h4⟩
  have hl4 : ((L4.length : Int) == 2) = true := by rw [← hL4]; rfl
  have HC := Lib.hid (And.intro C1 (And.intro C2 (And.intro C3 (And.intro C4 (And.intro C5 (And.intro C6 (And.intro C7 (And.intro C8 C9))))))))
  clear C1 C2 C3 C4 C5 C6 C7 C8 C9 hL1 hL2 hL3 hL4
  obtain ⟨W0, hW0, K1, K2, hB0, hsz⟩ := two_named w (.cells #[.int .i64 1, .int .i64 5] 34) (.cells #[.int .i64 1, .int .i64 6] 34)
  have b10 := blk_cell K1 0
  have b11 := blk_cell K1 1
  have b20 := blk_cell K2 0
  have b21 := blk_cell K2 1
  have HK := Lib.hid (And.intro K1 (And.intro K2 hB0))
  clear K1 K2 hB0 hsz
  go_enter Try.func6, Try.ntmps6
  go_wp2_with fail
  refine (HC.out.1 _).mono ?_
  rintro e w1 ⟨A1, c1, rfl, hC1, hc1, hB1⟩
  clear hW0 b10 b11 b20 b21
  have HK := Lib.hid (show _ ∧ _ ∧ Below w.heap.size w w1 ∧ Kd.C k39 w1 A1 L1.length L1 ∧ L1.length ≤ c1 from ⟨blk_below HK.out.1 hB1, blk_below HK.out.2.1 hB1, HK.out.2.2.trans (hB1.mono HK.out.2.2.size), hC1, hc1⟩)
  clear hC1 hc1 hB1
  go_wp2_with fail
  refine (HC.out.2.1 _ _ _ HK.out.2.2.2.1 HK.out.2.2.2.2).mono ?_
  rintro e w2 ⟨rfl, hB2⟩
  have HK := Lib.hid (show _ ∧ _ ∧ Below w.heap.size w w2 ∧ Kd.C k39 w2 A1 L1.length L1 ∧ L1.length ≤ c1 from ⟨blk_below HK.out.1 hB2, blk_below HK.out.2.1 hB2, HK.out.2.2.1.trans (hB2.mono HK.out.2.2.1.size), Kd.C_below HK.out.2.2.2.1 hB2, HK.out.2.2.2.2⟩)
  clear hB2
  have b20 := blk_cell HK.out.2.1 0
  have b21 := blk_cell HK.out.2.1 1
  go_wp2_with fail
  refine (HC.out.2.2.1 _ _ _ HK.out.2.2.2.1 HK.out.2.2.2.2).mono ?_
  rintro e w3 ⟨A3, c3, rfl, hC3, hc3, hB3⟩
  clear b20 b21
  have HK := Lib.hid (show _ ∧ _ ∧ Below w.heap.size w w3 ∧ Kd.C k39 w3 A3 L2.length L2 ∧ L2.length ≤ c3 from ⟨blk_below HK.out.1 hB3, blk_below HK.out.2.1 hB3, HK.out.2.2.1.trans (hB3.mono HK.out.2.2.1.size), hC3, hc3⟩)
  clear hC3 hc3 hB3
  have b20 := blk_cell HK.out.2.1 0
  have b21 := blk_cell HK.out.2.1 1
  go_wp2_with fail
  refine (HC.out.2.2.2.1 _ _ _ HK.out.2.2.2.1 HK.out.2.2.2.2).mono ?_
  rintro e w4 ⟨A4, c4, rfl, hC4, hc4, hB4⟩
  clear b20 b21
  have HK := Lib.hid (show _ ∧ _ ∧ Below w.heap.size w w4 ∧ Kd.C k39 w4 A4 L3.length L3 ∧ L3.length ≤ c4 from ⟨blk_below HK.out.1 hB4, blk_below HK.out.2.1 hB4, HK.out.2.2.1.trans (hB4.mono HK.out.2.2.1.size), hC4, hc4⟩)
  clear hC4 hc4 hB4
  go_wp2_with fail
  refine (HC.out.2.2.2.2.1 _ _ _ HK.out.2.2.2.1 HK.out.2.2.2.2).mono ?_
  rintro e w5 ⟨A5, c5, rfl, hC5, hc5, hB5⟩
  have HK := Lib.hid (show _ ∧ _ ∧ Below w.heap.size w w5 ∧ Kd.C k39 w5 A4 L3.length L3 ∧ Kd.C k39 w5 A5 L4.length L4 from ⟨blk_below HK.out.1 hB5, blk_below HK.out.2.1 hB5, HK.out.2.2.1.trans (hB5.mono HK.out.2.2.1.size), Kd.C_below HK.out.2.2.2.1 hB5, hC5⟩)
  clear hC5 hc5 hB5
  go_wp2_with fail
  refine (HC.out.2.2.2.2.2.1 _ _ _ HK.out.2.2.2.2).mono ?_
  rintro e w6 ⟨rfl, hB6⟩
  obtain ⟨W6, hW6, K3, hB6'⟩ : ∃ W6, w6.alloc (.cells #[.int .i64 1, .int .i64 5] 34) = W6 ∧ W6.heap[w6.heap.size]? = some (.cells #[.int .i64 1, .int .i64 5] 34 (0, 0)) ∧ Below w6.heap.size w6 W6 := ⟨_, rfl, heap_alloc_new _ _, bOne _⟩
  have hB7 := bAfter hB6 hB6'
  have HK := Lib.hid (show _ ∧ _ ∧ Below w.heap.size w W6 ∧ Kd.C k39 W6 A4 L3.length L3 ∧ Kd.C k39 W6 A5 L4.length L4 ∧ W6.heap[w6.heap.size]? = some (.cells #[.int .i64 1, .int .i64 5] 34 (0, 0)) from ⟨blk_below HK.out.1 hB7, blk_below HK.out.2.1 hB7, HK.out.2.2.1.trans (hB7.mono HK.out.2.2.1.size), Kd.C_below HK.out.2.2.2.1 hB7, Kd.C_below HK.out.2.2.2.2 hB7, K3⟩)
  clear hB6 hB6' hB7 K3
  go_wp2_with fail
  refine (HC.out.2.2.2.2.2.2.1 _ _ _ HK.out.2.2.2.1).mono ?_
  rintro e w8 ⟨rfl, hB8⟩
  clear hW6
  obtain ⟨W8, hW8, K4, hB8'⟩ : ∃ W8, w8.alloc (.cells #[.int .i64 1, .int .i64 6] 34) = W8 ∧ W8.heap[w8.heap.size]? = some (.cells #[.int .i64 1, .int .i64 6] 34 (0, 0)) ∧ Below w8.heap.size w8 W8 := ⟨_, rfl, heap_alloc_new _ _, bOne _⟩
  have hB9 := bAfter hB8 hB8'
  have HK := Lib.hid (show _ ∧ _ ∧ Below w.heap.size w W8 ∧ Kd.C k39 W8 A4 L3.length L3 ∧ Kd.C k39 W8 A5 L4.length L4 ∧ W8.heap[w6.heap.size]? = some (.cells #[.int .i64 1, .int .i64 5] 34 (0, 0)) ∧ W8.heap[w8.heap.size]? = some (.cells #[.int .i64 1, .int .i64 6] 34 (0, 0)) from ⟨blk_below HK.out.1 hB9, blk_below HK.out.2.1 hB9, HK.out.2.2.1.trans (hB9.mono HK.out.2.2.1.size), Kd.C_below HK.out.2.2.2.1 hB9, Kd.C_below HK.out.2.2.2.2.1 hB9, blk_below HK.out.2.2.2.2.2 hB9, K4⟩)
  clear hB8 hB8' hB9 K4
  have b10 := blk_cell HK.out.1 0
  have b11 := blk_cell HK.out.1 1
  have b20 := blk_cell HK.out.2.1 0
  have b21 := blk_cell HK.out.2.1 1
  have b30 := blk_cell HK.out.2.2.2.2.2.1 0
  have b31 := blk_cell HK.out.2.2.2.2.2.1 1
  have b40 := blk_cell HK.out.2.2.2.2.2.2 0
  have b41 := blk_cell HK.out.2.2.2.2.2.2 1
  go_wp2_with fail
  refine (HC.out.2.2.2.2.2.2.2.1 _ _ _ HK.out.2.2.2.2.1).mono ?_
  rintro e w9 ⟨A9, n9, c9, rfl, hn9, hB9⟩
  have HK9 := Lib.hid (show Below w.heap.size w w9 ∧ Kd.C k39 w9 A4 L3.length L3 from ⟨HK.out.2.2.1.trans (hB9.mono HK.out.2.2.1.size), Kd.C_below HK.out.2.2.2.1 hB9⟩)
  clear hB9 b10 b11 b20 b21 b30 b31 b40 b41 hW8
  go_wp2_with fail
  refine (HC.out.2.2.2.2.2.2.2.2 _ _ _ HK9.out.2).mono ?_
  rintro e w10 ⟨A10, n10, c10, rfl, hn10, hB10⟩
  have HK10 := Lib.hid (HK9.out.1.trans (hB10.mono HK9.out.1.size))
  clear hB10
  go_wp2_with fail
  go_ret
  exact ⟨rfl, HK10.out⟩

end Go.Proofs.Ytaagbiaddgohkaa.Q
