/- What is asked of a lot ahead of each statement: it answers as it should. -/
import Derived.Test.YtnegpjnjgdnmpaaHWake
import Derived.Test.YtnegpjnjgdnmpaaHPark
import Derived.Test.YtnegpjnjgdnmpaaQ8
import Derived.Test.YtnegpjnjgdnmpaaQ3
namespace Go.Proofs.Ytnegpjnjgdnmpaa.Q
open Go.RowKit Go.Lib Go.Proofs.Ytnegpjnjgdnmpaa Go.Proofs.YtnegpjnjgdnmpaaW.PrintWords Go.Proofs.YtnegpjnjgdnmpaaW.PrintLast Go.Proofs.YtnegpjnjgdnmpaaW.PrintMore
set_option linter.unusedVariables false
set_option linter.unusedSimpArgs false

/-- What is told of a lot that may be read from here on; 'ok': where its rows lie. -/
def Lot (W : World) (ok : Nat → Prop) (A : Option Addr) (c : Nat) (P : List S43) (B : Option Addr) (d : Nat) (Q : List Int) : Prop :=
  Kd.V k43 43 W W.heap.size (fun k => ok k) (.slice A P.length c) P ∧ Kd.V (Kd.int .i64) 3 W W.heap.size (fun k => ok k) (.slice B Q.length d) Q
section
variable {W W' : World} {ok ok' : Nat → Prop} {A B : Option Addr} {c d : Nat} {P P' : List S43} {Q Q' : List Int}
theorem Lot.below (h : Lot W ok A c P B d Q) (hb : Below W.heap.size W W') : Lot W' ok A c P B d Q := ⟨Kd.V_below h.1 hb, Kd.V_below h.2 hb⟩
theorem Lot.none (W : World) : Lot W (fun _ => False) none 0 [] none 0 [] := ⟨Kd.V_nil _ _ _ _ _, Kd.V_nil _ _ _ _ _⟩
theorem Lot.mono (h : Lot W ok A c P B d Q) (hk : ∀ k, ok k → ok' k) : Lot W ok' A c P B d Q := ⟨Kd.V_mono h.1 hk, Kd.V_mono h.2 hk⟩
theorem Lot.bound (h : Lot W ok A c P B d Q) : Lot W (fun k => k < W.heap.size) A c P B d Q := ⟨Kd.V_mono (Kd.V_bound h.1) (fun k hk => hk.2), Kd.V_mono (Kd.V_bound h.2) (fun k hk => hk.2)⟩
theorem Lot.far (h : Lot W ok A c P B d Q) {p : Addr} (hk : ∀ k, ok k → k ≠ p.block) (u : Value) : Lot (W.setCell p u) ok A c P B d Q := ⟨Kd.V_far h.1 hk u, Kd.V_far h.2 hk u⟩
theorem Lot.reads (h : Lot W ok A c P B d Q) : Kd.C k43 W A P.length P ∧ P.length ≤ c ∧ Kd.C (Kd.int .i64) W B Q.length Q ∧ Q.length ≤ d := ⟨(Kd.V_reads' h.1).2.2, (Kd.V_reads' h.1).2.1, (Kd.V_reads' h.2).2.2, (Kd.V_reads' h.2).2.1⟩
theorem Lot.of {v u : Value} {b : Nat} (h : Kd.V k43 43 W b (fun k => ok k) v P) (h' : Kd.V (Kd.int .i64) 3 W b (fun k => ok k) u Q) : ∃ A c B d, v = .slice A P.length c ∧ u = .slice B Q.length d ∧ Lot W ok A c P B d Q := by
  obtain ⟨A, c, rfl⟩ := Kd.V_slice h
  obtain ⟨B, d, rfl⟩ := Kd.V_slice h'
  exact ⟨A, c, B, d, rfl, rfl, h, h'⟩

/-! ### The calls, told by what may be read -/
theorem ask_lot (id e : Int) (h : Lot W ok A c P B d Q) (hf : choice_Ask.f P Q id = some (P', Q', e)) :
    Calls Try.prog 8 #[.agg #[.slice A P.length c, .slice B Q.length d], .int .i64 id] W fun x w' => ∃ A' c' B' d', x = .returned (.tuple #[.agg #[.slice A' P'.length c', .slice B' Q'.length d'], .int .i64 e]) ∧ Lot w' (fun k => ok k ∨ W.heap.size ≤ k) A' c' P' B' d' Q' ∧ Below W.heap.size W w' := by
  refine (choice_Ask.calls _ A c P _ B d Q id P' Q' e W h.1 h.2 hf).mono ?_
  rintro x w' ⟨v0, v1, rfl, hV0, hV1, hB⟩
  obtain ⟨A', c', B', d', rfl, rfl, hL⟩ := Lot.of hV0 hV1
  exact ⟨A', c', B', d', rfl, hL.mono (fun k hk => by simpa using hk), hB⟩
theorem pass_lot (id e : Int) (h : Lot W ok A c P B d Q) (hf : choice_Pass.f P Q id = some (P', Q', e)) :
    Calls Try.prog 11 #[.agg #[.slice A P.length c, .slice B Q.length d], .int .i64 id] W fun x w' => ∃ A' c' B' d', x = .returned (.tuple #[.agg #[.slice A' P'.length c', .slice B' Q'.length d'], .int .i64 e]) ∧ Lot w' (fun k => ok k ∨ W.heap.size ≤ k) A' c' P' B' d' Q' ∧ Below W.heap.size W w' := by
  refine (choice_Pass.calls _ A c P _ B d Q id P' Q' e W h.1 h.2 hf).mono ?_
  rintro x w' ⟨v0, v1, rfl, hV0, hV1, hB⟩
  obtain ⟨A', c', B', d', rfl, rfl, hL⟩ := Lot.of hV0 hV1
  exact ⟨A', c', B', d', rfl, hL.mono (fun k hk => by simpa using hk), hB⟩
theorem park_lot (id a e : Int) (h : Lot W ok A c P B d Q) (hf : choice_Park.f P Q id a = some (P', Q', e)) :
    Calls Try.prog 12 #[.agg #[.slice A P.length c, .slice B Q.length d], .int .i64 id, .int .u64 a] W fun x w' => ∃ A' c' B' d', x = .returned (.tuple #[.agg #[.slice A' P'.length c', .slice B' Q'.length d'], .int .i64 e]) ∧ Lot w' (fun k => ok k ∨ W.heap.size ≤ k) A' c' P' B' d' Q' ∧ Below W.heap.size W w' := by
  refine (choice_Park.calls _ A c P _ B d Q id a P' Q' e W h.1 h.2 hf).mono ?_
  rintro x w' ⟨v0, v1, rfl, hV0, hV1, hB⟩
  obtain ⟨A', c', B', d', rfl, rfl, hL⟩ := Lot.of hV0 hV1
  exact ⟨A', c', B', d', rfl, hL.mono (fun k hk => by simpa using hk), hB⟩
theorem wake_lot (a : Int) {I : List Int} (h : Lot W ok A c P B d Q) (hf : choice_Wake.f P Q a = some (P', Q', I)) :
    Calls Try.prog 13 #[.agg #[.slice A P.length c, .slice B Q.length d], .int .u64 a] W fun x w' => ∃ A' c' B' d' D n, x = .returned (.tuple #[.agg #[.slice A' P'.length c', .slice B' Q'.length d'], .slice D I.length n]) ∧ Lot w' (fun k => ok k ∨ W.heap.size ≤ k) A' c' P' B' d' Q' ∧ Kd.V (Kd.int .i64) 3 w' W.heap.size (fun k => ok k ∨ W.heap.size ≤ k) (.slice D I.length n) I ∧ Below W.heap.size W w' := by
  refine (choice_Wake.calls _ A c P _ B d Q a P' Q' I W h.1 h.2 hf).mono ?_
  rintro x w' ⟨v0, v1, v2, rfl, hV0, hV1, hV2, hB⟩
  obtain ⟨A', c', B', d', rfl, rfl, hL⟩ := Lot.of hV0 hV1
  obtain ⟨D, n, rfl⟩ := Kd.V_slice hV2
  exact ⟨A', c', B', d', D, n, rfl, hL.mono (fun k hk => by simpa using hk), Kd.V_mono hV2 (fun k hk => by simpa using hk), hB⟩
theorem holder_lot (k : Nat) (r : Int) (h : Lot W ok A c P B d Q) (hf : choice_Holder.f k P Q = some r) :
    Calls Try.prog 9 #[.agg #[.slice A P.length c, .slice B Q.length d]] W fun x w' => x = .returned (.int .i64 r) ∧ Below W.heap.size W w' := choice_Holder.calls k A c P B d Q r W h.reads.1 h.reads.2.1 h.reads.2.2.1 h.reads.2.2.2 hf
theorem may_lot (k : Nat) (id : Int) (r : Bool) (h : Lot W ok A c P B d Q) (hf : choice_May.f k P Q id = some r) :
    Calls Try.prog 10 #[.agg #[.slice A P.length c, .slice B Q.length d], .int .i64 id] W fun x w' => x = .returned (.bool r) ∧ Below W.heap.size W w' := choice_May.calls k A c P B d Q id r W h.reads.1 h.reads.2.1 h.reads.2.2.1 h.reads.2.2.2 hf
end

theorem l1 : choice_Ask.f [] [] 3 = some ([], [3], 0) := by kernel_rfl
theorem l2 : choice_Ask.f [] [3] 5 = some ([], [3, 5], 0) := by kernel_rfl
theorem l3 : choice_Pass.f [] [3, 5] 3 = some ([], [5], 0) := by kernel_rfl
theorem l4 : choice_Park.f [] [3, 5] 3 6 = some ([⟨3, 6⟩], [3, 5], 0) := by kernel_rfl
theorem l5 : choice_Wake.f [⟨3, 6⟩] [3, 5] 1 = some ([⟨3, 6⟩], [3, 5], []) := by kernel_rfl
theorem l6 : choice_Wake.f [⟨3, 6⟩] [3, 5] 2 = some ([], [3, 5], [3]) := by kernel_rfl

def warpbeamlaw18_alive.f : Option Bool := some true

set_option maxHeartbeats 4000000 in
theorem warpbeamlaw18_alive.calls (r : Bool) (w : World) (h : warpbeamlaw18_alive.f = some r) :
    Calls Try.prog 7 #[] w fun e w' => e = .returned (.bool r) ∧ Below w.heap.size w w' := by
  obtain rfl : true = r := Option.some.inj h
  clear h
  have hu := Try.underlying27
  go_enter Try.func7, Try.ntmps7
  go_wp2_with fail
  refine (ask_lot 3 _ (Lot.none w) l1).mono ?_
  rintro e w1 ⟨A1, c1, B1, d1, rfl, hL1, hb1⟩
  have HB1 := Lib.hid hb1
  have hL1 := hL1.bound
  clear hb1
  go_wp2_with fail
  have K1 := heap_alloc_new w1 (.cells #[.slice A1 0 c1, .slice B1 1 d1] 27)
  refine (ask_lot 5 _ (hL1.below (bOne _)) l2).mono ?_
  rintro e w2 ⟨A2, c2, B2, d2, rfl, hL2, hb2⟩
  have HB2 := Lib.hid (bAfter (bAfter HB1.out (bOne _)) hb2)
  have K1 := blk_below K1 hb2
  have hL2 := hL2.mono (ok' := fun k => k ≠ w1.heap.size) (fun k hk => by rw [World.size_alloc] at hk; omega)
  have hlt := blk_lt K1
  obtain ⟨W2, hW2, K2, hL2, hB2⟩ : ∃ W2, (w2.setCell ⟨w1.heap.size, 0, none⟩ (.slice A2 0 c2)).setCell ⟨w1.heap.size, 1, none⟩ (.slice B2 2 d2) = W2 ∧ W2.heap[w1.heap.size]? = some (.cells #[.slice A2 0 c2, .slice B2 2 d2] 27 (0, 0)) ∧ Lot W2 (fun k => k ≠ w1.heap.size) A2 c2 [] B2 d2 [3, 5] ∧ Below w.heap.size w W2 :=
    ⟨_, rfl, blk_put (blk_put K1 0 _ rfl) 1 _ rfl, (hL2.far (p := ⟨w1.heap.size, 0, none⟩) (fun k hk => hk) _).far (p := ⟨w1.heap.size, 1, none⟩) (fun k hk => hk) _, (HB2.out.setCell (p := ⟨w1.heap.size, 0, none⟩) HB1.out.size _).setCell (p := ⟨w1.heap.size, 1, none⟩) HB1.out.size _⟩
  have a0 : w2.cell? ⟨w1.heap.size, 0, none⟩ = some (.slice A1 0 c1) := blk_cell K1 0
  have a1 : w2.cell? ⟨w1.heap.size, 1, none⟩ = some (.slice B1 1 d1) := blk_cell K1 1
  have f0 := blk_frozen K1 0
  have f1 := blk_frozen K1 1
  have b0 : W2.cell? ⟨w1.heap.size, 0, none⟩ = some (.slice A2 0 c2) := blk_cell K2 0
  have b1 : W2.cell? ⟨w1.heap.size, 1, none⟩ = some (.slice B2 2 d2) := blk_cell K2 1
  have HB3 := Lib.hid hB2
  clear hb2 hB2 HB2 HB1 hlt K1 hL1
  go_wp2_with fail
  refine (pass_lot 3 _ hL2 l3).mono ?_
  rintro e w3 ⟨A3, c3, B3, d3, rfl, hL3, hb3⟩
  have K2 := blk_below K2 hb3
  have hL2 := hL2.below hb3
  have HB4 := Lib.hid (bAfter HB3.out hb3)
  clear hb3 HB3 a0 a1 f0 f1 b0 b1 hW2
  have b0 : w3.cell? ⟨w1.heap.size, 0, none⟩ = some (.slice A2 0 c2) := blk_cell K2 0
  have b1 : w3.cell? ⟨w1.heap.size, 1, none⟩ = some (.slice B2 2 d2) := blk_cell K2 1
  have hlt := blk_lt K2
  have hne : ¬ w1.heap.size = w3.heap.size := by omega
  go_wp2_with fail
  have hB5 : Below w3.heap.size w3 (w3.alloc (.cells #[.slice A3 0 c3, .slice B3 1 d3] 27)) := bOne _
  have K3 := heap_alloc_new w3 (.cells #[.slice A3 0 c3, .slice B3 1 d3] 27)
  have K2 := blk_below K2 hB5
  have hL2 := hL2.below hB5
  have hL3 := hL3.below hB5
  have HB6 := Lib.hid (bAfter HB4.out hB5)
  refine (park_lot 3 6 _ hL2 l4).mono ?_
  rintro e w4 ⟨A4, c4, B4, d4, rfl, hL4, hb4⟩
  have K2 := blk_below K2 hb4
  have K3 := blk_below K3 hb4
  have hL2 := hL2.below hb4
  have hL3 := hL3.below hb4
  have HB7 := Lib.hid (bAfter HB6.out hb4)
  clear hb4 HB6 HB4 hB5 b0 b1 hlt hne
  go_wp2_with fail
  have hB5 : Below w4.heap.size w4 (w4.alloc (.cells #[.slice A4 1 c4, .slice B4 2 d4] 27)) := bOne _
  have K4 := heap_alloc_new w4 (.cells #[.slice A4 1 c4, .slice B4 2 d4] 27)
  have K2 := blk_below K2 hB5
  have K3 := blk_below K3 hB5
  have hL2 := hL2.below hB5
  have hL3 := hL3.below hB5
  have hL4 := hL4.below hB5
  have HB8 := Lib.hid (bAfter HB7.out hB5)
  refine (wake_lot 1 hL4 l5).mono ?_
  rintro e w5 ⟨A5, c5, B5, d5, D5, n5, rfl, hL5, hI5, hb5⟩
  have K2 := blk_below K2 hb5
  have K3 := blk_below K3 hb5
  have K4 := blk_below K4 hb5
  have hL2 := hL2.below hb5
  have hL3 := hL3.below hb5
  have hL4 := hL4.below hb5
  have HB9 := Lib.hid (bAfter HB8.out hb5)
  clear hb5 HB8 HB7 hB5
  have b0 : w5.cell? ⟨w4.heap.size, 0, none⟩ = some (.slice A4 1 c4) := blk_cell K4 0
  have b1 : w5.cell? ⟨w4.heap.size, 1, none⟩ = some (.slice B4 2 d4) := blk_cell K4 1
  have hlt := blk_lt K4
  have hne : ¬ w4.heap.size = w5.heap.size := by omega
  go_wp2_with fail
  have hB5 : Below w5.heap.size w5 (w5.alloc (.cells #[.slice A5 1 c5, .slice B5 2 d5] 27)) := bOne _
  have K2 := blk_below K2 hB5
  have K3 := blk_below K3 hB5
  have K4 := blk_below K4 hB5
  have hL2 := hL2.below hB5
  have hL3 := hL3.below hB5
  have hL4 := hL4.below hB5
  have HB8 := Lib.hid (bAfter HB9.out hB5)
  refine (wake_lot 2 hL4 l6).mono ?_
  rintro e w6 ⟨A6, c6, B6, d6, D6, n6, rfl, hL6, hI6, hb6⟩
  have K2 := blk_below K2 hb6
  have K3 := blk_below K3 hb6
  have K4 := blk_below K4 hb6
  have hL2 := hL2.below hb6
  have hL3 := hL3.below hb6
  have hL4 := hL4.below hb6
  have HBA := Lib.hid (bAfter HB8.out hb6)
  clear hb6 HB8 HB9 hB5 b0 b1 hlt hne
  have hl2 := blk_lt K2
  have hl3 := blk_lt K3
  have hl4 := blk_lt K4
  obtain ⟨W7, hW7, K7, hB7⟩ : ∃ W7, w6.alloc (.cells #[.slice A6 0 c6, .slice B6 2 d6] 27) = W7 ∧ W7.heap[w6.heap.size]? = some (.cells #[.slice A6 0 c6, .slice B6 2 d6] 27) ∧ Below w6.heap.size w6 W7 := ⟨_, rfl, heap_alloc_new _ _, bOne _⟩
  have K2 := blk_below K2 hB7
  have K3 := blk_below K3 hB7
  have K4 := blk_below K4 hB7
  have hL2 := hL2.below hB7
  have hL3 := hL3.below hB7
  have hL4 := hL4.below hB7
  have hI6 := Kd.V_below hI6 hB7
  have HBB := Lib.hid (bAfter HBA.out hB7)
  clear HBA hB7 hL5 hI5 hL6 hl2 hl3 hl4
  have c20 : W7.cell? ⟨w1.heap.size, 0, none⟩ = some (.slice A2 0 c2) := blk_cell K2 0
  have c21 : W7.cell? ⟨w1.heap.size, 1, none⟩ = some (.slice B2 2 d2) := blk_cell K2 1
  go_wp2_with fail
  refine (holder_lot 5 3 hL2 (by kernel_rfl)).mono ?_
  rintro e w8 ⟨rfl, hb8⟩
  have HC : Hid (Below W7.heap.size W7 w8) := Lib.hid hb8
  clear hb8 c20 c21
  have c0 : w8.cell? ⟨w3.heap.size, 0, none⟩ = some (.slice A3 0 c3) := blk_cell (blk_below K3 HC.out) 0
  have c1 : w8.cell? ⟨w3.heap.size, 1, none⟩ = some (.slice B3 1 d3) := blk_cell (blk_below K3 HC.out) 1
  go_wp2_with fail
  refine (holder_lot 5 5 (hL3.below HC.out) (by kernel_rfl)).mono ?_
  rintro e w9 ⟨rfl, hb9⟩
  have HC := Lib.hid (bAfter HC.out hb9)
  clear hb9 c0 c1
  have c0 : w9.cell? ⟨w4.heap.size, 0, none⟩ = some (.slice A4 1 c4) := blk_cell (blk_below K4 HC.out) 0
  have c1 : w9.cell? ⟨w4.heap.size, 1, none⟩ = some (.slice B4 2 d4) := blk_cell (blk_below K4 HC.out) 1
  go_wp2_with fail
  refine (may_lot 5 3 false (hL4.below HC.out) (by kernel_rfl)).mono ?_
  rintro e w10 ⟨rfl, hb9⟩
  have HC := Lib.hid (bAfter HC.out hb9)
  clear hb9 c0 c1
  have c0 : w10.cell? ⟨w1.heap.size, 0, none⟩ = some (.slice A2 0 c2) := blk_cell (blk_below K2 HC.out) 0
  have c1 : w10.cell? ⟨w1.heap.size, 1, none⟩ = some (.slice B2 2 d2) := blk_cell (blk_below K2 HC.out) 1
  go_wp2_with fail
  refine (may_lot 5 3 true (hL2.below HC.out) (by kernel_rfl)).mono ?_
  rintro e w11 ⟨rfl, hb9⟩
  have HC := Lib.hid (bAfter HC.out hb9)
  clear hb9 c0 c1
  have c0 : w11.cell? ⟨w1.heap.size, 0, none⟩ = some (.slice A2 0 c2) := blk_cell (blk_below K2 HC.out) 0
  have c1 : w11.cell? ⟨w1.heap.size, 1, none⟩ = some (.slice B2 2 d2) := blk_cell (blk_below K2 HC.out) 1
  go_wp2_with fail
  refine (may_lot 5 5 false (hL2.below HC.out) (by kernel_rfl)).mono ?_
  rintro e w12 ⟨rfl, hb9⟩
  have HC := Lib.hid (bAfter HC.out hb9)
  clear hb9 c0 c1
  have c0 : w12.cell? ⟨w6.heap.size, 0, none⟩ = some (.slice A6 0 c6) := blk_cell (blk_below K7 HC.out) 0
  have c1 : w12.cell? ⟨w6.heap.size, 1, none⟩ = some (.slice B6 2 d6) := blk_cell (blk_below K7 HC.out) 1
  obtain ⟨ad, rfl, i0⟩ := at_I (Kd.V_reads' (Kd.V_below hI6 HC.out)).2.2 0 (by decide) (by decide)
  have i1 : w12.cell? (ad.add 0) = some (.int .i64 3) := i0
  have i2 : ad.add 0 = ad := by cases ad; rfl
  have i3 : w12.cell? ad = some (.int .i64 3) := by rw [← i2]; exact i1
  have HZ := Lib.hid (bAfter HBB.out HC.out)
  clear hI6 i0 HBB HC K2 K3 K4 K7 hL2 hL3 hL4
  go_wp2_with fail
  go_ret
  exact ⟨rfl, HZ.out⟩

end Go.Proofs.Ytnegpjnjgdnmpaa.Q
