/- The walk of TxnOwn, by hand: a transaction that is handed in is not changed, also when two grow out of it. -/
import Derived.Test.YtaagbiaddgohkaaHAlive
import Derived.Test.YtaagbiaddgohkaaFlat
import Derived.ProofKit
import Derived.OpenShut
import Derived.SizedLaws
import Derived.WideLaws
import Derived.BigQuiet
set_option linter.unusedSimpArgs false
set_option linter.unusedVariables false
namespace Go.Proofs.Ytaagbiaddgohkaa
open Go.ChangeShapes Go.WideShapes Go.ChangeAt Go.RowKit Go.Lib Go.Proofs.Ytaagbiaddgohkaa.Q Go.Proofs.YtaagbiaddgohkaaW.PrintWords Go.Proofs.YtaagbiaddgohkaaW.PrintLast Go.Proofs.YtaagbiaddgohkaaW.PrintMore
attribute [local go_sem high] eqA39 eqA34

theorem same_self (l : List S26) (hl : l.length ≤ 1000000) : warpbeamref08_Same.f (l.length + 1) l l = some true := by
  unfold warpbeamref08_Same.f
  rw [if_pos rfl]
  refine all_loop (fun k i => warpbeamref08_Same.l0 k l l i) l.length true (fun k i hi => ?_) (fun k => ?_) l.length 0 _ (by omega) (Nat.lt_succ_self _)
  · show warpbeamref08_Same.l0 (k + 1) l l (i : Int) = _
    rw [warpbeamref08_Same.l0, if_pos (by omega), if_pos (by omega), if_pos (by omega), if_neg (by simp), wrap_next (by omega)]
  · show warpbeamref08_Same.l0 (k + 1) l l (l.length : Int) = _
    rw [warpbeamref08_Same.l0, if_neg (by omega)]
theorem same_calls (l : List S26) (hl : l.length ≤ 1000000) (A A' : Option Addr) (c c' : Nat) (w : World) (h : Kd.C k26 w A l.length l) (hc : l.length ≤ c) (h' : Kd.C k26 w A' l.length l) (hc' : l.length ≤ c') :
    Calls Try.prog 11 #[.slice A l.length c, .slice A' l.length c'] w fun e w' => e = .returned (.bool true) ∧ Below w.heap.size w w' :=
  (warpbeamref08_Same.calls _ A c l A' c' l true w h hc h' hc' (same_self l hl)).mono fun e w' h => ⟨h.1, h.2.below⟩
theorem theirs_calls (l : List S26) (hl : l.length ≤ 1000000) (A : Option Addr) (c : Nat) (w : World) (h : Kd.C k26 w A l.length l) (hc : l.length ≤ c) :
    Calls Try.prog 7 #[.slice A l.length c] w fun e w' => ∃ A c, e = .returned (.slice A (l.map conv39).length c) ∧ Kd.C k39 w' A (l.map conv39).length (l.map conv39) ∧ (l.map conv39).length ≤ c ∧ Below w.heap.size w w' :=
  (warpbeamlaw08_Theirs.calls A c l _ w h hc (if_pos hl)).mono fun e w' ⟨v, h1, hR, hB⟩ => by
    obtain ⟨A', c', rfl⟩ := Kd.R_slice hR
    have hr := Kd.R_reads' hR
    exact ⟨A', c', h1, hr.2.2, hr.2.1, hB⟩
theorem ours_calls (l : List S39) (hl : l.length ≤ 1000000) (A : Option Addr) (c : Nat) (w : World) (h : Kd.C k39 w A l.length l) (hc : l.length ≤ c) :
    Calls Try.prog 9 #[.slice A l.length c] w fun e w' => ∃ A c, e = .returned (.slice A (l.map conv26).length c) ∧ Kd.C k26 w' A (l.map conv26).length (l.map conv26) ∧ (l.map conv26).length ≤ c ∧ Below w.heap.size w w' :=
  (warpbeamlaw08_Ours.calls A c l _ w h hc (if_pos hl)).mono fun e w' ⟨v, h1, hR, hB⟩ => by
    obtain ⟨A', c', rfl⟩ := Kd.R_slice hR
    have hr := Kd.R_reads' hR
    exact ⟨A', c', h1, hr.2.2, hr.2.1, hB⟩
theorem back_forth (l : List S26) : (l.map conv39).map conv26 = l := by
  rw [List.map_map]
  exact List.map_id' l
theorem add_len (l : List S39) (s : S39) : (addL l s).1.length ≤ l.length + 1 := by
  unfold addL
  split
  · simp
  · split <;> simp

set_option maxHeartbeats 4000000 in
set_option maxRecDepth 100000 in
theorem own_walk (A : Option Addr) (c : Nat) (l : List S26) (a0 a1 a2 : Int) (a3 : Bool) (b0 b1 b2 : Int) (b3 : Bool) (w : World) (hC : Kd.C k26 w A l.length l) (hc : l.length ≤ c) :
    Calls Try.prog 3 #[.slice A l.length c, .agg #[.int .i64 a0, .int .i64 a1, .int .i64 a2, .bool a3], .agg #[.int .i64 b0, .int .i64 b1, .int .i64 b2, .bool b3]] w fun e w' => e = .returned (.bool true) ∧ Below w.heap.size w w' := by
  have hu := Try.underlying26
  have hu39 := Try.underlying39
  have hu34 := Try.underlying34
  have hu24 := Try.underlying24
  have C0 := Lib.hid (fun W => warpbeamlaw08_alive.calls true W rfl)
  obtain ⟨W0, hW0, KA, KB, hB0, -⟩ := two_named w (.cells #[.int .i64 a0, .int .i64 a1, .int .i64 a2, .bool a3] 26) (.cells #[.int .i64 b0, .int .i64 b1, .int .i64 b2, .bool b3] 26)
  have HC := Lib.hid (And.intro hC hc)
  have HK := Lib.hid (And.intro KA (And.intro KB hB0))
  clear hC hc KA KB hB0
  by_cases hn : (l.length : Int) > 250
  · go_enter Try.func3, Try.ntmps3
    go_wp2_with fail
    refine (C0.out _).mono ?_
    rintro e w1 ⟨rfl, hB1⟩
    have HZ := Lib.hid (HK.out.2.2.trans (hB1.mono HK.out.2.2.size))
    clear hB1
    go_wp2_with fail
    go_ret
    exact ⟨rfl, HZ.out⟩
  · have hl : l.length ≤ 250 := by omega
    obtain ⟨X, hX⟩ : ∃ X, l.map conv39 = X := ⟨_, rfl⟩
    obtain ⟨Y, hY⟩ : ∃ Y, addL X ⟨a0, ⟨a1, a2⟩, true⟩ = Y := ⟨_, rfl⟩
    obtain ⟨Z, hZ⟩ : ∃ Z, addL X ⟨b0, ⟨b1, b2⟩, true⟩ = Z := ⟨_, rfl⟩
    obtain ⟨V, hV⟩ : ∃ V, addL Y.1 ⟨b0, ⟨b1, b2⟩, true⟩ = V := ⟨_, rfl⟩
    obtain ⟨U, hU⟩ : ∃ U, Y.1.map conv26 = U := ⟨_, rfl⟩
    obtain ⟨BB, hBB⟩ : ∃ BB, backL Y.1 0 = BB := ⟨_, rfl⟩
    have hlX : X.length ≤ 250 := by rw [← hX, List.length_map]; exact hl
    have hlY : Y.1.length ≤ 251 := by have := add_len X ⟨a0, ⟨a1, a2⟩, true⟩; rw [hY] at this; omega
    have hlU : U.length ≤ 251 := by rw [← hU, List.length_map]; exact hlY
    have T1 : ∀ W A c, Kd.C k26 W A l.length l → l.length ≤ c → Calls Try.prog 7 #[.slice A l.length c] W fun e w' => ∃ A c, e = .returned (.slice A X.length c) ∧ Kd.C k39 w' A X.length X ∧ X.length ≤ c ∧ Below W.heap.size W w' := fun W A c h1 h2 => by
      have := theirs_calls l (by omega) A c W h1 h2
      rwa [hX] at this
    have T2 : ∀ W A c, Kd.C k39 W A X.length X → X.length ≤ c → Calls Try.prog 8 #[.slice A X.length c, .int .i64 a0, .agg #[.int .i64 a1, .int .i64 a2]] W (Got W Y.1 Y.2) := fun W A c h1 h2 => by
      have := write_calls A c X a0 ⟨a1, a2⟩ W h1 h2 (by omega)
      rwa [hY] at this
    have T3 : ∀ W A c, Kd.C k39 W A Y.1.length Y.1 → Y.1.length ≤ c → Calls Try.prog 9 #[.slice A Y.1.length c] W fun e w' => ∃ A c, e = .returned (.slice A U.length c) ∧ Kd.C k26 w' A U.length U ∧ U.length ≤ c ∧ Below W.heap.size W w' := fun W A c h1 h2 => by
      have := ours_calls Y.1 (by omega) A c W h1 h2
      rwa [hU] at this
    have T4 : ∀ W A c, Kd.C k39 W A Y.1.length Y.1 → Y.1.length ≤ c → Calls Try.prog 8 #[.slice A Y.1.length c, .int .i64 b0, .agg #[.int .i64 b1, .int .i64 b2]] W (Got W V.1 V.2) := fun W A c h1 h2 => by
      have := write_calls A c Y.1 b0 ⟨b1, b2⟩ W h1 h2 (by omega)
      rwa [hV] at this
    have T5 : ∀ W A c, Kd.C k39 W A X.length X → X.length ≤ c → Calls Try.prog 8 #[.slice A X.length c, .int .i64 b0, .agg #[.int .i64 b1, .int .i64 b2]] W (Got W Z.1 Z.2) := fun W A c h1 h2 => by
      have := write_calls A c X b0 ⟨b1, b2⟩ W h1 h2 (by omega)
      rwa [hZ] at this
    have T6 : ∀ W A c, Kd.C k39 W A Y.1.length Y.1 → Y.1.length ≤ c → Calls Try.prog 10 #[.slice A Y.1.length c, .int .i64 0] W (Got W BB.1 BB.2) := fun W A c h1 h2 => by
      have := back_calls A c Y.1 0 W h1 h2 (by omega)
      rwa [hBB] at this
    have T7 : ∀ W A c, Kd.C k39 W A X.length X → X.length ≤ c → Calls Try.prog 9 #[.slice A X.length c] W fun e w' => ∃ A c, e = .returned (.slice A l.length c) ∧ Kd.C k26 w' A l.length l ∧ l.length ≤ c ∧ Below W.heap.size W w' := fun W A c h1 h2 => by
      have := ours_calls X (by omega) A c W h1 h2
      rwa [show X.map conv26 = l by rw [← hX]; exact back_forth l] at this
    have T8 : ∀ W A A' c c', Kd.C k26 W A l.length l → l.length ≤ c → Kd.C k26 W A' l.length l → l.length ≤ c' → Calls Try.prog 11 #[.slice A l.length c, .slice A' l.length c'] W fun e w' => e = .returned (.bool true) ∧ Below W.heap.size W w' := fun W A A' c c' h1 h2 h3 h4 => same_calls l (by omega) A A' c c' W h1 h2 h3 h4
    have T9 : ∀ W A A' c c', Kd.C k26 W A U.length U → U.length ≤ c → Kd.C k26 W A' U.length U → U.length ≤ c' → Calls Try.prog 11 #[.slice A U.length c, .slice A' U.length c'] W fun e w' => e = .returned (.bool true) ∧ Below W.heap.size W w' := fun W A A' c c' h1 h2 h3 h4 => same_calls U (by omega) A A' c c' W h1 h2 h3 h4
    have hfin : Y.2 = 0 → Z.2 = 0 → Y.1 = X ++ [⟨a0, ⟨a1, a2⟩, true⟩] ∧ Z.1.length = Y.1.length := by
      intro h1 h2
      rw [← hY] at h1 ⊢
      rw [← hZ] at h2 ⊢
      unfold addL at h1 h2 ⊢
      split at h1
      · cases h1
      · split at h1
        · cases h1
        · split at h2
          · cases h2
          · rename_i c1 c2 c3
            rw [if_neg c1, if_neg c2, if_neg c3, if_neg c2]
            exact ⟨rfl, by simp⟩
    have HT := Lib.hid (And.intro T1 (And.intro T2 (And.intro T3 (And.intro T4 (And.intro T5 (And.intro T6 (And.intro T7 (And.intro T8 T9))))))))
    have HF := Lib.hid (And.intro hfin hlY)
    have hn2 : ¬ (l.length : Int) > 250 := hn
    clear T1 T2 T3 T4 T5 T6 T7 T8 T9 hfin hX hY hZ hV hU hBB hlX hlY hlU hl
    obtain ⟨Y1, Y2⟩ := Y
    obtain ⟨Z1, Z2⟩ := Z
    obtain ⟨V1, V2⟩ := V
    obtain ⟨B1, B2⟩ := BB
    dsimp only at HT HF
    go_enter Try.func3, Try.ntmps3
    go_wp2_with fail
    refine (C0.out _).mono ?_
    rintro e w1 ⟨rfl, hB1⟩
    have HK := Lib.hid (show (w1.heap[w.heap.size]? = some (.cells #[.int .i64 a0, .int .i64 a1, .int .i64 a2, .bool a3] 26 (0, 0))) ∧ (w1.heap[w.heap.size + 1]? = some (.cells #[.int .i64 b0, .int .i64 b1, .int .i64 b2, .bool b3] 26 (0, 0))) ∧ (Below w.heap.size w w1) ∧ (Kd.C k26 w1 A l.length l) from ⟨blk_below HK.out.1 hB1, blk_below HK.out.2.1 hB1, HK.out.2.2.trans (hB1.mono HK.out.2.2.size), Kd.C_below HC.out.1 (HK.out.2.2.trans (hB1.mono HK.out.2.2.size))⟩)
    clear hB1 hW0
    go_wp2_with fail
    refine (HT.out.1 _ _ _ HK.out.2.2.2 HC.out.2).mono ?_
    rintro e w2 ⟨A2, c2, rfl, hC2, hc2, hB2⟩
    have HK := Lib.hid (show (w2.heap[w.heap.size]? = some (.cells #[.int .i64 a0, .int .i64 a1, .int .i64 a2, .bool a3] 26 (0, 0))) ∧ (w2.heap[w.heap.size + 1]? = some (.cells #[.int .i64 b0, .int .i64 b1, .int .i64 b2, .bool b3] 26 (0, 0))) ∧ (Below w.heap.size w w2) ∧ (Kd.C k26 w2 A l.length l) ∧ (Kd.C k39 w2 A2 X.length X) ∧ (X.length ≤ c2) from ⟨blk_below HK.out.1 hB2, blk_below HK.out.2.1 hB2, HK.out.2.2.1.trans (hB2.mono HK.out.2.2.1.size), Kd.C_below HK.out.2.2.2 hB2, hC2, hc2⟩)
    clear hB2 hC2 hc2
    have p0 := blk_cell HK.out.1 0
    have p1 := blk_cell HK.out.1 1
    have p2 := blk_cell HK.out.1 2
    go_wp2_with fail
    refine (HT.out.2.1 _ _ _ HK.out.2.2.2.2.1 HK.out.2.2.2.2.2).mono ?_
    rintro e w3 ⟨A3, c3, rfl, hC3, hc3, hB3⟩
    have HK := Lib.hid (show (w3.heap[w.heap.size]? = some (.cells #[.int .i64 a0, .int .i64 a1, .int .i64 a2, .bool a3] 26 (0, 0))) ∧ (w3.heap[w.heap.size + 1]? = some (.cells #[.int .i64 b0, .int .i64 b1, .int .i64 b2, .bool b3] 26 (0, 0))) ∧ (Below w.heap.size w w3) ∧ (Kd.C k26 w3 A l.length l) ∧ (Kd.C k39 w3 A2 X.length X) ∧ (X.length ≤ c2) ∧ (Kd.C k39 w3 A3 Y1.length Y1) ∧ (Y1.length ≤ c3) from ⟨blk_below HK.out.1 hB3, blk_below HK.out.2.1 hB3, HK.out.2.2.1.trans (hB3.mono HK.out.2.2.1.size), Kd.C_below HK.out.2.2.2.1 hB3, Kd.C_below HK.out.2.2.2.2.1 hB3, HK.out.2.2.2.2.2, hC3, hc3⟩)
    clear hB3 hC3 hc3 p0 p1 p2
    go_wp2_with fail
    refine (HT.out.2.2.1 _ _ _ HK.out.2.2.2.2.2.2.1 HK.out.2.2.2.2.2.2.2).mono ?_
    rintro e w4 ⟨A4, c4, rfl, hC4, hc4, hB4⟩
    have HK := Lib.hid (show (w4.heap[w.heap.size]? = some (.cells #[.int .i64 a0, .int .i64 a1, .int .i64 a2, .bool a3] 26 (0, 0))) ∧ (w4.heap[w.heap.size + 1]? = some (.cells #[.int .i64 b0, .int .i64 b1, .int .i64 b2, .bool b3] 26 (0, 0))) ∧ (Below w.heap.size w w4) ∧ (Kd.C k26 w4 A l.length l) ∧ (Kd.C k39 w4 A2 X.length X) ∧ (X.length ≤ c2) ∧ (Kd.C k39 w4 A3 Y1.length Y1) ∧ (Y1.length ≤ c3) ∧ (Kd.C k26 w4 A4 U.length U) ∧ (U.length ≤ c4) from ⟨blk_below HK.out.1 hB4, blk_below HK.out.2.1 hB4, HK.out.2.2.1.trans (hB4.mono HK.out.2.2.1.size), Kd.C_below HK.out.2.2.2.1 hB4, Kd.C_below HK.out.2.2.2.2.1 hB4, HK.out.2.2.2.2.2.1, Kd.C_below HK.out.2.2.2.2.2.2.1 hB4, HK.out.2.2.2.2.2.2.2, hC4, hc4⟩)
    clear hB4 hC4 hc4
    have p0 := blk_cell HK.out.2.1 0
    have p1 := blk_cell HK.out.2.1 1
    have p2 := blk_cell HK.out.2.1 2
    go_wp2_with fail
    refine (HT.out.2.2.2.1 _ _ _ HK.out.2.2.2.2.2.2.1 HK.out.2.2.2.2.2.2.2.1).mono ?_
    rintro e w5 ⟨A5, c5, rfl, hC5, hc5, hB5⟩
    have HK := Lib.hid (show (w5.heap[w.heap.size]? = some (.cells #[.int .i64 a0, .int .i64 a1, .int .i64 a2, .bool a3] 26 (0, 0))) ∧ (w5.heap[w.heap.size + 1]? = some (.cells #[.int .i64 b0, .int .i64 b1, .int .i64 b2, .bool b3] 26 (0, 0))) ∧ (Below w.heap.size w w5) ∧ (Kd.C k26 w5 A l.length l) ∧ (Kd.C k39 w5 A2 X.length X) ∧ (X.length ≤ c2) ∧ (Kd.C k39 w5 A3 Y1.length Y1) ∧ (Y1.length ≤ c3) ∧ (Kd.C k26 w5 A4 U.length U) ∧ (U.length ≤ c4) from ⟨blk_below HK.out.1 hB5, blk_below HK.out.2.1 hB5, HK.out.2.2.1.trans (hB5.mono HK.out.2.2.1.size), Kd.C_below HK.out.2.2.2.1 hB5, Kd.C_below HK.out.2.2.2.2.1 hB5, HK.out.2.2.2.2.2.1, Kd.C_below HK.out.2.2.2.2.2.2.1 hB5, HK.out.2.2.2.2.2.2.2.1, Kd.C_below HK.out.2.2.2.2.2.2.2.2.1 hB5, HK.out.2.2.2.2.2.2.2.2.2⟩)
    clear hB5 hC5 hc5 p0 p1 p2
    have p0 := blk_cell HK.out.2.1 0
    have p1 := blk_cell HK.out.2.1 1
    have p2 := blk_cell HK.out.2.1 2
    go_wp2_with fail
    refine (HT.out.2.2.2.2.1 _ _ _ HK.out.2.2.2.2.1 HK.out.2.2.2.2.2.1).mono ?_
    rintro e w6 ⟨A6, c6, rfl, hC6, hc6, hB6⟩
    have HK := Lib.hid (show (w6.heap[w.heap.size]? = some (.cells #[.int .i64 a0, .int .i64 a1, .int .i64 a2, .bool a3] 26 (0, 0))) ∧ (w6.heap[w.heap.size + 1]? = some (.cells #[.int .i64 b0, .int .i64 b1, .int .i64 b2, .bool b3] 26 (0, 0))) ∧ (Below w.heap.size w w6) ∧ (Kd.C k26 w6 A l.length l) ∧ (Kd.C k39 w6 A2 X.length X) ∧ (X.length ≤ c2) ∧ (Kd.C k39 w6 A3 Y1.length Y1) ∧ (Y1.length ≤ c3) ∧ (Kd.C k26 w6 A4 U.length U) ∧ (U.length ≤ c4) from ⟨blk_below HK.out.1 hB6, blk_below HK.out.2.1 hB6, HK.out.2.2.1.trans (hB6.mono HK.out.2.2.1.size), Kd.C_below HK.out.2.2.2.1 hB6, Kd.C_below HK.out.2.2.2.2.1 hB6, HK.out.2.2.2.2.2.1, Kd.C_below HK.out.2.2.2.2.2.2.1 hB6, HK.out.2.2.2.2.2.2.2.1, Kd.C_below HK.out.2.2.2.2.2.2.2.2.1 hB6, HK.out.2.2.2.2.2.2.2.2.2⟩)
    clear hB6 hC6 hc6 p0 p1 p2
    go_wp2_with fail
    refine (HT.out.2.2.2.2.2.1 _ _ _ HK.out.2.2.2.2.2.2.1 HK.out.2.2.2.2.2.2.2.1).mono ?_
    rintro e w7 ⟨A7, c7, rfl, hC7, hc7, hB7⟩
    have HK := Lib.hid (show (w7.heap[w.heap.size]? = some (.cells #[.int .i64 a0, .int .i64 a1, .int .i64 a2, .bool a3] 26 (0, 0))) ∧ (w7.heap[w.heap.size + 1]? = some (.cells #[.int .i64 b0, .int .i64 b1, .int .i64 b2, .bool b3] 26 (0, 0))) ∧ (Below w.heap.size w w7) ∧ (Kd.C k26 w7 A l.length l) ∧ (Kd.C k39 w7 A2 X.length X) ∧ (X.length ≤ c2) ∧ (Kd.C k39 w7 A3 Y1.length Y1) ∧ (Y1.length ≤ c3) ∧ (Kd.C k26 w7 A4 U.length U) ∧ (U.length ≤ c4) from ⟨blk_below HK.out.1 hB7, blk_below HK.out.2.1 hB7, HK.out.2.2.1.trans (hB7.mono HK.out.2.2.1.size), Kd.C_below HK.out.2.2.2.1 hB7, Kd.C_below HK.out.2.2.2.2.1 hB7, HK.out.2.2.2.2.2.1, Kd.C_below HK.out.2.2.2.2.2.2.1 hB7, HK.out.2.2.2.2.2.2.2.1, Kd.C_below HK.out.2.2.2.2.2.2.2.2.1 hB7, HK.out.2.2.2.2.2.2.2.2.2⟩)
    clear hB7 hC7 hc7
    go_wp2_with fail
    refine (HT.out.2.2.2.2.2.2.1 _ _ _ HK.out.2.2.2.2.1 HK.out.2.2.2.2.2.1).mono ?_
    rintro e w8 ⟨A8, c8, rfl, hC8, hc8, hB8⟩
    have HK := Lib.hid (show (w8.heap[w.heap.size]? = some (.cells #[.int .i64 a0, .int .i64 a1, .int .i64 a2, .bool a3] 26 (0, 0))) ∧ (w8.heap[w.heap.size + 1]? = some (.cells #[.int .i64 b0, .int .i64 b1, .int .i64 b2, .bool b3] 26 (0, 0))) ∧ (Below w.heap.size w w8) ∧ (Kd.C k26 w8 A l.length l) ∧ (Kd.C k39 w8 A2 X.length X) ∧ (X.length ≤ c2) ∧ (Kd.C k39 w8 A3 Y1.length Y1) ∧ (Y1.length ≤ c3) ∧ (Kd.C k26 w8 A4 U.length U) ∧ (U.length ≤ c4) ∧ (Kd.C k26 w8 A8 l.length l) ∧ (l.length ≤ c8) from ⟨blk_below HK.out.1 hB8, blk_below HK.out.2.1 hB8, HK.out.2.2.1.trans (hB8.mono HK.out.2.2.1.size), Kd.C_below HK.out.2.2.2.1 hB8, Kd.C_below HK.out.2.2.2.2.1 hB8, HK.out.2.2.2.2.2.1, Kd.C_below HK.out.2.2.2.2.2.2.1 hB8, HK.out.2.2.2.2.2.2.2.1, Kd.C_below HK.out.2.2.2.2.2.2.2.2.1 hB8, HK.out.2.2.2.2.2.2.2.2.2, hC8, hc8⟩)
    clear hB8 hC8 hc8
    go_wp2_with fail
    refine (HT.out.2.2.2.2.2.2.2.1 _ _ _ _ _ HK.out.2.2.2.2.2.2.2.2.2.2.1 HK.out.2.2.2.2.2.2.2.2.2.2.2 HK.out.2.2.2.1 HC.out.2).mono ?_
    rintro e w9 ⟨rfl, hB9⟩
    have HK := Lib.hid (show (w9.heap[w.heap.size]? = some (.cells #[.int .i64 a0, .int .i64 a1, .int .i64 a2, .bool a3] 26 (0, 0))) ∧ (w9.heap[w.heap.size + 1]? = some (.cells #[.int .i64 b0, .int .i64 b1, .int .i64 b2, .bool b3] 26 (0, 0))) ∧ (Below w.heap.size w w9) ∧ (Kd.C k26 w9 A l.length l) ∧ (Kd.C k39 w9 A2 X.length X) ∧ (X.length ≤ c2) ∧ (Kd.C k39 w9 A3 Y1.length Y1) ∧ (Y1.length ≤ c3) ∧ (Kd.C k26 w9 A4 U.length U) ∧ (U.length ≤ c4) ∧ (Kd.C k26 w9 A8 l.length l) ∧ (l.length ≤ c8) from ⟨blk_below HK.out.1 hB9, blk_below HK.out.2.1 hB9, HK.out.2.2.1.trans (hB9.mono HK.out.2.2.1.size), Kd.C_below HK.out.2.2.2.1 hB9, Kd.C_below HK.out.2.2.2.2.1 hB9, HK.out.2.2.2.2.2.1, Kd.C_below HK.out.2.2.2.2.2.2.1 hB9, HK.out.2.2.2.2.2.2.2.1, Kd.C_below HK.out.2.2.2.2.2.2.2.2.1 hB9, HK.out.2.2.2.2.2.2.2.2.2.1, Kd.C_below HK.out.2.2.2.2.2.2.2.2.2.2.1 hB9, HK.out.2.2.2.2.2.2.2.2.2.2.2⟩)
    clear hB9
    go_wp2_with fail
    refine (HT.out.2.2.1 _ _ _ HK.out.2.2.2.2.2.2.1 HK.out.2.2.2.2.2.2.2.1).mono ?_
    rintro e w10 ⟨A10, c10, rfl, hC10, hc10, hB10⟩
    have HK := Lib.hid (show (w10.heap[w.heap.size]? = some (.cells #[.int .i64 a0, .int .i64 a1, .int .i64 a2, .bool a3] 26 (0, 0))) ∧ (w10.heap[w.heap.size + 1]? = some (.cells #[.int .i64 b0, .int .i64 b1, .int .i64 b2, .bool b3] 26 (0, 0))) ∧ (Below w.heap.size w w10) ∧ (Kd.C k26 w10 A l.length l) ∧ (Kd.C k39 w10 A2 X.length X) ∧ (X.length ≤ c2) ∧ (Kd.C k39 w10 A3 Y1.length Y1) ∧ (Y1.length ≤ c3) ∧ (Kd.C k26 w10 A4 U.length U) ∧ (U.length ≤ c4) ∧ (Kd.C k26 w10 A8 l.length l) ∧ (l.length ≤ c8) ∧ (Kd.C k26 w10 A10 U.length U) ∧ (U.length ≤ c10) from ⟨blk_below HK.out.1 hB10, blk_below HK.out.2.1 hB10, HK.out.2.2.1.trans (hB10.mono HK.out.2.2.1.size), Kd.C_below HK.out.2.2.2.1 hB10, Kd.C_below HK.out.2.2.2.2.1 hB10, HK.out.2.2.2.2.2.1, Kd.C_below HK.out.2.2.2.2.2.2.1 hB10, HK.out.2.2.2.2.2.2.2.1, Kd.C_below HK.out.2.2.2.2.2.2.2.2.1 hB10, HK.out.2.2.2.2.2.2.2.2.2.1, Kd.C_below HK.out.2.2.2.2.2.2.2.2.2.2.1 hB10, HK.out.2.2.2.2.2.2.2.2.2.2.2, hC10, hc10⟩)
    clear hB10 hC10 hc10
    go_wp2_with fail
    refine (HT.out.2.2.2.2.2.2.2.2 _ _ _ _ _ HK.out.2.2.2.2.2.2.2.2.2.2.2.2.1 HK.out.2.2.2.2.2.2.2.2.2.2.2.2.2 HK.out.2.2.2.2.2.2.2.2.1 HK.out.2.2.2.2.2.2.2.2.2.1).mono ?_
    rintro e w11 ⟨rfl, hB11⟩
    have HK := Lib.hid (show (w11.heap[w.heap.size]? = some (.cells #[.int .i64 a0, .int .i64 a1, .int .i64 a2, .bool a3] 26 (0, 0))) ∧ (w11.heap[w.heap.size + 1]? = some (.cells #[.int .i64 b0, .int .i64 b1, .int .i64 b2, .bool b3] 26 (0, 0))) ∧ (Below w.heap.size w w11) ∧ (Kd.C k26 w11 A l.length l) ∧ (Kd.C k39 w11 A2 X.length X) ∧ (X.length ≤ c2) ∧ (Kd.C k39 w11 A3 Y1.length Y1) ∧ (Y1.length ≤ c3) ∧ (Kd.C k26 w11 A4 U.length U) ∧ (U.length ≤ c4) ∧ (Kd.C k26 w11 A8 l.length l) ∧ (l.length ≤ c8) ∧ (Kd.C k26 w11 A10 U.length U) ∧ (U.length ≤ c10) from ⟨blk_below HK.out.1 hB11, blk_below HK.out.2.1 hB11, HK.out.2.2.1.trans (hB11.mono HK.out.2.2.1.size), Kd.C_below HK.out.2.2.2.1 hB11, Kd.C_below HK.out.2.2.2.2.1 hB11, HK.out.2.2.2.2.2.1, Kd.C_below HK.out.2.2.2.2.2.2.1 hB11, HK.out.2.2.2.2.2.2.2.1, Kd.C_below HK.out.2.2.2.2.2.2.2.2.1 hB11, HK.out.2.2.2.2.2.2.2.2.2.1, Kd.C_below HK.out.2.2.2.2.2.2.2.2.2.2.1 hB11, HK.out.2.2.2.2.2.2.2.2.2.2.2.1, Kd.C_below HK.out.2.2.2.2.2.2.2.2.2.2.2.2.1 hB11, HK.out.2.2.2.2.2.2.2.2.2.2.2.2.2⟩)
    clear hB11
    have p0 := blk_cell HK.out.1 0
    have p1 := blk_cell HK.out.1 1
    have p2 := blk_cell HK.out.1 2
    have HZ := Lib.hid HK.out.2.2.1
    have HY := Lib.hid HK.out.2.2.2.2.2.2.1
    by_cases e1 : Y2 = 0
    · subst e1
      by_cases e2 : Z2 = 0
      · subst e2
        obtain ⟨f1, f2⟩ := HF.out.1 rfl rfl
        have hlast : rd_T39 Y1 ((Y1.length : Int) - 1) = ⟨a0, ⟨a1, a2⟩, true⟩ := by
          rw [f1]; unfold rd_T39
          simp
        have hpos : 0 < Y1.length := by rw [f1]; simp
        obtain ⟨m, hm⟩ : ∃ m : Nat, (Y1.length : Int) - 1 = m := ⟨Y1.length - 1, by omega⟩
        have hw : wrap64 ((Y1.length : Int) - 1) = (m : Int) := by rw [← hm]; have := HF.out.2; unfold wrap64; omega
        rw [hm] at hlast
        have hi0 : (0 : Int) ≤ m := by omega
        have hi1 : (m : Int) < Y1.length := by omega
        obtain ⟨ad, rfl, q0, q1, q2, q3⟩ := at_T39 HY.out (m : Int) hi0 hi1
        rw [hlast] at q0 q1 q2 q3
        simp only [Int.toNat_natCast] at q0 q1 q2 q3
        clear hm hpos
        clear f1 hlast HF HT
        rw [f2]
        clear f2
        go_wp2_with fail
        go_quiet (fail)
        go_wp2_with fail
        go_ret
        exact ⟨rfl, pw_below_drewN HZ.out _⟩
      · have e2b : (Z2 == 0) = false := beq_eq_false_iff_ne.mpr e2
        have e2c : (Z2 != 0) = true := bne_iff_ne.mpr e2
        clear e2
        go_wp2_with fail
        go_quiet (fail)
        go_wp2_with fail
        go_ret
        exact ⟨rfl, pw_below_drewN HZ.out _⟩
    · have e1b : (Y2 == 0) = false := beq_eq_false_iff_ne.mpr e1
      have e1c : (Y2 != 0) = true := bne_iff_ne.mpr e1
      clear e1
      go_wp2_with fail
      go_quiet (fail)
      go_wp2_with fail
      go_ret
      exact ⟨rfl, pw_below_drewN HZ.out _⟩

theorem walk_TxnOwn {H : Type} {enc : TypeId × Value → H} (W : World) (base : Nat) (v0 : Value) (d0 : DataW H) (p0 : List MemPlace) (o0 : Value.okWide Try.prog W .any base 22 v0) (h0 : DataW.Trod enc Try.prog W 0 (fun _ => true) true 22 v0 d0 p0) (v1 : Value) (d1 : DataW H) (p1 : List MemPlace) (o1 : Value.okWide Try.prog W .any base 26 v1) (h1 : DataW.Trod enc Try.prog W 0 (fun _ => true) true 26 v1 d1 p1) (v2 : Value) (d2 : DataW H) (p2 : List MemPlace) (o2 : Value.okWide Try.prog W .any base 26 v2) (h2 : DataW.Trod enc Try.prog W 0 (fun _ => true) true 26 v2 d2 p2) {P : Prop} (_hsz : P) :
    Calls Try.prog 3 #[v0, v1, v2] W fun e w' => e = .returned (.bool true) ∧ Below W.heap.size W w' := by
  obtain ⟨A, c, l, rfl, hc, hC, -⟩ := steps_of o0 h0
  obtain ⟨a0, a1, a2, a3, rfl⟩ := one_of o1 h1
  obtain ⟨b0, b1, b2, b3, rfl⟩ := one_of o2 h2
  exact own_walk A c l a0 a1 a2 a3 b0 b1 b2 b3 W hC hc

end Go.Proofs.Ytaagbiaddgohkaa
