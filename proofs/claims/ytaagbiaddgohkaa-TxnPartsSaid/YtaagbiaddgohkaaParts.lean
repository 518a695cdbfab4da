/- The walk of TxnParts, by hand: what two rows of steps leave is what the latter one leaves, and of all else what the former one does. -/
import Derived.Test.YtaagbiaddgohkaaOwn
import Derived.Test.YtaagbiaddgohkaaHVals
import Derived.Maps.OwnOps
set_option linter.unusedSimpArgs false
set_option linter.unusedVariables false
namespace Go.Proofs.Ytaagbiaddgohkaa
open Go.ChangeShapes Go.WideShapes Go.ChangeAt Go.RowKit Go.Lib Go.Maps Go.Proofs.Ytaagbiaddgohkaa.Q Go.Proofs.YtaagbiaddgohkaaW.PrintWords Go.Proofs.YtaagbiaddgohkaaW.PrintLast Go.Proofs.YtaagbiaddgohkaaW.PrintMore
attribute [local go_sem high] eqA39 eqA34

/-- How long a row is that came in. -/
theorem len_of {H : Type} {enc : TypeId × Value → H} {W : World} {A : Option Addr} {n c : Nat} {dt : DataW H} {p : List MemPlace} (h : DataW.Trod enc Try.prog W 0 (fun _ => true) true 22 (.slice A n c) dt p) : n = 0 ∨ ∃ el sp, dt = .slice el sp ∧ el.length = n := by
  obtain ⟨fuel, hf⟩ := h
  rcases Deep.open_slice Try.underlying22 hf with ⟨h1, -⟩ | ⟨ad, len', cap', m, q, D, Pl, h1, -, -, -, -, hx, -⟩
  · have h1 : [Value.slice A n c] = [Value.slice none 0 0] := h1
    injection h1 with h1
    injection h1 with e1 e2 e3
    exact .inl e2
  · have h1 : [Value.slice A n c] = [Value.slice (some ad) len' cap'] := h1
    injection h1 with h1
    injection h1 with e1 e2 e3
    injection hx with hx _
    exact .inr ⟨_, _, hx, by simp [e2]⟩

/-- The map behind j rows. -/
def G (X Y : List S39) (j : Nat) : Int → Option S34 := if j = 0 then (fun _ => none) else if j = 1 then updL (writesL X) (fun _ => none) else updL (writesL Y) (updL (writesL X) (fun _ => none))

set_option maxHeartbeats 8000000 in
set_option maxRecDepth 100000 in
theorem parts_walk (A A' : Option Addr) (c c' : Nat) (l l' : List S26) (w : World) (hC : Kd.C k26 w A l.length l) (hc : l.length ≤ c) (hC' : Kd.C k26 w A' l'.length l') (hc' : l'.length ≤ c') (hz : l.length ≤ 9000000000000) (hz' : l'.length ≤ 9000000000000) :
    Calls Try.prog 4 #[.slice A l.length c, .slice A' l'.length c'] w fun e w' => e = .returned (.bool true) ∧ Below w.heap.size w w' := by
  have hu := Try.underlying39
  have hu34 := Try.underlying34
  have hu41 := Try.underlying41
  have hu42 := Try.underlying42
  have hk3 := int_keyed Try.underlying3
  have hmm := @run_makeMap Try.prog
  have C0 := Lib.hid (fun W => warpbeamlaw08_alive.calls true W rfl)
  have HC := Lib.hid (And.intro hC (And.intro hc (And.intro hC' hc')))
  have hwr : wrap64 ((l.length : Int) + l'.length) = (l.length : Int) + l'.length := by unfold wrap64; omega
  clear hC hc hC' hc'
  by_cases hn : (l.length : Int) + l'.length > 250
  · go_enter Try.func4, Try.ntmps4
    go_wp2_with fail
    refine (C0.out _).mono ?_
    rintro e w1 ⟨rfl, hB1⟩
    have HZ := Lib.hid hB1
    clear hB1
    go_wp2_with fail
    go_ret
    exact ⟨rfl, HZ.out⟩
  · have hl : l.length + l'.length ≤ 250 := by omega
    obtain ⟨X, hX⟩ : ∃ X, l.map conv39 = X := ⟨_, rfl⟩
    obtain ⟨Y, hY⟩ : ∃ Y, l'.map conv39 = Y := ⟨_, rfl⟩
    have hlX : X.length + Y.length ≤ 250 := by rw [← hX, ← hY, List.length_map, List.length_map]; exact hl
    have T1 : ∀ W A c, Kd.C k26 W A l.length l → l.length ≤ c → Calls Try.prog 7 #[.slice A l.length c] W fun e w' => ∃ A c, e = .returned (.slice A X.length c) ∧ Kd.C k39 w' A X.length X ∧ X.length ≤ c ∧ Below W.heap.size W w' := fun W A c h1 h2 => by
      have := theirs_calls l (by omega) A c W h1 h2
      rwa [hX] at this
    have T2 : ∀ W A c, Kd.C k26 W A l'.length l' → l'.length ≤ c → Calls Try.prog 7 #[.slice A l'.length c] W fun e w' => ∃ A c, e = .returned (.slice A Y.length c) ∧ Kd.C k39 w' A Y.length Y ∧ Y.length ≤ c ∧ Below W.heap.size W w' := fun W A c h1 h2 => by
      have := theirs_calls l' (by omega) A c W h1 h2
      rwa [hY] at this
    have HT := Lib.hid (And.intro T1 (And.intro T2 hlX))
    clear T1 T2 hX hY hlX hl
    go_enter Try.func4, Try.ntmps4
    go_wp2_with fail
    refine (C0.out _).mono ?_
    rintro e w1 ⟨rfl, hB1⟩
    have HK := Lib.hid (And.intro hB1 (And.intro (Kd.C_below HC.out.1 hB1) (Kd.C_below HC.out.2.2.1 hB1)))
    clear hB1
    go_wp2_with fail
    refine (HT.out.1 _ _ _ HK.out.2.1 HC.out.2.1).mono ?_
    rintro e w2 ⟨A2, c2, rfl, hC2, hc2, hB2⟩
    have HK := Lib.hid (And.intro (HK.out.1.trans (hB2.mono HK.out.1.size)) (And.intro (Kd.C_below HK.out.2.2 hB2) (And.intro hC2 hc2)))
    clear hC2 hc2 hB2
    go_wp2_with fail
    refine (HT.out.2.1 _ _ _ HK.out.2.1 HC.out.2.2.2).mono ?_
    rintro e w3 ⟨A3, c3, rfl, hC3, hc3, hB3⟩
    have HK := Lib.hid (show Below w.heap.size w w3 ∧ Kd.C k39 w3 A2 X.length X ∧ X.length ≤ c2 ∧ Kd.C k39 w3 A3 Y.length Y ∧ Y.length ≤ c3 from ⟨HK.out.1.trans (hB3.mono HK.out.1.size), Kd.C_below HK.out.2.2.1 hB3, HK.out.2.2.2, hC3, hc3⟩)
    clear hC3 hc3 hB3
    go_wp2_with (at_builtin; refine Kd.R_append_rows k39 (w0 := w3) (Rr := k39.K w3) w3.heap.size rfl _ _ 29 39 _ _ rfl Try.underlying29 info39 rfl (by decide) (by decide) _ [] X A2 X.length c2 (fun _ => True) (fun _ => False) rfl rfl (Kd.R_nil _ _ _ _ _) HK.out.2.1 (fun x cs h => flat39 h _ _) (fun _ h => h.elim) (fun _ _ => trivial) (Below.refl _ _) (Nat.le_refl _) (by have := HT.out.2.2; simp; omega) ?_)
    intro v4 w4 hR4 hB4 _ _
    obtain ⟨A4, c4, rfl⟩ := Kd.R_slice hR4
    have HR4 := Lib.hid (And.intro hR4 hB4)
    clear hR4 hB4
    go_wp2_with (at_builtin; refine Kd.R_append_rows k39 (w0 := w3) (Rr := k39.K w4) w3.heap.size rfl _ _ 29 39 _ _ rfl Try.underlying29 info39 rfl (by decide) (by decide) _ X Y A3 Y.length c3 (fun _ => True) (fun _ => False) rfl rfl HR4.out.1 (Kd.C_below HK.out.2.2.2.1 HR4.out.2) (fun x cs h => flat39 h _ _) (fun _ h => h.elim) (fun _ _ => trivial) HR4.out.2 HR4.out.2.size (by have := HT.out.2.2; omega) ?_)
    intro v5 w5 hR5 hB5 _ _
    obtain ⟨A5, c5, rfl⟩ := Kd.R_slice hR5
    have hr := Kd.R_reads' hR5
    have HK := Lib.hid (show Below w.heap.size w w5 ∧ Kd.C k39 w5 A2 X.length X ∧ X.length ≤ c2 ∧ Kd.C k39 w5 A3 Y.length Y ∧ Y.length ≤ c3 ∧ Kd.C k39 w5 A5 (X ++ Y).length (X ++ Y) from ⟨HK.out.1.trans (hB5.mono HK.out.1.size), Kd.C_below HK.out.2.1 hB5, HK.out.2.2.1, Kd.C_below HK.out.2.2.2.1 hB5, HK.out.2.2.2.2, hr.2.2⟩)
    clear hR5 hB5 hr HR4
    obtain ⟨Z, hZ⟩ : ∃ Z, X ++ Y = Z := ⟨_, rfl⟩
    have hlZ : Z.length ≤ 250 := by rw [← hZ, List.length_append]; exact HT.out.2.2
    have hgz : G X Y 2 = fun x => (writesF Z x).map (·.f1) := by rw [← hZ]; exact both_left X Y
    rw [hZ] at HK ⊢
    have HZ := Lib.hid (And.intro hlZ hgz)
    clear hZ hlZ hgz
    obtain ⟨W0, hW0, hM, hS, hB0, hsz⟩ : ∃ W0, (w5.alloc (.map #[] 0)).alloc (.cells #[.slice A2 X.length c2, .slice A3 Y.length c3] 29) = W0 ∧ W0.ownsMap Try.prog 3 r34 w5.heap.size 0 (.map []) ∧ W0.heap[w5.heap.size + 1]? = some (.cells #[.slice A2 X.length c2, .slice A3 Y.length c3] 29 (0, 0)) ∧ Below w5.heap.size w5 W0 ∧ W0.heap.size = w5.heap.size + 2 := by
      obtain ⟨V, rfl, h1, h2, h3, h4⟩ := two_named w5 (.map #[] 0) (.cells #[.slice A2 X.length c2, .slice A3 Y.length c3] 29)
      exact ⟨_, rfl, (World.ownsMap_made w5 Try.prog 3 r34).alloc _, h2, h3, h4⟩
    have HM := Lib.hid (And.intro hM (And.intro hS hB0))
    clear hM hS hB0 hsz
    go_wp2_with fail
    go_loopg [10, 12, 39] 2 (fun kq _ _ v39 W => ∃ j : Nat, v39 = .int .i64 j ∧ Hid (kq + j = 2) ∧ Hid ((∃ n D, W.ownsMap Try.prog 3 r34 w5.heap.size n D ∧ n ≤ 64 * j ∧ Is4 D (G X Y j)) ∧ W.heap[w5.heap.size + 1]? = some (.cells #[.slice A2 X.length c2, .slice A3 Y.length c3] 29 (0, 0)) ∧ Below w5.heap.size w5 W))
    case atStart => exact ⟨0, rfl, by simp [Hid], Lib.hid ⟨⟨0, _, HM.out.1, Nat.le_refl _, Is4.nil⟩, HM.out.2.1, HM.out.2.2⟩⟩
    case round =>
      obtain ⟨j, rfl, hj, hJ⟩ := hrel
      obtain ⟨⟨n, D, hD, hn, hI⟩, hS, hB⟩ := hJ.out
      clear hJ HM
      have hj3 : j < 2 ∨ j = 2 := by have := hj.out; omega
      rcases hj3 with hj2 | rfl
      · obtain ⟨Aj, cj, L, hcell, hCL, hcL, hlL, hG⟩ : ∃ Aj cj L, wr.cell? ⟨w5.heap.size + 1, j, none⟩ = some (.slice Aj L.length cj) ∧ Kd.C k39 wr Aj L.length L ∧ L.length ≤ cj ∧ L.length ≤ 250 ∧ G X Y (j + 1) = updL (writesL L) (G X Y j) := by
          have hj01 : j = 0 ∨ j = 1 := by omega
          rcases hj01 with rfl | rfl
          · exact ⟨A2, c2, X, blk_cell hS 0, Kd.C_below HK.out.2.1 hB, HK.out.2.2.1, by have := HT.out.2.2; omega, rfl⟩
          · exact ⟨A3, c3, Y, blk_cell hS 1, Kd.C_below HK.out.2.2.2.1 hB, HK.out.2.2.2.2.1, by have := HT.out.2.2; omega, rfl⟩
        have C1 := Lib.hid (writes_calls Aj cj L wr hCL (by omega))
        obtain ⟨LW, hLW⟩ : ∃ LW, writesL L = LW := ⟨_, rfl⟩
        have hlw : LW.length ≤ 64 := by rw [← hLW]; exact writes_len L
        have hgd : ∀ s ∈ LW, 0 ≤ s.f0 ∧ s.f0 < 64 := fun s hs => by
          rw [← hLW] at hs
          exact (good_writes L _ _ ((mem_listOf (good_writes L)).1 hs)).2
        rw [hLW] at C1 hG
        have HL := Lib.hid (And.intro hlw (And.intro hgd hG))
        have HJ := Lib.hid (show (∃ n D, wr.ownsMap Try.prog 3 r34 w5.heap.size n D ∧ n ≤ 64 * j ∧ Is4 D (G X Y j)) ∧ wr.heap[w5.heap.size + 1]? = some (.cells #[.slice A2 X.length c2, .slice A3 Y.length c3] 29 (0, 0)) ∧ Below w5.heap.size w5 wr from ⟨⟨n, D, hD, hn, hI⟩, hS, hB⟩)
        have hj0 : (0 : Int) ≤ j := by omega
        have hj1 : (j : Int) < 2 := by omega
        clear hLW hlw hgd hG hCL hcL hlL hD hn hI hS hB
        go_wp2_with fail
        refine C1.out.mono ?_
        rintro e V ⟨AW, cW, rfl, hCW, hcW, hBW⟩
        clear hcell C1
        have HJ := Lib.hid (show ((∃ n D, V.ownsMap Try.prog 3 r34 w5.heap.size n D ∧ n ≤ 64 * j ∧ Is4 D (G X Y j)) ∧ V.heap[w5.heap.size + 1]? = some (.cells #[.slice A2 X.length c2, .slice A3 Y.length c3] 29 (0, 0)) ∧ Below w5.heap.size w5 V) ∧ Kd.C k39 V AW LW.length LW from by
          obtain ⟨⟨n, D, h1, h2, h3⟩, h4, h5⟩ := HJ.out
          exact ⟨⟨⟨n, D, by
            obtain ⟨es, clock, hb, Ft, hs, hD⟩ := h1
            exact ⟨es, clock, blk_below hb hBW, Ft, hs, hD⟩, h2, h3⟩, blk_below h4 hBW, h5.trans (hBW.mono h5.size)⟩, hCW⟩)
        clear hCW hcW hBW
        obtain ⟨kk, hkk⟩ : ∃ m, gk = m + 1 := ⟨gk - 1, by have := hj.out; omega⟩
        subst hkk
        go_wp2_with fail
        go_loopg [12, 46] LW.length (fun kq _ v46 W => ∃ i : Nat, v46 = .int .i64 i ∧ Hid (kq + i = LW.length) ∧ Hid (((∃ n D, W.ownsMap Try.prog 3 r34 w5.heap.size n D ∧ n ≤ 64 * j + i ∧ Is4 D (updL (LW.take i) (G X Y j))) ∧ W.heap[w5.heap.size + 1]? = some (.cells #[.slice A2 X.length c2, .slice A3 Y.length c3] 29 (0, 0)) ∧ Below w5.heap.size w5 W) ∧ Kd.C k39 W AW LW.length LW))
        case atStart => exact ⟨0, rfl, by simp [Hid], HJ⟩
        case round =>
          obtain ⟨i, rfl, hk, hQ⟩ := hrel
          clear HJ
          obtain ⟨⟨⟨n, D, hD, hn, hI⟩, hS, hB⟩, hCW⟩ := hQ.out
          clear hQ
          by_cases hi : i < LW.length
          · have hi2 : (i : Int) < LW.length := by omega
            have hi0 : (0 : Int) ≤ i := by omega
            obtain ⟨ad, rfl, a0, a1, a2, a3⟩ := at_T39 hCW (i : Int) hi0 hi2
            have hx : LW[i]? = some (rd_T39 LW i) := by
              unfold rd_T39
              simp [List.getD_eq_getElem?_getD, hi]
            have hin : rd_T39 LW i ∈ LW := by
              unfold rd_T39
              simp [List.getD_eq_getElem?_getD, hi]
            have hup := updL_take LW (G X Y j) hx
            obtain ⟨g0, g1⟩ := HL.out.2.1 _ hin
            simp only [Int.toNat_natCast] at a0 a1 a2 a3
            generalize rd_T39 LW (i : Int) = x at *
            obtain ⟨s0, ⟨s1, s2⟩, s3⟩ := x
            dsimp only at a0 a1 a2 a3 g0 g1
            have hwf : (Lit.int .i64 s0).wf = true := wf_i64 (by omega) (by omega)
            obtain ⟨W3, hW3, B3, hB3⟩ : ∃ W3, wr.alloc (.cells #[.int .i64 s0, .int .i64 s1, .int .i64 s2, .bool s3] 39) = W3 ∧ W3.heap[wr.heap.size]? = some (.cells #[.int .i64 s0, .int .i64 s1, .int .i64 s2, .bool s3] 39 (0, 0)) ∧ Below wr.heap.size wr W3 := ⟨_, rfl, heap_alloc_new _ _, bOne _⟩
            have b0 := blk_cell B3 0
            have b1 := blk_cell B3 1
            have b2 := blk_cell B3 2
            have b3 := blk_cell B3 3
            have f0 := blk_frozen B3 0
            have f1 := blk_frozen B3 1
            have f2 := blk_frozen B3 2
            have f3 := blk_frozen B3 3
            have hD3 : W3.ownsMap Try.prog 3 r34 w5.heap.size n D := by rw [← hW3]; exact hD.alloc _
            have HQ := Lib.hid (show n ≤ 64 * j + i ∧ Is4 D (updL (LW.take i) (G X Y j)) ∧ W3.heap[w5.heap.size + 1]? = some (.cells #[.slice A2 X.length c2, .slice A3 Y.length c3] 29 (0, 0)) ∧ Below w5.heap.size w5 W3 ∧ Kd.C k39 W3 (some ad) LW.length LW from ⟨hn, hI, blk_below hS hB3, hB.trans (hB3.mono hB.size), Kd.C_below hCW hB3⟩)
            have HUP := Lib.hid hup
            have hnm : n < maxLen := by have := HL.out.1; have := hj.out; have : n ≤ 1000 := by omega
                                        simp only [maxLen]; omega
            clear hn hI hS hB hCW hB3 B3 hx hin hup hD
            go_wp2_with (first | (at_mapUpdate; refine wpList_mapUpdate_own _ rfl _ _ _ 41 rfl 3 34 hk3 hu41 r34 w5.heap.size n D rfl hD3 hnm _ _ _ rfl rfl (Maps.keyOf_int_mk Try.underlying3 hwf) (.held ⟨s1, s2⟩) [] rfl ?_; intro w1 hown1 hgrow1) | fail)
            have HN := Lib.hid (show ((∃ n D, w1.ownsMap Try.prog 3 r34 w5.heap.size n D ∧ n ≤ 64 * j + (i + 1) ∧ Is4 D (updL (LW.take (i + 1)) (G X Y j))) ∧ w1.heap[w5.heap.size + 1]? = some (.cells #[.slice A2 X.length c2, .slice A3 Y.length c3] 29 (0, 0)) ∧ Below w5.heap.size w5 w1) ∧ Kd.C k39 w1 (some ad) LW.length LW from by
              obtain ⟨h1, h2, h3, h4, h5⟩ := HQ.out
              obtain ⟨o, ho, hoc⟩ := map_obj hD3
              exact ⟨⟨⟨n + 1, _, hown1, by omega, by rw [HUP.out]; exact h2.put s0 ⟨s1, s2⟩⟩, blk_grown h3 hgrow1 (by intro h; injection h with h; omega), h4.grown hgrow1 h4.size (fun k e => by injection e with e; omega)⟩, C39_grown h5 ho hoc hgrow1⟩)
            clear hown1 hgrow1
            go_wp2_with fail
            obtain ⟨k1, rfl⟩ : ∃ m, gk = m + 1 := ⟨gk - 1, by have := hk.out; omega⟩
            go_roundg k1
            case measure => omega
            case rel => exact ⟨i + 1, by first | rfl | exact congrArg _ (wrap_next (by have := HL.out.1; omega)), Lib.hid (by have := hk.out; omega), HN⟩
          · have hil : ¬ (i : Int) < LW.length := by omega
            have hie : i = LW.length := by have := hk.out; omega
            subst hie
            have HN := Lib.hid (show (∃ n D, wr.ownsMap Try.prog 3 r34 w5.heap.size n D ∧ n ≤ 64 * (j + 1) ∧ Is4 D (G X Y (j + 1))) ∧ wr.heap[w5.heap.size + 1]? = some (.cells #[.slice A2 X.length c2, .slice A3 Y.length c3] 29 (0, 0)) ∧ Below w5.heap.size w5 wr from ⟨⟨n, D, hD, by have := HL.out.1; omega, by rw [HL.out.2.2]; rw [List.take_length] at hI; exact hI⟩, hS, hB⟩)
            clear hD hn hI hS hB hCW
            go_wp2_with fail
            go_roundg kk
            case measure => omega
            case rel => exact ⟨j + 1, by first | rfl | exact congrArg _ (wrap_next (by omega)), Lib.hid (by have := hj.out; omega), HN⟩
      · have hI2 : Is4 D (fun x => (writesF Z x).map (·.f1)) := by rw [← HZ.out.2]; exact hI
        have hS4 : ∀ x s, (writesF Z x).map (·.f1) = some s → 0 ≤ x ∧ x < 64 := fun x s h => by
          obtain ⟨t, ht, -⟩ := Option.map_eq_some_iff.1 h
          exact (good_writes Z x t ht).2
        have hsz : Maps.size D = (writesL Z).length := by
          have h := size4 hD hI2 hS4
          rw [← len_listOf (writesF Z)] at h
          exact h
        have C1 := Lib.hid (writes_calls A5 c5 Z wr (Kd.C_below HK.out.2.2.2.2.2 hB) (by have := HZ.out.1; omega))
        obtain ⟨LW, hLW⟩ : ∃ LW, writesL Z = LW := ⟨_, rfl⟩
        have hlw : LW.length ≤ 64 := by rw [← hLW]; exact writes_len Z
        have hgd : ∀ s ∈ LW, (0 ≤ s.f0 ∧ s.f0 < 64) ∧ (∀ z, D.atKey (.int .i64 s.f0) z = .held s.f1) := fun s hs => by
          rw [← hLW] at hs
          have h1 := (mem_listOf (good_writes Z)).1 hs
          refine ⟨(good_writes Z _ _ h1).2, ?_⟩
          rcases hI2.2 s.f0 with ⟨t, h2, h3⟩ | ⟨h2, -⟩
          · have h2 : (writesF Z s.f0).map (·.f1) = some t := h2
            rw [h1] at h2
            have h2 : some s.f1 = some t := h2
            injection h2 with h2
            rw [h2]
            exact h3
          · have h2 : (writesF Z s.f0).map (·.f1) = none := h2
            rw [h1] at h2; cases h2
        rw [hLW] at C1 hsz
        have HL := Lib.hid (And.intro hlw (And.intro hgd hsz))
        have HJ := Lib.hid (And.intro hD hB)
        clear hLW hlw hgd hsz hI2 hS4 hn hI hS hD hB
        go_wp2_with fail
        refine C1.out.mono ?_
        rintro e V ⟨AW, cW, rfl, hCW, hcW, hBW⟩
        have HJ := Lib.hid (show (V.ownsMap Try.prog 3 r34 w5.heap.size n D ∧ Below w.heap.size w V) ∧ Kd.C k39 V AW LW.length LW from by
          obtain ⟨h1, h5⟩ := HJ.out
          obtain ⟨es, clock, hb, Ft, hs, hD⟩ := h1
          exact ⟨⟨⟨es, clock, blk_below hb hBW, Ft, hs, hD⟩, (HK.out.1.trans (h5.mono HK.out.1.size)).trans (hBW.mono (HK.out.1.trans (h5.mono HK.out.1.size)).size)⟩, hCW⟩)
        clear hCW hcW hBW C1
        go_wp2_with fail
        go_loopg [15, 16, 17, 61] LW.length (fun kq _ _ _ v61 W => ∃ i : Nat, v61 = .int .i64 i ∧ Hid (kq + i = LW.length) ∧ Hid ((W.ownsMap Try.prog 3 r34 w5.heap.size n D ∧ Below w.heap.size w W) ∧ Kd.C k39 W AW LW.length LW))
        case atStart => exact ⟨0, rfl, by simp [Hid], HJ⟩
        case round =>
          obtain ⟨i, rfl, hk, hQ⟩ := hrel
          clear HJ
          obtain ⟨⟨hD, hB⟩, hCW⟩ := hQ.out
          clear hQ
          by_cases hi : i < LW.length
          · have hi2 : (i : Int) < LW.length := by omega
            have hi0 : (0 : Int) ≤ i := by omega
            obtain ⟨ad, rfl, a0, a1, a2, a3⟩ := at_T39 hCW (i : Int) hi0 hi2
            have hin : rd_T39 LW i ∈ LW := by
              unfold rd_T39
              simp [List.getD_eq_getElem?_getD, hi]
            obtain ⟨⟨g0, g1⟩, hat⟩ := HL.out.2.1 _ hin
            simp only [Int.toNat_natCast] at a0 a1 a2 a3
            generalize rd_T39 LW (i : Int) = x at *
            obtain ⟨s0, ⟨s1, s2⟩, s3⟩ := x
            dsimp only at a0 a1 a2 a3 g0 g1 hat
            have hwf : (Lit.int .i64 s0).wf = true := wf_i64 (by omega) (by omega)
            obtain ⟨W3, hW3, B3, hB3⟩ : ∃ W3, wr.alloc (.cells #[.int .i64 s0, .int .i64 s1, .int .i64 s2, .bool s3] 39) = W3 ∧ W3.heap[wr.heap.size]? = some (.cells #[.int .i64 s0, .int .i64 s1, .int .i64 s2, .bool s3] 39 (0, 0)) ∧ Below wr.heap.size wr W3 := ⟨_, rfl, heap_alloc_new _ _, bOne _⟩
            obtain ⟨W4, hW4, B4, hB4⟩ : ∃ W4, W3.alloc (.cells #[.int .i64 s1, .int .i64 s2] 34) = W4 ∧ W4.heap[W3.heap.size]? = some (.cells #[.int .i64 s1, .int .i64 s2] 34 (0, 0)) ∧ Below W3.heap.size W3 W4 := ⟨_, rfl, heap_alloc_new _ _, bOne _⟩
            have b0 := blk_cell B3 0
            have b1 := blk_cell B3 1
            have b2 := blk_cell B3 2
            have b3 := blk_cell B3 3
            have f0 := blk_frozen B3 0
            have f1 := blk_frozen B3 1
            have f2 := blk_frozen B3 2
            have f3 := blk_frozen B3 3
            have B34 := blk_below B3 hB4
            have e0 := blk_cell B34 0
            have e1 := blk_cell B34 1
            have e2 := blk_cell B34 2
            have e3 := blk_cell B34 3
            have d0 := blk_cell B4 0
            have d1 := blk_cell B4 1
            have hD3 : W3.ownsMap Try.prog 3 r34 w5.heap.size n D := by rw [← hW3]; exact hD.alloc _
            have hlook : (Instr.lookup 41 (.map (some w5.heap.size)) (.int .i64 s0) true).run Try.prog W3 = .ok (.tuple #[.agg #[.int .i64 s1, .int .i64 s2], .bool true]) W3 := by
              obtain ⟨v, ps, h1, h2⟩ := hD3.look_ok hk3 hu41 (Try.zeroValue34 W3) (zd := .held z34) (zp := []) rfl (Maps.keyOf_int_mk Try.underlying3 hwf)
              rw [hat] at h2
              obtain ⟨t, rfl, h3⟩ := r34_inv h2
              injection h3 with h3
              injection h3 with h3
              subst h3
              rw [h1, has_true_of_atKey hat]
            have HQ := Lib.hid (show (W4.ownsMap Try.prog 3 r34 w5.heap.size n D ∧ Below w.heap.size w W4) ∧ Kd.C k39 W4 (some ad) LW.length LW from ⟨⟨by rw [← hW4]; exact hD3.alloc _, (hB.trans (hB3.mono hB.size)).trans (hB4.mono (hB.trans (hB3.mono hB.size)).size)⟩, Kd.C_below (Kd.C_below hCW hB3) hB4⟩)
            clear hD hB hCW hB3 hB4 B3 B4 B34 hin hat hD3
            go_wp2_with fail
            obtain ⟨k1, rfl⟩ : ∃ m, gk = m + 1 := ⟨gk - 1, by have := hk.out; omega⟩
            go_roundg k1
            case measure => omega
            case rel => exact ⟨i + 1, by first | rfl | exact congrArg _ (wrap_next (by have := HL.out.1; omega)), Lib.hid (by have := hk.out; omega), HQ⟩
          · have hil : ¬ (i : Int) < LW.length := by omega
            have hie : i = LW.length := by have := hk.out; omega
            subst hie
            have hlen := hD.len hu41 3
            have hss : ((LW.length : Int) == (Maps.size D : Int)) = true := by rw [HL.out.2.2]; simp
            have HN := Lib.hid hB
            clear hB hCW
            go_wp2_with fail
            go_ret
            exact ⟨rfl, HN.out⟩

theorem walk_TxnParts {H : Type} {enc : TypeId × Value → H} (W : World) (base : Nat) (v0 : Value) (d0 : DataW H) (p0 : List MemPlace) (o0 : Value.okWide Try.prog W .any base 22 v0) (h0 : DataW.Trod enc Try.prog W 0 (fun _ => true) true 22 v0 d0 p0) (v1 : Value) (d1 : DataW H) (p1 : List MemPlace) (o1 : Value.okWide Try.prog W .any base 22 v1) (h1 : DataW.Trod enc Try.prog W 0 (fun _ => true) true 22 v1 d1 p1) {ts : List TypeId} (_hsz : (DataW.weightsEach Try.prog (22 :: 22 :: ts) ([d0, d1] ++ [])).all (· ≤ reachBytes) = true) :
    Calls Try.prog 4 #[v0, v1] W fun e w' => e = .returned (.bool true) ∧ Below W.heap.size W w' := by
  obtain ⟨A, c, l, rfl, hc, hC, -⟩ := steps_of o0 h0
  obtain ⟨A', c', l', rfl, hc', hC', -⟩ := steps_of o1 h1
  have hb : Try.prog.bytesOf 26 = 32 := by kernel_rfl
  have z0 : l.length ≤ 9000000000000 := by
    rcases len_of h0 with h | ⟨el, sp, hd, hl⟩
    · omega
    · have := sized_slice _hsz (j := 0) (t := 22) (e := 26) (elems := el) (spare := sp) rfl (by rw [hd]; rfl) Try.underlying22
      rw [hb, hl] at this
      simp only [reachBytes] at this
      omega
  have z1 : l'.length ≤ 9000000000000 := by
    rcases len_of h1 with h | ⟨el, sp, hd, hl⟩
    · omega
    · have := sized_slice _hsz (j := 1) (t := 22) (e := 26) (elems := el) (spare := sp) rfl (by rw [hd]; rfl) Try.underlying22
      rw [hb, hl] at this
      simp only [reachBytes] at this
      omega
  exact parts_walk A A' c c' l l' W hC hc hC' hc' z0 z1

end Go.Proofs.Ytaagbiaddgohkaa
