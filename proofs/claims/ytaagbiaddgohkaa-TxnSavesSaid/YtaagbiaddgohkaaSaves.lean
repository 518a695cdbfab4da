/- The walk of TxnSaves, by hand: back at the place of now nothing changes; back at the beginning all that is written is gone. -/
import Derived.Test.YtaagbiaddgohkaaOwn
set_option linter.unusedSimpArgs false
set_option linter.unusedVariables false
namespace Go.Proofs.Ytaagbiaddgohkaa
open Go.ChangeShapes Go.WideShapes Go.ChangeAt Go.RowKit Go.Lib Go.Proofs.Ytaagbiaddgohkaa.Q Go.Proofs.YtaagbiaddgohkaaW.PrintWords Go.Proofs.YtaagbiaddgohkaaW.PrintLast Go.Proofs.YtaagbiaddgohkaaW.PrintMore

theorem rz_snd (l : List S39) : (rz l).map (·.2) = l.reverse := by
  apply List.ext_getElem
  · simp [rz]
  · intro i h1 h2
    have hi : i < l.length := by simpa [rz] using h1
    simp [rz, List.getElem_reverse, List.getD_eq_getElem?_getD, show l.length - 1 - i < l.length by omega]
theorem readsF_rev (l : List S39) : readsF (rz l) = l.reverse.foldl putR (fun _ => none) := by
  unfold readsF
  rw [← rz_snd, List.foldl_map]
theorem fold_read : ∀ (l : List S39) (f : Int → Option S39), (l.filter fun s => !s.f2).foldl putR f = l.foldl putR f
  | [], _ => rfl
  | s :: l, f => by
    rw [List.filter_cons]
    cases h : s.f2 with
    | true =>
      have : putR f s = f := by unfold putR; rw [if_neg (fun c => by rw [h] at c; cases c.1)]
      rw [List.foldl_cons, this]
      exact fold_read l f
    | false => exact fold_read l _
theorem reads_kept (l : List S39) : readsL (l.filter fun s => !s.f2) = readsL l := by
  unfold readsL
  rw [readsF_rev, readsF_rev, ← List.filter_reverse, fold_read]
theorem fold_none : ∀ (l : List S39) (f : Int → Option S39), (l.filter fun s => !s.f2).foldl putW f = f
  | [], _ => rfl
  | s :: l, f => by
    rw [List.filter_cons]
    cases h : s.f2 with
    | true => exact fold_none l f
    | false =>
      have : putW f s = f := by unfold putW; rw [if_neg (fun c => by rw [h] at c; cases c.1)]
      show (s :: l.filter _).foldl putW f = f
      rw [List.foldl_cons, this]
      exact fold_none l f
theorem writes_none (l : List S39) : (writesL (l.filter fun s => !s.f2)).length = 0 := by
  unfold writesL writesF
  rw [fold_none]
  decide
theorem reads_len (l : List S39) : (readsL l).length ≤ 64 := by
  unfold readsL listOf
  refine Nat.le_trans (List.length_filterMap_le _ _) ?_
  simp

set_option maxHeartbeats 4000000 in
set_option maxRecDepth 100000 in
theorem saves_walk (A : Option Addr) (c : Nat) (l : List S26) (w : World) (hC : Kd.C k26 w A l.length l) (hc : l.length ≤ c) :
    Calls Try.prog 5 #[.slice A l.length c] w fun e w' => e = .returned (.bool true) ∧ Below w.heap.size w w' := by
  have C0 := Lib.hid (fun W => warpbeamlaw08_alive.calls true W rfl)
  have HC := Lib.hid (And.intro hC hc)
  clear hC hc
  by_cases hn : (l.length : Int) > 250
  · go_enter Try.func5, Try.ntmps5
    go_wp2_with fail
    refine (C0.out _).mono ?_
    rintro e w1 ⟨rfl, hB1⟩
    have HZ := Lib.hid hB1
    clear hB1
    go_wp2_with fail
    go_ret
    exact ⟨rfl, HZ.out⟩
  · have hl : l.length ≤ 250 := by omega
    obtain ⟨X, hX⟩ : ∃ X, l.map conv39 = X := ⟨_, rfl⟩
    obtain ⟨N, hN⟩ : ∃ N, (X.filter fun s => !s.f2) = N := ⟨_, rfl⟩
    obtain ⟨R, hR⟩ : ∃ R, readsL X = R := ⟨_, rfl⟩
    obtain ⟨U, hU⟩ : ∃ U, R.map conv26 = U := ⟨_, rfl⟩
    have hlX : X.length ≤ 250 := by rw [← hX, List.length_map]; exact hl
    have hlN : N.length ≤ 250 := by rw [← hN]; exact Nat.le_trans (List.length_filter_le _ _) hlX
    have hlR : R.length ≤ 64 := by rw [← hR]; exact reads_len X
    have hlU : U.length ≤ 64 := by rw [← hU, List.length_map]; exact hlR
    have hw : wrap64 ((X.length : Int) + 1) = (X.length : Int) + 1 := by unfold wrap64; omega
    have T1 : ∀ W A c, Kd.C k26 W A l.length l → l.length ≤ c → Calls Try.prog 7 #[.slice A l.length c] W fun e w' => ∃ A c, e = .returned (.slice A X.length c) ∧ Kd.C k39 w' A X.length X ∧ X.length ≤ c ∧ Below W.heap.size W w' := fun W A c h1 h2 => by
      have := theirs_calls l (by omega) A c W h1 h2
      rwa [hX] at this
    have T2 : ∀ W A c, Kd.C k39 W A X.length X → X.length ≤ c → Calls Try.prog 13 #[.slice A X.length c] W fun e w' => e = .returned (.int .i64 X.length) ∧ Below W.heap.size W w' := fun W A c h1 h2 =>
      (txn_Save.calls A c X _ W h1 h2 rfl).mono fun e w' h => ⟨h.1, h.2.below⟩
    have T3 : ∀ W A c, Kd.C k39 W A X.length X → X.length ≤ c → Calls Try.prog 10 #[.slice A X.length c, .int .i64 X.length] W (Got W X 0) := fun W A c h1 h2 => by
      have := back_calls A c X X.length W h1 h2 (by omega)
      rwa [show backL X X.length = (X, 0) by unfold backL; rw [if_neg (by omega)]; simp] at this
    have T4 : ∀ W A c, Kd.C k39 W A X.length X → X.length ≤ c → Calls Try.prog 10 #[.slice A X.length c, .int .i64 0] W (Got W N 0) := fun W A c h1 h2 => by
      have := back_calls A c X 0 W h1 h2 (by omega)
      rwa [show backL X 0 = (N, 0) by unfold backL; rw [if_neg (by omega)]; simp [hN]] at this
    have T5 : ∀ W A c, Kd.C k39 W A X.length X → X.length ≤ c → Calls Try.prog 10 #[.slice A X.length c, .int .i64 ((X.length : Int) + 1)] W (Got W X 2) := fun W A c h1 h2 => by
      have := back_calls A c X ((X.length : Int) + 1) W h1 h2 (by omega)
      rwa [show backL X ((X.length : Int) + 1) = (X, 2) by unfold backL; rw [if_pos (.inr (by omega))]] at this
    have T6 : ∀ W A c, Kd.C k39 W A X.length X → X.length ≤ c → Calls Try.prog 9 #[.slice A X.length c] W fun e w' => ∃ A c, e = .returned (.slice A l.length c) ∧ Kd.C k26 w' A l.length l ∧ l.length ≤ c ∧ Below W.heap.size W w' := fun W A c h1 h2 => by
      have := ours_calls X (by omega) A c W h1 h2
      rwa [show X.map conv26 = l by rw [← hX]; exact back_forth l] at this
    have T7 : ∀ W A A' c c', Kd.C k26 W A l.length l → l.length ≤ c → Kd.C k26 W A' l.length l → l.length ≤ c' → Calls Try.prog 11 #[.slice A l.length c, .slice A' l.length c'] W fun e w' => e = .returned (.bool true) ∧ Below W.heap.size W w' := fun W A A' c c' h1 h2 h3 h4 => same_calls l (by omega) A A' c c' W h1 h2 h3 h4
    have T8 : ∀ W A c, Kd.C k39 W A N.length N → Calls Try.prog 12 #[.slice A N.length c] W fun e w' => ∃ A n c, e = .returned (.slice A n c) ∧ ((n : Int) == 0) = true ∧ Below W.heap.size W w' := fun W A c h1 =>
      (writes_calls A c N W h1 (by omega)).mono fun e w' ⟨A', c', h1, _, _, h4⟩ => ⟨A', _, c', h1, by rw [← hN, writes_none]; rfl, h4⟩
    have T9 : ∀ W A c, Kd.C k39 W A N.length N → Calls Try.prog 14 #[.slice A N.length c] W fun e w' => ∃ A c, e = .returned (.slice A R.length c) ∧ Kd.C k39 w' A R.length R ∧ R.length ≤ c ∧ Below W.heap.size W w' := fun W A c h1 => by
      have := reads_calls A c N W h1 (by omega)
      rwa [show readsL N = R by rw [← hN, reads_kept, hR]] at this
    have T10 : ∀ W A c, Kd.C k39 W A X.length X → Calls Try.prog 14 #[.slice A X.length c] W fun e w' => ∃ A c, e = .returned (.slice A R.length c) ∧ Kd.C k39 w' A R.length R ∧ R.length ≤ c ∧ Below W.heap.size W w' := fun W A c h1 => by
      have := reads_calls A c X W h1 (by omega)
      rwa [hR] at this
    have T11 : ∀ W A c, Kd.C k39 W A R.length R → R.length ≤ c → Calls Try.prog 9 #[.slice A R.length c] W fun e w' => ∃ A c, e = .returned (.slice A U.length c) ∧ Kd.C k26 w' A U.length U ∧ U.length ≤ c ∧ Below W.heap.size W w' := fun W A c h1 h2 => by
      have := ours_calls R (by omega) A c W h1 h2
      rwa [hU] at this
    have T12 : ∀ W A A' c c', Kd.C k26 W A U.length U → U.length ≤ c → Kd.C k26 W A' U.length U → U.length ≤ c' → Calls Try.prog 11 #[.slice A U.length c, .slice A' U.length c'] W fun e w' => e = .returned (.bool true) ∧ Below W.heap.size W w' := fun W A A' c c' h1 h2 h3 h4 => same_calls U (by omega) A A' c c' W h1 h2 h3 h4
    have HT := Lib.hid (And.intro T1 (And.intro T2 (And.intro T3 (And.intro T4 (And.intro T5 (And.intro T6 (And.intro T7 (And.intro T8 (And.intro T9 (And.intro T10 (And.intro T11 T12)))))))))))
    clear T1 T2 T3 T4 T5 T6 T7 T8 T9 T10 T11 T12 hX hN hR hU hlX hlN hlR hlU hl
    go_enter Try.func5, Try.ntmps5
    go_wp2_with fail
    refine (C0.out _).mono ?_
    rintro e w1 ⟨rfl, hB1⟩
    have HK := Lib.hid (And.intro hB1 (Kd.C_below HC.out.1 hB1))
    clear hB1
    go_wp2_with fail
    refine (HT.out.1 _ _ _ HK.out.2 HC.out.2).mono ?_
    rintro e w2 ⟨A2, c2, rfl, hC2, hc2, hB2⟩
    have HK := Lib.hid (show (Below w.heap.size w w2) ∧ (Kd.C k26 w2 A l.length l) ∧ (Kd.C k39 w2 A2 X.length X) ∧ (X.length ≤ c2) from ⟨HK.out.1.trans (hB2.mono HK.out.1.size), Kd.C_below HK.out.2 hB2, hC2, hc2⟩)
    clear hB2 hC2 hc2
    go_wp2_with fail
    refine (HT.out.2.1 _ _ _ HK.out.2.2.1 HK.out.2.2.2).mono ?_
    rintro e w3 ⟨rfl, hB3⟩
    have HK := Lib.hid (show (Below w.heap.size w w3) ∧ (Kd.C k26 w3 A l.length l) ∧ (Kd.C k39 w3 A2 X.length X) ∧ (X.length ≤ c2) from ⟨HK.out.1.trans (hB3.mono HK.out.1.size), Kd.C_below HK.out.2.1 hB3, Kd.C_below HK.out.2.2.1 hB3, HK.out.2.2.2⟩)
    clear hB3
    go_wp2_with fail
    refine (HT.out.2.2.1 _ _ _ HK.out.2.2.1 HK.out.2.2.2).mono ?_
    rintro e w4 ⟨A4, c4, rfl, hC4, hc4, hB4⟩
    have HK := Lib.hid (show (Below w.heap.size w w4) ∧ (Kd.C k26 w4 A l.length l) ∧ (Kd.C k39 w4 A2 X.length X) ∧ (X.length ≤ c2) ∧ (Kd.C k39 w4 A4 X.length X) ∧ (X.length ≤ c4) from ⟨HK.out.1.trans (hB4.mono HK.out.1.size), Kd.C_below HK.out.2.1 hB4, Kd.C_below HK.out.2.2.1 hB4, HK.out.2.2.2, hC4, hc4⟩)
    clear hB4 hC4 hc4
    go_wp2_with fail
    refine (HT.out.2.2.2.1 _ _ _ HK.out.2.2.1 HK.out.2.2.2.1).mono ?_
    rintro e w5 ⟨A5, c5, rfl, hC5, hc5, hB5⟩
    have HK := Lib.hid (show (Below w.heap.size w w5) ∧ (Kd.C k26 w5 A l.length l) ∧ (Kd.C k39 w5 A2 X.length X) ∧ (X.length ≤ c2) ∧ (Kd.C k39 w5 A4 X.length X) ∧ (X.length ≤ c4) ∧ (Kd.C k39 w5 A5 N.length N) ∧ (N.length ≤ c5) from ⟨HK.out.1.trans (hB5.mono HK.out.1.size), Kd.C_below HK.out.2.1 hB5, Kd.C_below HK.out.2.2.1 hB5, HK.out.2.2.2.1, Kd.C_below HK.out.2.2.2.2.1 hB5, HK.out.2.2.2.2.2, hC5, hc5⟩)
    clear hB5 hC5 hc5
    go_wp2_with fail
    refine (HT.out.2.1 _ _ _ HK.out.2.2.1 HK.out.2.2.2.1).mono ?_
    rintro e w6 ⟨rfl, hB6⟩
    have HK := Lib.hid (show (Below w.heap.size w w6) ∧ (Kd.C k26 w6 A l.length l) ∧ (Kd.C k39 w6 A2 X.length X) ∧ (X.length ≤ c2) ∧ (Kd.C k39 w6 A4 X.length X) ∧ (X.length ≤ c4) ∧ (Kd.C k39 w6 A5 N.length N) ∧ (N.length ≤ c5) from ⟨HK.out.1.trans (hB6.mono HK.out.1.size), Kd.C_below HK.out.2.1 hB6, Kd.C_below HK.out.2.2.1 hB6, HK.out.2.2.2.1, Kd.C_below HK.out.2.2.2.2.1 hB6, HK.out.2.2.2.2.2.1, Kd.C_below HK.out.2.2.2.2.2.2.1 hB6, HK.out.2.2.2.2.2.2.2⟩)
    clear hB6
    go_wp2_with fail
    refine (HT.out.2.2.2.2.1 _ _ _ HK.out.2.2.1 HK.out.2.2.2.1).mono ?_
    rintro e w7 ⟨A7, c7, rfl, hC7, hc7, hB7⟩
    have HK := Lib.hid (show (Below w.heap.size w w7) ∧ (Kd.C k26 w7 A l.length l) ∧ (Kd.C k39 w7 A2 X.length X) ∧ (X.length ≤ c2) ∧ (Kd.C k39 w7 A4 X.length X) ∧ (X.length ≤ c4) ∧ (Kd.C k39 w7 A5 N.length N) ∧ (N.length ≤ c5) from ⟨HK.out.1.trans (hB7.mono HK.out.1.size), Kd.C_below HK.out.2.1 hB7, Kd.C_below HK.out.2.2.1 hB7, HK.out.2.2.2.1, Kd.C_below HK.out.2.2.2.2.1 hB7, HK.out.2.2.2.2.2.1, Kd.C_below HK.out.2.2.2.2.2.2.1 hB7, HK.out.2.2.2.2.2.2.2⟩)
    clear hB7 hC7 hc7
    go_wp2_with fail
    refine (HT.out.2.2.2.2.2.1 _ _ _ HK.out.2.2.2.2.1 HK.out.2.2.2.2.2.1).mono ?_
    rintro e w8 ⟨A8, c8, rfl, hC8, hc8, hB8⟩
    have HK := Lib.hid (show (Below w.heap.size w w8) ∧ (Kd.C k26 w8 A l.length l) ∧ (Kd.C k39 w8 A2 X.length X) ∧ (X.length ≤ c2) ∧ (Kd.C k39 w8 A4 X.length X) ∧ (X.length ≤ c4) ∧ (Kd.C k39 w8 A5 N.length N) ∧ (N.length ≤ c5) ∧ (Kd.C k26 w8 A8 l.length l) ∧ (l.length ≤ c8) from ⟨HK.out.1.trans (hB8.mono HK.out.1.size), Kd.C_below HK.out.2.1 hB8, Kd.C_below HK.out.2.2.1 hB8, HK.out.2.2.2.1, Kd.C_below HK.out.2.2.2.2.1 hB8, HK.out.2.2.2.2.2.1, Kd.C_below HK.out.2.2.2.2.2.2.1 hB8, HK.out.2.2.2.2.2.2.2, hC8, hc8⟩)
    clear hB8 hC8 hc8
    go_wp2_with fail
    refine (HT.out.2.2.2.2.2.2.1 _ _ _ _ _ HK.out.2.2.2.2.2.2.2.2.1 HK.out.2.2.2.2.2.2.2.2.2 HK.out.2.1 HC.out.2).mono ?_
    rintro e w9 ⟨rfl, hB9⟩
    have HK := Lib.hid (show (Below w.heap.size w w9) ∧ (Kd.C k26 w9 A l.length l) ∧ (Kd.C k39 w9 A2 X.length X) ∧ (X.length ≤ c2) ∧ (Kd.C k39 w9 A4 X.length X) ∧ (X.length ≤ c4) ∧ (Kd.C k39 w9 A5 N.length N) ∧ (N.length ≤ c5) ∧ (Kd.C k26 w9 A8 l.length l) ∧ (l.length ≤ c8) from ⟨HK.out.1.trans (hB9.mono HK.out.1.size), Kd.C_below HK.out.2.1 hB9, Kd.C_below HK.out.2.2.1 hB9, HK.out.2.2.2.1, Kd.C_below HK.out.2.2.2.2.1 hB9, HK.out.2.2.2.2.2.1, Kd.C_below HK.out.2.2.2.2.2.2.1 hB9, HK.out.2.2.2.2.2.2.2.1, Kd.C_below HK.out.2.2.2.2.2.2.2.2.1 hB9, HK.out.2.2.2.2.2.2.2.2.2⟩)
    clear hB9
    go_wp2_with fail
    refine (HT.out.2.2.2.2.2.2.2.1 _ _ _ HK.out.2.2.2.2.2.2.1).mono ?_
    rintro e w10 ⟨A10, n10, c10, rfl, hn10, hB10⟩
    have HK := Lib.hid (show (Below w.heap.size w w10) ∧ (Kd.C k26 w10 A l.length l) ∧ (Kd.C k39 w10 A2 X.length X) ∧ (X.length ≤ c2) ∧ (Kd.C k39 w10 A4 X.length X) ∧ (X.length ≤ c4) ∧ (Kd.C k39 w10 A5 N.length N) ∧ (N.length ≤ c5) ∧ (Kd.C k26 w10 A8 l.length l) ∧ (l.length ≤ c8) from ⟨HK.out.1.trans (hB10.mono HK.out.1.size), Kd.C_below HK.out.2.1 hB10, Kd.C_below HK.out.2.2.1 hB10, HK.out.2.2.2.1, Kd.C_below HK.out.2.2.2.2.1 hB10, HK.out.2.2.2.2.2.1, Kd.C_below HK.out.2.2.2.2.2.2.1 hB10, HK.out.2.2.2.2.2.2.2.1, Kd.C_below HK.out.2.2.2.2.2.2.2.2.1 hB10, HK.out.2.2.2.2.2.2.2.2.2⟩)
    clear hB10
    go_wp2_with fail
    refine (HT.out.2.2.2.2.2.2.2.2.1 _ _ _ HK.out.2.2.2.2.2.2.1).mono ?_
    rintro e w11 ⟨A11, c11, rfl, hC11, hc11, hB11⟩
    have HK := Lib.hid (show (Below w.heap.size w w11) ∧ (Kd.C k26 w11 A l.length l) ∧ (Kd.C k39 w11 A2 X.length X) ∧ (X.length ≤ c2) ∧ (Kd.C k39 w11 A4 X.length X) ∧ (X.length ≤ c4) ∧ (Kd.C k39 w11 A5 N.length N) ∧ (N.length ≤ c5) ∧ (Kd.C k26 w11 A8 l.length l) ∧ (l.length ≤ c8) ∧ (Kd.C k39 w11 A11 R.length R) ∧ (R.length ≤ c11) from ⟨HK.out.1.trans (hB11.mono HK.out.1.size), Kd.C_below HK.out.2.1 hB11, Kd.C_below HK.out.2.2.1 hB11, HK.out.2.2.2.1, Kd.C_below HK.out.2.2.2.2.1 hB11, HK.out.2.2.2.2.2.1, Kd.C_below HK.out.2.2.2.2.2.2.1 hB11, HK.out.2.2.2.2.2.2.2.1, Kd.C_below HK.out.2.2.2.2.2.2.2.2.1 hB11, HK.out.2.2.2.2.2.2.2.2.2, hC11, hc11⟩)
    clear hB11 hC11 hc11
    go_wp2_with fail
    refine (HT.out.2.2.2.2.2.2.2.2.2.2.1 _ _ _ HK.out.2.2.2.2.2.2.2.2.2.2.1 HK.out.2.2.2.2.2.2.2.2.2.2.2).mono ?_
    rintro e w12 ⟨A12, c12, rfl, hC12, hc12, hB12⟩
    have HK := Lib.hid (show (Below w.heap.size w w12) ∧ (Kd.C k26 w12 A l.length l) ∧ (Kd.C k39 w12 A2 X.length X) ∧ (X.length ≤ c2) ∧ (Kd.C k39 w12 A4 X.length X) ∧ (X.length ≤ c4) ∧ (Kd.C k39 w12 A5 N.length N) ∧ (N.length ≤ c5) ∧ (Kd.C k26 w12 A8 l.length l) ∧ (l.length ≤ c8) ∧ (Kd.C k39 w12 A11 R.length R) ∧ (R.length ≤ c11) ∧ (Kd.C k26 w12 A12 U.length U) ∧ (U.length ≤ c12) from ⟨HK.out.1.trans (hB12.mono HK.out.1.size), Kd.C_below HK.out.2.1 hB12, Kd.C_below HK.out.2.2.1 hB12, HK.out.2.2.2.1, Kd.C_below HK.out.2.2.2.2.1 hB12, HK.out.2.2.2.2.2.1, Kd.C_below HK.out.2.2.2.2.2.2.1 hB12, HK.out.2.2.2.2.2.2.2.1, Kd.C_below HK.out.2.2.2.2.2.2.2.2.1 hB12, HK.out.2.2.2.2.2.2.2.2.2.1, Kd.C_below HK.out.2.2.2.2.2.2.2.2.2.2.1 hB12, HK.out.2.2.2.2.2.2.2.2.2.2.2, hC12, hc12⟩)
    clear hB12 hC12 hc12
    go_wp2_with fail
    refine (HT.out.2.2.2.2.2.2.2.2.2.1 _ _ _ HK.out.2.2.1).mono ?_
    rintro e w13 ⟨A13, c13, rfl, hC13, hc13, hB13⟩
    have HK := Lib.hid (show (Below w.heap.size w w13) ∧ (Kd.C k26 w13 A l.length l) ∧ (Kd.C k39 w13 A2 X.length X) ∧ (X.length ≤ c2) ∧ (Kd.C k39 w13 A4 X.length X) ∧ (X.length ≤ c4) ∧ (Kd.C k39 w13 A5 N.length N) ∧ (N.length ≤ c5) ∧ (Kd.C k26 w13 A8 l.length l) ∧ (l.length ≤ c8) ∧ (Kd.C k39 w13 A11 R.length R) ∧ (R.length ≤ c11) ∧ (Kd.C k26 w13 A12 U.length U) ∧ (U.length ≤ c12) ∧ (Kd.C k39 w13 A13 R.length R) ∧ (R.length ≤ c13) from ⟨HK.out.1.trans (hB13.mono HK.out.1.size), Kd.C_below HK.out.2.1 hB13, Kd.C_below HK.out.2.2.1 hB13, HK.out.2.2.2.1, Kd.C_below HK.out.2.2.2.2.1 hB13, HK.out.2.2.2.2.2.1, Kd.C_below HK.out.2.2.2.2.2.2.1 hB13, HK.out.2.2.2.2.2.2.2.1, Kd.C_below HK.out.2.2.2.2.2.2.2.2.1 hB13, HK.out.2.2.2.2.2.2.2.2.2.1, Kd.C_below HK.out.2.2.2.2.2.2.2.2.2.2.1 hB13, HK.out.2.2.2.2.2.2.2.2.2.2.2.1, Kd.C_below HK.out.2.2.2.2.2.2.2.2.2.2.2.2.1 hB13, HK.out.2.2.2.2.2.2.2.2.2.2.2.2.2, hC13, hc13⟩)
    clear hB13 hC13 hc13
    go_wp2_with fail
    refine (HT.out.2.2.2.2.2.2.2.2.2.2.1 _ _ _ HK.out.2.2.2.2.2.2.2.2.2.2.2.2.2.2.1 HK.out.2.2.2.2.2.2.2.2.2.2.2.2.2.2.2).mono ?_
    rintro e w14 ⟨A14, c14, rfl, hC14, hc14, hB14⟩
    have HK := Lib.hid (show (Below w.heap.size w w14) ∧ (Kd.C k26 w14 A l.length l) ∧ (Kd.C k39 w14 A2 X.length X) ∧ (X.length ≤ c2) ∧ (Kd.C k39 w14 A4 X.length X) ∧ (X.length ≤ c4) ∧ (Kd.C k39 w14 A5 N.length N) ∧ (N.length ≤ c5) ∧ (Kd.C k26 w14 A8 l.length l) ∧ (l.length ≤ c8) ∧ (Kd.C k39 w14 A11 R.length R) ∧ (R.length ≤ c11) ∧ (Kd.C k26 w14 A12 U.length U) ∧ (U.length ≤ c12) ∧ (Kd.C k39 w14 A13 R.length R) ∧ (R.length ≤ c13) ∧ (Kd.C k26 w14 A14 U.length U) ∧ (U.length ≤ c14) from ⟨HK.out.1.trans (hB14.mono HK.out.1.size), Kd.C_below HK.out.2.1 hB14, Kd.C_below HK.out.2.2.1 hB14, HK.out.2.2.2.1, Kd.C_below HK.out.2.2.2.2.1 hB14, HK.out.2.2.2.2.2.1, Kd.C_below HK.out.2.2.2.2.2.2.1 hB14, HK.out.2.2.2.2.2.2.2.1, Kd.C_below HK.out.2.2.2.2.2.2.2.2.1 hB14, HK.out.2.2.2.2.2.2.2.2.2.1, Kd.C_below HK.out.2.2.2.2.2.2.2.2.2.2.1 hB14, HK.out.2.2.2.2.2.2.2.2.2.2.2.1, Kd.C_below HK.out.2.2.2.2.2.2.2.2.2.2.2.2.1 hB14, HK.out.2.2.2.2.2.2.2.2.2.2.2.2.2.1, Kd.C_below HK.out.2.2.2.2.2.2.2.2.2.2.2.2.2.2.1 hB14, HK.out.2.2.2.2.2.2.2.2.2.2.2.2.2.2.2, hC14, hc14⟩)
    clear hB14 hC14 hc14
    go_wp2_with fail
    refine (HT.out.2.2.2.2.2.2.2.2.2.2.2 _ _ _ _ _ HK.out.2.2.2.2.2.2.2.2.2.2.2.2.1 HK.out.2.2.2.2.2.2.2.2.2.2.2.2.2.1 HK.out.2.2.2.2.2.2.2.2.2.2.2.2.2.2.2.2.1 HK.out.2.2.2.2.2.2.2.2.2.2.2.2.2.2.2.2.2).mono ?_
    rintro e w15 ⟨rfl, hB15⟩
    have HK := Lib.hid (show (Below w.heap.size w w15) ∧ (Kd.C k26 w15 A l.length l) ∧ (Kd.C k39 w15 A2 X.length X) ∧ (X.length ≤ c2) ∧ (Kd.C k39 w15 A4 X.length X) ∧ (X.length ≤ c4) ∧ (Kd.C k39 w15 A5 N.length N) ∧ (N.length ≤ c5) ∧ (Kd.C k26 w15 A8 l.length l) ∧ (l.length ≤ c8) ∧ (Kd.C k39 w15 A11 R.length R) ∧ (R.length ≤ c11) ∧ (Kd.C k26 w15 A12 U.length U) ∧ (U.length ≤ c12) ∧ (Kd.C k39 w15 A13 R.length R) ∧ (R.length ≤ c13) ∧ (Kd.C k26 w15 A14 U.length U) ∧ (U.length ≤ c14) from ⟨HK.out.1.trans (hB15.mono HK.out.1.size), Kd.C_below HK.out.2.1 hB15, Kd.C_below HK.out.2.2.1 hB15, HK.out.2.2.2.1, Kd.C_below HK.out.2.2.2.2.1 hB15, HK.out.2.2.2.2.2.1, Kd.C_below HK.out.2.2.2.2.2.2.1 hB15, HK.out.2.2.2.2.2.2.2.1, Kd.C_below HK.out.2.2.2.2.2.2.2.2.1 hB15, HK.out.2.2.2.2.2.2.2.2.2.1, Kd.C_below HK.out.2.2.2.2.2.2.2.2.2.2.1 hB15, HK.out.2.2.2.2.2.2.2.2.2.2.2.1, Kd.C_below HK.out.2.2.2.2.2.2.2.2.2.2.2.2.1 hB15, HK.out.2.2.2.2.2.2.2.2.2.2.2.2.2.1, Kd.C_below HK.out.2.2.2.2.2.2.2.2.2.2.2.2.2.2.1 hB15, HK.out.2.2.2.2.2.2.2.2.2.2.2.2.2.2.2.1, Kd.C_below HK.out.2.2.2.2.2.2.2.2.2.2.2.2.2.2.2.2.1 hB15, HK.out.2.2.2.2.2.2.2.2.2.2.2.2.2.2.2.2.2⟩)
    clear hB15
    go_wp2_with fail
    go_ret
    exact ⟨rfl, HK.out.1⟩

theorem walk_TxnSaves {H : Type} {enc : TypeId × Value → H} (W : World) (base : Nat) (v0 : Value) (d0 : DataW H) (p0 : List MemPlace) (o0 : Value.okWide Try.prog W .any base 22 v0) (h0 : DataW.Trod enc Try.prog W 0 (fun _ => true) true 22 v0 d0 p0) {P : Prop} (_hsz : P) :
    Calls Try.prog 5 #[v0] W fun e w' => e = .returned (.bool true) ∧ Below W.heap.size W w' := by
  obtain ⟨A, c, l, rfl, hc, hC, -⟩ := steps_of o0 h0
  exact saves_walk A c l W hC hc

end Go.Proofs.Ytaagbiaddgohkaa
