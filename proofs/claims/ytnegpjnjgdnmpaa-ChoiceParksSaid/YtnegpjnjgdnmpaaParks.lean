/- The walk of ChoiceParks, by hand: who is parked may not go on, till it is woken, and is there once. -/
import Derived.Test.YtnegpjnjgdnmpaaPure1
import Derived.Test.YtnegpjnjgdnmpaaGrow
import Derived.Test.YtnegpjnjgdnmpaaFlat
import Derived.Laws.BitsLemmas
import Derived.ProofKit
import Derived.OpenShut
import Derived.SizedLaws
import Derived.WideLaws
set_option linter.unusedSimpArgs false
set_option linter.unusedVariables false
namespace Go.Proofs.Ytnegpjnjgdnmpaa
open Go.ChangeShapes Go.WideShapes Go.ChangeAt Go.RowKit Go.Proofs.Ytnegpjnjgdnmpaa.Q Go.Proofs.YtnegpjnjgdnmpaaW.PrintWords Go.Proofs.YtnegpjnjgdnmpaaW.PrintLast Go.Proofs.YtnegpjnjgdnmpaaW.PrintMore

theorem stays {W0 : World} {p : Addr} {v : Value} (h : W0.cell? p = some v) : ∀ W, Below W0.heap.size W0 W → W.cell? p = some v := fun W hb => (hb.cell (World.block_lt_of_cell? _ _ h)).trans h
theorem stable_rd (P : List S37) (Q : List Int) : Stable (fun W v => Rd W P Q v) := fun W W' v h hb => h.below hb
/-- What comes of the first call. -/
theorem park_cases (t : List S43) (Q : List Int) (id vars : Int) (hl : t.length ≤ 1000) : ∃ p e, choice_Park.f t Q id vars = some (p, Q, e) ∧ p.length ≤ 1001 ∧ (((e != 0) = true ∧ p = t) ∨ (e = 0 ∧ p = t ++ [⟨id, vars⟩] ∧ 1 ≤ id ∧ vars ≠ 0 ∧ (t.any fun s => s.f0 == id) = false)) := by
  unfold choice_Park.f
  rw [if_pos (by omega)]
  by_cases h0 : id < 1 ∨ vars = 0
  · rw [if_pos h0]
    exact ⟨_, _, rfl, by omega, .inl ⟨rfl, rfl⟩⟩
  · rw [if_neg h0]
    cases h1 : (t.any fun s => s.f0 == id) with
    | true => exact ⟨_, _, rfl, by omega, .inl ⟨rfl, rfl⟩⟩
    | false => exact ⟨_, _, rfl, by simp; omega, .inr ⟨rfl, rfl, by omega, by omega, rfl⟩⟩

theorem wrap_i64_eq (n : Int) : IntKind.i64.wrap n = (n + 9223372036854775808) % 18446744073709551616 - 9223372036854775808 := IntKind.wrap_i64 n
theorem bits_self (v : Int) (h : 0 ≤ v ∧ v < 2 ^ 64) : Go.bits .and .u64 v v = v := by
  obtain ⟨n, rfl⟩ := Int.eq_ofNat_of_zero_le h.1
  have hn : n < 2 ^ 64 := by have := h.2; omega
  have hw : ∀ m : Int, 0 ≤ m → m < 2 ^ 64 → IntKind.u64.wrap m = m := by
    intro m h0 h1
    simp only [IntKind.wrap, IntKind.bits, IntKind.signed]
    simp
    omega
  rw [(bits_nat .u64 64 (by decide) hw n n hn hn).1, Nat.and_self]
/-- What comes of the calls behind a first one that was done. -/
theorem parks_after (t : List S43) (Q : List Int) (id vars : Int) (hv : 0 ≤ vars ∧ vars < 2 ^ 64) (hl : t.length ≤ 1000) (hid : 1 ≤ id) (hne : vars ≠ 0) (hno : (t.any fun s => s.f0 == id) = false) (hodd : (Q.any fun x => decide (x < 1)) = false) :
    ∃ rest I, choice_Park.f (t ++ [⟨id, vars⟩]) Q id vars = some (t ++ [⟨id, vars⟩], Q, 10) ∧ choice_Wake.f (t ++ [⟨id, vars⟩]) Q vars = some (rest, Q, I) ∧ rest.length ≤ 1001 ∧ I.length ≤ 1001 ∧ I.count id = 1 ∧ mayB (t ++ [⟨id, vars⟩]) Q id = false ∧ mayB rest Q id = (Q.headD 0 == 0 || Q.headD 0 == id) := by
  have hany : ((t ++ [(⟨id, vars⟩ : S43)]).any fun s => s.f0 == id) = true := by simp
  have hwk : wakesB vars (⟨id, vars⟩ : S43) = true := by
    unfold wakesB
    rw [bits_self vars hv]
    simpa using hne
  have hne2 : ∀ s ∈ t, s.f0 ≠ id := fun s hs h => by
    have := List.any_eq_false.1 hno s hs
    simp [h] at this
  refine ⟨(t ++ [(⟨id, vars⟩ : S43)]).filter (fun x => !(wakesB vars x)), wokenIds vars (t ++ [(⟨id, vars⟩ : S43)]), ?_, ?_, ?_, ?_, ?_, ?_, ?_⟩
  rotate_left
  · unfold choice_Wake.f
    rw [if_pos (by simp; omega)]
  · exact Nat.le_trans (List.length_filter_le _ _) (by simp; omega)
  · unfold wokenIds
    rw [List.length_map]
    exact Nat.le_trans (List.length_filter_le _ _) (by simp; omega)
  · unfold wokenIds
    rw [List.filter_append, List.map_append, List.count_append]
    have h1 : ((t.filter (wakesB vars)).map (·.f0)).count id = 0 := by
      rw [List.count_eq_zero]
      intro hm
      obtain ⟨s, hs, e⟩ := List.mem_map.1 hm
      exact hne2 s (List.mem_filter.1 hs).1 e
    rw [h1]
    simp [hwk]
  · simp [mayB, hany]
  · have h1 : (((t ++ [(⟨id, vars⟩ : S43)]).filter fun x => !(wakesB vars x)).any fun s => s.f0 == id) = false := by
      rw [List.any_eq_false]
      intro s hs
      rcases List.mem_append.1 (List.mem_filter.1 hs).1 with h | h
      · simpa using hne2 s h
      · rw [List.mem_singleton] at h
        have := (List.mem_filter.1 hs).2
        rw [h, hwk] at this
        cases this
    unfold mayB
    rw [h1, decide_eq_true hid]
    cases Q with
    | nil => simp
    | cons q Q =>
      have hq : ¬ q < 1 := by
        have := List.any_eq_false.1 hodd q List.mem_cons_self
        simpa using this
      have : (q == 0) = false := by rw [beq_eq_false_iff_ne]; omega
      simp [this]
  · unfold choice_Park.f
    rw [if_pos (by simp; omega), if_neg (by omega), if_pos hany]

set_option maxHeartbeats 2000000 in
set_option maxRecDepth 100000 in
theorem parks_walk (A0 : Option Addr) (c0 : Nat) (P : List S37) (B0 : Option Addr) (d0 : Nat) (Q : List Int) (id vars : Int) (w : World) (hP : Kd.C k37 w A0 P.length P) (hc : P.length ≤ c0) (hQ : Kd.C (Kd.int .i64) w B0 Q.length Q) (hd : Q.length ≤ d0) (hv : 0 ≤ vars ∧ vars < 2 ^ 64) :
    Calls Try.prog 6 #[.agg #[.slice A0 P.length c0, .slice B0 Q.length d0], .int .i64 id, .int .u64 vars] w fun e w' => e = .returned (.bool true) ∧ Below w.heap.size w w' := by
  have hu := Try.underlying27
  have huR := Try.underlying46
  have C1 := Lib.hid (fun W => warpbeamlaw18_alive.calls true W rfl)
  obtain ⟨W0, hW0, K0, HB0⟩ : ∃ W0, w.alloc (.cells #[.slice A0 P.length c0, .slice B0 Q.length d0] 46) = W0 ∧ W0.heap[w.heap.size]? = some (.cells #[.slice A0 P.length c0, .slice B0 Q.length d0] 46 (0, 0)) ∧ Below w.heap.size w W0 := ⟨_, rfl, heap_alloc_new _ _, bOne _⟩
  have HP := Lib.hid (And.intro hP (And.intro hc (And.intro hQ (And.intro hd hv))))
  have HK := Lib.hid (And.intro K0 HB0)
  clear hP hc hQ hd hv K0 HB0
  by_cases h1 : (P.length : Int) > 150
  · go_enter Try.func6, Try.ntmps6
    go_wp2_with fail
    refine (C1.out _).mono ?_
    rintro e w1 ⟨rfl, hB1⟩
    have K1 := blk_below HK.out.1 hB1
    have k0 : w1.cell? ⟨w.heap.size, 0, none⟩ = some (.slice A0 P.length c0) := blk_cell K1 0
    have HZ := Lib.hid (bAfter HK.out.2 hB1)
    clear K1 hB1
    go_wp2_with fail
    go_ret
    exact ⟨rfl, HZ.out⟩
  · by_cases h2 : (Q.length : Int) > 150
    · go_enter Try.func6, Try.ntmps6
      go_wp2_with fail
      refine (C1.out _).mono ?_
      rintro e w1 ⟨rfl, hB1⟩
      have K1 := blk_below HK.out.1 hB1
      have k0 : w1.cell? ⟨w.heap.size, 0, none⟩ = some (.slice A0 P.length c0) := blk_cell K1 0
      have k1 : w1.cell? ⟨w.heap.size, 1, none⟩ = some (.slice B0 Q.length d0) := blk_cell K1 1
      have HZ := Lib.hid (bAfter HK.out.2 hB1)
      clear K1 hB1
      go_wp2_with fail
      go_ret
      exact ⟨rfl, HZ.out⟩
    · have hl : P.length ≤ 150 := by omega
      have hl2 : Q.length ≤ 150 := by omega
      have C2 : Hid (∀ W, Below w.heap.size w W → Calls Try.prog 18 #[.agg #[.slice A0 P.length c0, .slice B0 Q.length d0]] W fun e w' => e = .returned (.bool (Q.any fun x => decide (x < 1))) ∧ Below W.heap.size W w') :=
        Lib.hid fun W hW => warpbeamlaw18_odd.calls 200 A0 c0 P B0 d0 Q _ W (Kd.C_below HP.out.1 hW) HP.out.2.1 (Kd.C_below HP.out.2.2.1 hW) HP.out.2.2.2.1 (odd_f P Q (by omega) 200 (by omega))
      have HL := Lib.hid (And.intro hl hl2)
      clear hl hl2
      go_enter Try.func6, Try.ntmps6
      go_wp2_with fail
      refine (C1.out _).mono ?_
      rintro e w1 ⟨rfl, hB1⟩
      have K1 := blk_below HK.out.1 hB1
      have k0 : w1.cell? ⟨w.heap.size, 0, none⟩ = some (.slice A0 P.length c0) := blk_cell K1 0
      have k1 : w1.cell? ⟨w.heap.size, 1, none⟩ = some (.slice B0 Q.length d0) := blk_cell K1 1
      have HB1 := Lib.hid (bAfter HK.out.2 hB1)
      clear hB1 C1 HK hW0
      go_wp2_with fail
      refine (C2.out _ HB1.out).mono ?_
      rintro e w2 ⟨rfl, hB2⟩
      have K1 := blk_below K1 hB2
      have k0 : w2.cell? ⟨w.heap.size, 0, none⟩ = some (.slice A0 P.length c0) := blk_cell K1 0
      have k1 : w2.cell? ⟨w.heap.size, 1, none⟩ = some (.slice B0 Q.length d0) := blk_cell K1 1
      have HB2 := Lib.hid (bAfter HB1.out hB2)
      clear hB2 HB1 C2
      cases ho : (Q.any fun x => decide (x < 1)) with
      | true =>
        clear ho
        go_wp2_with fail
        go_ret
        exact ⟨rfl, HB2.out⟩
      | false =>
        have HO := Lib.hid ho
        clear ho
        go_wp2_with fail
        refine (theirs_lot A0 c0 P B0 d0 Q w2 (Kd.C_below HP.out.1 HB2.out) HP.out.2.1 (Kd.C_below HP.out.2.2.1 HB2.out) HP.out.2.2.2.1 (by have := HL.out.1; omega) (by have := HL.out.2; omega)).mono ?_
        rintro e w3 ⟨A3, c3, B3, d3, rfl, hL3, hB3⟩
        have K1 := blk_below K1 hB3
        have HB3 := Lib.hid (bAfter HB2.out hB3)
        have hlt := HL.out.1
        clear hB3 HB2 k0 k1
        obtain ⟨t, ht⟩ : ∃ t, P.map thS = t := ⟨_, rfl⟩
        rw [ht] at hL3
        have HT := Lib.hid ht
        have hlm : P.length = t.length := by rw [← ht, List.length_map]
        clear ht
        rw [hlm]
        obtain ⟨p, e, hf, hpl, hcase⟩ := park_cases t Q id vars (by omega)
        clear hlm
        go_wp2_with fail
        obtain ⟨W4, hW4, K4, hB4⟩ : ∃ W4, w3.alloc (.cells #[.slice A3 t.length c3, .slice B3 Q.length d3] 27) = W4 ∧ W4.heap[w3.heap.size]? = some (.cells #[.slice A3 t.length c3, .slice B3 Q.length d3] 27 (0, 0)) ∧ Below w3.heap.size w3 W4 := ⟨_, rfl, heap_alloc_new _ _, bOne _⟩
        rw [hW4]
        have K1 := blk_below K1 hB4
        have hL4 := hL3.below hB4
        have HB4 := Lib.hid (bAfter HB3.out hB4)
        clear hB4 HB3 hL3 hW4
        refine (park_lot id vars e hL4 hf).mono ?_
        rintro _ w5 ⟨A5, c5, B5, d5, rfl, hL5, hB5⟩
        have K1 := blk_below K1 hB5
        have K4 := blk_below K4 hB5
        have hL4 := hL4.below hB5
        have HB5 := Lib.hid (bAfter HB4.out hB5)
        clear hB5 HB4
        obtain ⟨W6, hW6, K5, hB6⟩ : ∃ W6, w5.alloc (.cells #[.slice A5 p.length c5, .slice B5 Q.length d5] 27) = W6 ∧ W6.heap[w5.heap.size]? = some (.cells #[.slice A5 p.length c5, .slice B5 Q.length d5] 27 (0, 0)) ∧ Below w5.heap.size w5 W6 := ⟨_, rfl, heap_alloc_new _ _, bOne _⟩
        have K1 := blk_below K1 hB6
        have K4 := blk_below K4 hB6
        have hL4 := hL4.below hB6
        have hL5 := hL5.below hB6
        have HB6 := Lib.hid (bAfter HB5.out hB6)
        have m0 : W6.cell? ⟨w5.heap.size, 0, none⟩ = some (.slice A5 p.length c5) := blk_cell K5 0
        have m1 : W6.cell? ⟨w5.heap.size, 1, none⟩ = some (.slice B5 Q.length d5) := blk_cell K5 1
        have HQ := Lib.hid (And.intro hL4 (And.intro hL5 (And.intro K1 (And.intro K4 K5))))
        clear hB6 HB5 hL4 hL5 K1 K4 K5
        rcases hcase with ⟨he, hpt⟩ | ⟨he, hpt, hid, hvars, hno⟩
        · have HT2 : Hid (p.map ouS = P) := Lib.hid (by rw [hpt, ← HT.out, ou_th])
          clear hpt hf
          go_wp2_with fail
          have q0 : W6.cell? ⟨w.heap.size, 0, none⟩ = some (.slice A0 P.length c0) := blk_cell HQ.out.2.2.1 0
          have q1 : W6.cell? ⟨w.heap.size, 1, none⟩ = some (.slice B0 Q.length d0) := blk_cell HQ.out.2.2.1 1
          have F0 := stays m0
          have F1 := stays m1
          have F2 := stays q0
          have F3 := stays q1
          clear m0 m1 q0 q1 hW6
          apply wp_region_grows (by kernel_rfl) (by kernel_rfl)
          apply gw_val (by rfl)
          · intro W hB hD; go_simp; try rfl
          simp only [Act.put, List.setIfInBounds_toArray, List.set_cons_zero, List.set_cons_succ]
          apply gw_callR (stable_rd P Q) (by rfl)
          · intro W hB hD; go_simp; exact ⟨rfl, rfl⟩
          · intro W hB hD
            have := ours_rd (HQ.out.2.1.below hB) (by omega) (by have := HL.out.2; omega)
            rw [HT2.out] at this
            exact this
          intro v ⟨Wv, hv⟩
          obtain ⟨Av, cv, Bv, dv, rfl, -⟩ := hv
          simp only [Act.put, List.setIfInBounds_toArray, List.set_cons_zero, List.set_cons_succ]
          apply gw_val (by rfl)
          · intro W hB hD; go_simp; try rfl
          simp only [Act.put, List.setIfInBounds_toArray, List.set_cons_zero, List.set_cons_succ]
          apply gw_call (by rfl)
          · intro W hB hD; go_simp; exact ⟨rfl, rfl⟩
          · intro W hB hD
            have h1 : Rd W P Q _ := hD.1 rfl
            exact same_rd h1 ⟨A0, c0, B0, d0, rfl, Kd.C_below (Kd.C_below HP.out.1 HB6.out) hB, HP.out.2.1, Kd.C_below (Kd.C_below HP.out.2.2.1 HB6.out) hB, HP.out.2.2.2.1⟩ (by have := HL.out.1; omega) (by have := HL.out.2; omega)
          simp only [Act.put, List.setIfInBounds_toArray, List.set_cons_zero, List.set_cons_succ]
          apply gw_val (by rfl)
          · intro W hB hD; go_simp; try rfl
          simp only [Act.put, List.setIfInBounds_toArray, List.set_cons_zero, List.set_cons_succ]
          apply gw_nil
          intro W hW _ _
          have HZ := Lib.hid (bAfter HB6.out hW)
          clear F0 F1 F2 F3
          go_wp2_with fail
          go_ret
          exact ⟨rfl, HZ.out⟩
        · subst he
          obtain ⟨rest, I, hf2, hf3, hrl, hIl, hcnt, hm1, hm2⟩ := parks_after t Q id vars HP.out.2.2.2.2 (by have := HL.out.1; have := congrArg List.length HT.out; simp at this; omega) hid hvars hno HO.out
          rw [← hpt] at hf2 hf3 hm1
          have hplen : (p.length : Int) = t.length + 1 := by rw [hpt]; simp
          have HM := Lib.hid (And.intro hcnt (And.intro hm1 (And.intro hm2 (And.intro hrl (And.intro hpl hIl)))))
          clear hf hpt hid hvars hno hcnt hm1 hm2 hrl hpl hIl
          go_wp2_with fail
          refine (park_lot id vars 10 HQ.out.2.1 hf2).mono ?_
          rintro _ w7 ⟨A7, c7, B7, d7, rfl, hL7, hB7⟩
          clear hL7 m0 m1 hW6 hf2
          obtain ⟨W8, hW8, hB8⟩ : ∃ W8, w7.alloc (.cells #[.slice A7 p.length c7, .slice B7 Q.length d7] 27) = W8 ∧ Below W6.heap.size W6 W8 := ⟨_, rfl, bAfter hB7 (bOne _)⟩
          have m0 : W8.cell? ⟨w5.heap.size, 0, none⟩ = some (.slice A5 p.length c5) := blk_cell (blk_below HQ.out.2.2.2.2 hB8) 0
          have m1 : W8.cell? ⟨w5.heap.size, 1, none⟩ = some (.slice B5 Q.length d5) := blk_cell (blk_below HQ.out.2.2.2.2 hB8) 1
          have HB8 := Lib.hid hB8
          clear hB8 hB7
          go_wp2_with fail
          refine (wake_lot vars (HQ.out.2.1.below HB8.out) hf3).mono ?_
          rintro _ w9 ⟨A9, c9, B9, d9, D9, n9, rfl, hL9, hI9, hB9⟩
          obtain ⟨W9, hW9, K9, hB10⟩ : ∃ W9, w9.alloc (.cells #[.slice A9 rest.length c9, .slice B9 Q.length d9] 27) = W9 ∧ W9.heap[w9.heap.size]? = some (.cells #[.slice A9 rest.length c9, .slice B9 Q.length d9] 27 (0, 0)) ∧ Below w9.heap.size w9 W9 := ⟨_, rfl, heap_alloc_new _ _, bOne _⟩
          have HB9 := Lib.hid (bAfter (bAfter HB8.out hB9) hB10)
          have HN := Lib.hid (And.intro (hL9.below hB10) (And.intro (Kd.V_reads' (Kd.V_below hI9 hB10)).2.2 K9))
          clear hL9 hI9 hB9 hB10 K9 m0 m1 hW8 hf3 HB8
          go_wp2_with fail
          go_loopg [14, 16, 63] I.length (fun kq v14 _ v63 W => ∃ i : Nat, v14 = .int .i64 ((I.take i).count id : Nat) ∧ v63 = .int .i64 i ∧ Hid (kq + i = I.length) ∧ W = W9)
          case atStart => exact ⟨0, rfl, rfl, by simp [Hid], rfl⟩
          case round =>
            obtain ⟨i, rfl, rfl, hk, rfl⟩ := hrel
            have hIl := HM.out.2.2.2.2.2
            by_cases hi : i < I.length
            · have hi2 : (i : Int) < I.length := by omega
              have hi0 : (0 : Int) ≤ i := by omega
              obtain ⟨ad, rfl, a0⟩ := at_I HN.out.2.1 (i : Int) hi0 hi2
              have hx : I[i]? = some (rd I i) := by
                unfold rd
                simp [List.getD_eq_getElem?_getD, hi]
              have hct : (I.take (i + 1)).count id = (I.take i).count id + (if rd I (i : Int) = id then 1 else 0) := by
                rw [take_next hx, List.count_append]
                by_cases h : rd I (i : Int) = id
                · rw [if_pos h, h]; simp
                · rw [if_neg h]; simp [h]
              have hcb : (I.take i).count id ≤ 1001 := Nat.le_trans List.count_le_length (by rw [List.length_take]; omega)
              have HCT := Lib.hid hct
              clear hx hct
              generalize rd I (i : Int) = x at *
              generalize (I.take i).count id = cn at *
              simp only [Int.toNat_natCast] at a0
              by_cases hxi : x = id
              · have hct := HCT.out
                rw [if_pos hxi] at hct
                subst hxi
                have hct := Lib.hid hct
                go_wp2_with fail
                obtain ⟨k1, rfl⟩ : ∃ m, gk = m + 1 := ⟨gk - 1, by have := hk.out; omega⟩
                go_roundg k1
                case measure => omega
                case rel => exact ⟨i + 1, by rw [hct.out]; first | rfl | (rw [wrap_next (by omega)]), by first | rfl | rw [wrap_next (by omega)], Lib.hid (by have := hk.out; omega), rfl⟩
              · have hct := HCT.out
                rw [if_neg hxi] at hct
                have hct := Lib.hid hct
                go_wp2_with fail
                obtain ⟨k1, rfl⟩ : ∃ m, gk = m + 1 := ⟨gk - 1, by have := hk.out; omega⟩
                go_roundg k1
                case measure => omega
                case rel => exact ⟨i + 1, by rw [hct.out]; rfl, by first | rfl | rw [wrap_next (by omega)], Lib.hid (by have := hk.out; omega), rfl⟩
            · have hi2 : ¬ (i : Int) < I.length := by omega
              have hk0 : i = I.length := by have := hk.out; omega
              subst hk0
              rw [List.take_length, HM.out.1]
              go_wp2_with fail
              have htl : (t.length : Int) ≤ 150 := by have h1 := HL.out.1; have h2 := congrArg List.length HT.out; rw [List.length_map] at h2; omega
              have hwr : IntKind.i64.wrap ((t.length : Int) + 1) = t.length + 1 := (wrap_i64_eq _).trans (by omega)
              have K5 := blk_below HQ.out.2.2.2.2 HB9.out
              have K4 := blk_below HQ.out.2.2.2.1 HB9.out
              have K9 := HN.out.2.2
              have F0 := stays (show wr.cell? ⟨w5.heap.size, 0, none⟩ = some (.slice A5 p.length c5) from blk_cell K5 0)
              have F1 := stays (show wr.cell? ⟨w5.heap.size, 1, none⟩ = some (.slice B5 Q.length d5) from blk_cell K5 1)
              have F2 := stays (show wr.cell? ⟨w3.heap.size, 0, none⟩ = some (.slice A3 t.length c3) from blk_cell K4 0)
              have F3 := stays (show wr.cell? ⟨w3.heap.size, 1, none⟩ = some (.slice B3 Q.length d3) from blk_cell K4 1)
              have F4 := stays (show wr.cell? ⟨w9.heap.size, 0, none⟩ = some (.slice A9 rest.length c9) from blk_cell K9 0)
              have F5 := stays (show wr.cell? ⟨w9.heap.size, 1, none⟩ = some (.slice B9 Q.length d9) from blk_cell K9 1)
              have D1 := Lib.hid fun W (hW : Below wr.heap.size wr W) => may_lot 5 id false ((HQ.out.2.1.below HB9.out).below hW) (by rw [may_f 5 (by decide) _ _ _ (by have := HM.out.2.2.2.2.1; omega), HM.out.2.1])
              have D2 := Lib.hid fun W (hW : Below wr.heap.size wr W) => may_lot 5 id _ (HN.out.1.below hW) (may_f 5 (by decide) _ _ _ (by have := HM.out.2.2.2.1; omega))
              have D3 := Lib.hid fun W (hW : Below wr.heap.size wr W) => holder_lot 5 _ ((HQ.out.1.below HB9.out).below hW) (holder_f 5 (by decide) _ _)
              have hX := HM.out.2.2.1
              generalize mayB rest Q id = X at *
              generalize Q.headD 0 = H at *
              have HZ := Lib.hid (bAfter HB6.out HB9.out)
              clear K5 K4 K9 hIl hk hi hi2 hW9
              have hcase : (X = true ∧ (H == 0) = true) ∨ (X = true ∧ (H == 0) = false ∧ (H == id) = true) ∨ (X = false ∧ (H == 0) = false ∧ (H == id) = false) := by
                rw [hX]
                cases (H == 0) <;> cases (H == id) <;> simp
              clear hX
              rcases hcase with ⟨rfl, h0⟩ | ⟨rfl, h0, h1⟩ | ⟨rfl, h0, h1⟩
              all_goals apply wp_region_grows (by kernel_rfl) (by kernel_rfl)
              all_goals repeat
                first
                  | (apply gw_skip (by rfl); simp only [Act.put, List.setIfInBounds_toArray, List.set_cons_zero, List.set_cons_succ])
                  | (apply gw_val (by rfl)
                     · (intro W hB hD; go_simp; try rfl)
                     simp only [Act.put, List.setIfInBounds_toArray, List.set_cons_zero, List.set_cons_succ])
                  | (apply gw_call (by rfl)
                     · (intro W hB hD; go_simp; exact ⟨rfl, rfl⟩)
                     · (intro W hB hD; first | with_reducible exact D1.out _ hB | with_reducible exact D2.out _ hB | with_reducible exact D3.out _ hB)
                     simp only [Act.put, List.setIfInBounds_toArray, List.set_cons_zero, List.set_cons_succ])
              all_goals apply gw_nil
              all_goals intro W hW _ _
              all_goals
                have HZ := Lib.hid (bAfter HZ.out hW)
                clear F0 F1 F2 F3 F4 F5 hW
                go_wp2_with fail
                go_ret
                exact ⟨rfl, HZ.out⟩

theorem walk_ChoiceParks {H : Type} {enc : TypeId × Value → H} (W : World) (base : Nat) (v0 : Value) (d0 : DataW H) (p0 : List MemPlace) (o0 : Value.okWide Try.prog W .any base 46 v0) (h0 : DataW.Trod enc Try.prog W 0 (fun _ => true) true 46 v0 d0 p0) (v1 : Value) (d1 : DataW H) (p1 : List MemPlace) (o1 : Value.okWide Try.prog W .any base 3 v1) (h1 : DataW.Trod enc Try.prog W 0 (fun _ => true) true 3 v1 d1 p1) (v2 : Value) (d2 : DataW H) (p2 : List MemPlace) (o2 : Value.okWide Try.prog W .any base 35 v2) (h2 : DataW.Trod enc Try.prog W 0 (fun _ => true) true 35 v2 d2 p2) {P : Prop} (_hsz : P) :
    Calls Try.prog 6 #[v0, v1, v2] W fun e w' => e = .returned (.bool true) ∧ Below W.heap.size W w' := by
  obtain ⟨A, c, P', B, d, Q, rfl, hP, hc, hQ, hd⟩ := lot_of o0 h0
  obtain ⟨id, rfl, _, _, _⟩ := open_int Try.underlying3 o1 h1
  obtain ⟨a, rfl⟩ := okWide_int (k := .u64) (by kernel_rfl) o2
  obtain ⟨f, hf⟩ := h2
  obtain ⟨x, hx, -, hw⟩ := DataW.trod_int (k := .u64) (by kernel_rfl) hf
  have hx : [Value.int .u64 a] = [Value.int .u64 x] := hx
  injection hx with hx
  injection hx with _ hx
  subst hx
  simp only [Lit.wf, Bool.and_eq_true, decide_eq_true_eq] at hw
  have m1 : IntKind.u64.min = 0 := by decide
  have m2 : IntKind.u64.max = 18446744073709551615 := by decide
  rw [m1, m2] at hw
  exact parks_walk A c P' B d Q id a W hP hc hQ hd ⟨hw.1, by omega⟩

end Go.Proofs.Ytnegpjnjgdnmpaa
