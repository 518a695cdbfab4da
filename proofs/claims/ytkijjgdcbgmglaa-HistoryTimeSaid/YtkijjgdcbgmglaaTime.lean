/- Who is over ahead of the beginning of another one stands ahead of it: by hand. -/
import Derived.Test.YtkijjgdcbgmglaaHAlive
import Derived.Test.YtkijjgdcbgmglaaLaw0
import Derived.Test.YtkijjgdcbgmglaaHGraph
import Derived.Test.YtkijjgdcbgmglaaQ7
import Derived.Test.YtkijjgdcbgmglaaRows
import Derived.ProofKit
import Derived.OpenShut
import Derived.SizedLaws
import Derived.WideLaws
namespace Go.Proofs.Ytkijjgdcbgmglaa.Q
open Go.RowKit Go.Lib Go.ChangeShapes Go.WideShapes Go.Proofs.Ytkijjgdcbgmglaa Go.Proofs.YtkijjgdcbgmglaaW.PrintWords Go.Proofs.YtkijjgdcbgmglaaW.PrintLast Go.Proofs.YtkijjgdcbgmglaaW.PrintMore
set_option linter.unusedVariables false
set_option linter.unusedSimpArgs false
theorem power_f : ∀ s : Fin 64, warpbeamref01_power.f 65 (s.val : Int) = some ((2 ^ s.val : Nat) : Int) := by decide +kernel
theorem has_ref (x s : Nat) (hx : x < 2 ^ 64) (h : s < 64) : warpbeamref01_Has.f 65 (x : Int) (s : Int) = some (x.testBit s) := by
  unfold warpbeamref01_Has.f
  rw [if_pos (by omega), if_pos (by omega), power_f ⟨s, h⟩]
  simp only [Option.bind_some]
  have hp : 0 < 2 ^ s := Nat.pow_pos (by decide)
  rw [if_neg (by omega)]
  have e1 : Int.tdiv (x : Int) ((2 ^ s : Nat) : Int) = ((x / 2 ^ s : Nat) : Int) := rfl
  have hle : x / 2 ^ s ≤ x := Nat.div_le_self _ _
  rw [e1, Nat.testBit_eq_decide_div_mod_eq]
  generalize x / 2 ^ s = q at *
  rw [wraps_u64 _ (by omega) (by omega)]
  have e2 : Int.tmod (q : Int) 2 = ((q % 2 : Nat) : Int) := rfl
  rw [e2]
  congr 1
  rw [Bool.eq_iff_iff, beq_iff_eq, decide_eq_true_eq]
  omega
theorem before_ahead {all : List Life} {i j : Nat} {a b : Life} (ha : all[i]? = some a) (hb : all[j]? = some b) (ta : LifeT 2000 a) (tb : LifeT 2000 b) (h : befo (some (spL a)) (some (spL b)) = true) : aheadL all i j = true ∧ i ≠ j := by
  unfold befo spL at h
  have h1 := ta.b0
  have h2 := tb.b0
  have h3 := tb.b1
  have h4 : (if a.fin < 0 then 9007199254740992 else a.fin.toNat) < b.beg.toNat := by simpa using h
  have h5 : 0 ≤ a.fin ∧ a.fin < b.beg := by
    split at h4
    · omega
    · omega
  refine ⟨?_, fun e => ?_⟩
  · rw [ahead_eq ha hb]
    simp [h5]
  · subst e
    rw [ha] at hb
    injection hb with hb
    subst hb
    rcases ta.e with h6 | h6 <;> omega
set_option maxRecDepth 100000 in
set_option maxHeartbeats 4000000 in
theorem time_calls (A : Option Addr) (c : Nat) (l : List S76) (W : World) (hC : Kd.C k76 W A l.length l) (hc : l.length ≤ c) :
    Calls Try.prog 6 #[.slice A l.length c] W fun e w' => e = .returned (.bool true) ∧ Below W.heap.size W w' := by
  have hu27 := Try.underlying27
  have hu26 := Try.underlying26
  have hu25 := Try.underlying25
  have hu51 := Try.underlying51
  have HA := Lib.hid (warpbeamlaw11_alive.calls true W rfl)
  have HC := Lib.hid (And.intro hC hc)
  clear hC hc
  by_cases hl : 120 < l.length
  · have d0 : decide ((l.length : Int) > 120) = true := by simp; omega
    clear hl
    go_enter Try.func6, Try.ntmps6
    go_wp2_with fail
    refine HA.out.mono ?_
    rintro e w1 ⟨rfl, hB1⟩
    have HB := Lib.hid hB1
    clear hB1
    go_wp2_with fail
    go_ret
    exact ⟨rfl, HB.out⟩
  have d0 : decide ((l.length : Int) > 120) = false := by simp; omega
  have hT := fun V => theirs_calls A c l V
  have hlen : (l.map conv44).length = l.length := List.length_map _
  generalize l.map conv44 = T at *
  have HT := Lib.hid (And.intro hT (And.intro (show T.length ≤ 120 by omega) hlen))
  have HL := Lib.hid (show l.length ≤ 120 by omega)
  clear hT hlen hl
  go_enter Try.func6, Try.ntmps6
  go_wp2_with fail
  refine HA.out.mono ?_
  rintro e w1 ⟨rfl, hB1⟩
  have HB := Lib.hid hB1
  clear hB1 HA
  go_wp2_with fail
  refine (HT.out.1 w1 (Kd.C_below HC.out.1 HB.out) HC.out.2 (by have := HL.out; omega)).mono ?_
  rintro e w2 ⟨v2, rfl, hR2, hB2⟩
  obtain ⟨A3, c3, rfl, hl3, hC3⟩ := Kd.R_reads hR2
  have H2 := Lib.hid (And.intro hC3 (And.intro hl3 (bAfter HB.out hB2)))
  clear hR2 hB2 hC3 hl3
  go_wp2_with fail
  refine (graph_calls A3 c3 T w2 H2.out.1).mono ?_
  rintro e w4 ⟨rfl, hB4⟩
  obtain ⟨m, hm⟩ : ∃ m, graphL (allL T) = m := ⟨_, rfl⟩
  have hwd4 := graphL_wd (allL T) (allL_ok T).1
  rw [hm] at hwd4 ⊢
  have hsz4 : (mc m).size = 32 := by rw [mc_size]; exact hwd4.1
  obtain ⟨V4a, V4, hV4, hS4, K4, hL4⟩ := laid (P := Try.prog) w4 27 [.int .u64 0, .int .u64 0, .int .u64 0, .int .u64 0, .int .u64 0, .int .u64 0, .int .u64 0, .int .u64 0, .int .u64 0, .int .u64 0, .int .u64 0, .int .u64 0, .int .u64 0, .int .u64 0, .int .u64 0, .int .u64 0, .int .u64 0, .int .u64 0, .int .u64 0, .int .u64 0, .int .u64 0, .int .u64 0, .int .u64 0, .int .u64 0, .int .u64 0, .int .u64 0, .int .u64 0, .int .u64 0, .int .u64 0, .int .u64 0, .int .u64 0, .int .u64 0] (mc m).toList (by simp only [Array.length_toList]; rw [hsz4]; rfl) (by simp only [Array.length_toList]; rw [sz27, hsz4]) (mc_one m)
  simp only [Array.toArray_toList] at hS4 K4
  have H4 := Lib.hid (And.intro K4 (And.intro hwd4 (And.intro (bAfter hB4 hL4) hm)))
  clear hB4 hwd4 hsz4 K4 hL4 hm
  go_wp2_with (refine wpList_st rfl rfl hS4 ?_)
  refine (spans_calls A3 c3 T V4 (Kd.C_below H2.out.1 H4.out.2.2.1)).mono ?_
  rintro e w5 ⟨v5, rfl, hR5, hB5⟩
  obtain ⟨A5, c5, rfl⟩ := own_slice hR5
  have H5 := Lib.hid (And.intro hR5 (And.intro (blk_below H4.out.1 hB5) (bAfter H2.out.2.2 (bAfter H4.out.2.2.1 hB5))))
  clear hR5 hB5 hS4
  have hok := allL_ok T
  have hot := allL_t T
  have hbit := fun a j => graphL_bit (allL T) hok.1 a j
  rw [H4.out.2.2.2] at hbit
  have hno : (livedL T).isSome = false → allL T = [] := by
    intro h
    unfold allL
    cases hq : livedL T with
    | none => rfl
    | some r => rw [hq] at h; cases h
  generalize (livedL T).isSome = is at *
  generalize allL T = all at *
  have HO := Lib.hid (And.intro hok (And.intro hot hbit))
  have HNO := Lib.hid hno
  clear hok hot hbit hno
  cases is with
  | false =>
    obtain rfl := HNO.out rfl
    go_wp2_with fail
    go_ret
    exact ⟨rfl, H5.out.2.2⟩
  | true =>
    go_wp2_with fail
    go_loopg [30] all.length (fun kq v30 V => ∃ i : Nat, v30 = .int .i64 i ∧ Hid (kq + i = all.length) ∧ Hid (Below w5.heap.size w5 V))
    case atStart => exact ⟨0, rfl, by simp [Hid], Lib.hid (Below.refl _ _)⟩
    case round =>
      obtain ⟨i, rfl, hk, hJ⟩ := hrel
      have hi0 : (0 : Int) ≤ i := by omega
      by_cases hi : i < all.length
      · have hi2 : (i : Int) < all.length := by omega
        have hi3 : (i : Int) < 32 := by have := HO.out.1.1; omega
        have HI := Lib.hid (And.intro hi hk.out)
        obtain ⟨g0, hg0⟩ : ∃ g, g = gk := ⟨_, rfl⟩
        subst hg0
        clear hi hk
        go_wp2_with fail
        go_loopg [35] all.length (fun kq v35 V => ∃ j : Nat, v35 = .int .i64 j ∧ Hid (kq + j = all.length) ∧ Hid (Below w5.heap.size w5 V))
        case atStart => exact ⟨0, rfl, by simp [Hid], hJ⟩
        case round =>
          clear hJ
          obtain ⟨j, rfl, hk, hJ⟩ := hrel
          have hj0 : (0 : Int) ≤ j := by omega
          by_cases hj : j < all.length
          · have hj2 : (j : Int) < all.length := by omega
            have HJ := Lib.hid (And.intro hj hk.out)
            clear hj hk
            obtain ⟨a, hai⟩ : ∃ x, all[i]? = some x := ⟨_, List.getElem?_eq_getElem HI.out.1⟩
            obtain ⟨b, hbj⟩ : ∃ x, all[j]? = some x := ⟨_, List.getElem?_eq_getElem HJ.out.1⟩
            have ta := HO.out.2.1 a (List.mem_of_getElem? hai)
            have tb := HO.out.2.1 b (List.mem_of_getElem? hbj)
            have hrow := pw_own_below H5.out.1 hJ.out
            rcases own_at_ hrow with ⟨-, hz⟩ | ⟨g, cp, e5, -, -, -, hcell⟩
            · exact absurd hz (by have := HI.out.1; omega)
            injection e5 with e5 _ ec
            subst ec
            have c1 : wr.cell? ⟨g, i, none⟩ = some (.complex .f64 (fo (spL a).1) (fo (spL a).2)) := (hcell i (spC a) (by rw [List.getElem?_map, hai]; rfl)).1
            have c2 : wr.cell? ⟨g, j, none⟩ = some (.complex .f64 (fo (spL b).1) (fo (spL b).2)) := (hcell j (spC b) (by rw [List.getElem?_map, hbj]; rfl)).1
            have hK := blk_below H5.out.2.1 hJ.out
            have hm := H4.out.2.1.at_ (i := i) (by have := HO.out.1.1; have := HI.out.1; omega)
            have c3' : wr.cell? ⟨w4.heap.size, i, none⟩ = some (.int .u64 ((m.getD i 0 : Nat) : Int)) := (blk_cell hK i).trans (mc_get hm.1)
            have n1 : ∀ W', Below wr.heap.size wr W' → W'.cell? ⟨g, i, none⟩ = some (.complex .f64 (fo (spL a).1) (fo (spL a).2)) := fun W' hB => pw_cell_below hB c1
            have n2 : ∀ W', Below wr.heap.size wr W' → W'.cell? ⟨g, j, none⟩ = some (.complex .f64 (fo (spL b).1) (fo (spL b).2)) := fun W' hB => pw_cell_below hB c2
            have n3 : ∀ W', Below wr.heap.size wr W' → W'.cell? ⟨w4.heap.size, i, none⟩ = some (.int .u64 ((m.getD i 0 : Nat) : Int)) := fun W' hB => pw_cell_below hB c3'
            have hbf := fun V => before_num _ _ _ _ _ _ V (spL_cs ta) (spL_cs tb)
            have hah := before_ahead hai hbj ta tb
            have hbit := HO.out.2.2 i j
            rw [decide_eq_true HI.out.1, decide_eq_true HJ.out.1, Bool.true_and, Bool.true_and] at hbit
            generalize befo (some (spL a)) (some (spL b)) = bf at *
            have hhs := fun V => warpbeamref01_Has.calls 65 ((m.getD i 0 : Nat) : Int) (j : Int) ((m.getD i 0).testBit j) V (has_ref _ j hm.2 (by have := HO.out.1.1; have := HJ.out.1; omega))
            subst e5
            cases bf with
            | false =>
              have HBF := Lib.hid hbf
              clear hrow hcell hK hm c1 c2 c3' hbf hah hbit hhs ta tb hai hbj
              go_wp2_with fail
              apply GR.wp_region_grow (R := RB) 17 (by kernel_rfl) (by kernel_rfl) (by kernel_rfl)
              · intro c a d v w h; cases d <;> exact h
              simp only [List.take_succ_cons, List.take_zero, List.drop_succ_cons, List.drop_zero]
              repeat (first
                | (apply GR.gw_skip (by rfl); simp only [Act.put, List.setIfInBounds_toArray, List.set_cons_zero, List.set_cons_succ])
                | (apply GR.gw_val (by rfl); · (intro W' hB hD; have zn1 := n1 W' hB; have zn2 := n2 W' hB; have zn3 := n3 W' hB; go_simp; first | done | rfl)
                   simp only [Act.put, List.setIfInBounds_toArray, List.set_cons_zero, List.set_cons_succ])
                | (apply GR.gw_call (by rfl)
                   · (intro W' hB hD; go_simp; exact ⟨rfl, rfl⟩)
                   · (intro W' hB hD; exact (HBF.out W').mono fun e w' h => ⟨h.1, by rw [← h.2]; exact RB_refl _⟩)
                   simp only [Act.put, List.setIfInBounds_toArray, List.set_cons_zero, List.set_cons_succ]))
              apply GR.gw_nil
              intro Wz hBz hF hP
              clear hF hP n1 n2 n3
              have HN : Hid (Below w5.heap.size w5 Wz) := Lib.hid (bAfter hJ.out hBz)
              clear hBz hJ HBF
              go_wp2_with fail
              obtain ⟨k1, rfl⟩ : ∃ m, gk = m + 1 := ⟨gk - 1, by have := HJ.out; omega⟩
              go_roundg k1
              case measure => omega
              case rel => exact ⟨j + 1, by first | rfl | exact congrArg _ (wrap_next (by have := HO.out.1.1; have := HJ.out.1; omega)), by have := HJ.out.2; exact Lib.hid (by omega), HN⟩
            | true =>
              obtain ⟨a1, a2⟩ := hah rfl
              rw [a1, decide_eq_true a2] at hbit
              rw [hbit] at hhs
              have HBF := Lib.hid hbf
              have HHS := Lib.hid hhs
              clear hrow hcell hK hm c1 c2 c3' hbf hah hbit hhs ta tb hai hbj a1 a2
              generalize m.getD i 0 = mi at *
              go_wp2_with fail
              apply GR.wp_region_grow (R := RB) 17 (by kernel_rfl) (by kernel_rfl) (by kernel_rfl)
              · intro c a d v w h; cases d <;> exact h
              simp only [List.take_succ_cons, List.take_zero, List.drop_succ_cons, List.drop_zero]
              repeat (first
                | (apply GR.gw_skip (by rfl); simp only [Act.put, List.setIfInBounds_toArray, List.set_cons_zero, List.set_cons_succ])
                | (apply GR.gw_val (by rfl); · (intro W' hB hD; have zn1 := n1 W' hB; have zn2 := n2 W' hB; have zn3 := n3 W' hB; go_simp; first | done | rfl)
                   simp only [Act.put, List.setIfInBounds_toArray, List.set_cons_zero, List.set_cons_succ])
                | (apply GR.gw_call (c := .bool true) (by rfl)
                   · (intro W' hB hD; go_simp; exact ⟨rfl, rfl⟩)
                   · (intro W' hB hD; first | exact (HBF.out W').mono fun e w' h => ⟨h.1, by rw [← h.2]; exact RB_refl _⟩ | exact (HHS.out W').mono fun e w' h => ⟨h.1, h.2.below⟩)
                   simp only [Act.put, List.setIfInBounds_toArray, List.set_cons_zero, List.set_cons_succ]))
              apply GR.gw_nil
              intro Wz hBz hF hP
              clear hF hP n1 n2 n3
              have HN : Hid (Below w5.heap.size w5 Wz) := Lib.hid (bAfter hJ.out hBz)
              clear hBz hJ HBF HHS
              go_wp2_with fail
              obtain ⟨k1, rfl⟩ : ∃ m, gk = m + 1 := ⟨gk - 1, by have := HJ.out; omega⟩
              go_roundg k1
              case measure => omega
              case rel => exact ⟨j + 1, by first | rfl | exact congrArg _ (wrap_next (by have := HO.out.1.1; have := HJ.out.1; omega)), by have := HJ.out.2; exact Lib.hid (by omega), HN⟩
          · have hj2 : ¬ (j : Int) < all.length := by omega
            obtain rfl : j = all.length := by have := hk.out; omega
            have HN := Lib.hid hJ.out
            clear hJ hk hj
            go_wp2_with fail
            obtain ⟨k1, rfl⟩ : ∃ m, g0 = m + 1 := ⟨g0 - 1, by have := HI.out; omega⟩
            go_roundg k1
            case measure => omega
            case rel => exact ⟨i + 1, by first | rfl | exact congrArg _ (wrap_next (by have := HO.out.1.1; have := HI.out.1; omega)), by have := HI.out.2; exact Lib.hid (by omega), HN⟩
      · have hi2 : ¬ (i : Int) < all.length := by omega
        have HN := Lib.hid (bAfter H5.out.2.2 hJ.out)
        clear hi hk hJ
        go_wp2_with fail
        go_ret
        exact ⟨rfl, HN.out⟩
end Go.Proofs.Ytkijjgdcbgmglaa.Q
namespace Go.Proofs.Ytkijjgdcbgmglaa
open Go.RowKit Go.Lib Go.ChangeShapes Go.WideShapes Go.Proofs.Ytkijjgdcbgmglaa.Q Go.Proofs.YtkijjgdcbgmglaaW.PrintWords
set_option maxRecDepth 100000 in
theorem walk_HistoryTime {H : Type} {enc : TypeId × Value → H} (W : World) (base : Nat) (v0 : Value) (d0 : DataW H) (p0 : List MemPlace) (o0 : Value.okWide Try.prog W .any base 22 v0) (h0 : DataW.Trod enc Try.prog W 0 (fun _ => true) true 22 v0 d0 p0) (_hsz : (DataW.weightsEach Try.prog (Try.f6.params.toList ++ Rows.historyTimeSpec.plain.varTypes Try.prog) ([d0] ++ [])).all (· ≤ reachBytes) = true) :
    Calls Try.prog 6 #[v0] W fun e w' => e = .returned (.bool true) ∧ Below W.heap.size W w' := by
  obtain ⟨A, c, l, rfl, hc, hC, -⟩ := events_of o0 h0
  exact time_calls A c l W hC hc
end Go.Proofs.Ytkijjgdcbgmglaa
