/- Each beginning of a row that may be may be; what is in it stands as before, or is not over yet: by hand. -/
import Derived.Test.YtkijjgdcbgmglaaHAlive
import Derived.Test.YtkijjgdcbgmglaaLaw0
import Derived.Test.YtkijjgdcbgmglaaHGraph
import Derived.Test.YtkijjgdcbgmglaaPartsP
import Derived.Test.YtkijjgdcbgmglaaRows
import Derived.ProofKit
import Derived.OpenShut
import Derived.SizedLaws
import Derived.WideLaws
namespace Go.Proofs.Ytkijjgdcbgmglaa.Q
open Go.RowKit Go.Lib Go.ChangeShapes Go.WideShapes Go.Proofs.Ytkijjgdcbgmglaa Go.Proofs.YtkijjgdcbgmglaaW.PrintWords Go.Proofs.YtkijjgdcbgmglaaW.PrintLast Go.Proofs.YtkijjgdcbgmglaaW.PrintMore
set_option linter.unusedVariables false
set_option linter.unusedSimpArgs false
set_option maxRecDepth 100000 in
theorem byte_of {H : Type} {enc : TypeId × Value → H} {W : World} {base : Nat} {v : Value} {dt : DataW H} {p : List MemPlace} (o : Value.okWide Try.prog W .any base 5 v) (h : DataW.Trod enc Try.prog W 0 (fun _ => true) true 5 v dt p) : ∃ a : Nat, v = .int .u8 (a : Int) ∧ a ≤ 255 := by
  obtain ⟨a, rfl, _, _, hw⟩ := open_int Try.underlying5 o h
  simp only [Lit.wf, Bool.and_eq_true, decide_eq_true_eq] at hw
  have m1 : IntKind.u8.min = 0 := by decide
  have m2 : IntKind.u8.max = 255 := by decide
  rw [m1, m2] at hw
  exact ⟨a.toNat, by congr 1; omega, by omega⟩
/-- Two spans of one that went on. -/
theorem parts_at {k : Nat} {l l' : Life} (ht : LifeT k l) (ht' : LifeT 2000 l') (hk : k ≤ 120) (h : l'.beg = l.beg ∧ (0 ≤ l.fin → l'.fin = l.fin) ∧ (l.fin < 0 → l'.fin < 0 ∨ (k : Int) ≤ l'.fin)) :
    (spL l).1 = (spL l').1 ∧ (((spL l').2 < k ∧ spL l = spL l') ∨ (¬ (spL l').2 < k ∧ (spL l).2 = 9007199254740992)) := by
  obtain ⟨h1, h2, h3⟩ := h
  have hb := ht.b0
  unfold spL
  refine ⟨by dsimp only; rw [h1], ?_⟩
  dsimp only
  by_cases hf : l.fin < 0
  · right
    rw [if_pos hf]
    refine ⟨?_, rfl⟩
    rcases h3 hf with h4 | h4
    · rw [if_pos h4]; omega
    · rw [if_neg (by omega)]; omega
  · left
    have h4 := h2 (by omega)
    rw [h4, if_neg hf, h1]
    refine ⟨?_, rfl⟩
    rcases ht.e with h5 | h5 <;> omega
set_option maxRecDepth 100000 in
set_option maxHeartbeats 4000000 in
theorem parts_calls (A : Option Addr) (c : Nat) (l : List S76) (x : Nat) (W : World) (hC : Kd.C k76 W A l.length l) (hc : l.length ≤ c) (hx : x ≤ 255) :
    Calls Try.prog 8 #[.slice A l.length c, .int .u8 x] W fun e w' => e = .returned (.bool true) ∧ Below W.heap.size W w' := by
  have hu51 := Try.underlying51
  have HXX := Lib.hid hx
  clear hx
  have HA := Lib.hid (warpbeamlaw11_alive.calls true W rfl)
  have HC := Lib.hid (And.intro hC hc)
  clear hC hc
  by_cases hl : 120 < l.length
  · have d0 : decide ((l.length : Int) > 120) = true := by simp; omega
    clear hl
    go_enter Try.func8, Try.ntmps8
    go_wp2_with fail
    refine HA.out.mono ?_
    rintro e w1 ⟨rfl, hB1⟩
    have HB := Lib.hid hB1
    clear hB1
    go_wp2_with fail
    go_ret
    exact ⟨rfl, HB.out⟩
  have d0 : decide ((l.length : Int) > 120) = false := by simp; omega
  have hT := fun V => theirs_calls A c l V
  have hlen : (l.map conv44).length = l.length := List.length_map _
  generalize l.map conv44 = T at *
  have HT := Lib.hid (And.intro hT (And.intro (show T.length ≤ 120 by omega) hlen))
  have HL := Lib.hid (show l.length ≤ 120 by omega)
  clear hT hlen hl
  go_enter Try.func8, Try.ntmps8
  go_wp2_with fail
  refine HA.out.mono ?_
  rintro e w1 ⟨rfl, hB1⟩
  have HB := Lib.hid hB1
  clear hB1 HA
  go_wp2_with fail
  refine (HT.out.1 w1 (Kd.C_below HC.out.1 HB.out) HC.out.2 (by have := HL.out; omega)).mono ?_
  rintro e w2 ⟨v2, rfl, hR2, hB2⟩
  obtain ⟨A3, c3, rfl, hl3, hC3⟩ := Kd.R_reads hR2
  have H2 := Lib.hid (And.intro hC3 (And.intro hl3 (bAfter HB.out hB2)))
  clear hR2 hB2 hC3 hl3
  obtain ⟨k, hk⟩ : ∃ k, x % (T.length + 1) = k := ⟨_, rfl⟩
  have hkl : k ≤ T.length := by have := Nat.mod_lt x (show 0 < T.length + 1 by omega); omega
  have hx0 : (0 : Int) ≤ x := by omega
  have hx1 : (x : Int) ≤ 255 := by have := HXX.out; omega
  have hl0 : (T.length : Int) ≤ 120 := by have := HT.out.2.1; omega
  have hmod : (x : Int) % ((T.length : Int) + 1) = (k : Int) := by rw [← hk]; rfl
  have hmod2 : Int.tmod (x : Int) ((T.length : Int) + 1) = (k : Int) := by rw [Int.tmod_eq_emod_of_nonneg hx0]; exact hmod
  have hwl : wrap64 ((T.length : Int) + 1) = (T.length : Int) + 1 := by unfold wrap64; omega
  have hnz : ((T.length : Int) + 1 == 0) = false := beq_eq_false_iff_ne.2 (by omega)
  have HKL := Lib.hid (And.intro hkl hk)
  clear hk hkl
  obtain ⟨is, his⟩ : ∃ b, (livedL T).isSome = b := ⟨_, rfl⟩
  have HR := Lib.hid (fun (V : World) (h : Kd.C k44 V A3 T.length T) => history_Right.calls A3 c3 T is V h H2.out.2.1 (by unfold history_Right.f; rw [his]))
  have HIS := Lib.hid his
  clear his
  go_wp2_with fail
  refine (HR.out w2 H2.out.1).mono ?_
  rintro e w3 ⟨rfl, hB3⟩
  have HB3 := Lib.hid (bAfter H2.out.2.2 hB3)
  have HC3 := Lib.hid (Kd.C_below H2.out.1 hB3)
  clear hB3 HR
  cases is with
  | false =>
    have hz : allL T = [] := by
      have := HIS.out
      unfold allL
      cases hq : livedL T with
      | none => rfl
      | some r => rw [hq] at this; cases this
    have HI := Lib.hid (fun (V : World) (h : Kd.C k44 V A3 T.length T) => (history_Ids.calls A3 c3 T [] V h H2.out.2.1 (by unfold history_Ids.f; rw [hz]; rfl)))
    have HS := Lib.hid (fun (V : World) (h : Kd.C k44 V A3 T.length T) => spans_calls A3 c3 T V h)
    have HE := Lib.hid (fun (V : World) (h : Kd.C k44 V A3 T.length T) => (history_Entries.calls A3 c3 T [] V h H2.out.2.1 (by unfold history_Entries.f; rw [hz]; rfl)))
    have HZZ := Lib.hid hz
    clear hz
    go_wp2_with fail
    refine (HI.out w3 HC3.out).mono ?_
    rintro e w4 ⟨v4, rfl, hR4, hB4⟩
    obtain ⟨A4, c4, rfl, -⟩ := Kd.R_reads hR4
    have HB4 := Lib.hid hB4
    clear hR4 hB4
    go_wp2_with fail
    refine (HS.out w4 (Kd.C_below HC3.out HB4.out)).mono ?_
    rintro e w5 ⟨v5, rfl, hR5, hB5⟩
    obtain ⟨A5, c5, rfl⟩ := own_slice hR5
    rw [HZZ.out]
    have HB5 := Lib.hid (bAfter HB4.out hB5)
    clear hR5 hB5
    go_wp2_with fail
    refine (HE.out w5 (Kd.C_below HC3.out HB5.out)).mono ?_
    rintro e w6 ⟨v6, rfl, hR6, hB6⟩
    obtain ⟨A6, c6, rfl, -⟩ := Kd.R_reads hR6
    have HB6 := Lib.hid (bAfter HB3.out (bAfter HB5.out hB6))
    clear hR6 hB6
    go_wp2_with fail
    go_ret
    exact ⟨rfl, HB6.out⟩
  | true =>
    have hpa := parts_all (T := T) (k := k) (by have := HT.out.2.1; omega) HKL.out.1 HIS.out
    have hlk : (T.take k).length = k := by rw [List.length_take]; have := HKL.out.1; omega
    have hS1 : ∀ V, Kd.C k44 V A3 T.length T → Calls Try.prog 16 #[.slice A3 k c3] V fun e w' => ∃ v : Value, e = .returned v ∧ w'.ownsRow V.heap.size 51 1 v (allL (T.take k)).length ((allL (T.take k)).map spC) ∧ Below V.heap.size V w' := fun V h => by
      have := spans_calls A3 c3 (T.take k) V (Kd.C_take h HKL.out.1)
      rwa [hlk] at this
    have hR1 : ∀ V, Kd.C k44 V A3 T.length T → Calls Try.prog 15 #[.slice A3 k c3] V fun e w' => e = .returned (.bool true) ∧ Below V.heap.size V w' := fun V h => by
      have := history_Right.calls A3 c3 (T.take k) true V (Kd.C_take h HKL.out.1) (by rw [hlk]; have := HKL.out.1; have := H2.out.2.1; omega) (by unfold history_Right.f; rw [hpa.1])
      rwa [hlk] at this
    have hS2 := fun (V : World) (h : Kd.C k44 V A3 T.length T) => spans_calls A3 c3 T V h
    have hot := allL_t T
    have ho1 := (allL_ok T).1
    have ho2 := (allL_ok (T.take k)).1
    generalize allL T = r at *
    generalize allL (T.take k) = r1 at *
    have HP := Lib.hid (And.intro hpa.2.1 (And.intro hpa.2.2 (And.intro hot (And.intro ho1 ho2))))
    have HS1 := Lib.hid hS1
    have HR1 := Lib.hid hR1
    have HS2 := Lib.hid hS2
    have hk0 : (0 : Int) ≤ k := by omega
    have hk1 : (k : Int) ≤ T.length := by have := HKL.out.1; omega
    have hk2 : (k : Int) ≤ c3 := by have := HKL.out.1; have := H2.out.2.1; omega
    clear hpa hot ho1 ho2 hS1 hR1 hS2 hlk
    go_wp2_with fail
    refine (HS1.out w3 HC3.out).mono ?_
    rintro e w4 ⟨v4, rfl, hR4, hB4⟩
    obtain ⟨A4, c4, rfl⟩ := own_slice hR4
    have H4 := Lib.hid (And.intro hR4 hB4)
    clear hR4 hB4
    go_wp2_with fail
    refine (HS2.out w4 (Kd.C_below HC3.out H4.out.2)).mono ?_
    rintro e w5 ⟨v5, rfl, hR5, hB5⟩
    obtain ⟨A5, c5, rfl⟩ := own_slice hR5
    have H5 := Lib.hid (And.intro hR5 (bAfter H4.out.2 hB5))
    have H45 := Lib.hid (pw_own_below H4.out.1 hB5)
    clear hR5 hB5
    go_wp2_with fail
    refine (HR1.out w5 (Kd.C_below HC3.out H5.out.2)).mono ?_
    rintro e w6 ⟨rfl, hB6⟩
    have H6 := Lib.hid (And.intro (pw_own_below H45.out hB6) (And.intro (pw_own_below H5.out.1 hB6) (bAfter HB3.out (bAfter H5.out.2 hB6))))
    clear hB6 HS1 HR1 HS2
    have hgt : decide ((r1.length : Int) > (r.length : Int)) = false := by simp; have := HP.out.1.len; omega
    have hgt2 : decide (r.length < r1.length) = false := by simp; have := HP.out.1.len; omega
    go_wp2_with fail
    go_loopg [64] r1.length (fun kq v64 V => ∃ i : Nat, v64 = .int .i64 i ∧ Hid (kq + i = r1.length) ∧ Hid (Below w6.heap.size w6 V))
    case atStart => exact ⟨0, rfl, by simp [Hid], Lib.hid (Below.refl _ _)⟩
    case round =>
      obtain ⟨i, rfl, hq, hJ⟩ := hrel
      have hi0 : (0 : Int) ≤ i := by omega
      by_cases hi : i < r1.length
      · have hi2 : (i : Int) < r1.length := by omega
        have hi3 : (i : Int) < r.length := by have := HP.out.1.len; omega
        obtain ⟨a, hai⟩ : ∃ x, r1[i]? = some x := ⟨_, List.getElem?_eq_getElem hi⟩
        obtain ⟨b, hbi⟩ : ∃ x, r[i]? = some x := ⟨_, List.getElem?_eq_getElem (by have := HP.out.1.len; omega)⟩
        have ta := HP.out.2.1 a (List.mem_of_getElem? hai)
        have tb := HP.out.2.2.1 b (List.mem_of_getElem? hbi)
        obtain ⟨s1, s2⟩ := parts_at ta tb (by have := HKL.out.1; have := HT.out.2.1; omega) (HP.out.1.at_ i a b hai hbi)
        have HI := Lib.hid (And.intro hi hq.out)
        have ta2 := spL_cs (ta.more (show (k : Int) ≤ 2000 by have := HKL.out.1; have := HT.out.2.1; omega))
        have tb2 := spL_cs tb
        rcases own_at_ (pw_own_below H6.out.1 hJ.out) with ⟨-, hz⟩ | ⟨g, cp, e5, -, -, -, hcell⟩
        · exact absurd hz (by have := HI.out.1; omega)
        injection e5 with e5 _ ec
        subst ec
        rcases own_at_ (pw_own_below H6.out.2.1 hJ.out) with ⟨-, hz⟩ | ⟨g2, cp2, e6, -, -, -, hcell2⟩
        · exact absurd hz (by have := HI.out.1; have := HP.out.1.len; omega)
        injection e6 with e6 _ ec
        subst ec
        have x1 : wr.cell? ⟨g, i, none⟩ = some (.complex .f64 (fo (spL a).1) (fo (spL a).2)) := (hcell i (spC a) (by rw [List.getElem?_map, hai]; rfl)).1
        have x2 : wr.cell? ⟨g2, i, none⟩ = some (.complex .f64 (fo (spL b).1) (fo (spL b).2)) := (hcell2 i (spC b) (by rw [List.getElem?_map, hbi]; rfl)).1
        have hb1 : ∀ V, Calls Try.prog 27 #[.complex .f64 (fo (spL a).1) (fo (spL a).2)] V fun e w' => e = .returned (.int .i64 ((spL a).1 : Int)) ∧ V = w' := fun V => begin_num _ _ _ V ta2
        have hb2 : ∀ V, Calls Try.prog 27 #[.complex .f64 (fo (spL b).1) (fo (spL b).2)] V fun e w' => e = .returned (.int .i64 ((spL b).1 : Int)) ∧ V = w' := fun V => begin_num _ _ _ V tb2
        have he1 : ∀ V, Calls Try.prog 28 #[.complex .f64 (fo (spL a).1) (fo (spL a).2)] V fun e w' => e = .returned (.int .i64 ((spL a).2 : Int)) ∧ V = w' := fun V => end_num _ _ _ V ta2
        have he2 : ∀ V, Calls Try.prog 28 #[.complex .f64 (fo (spL b).1) (fo (spL b).2)] V fun e w' => e = .returned (.int .i64 ((spL b).2 : Int)) ∧ V = w' := fun V => end_num _ _ _ V tb2
        generalize spL a = pa at *
        generalize spL b = pb at *
        obtain ⟨p1, q1⟩ := pa
        obtain ⟨p2, q2⟩ := pb
        dsimp only at s1 s2 x1 x2 hb1 hb2 he1 he2
        have hq1 := ta2.2.1
        subst s1
        subst e5; subst e6
        have n1 : ∀ W', Below wr.heap.size wr W' → W'.cell? ⟨g, i, none⟩ = some (.complex .f64 (fo p1) (fo q1)) := fun W' hB => pw_cell_below hB x1
        have n2 : ∀ W', Below wr.heap.size wr W' → W'.cell? ⟨g2, i, none⟩ = some (.complex .f64 (fo p1) (fo q2)) := fun W' hB => pw_cell_below hB x2
        have hle1 : p1 ≤ Never := Nat.le_trans ta2.1 ta2.2.1
        have HB1 := Lib.hid hb1
        have HB2 := Lib.hid hb2
        have HE1 := Lib.hid he1
        have HE2 := Lib.hid he2
        have HS := Lib.hid s2
        have HLE := Lib.hid (And.intro hle1 ta2.2.1)
        clear hb1 hb2 he1 he2 s2 hcell hcell2 hai hbi ta tb ta2 tb2 hi hq hq1 hle1
        go_wp2_with fail
        refine (HE2.out wr).mono ?_
        rintro e w7 ⟨rfl, rfl⟩
        rcases HS.out with ⟨h1, h2⟩ | ⟨h1, h2⟩
        · have dv : decide ((q2 : Int) < (k : Int)) = true := by simp; omega
          have dv2 : decide (q2 < k) = true := by simpa using h1
          obtain rfl : q1 = q2 := by injection h2
          have hfe1 : (FloatKind.f64.format.order (fo p1) (fo p1) == some .eq) = true := by rw [eq_fo _ _ HLE.out.1 HLE.out.1]; simp
          have hfe2 : (FloatKind.f64.format.order (fo q1) (fo q1) == some .eq) = true := by rw [eq_fo _ _ HLE.out.2 HLE.out.2]; simp
          clear h1 h2
          go_wp2_with fail
          apply GR.wp_region_grow (R := RB) 28 (by kernel_rfl) (by kernel_rfl) (by kernel_rfl)
          · intro c a d v w h; cases d <;> exact h
          simp only [List.take_succ_cons, List.take_zero, List.drop_succ_cons, List.drop_zero]
          repeat (first
            | (apply GR.gw_skip (by rfl); simp only [Act.put, List.setIfInBounds_toArray, List.set_cons_zero, List.set_cons_succ])
            | (apply GR.gw_val (by rfl); · (intro W' hB hD; have zn1 := n1 W' hB; have zn2 := n2 W' hB; go_simp; first | done | rfl)
               simp only [Act.put, List.setIfInBounds_toArray, List.set_cons_zero, List.set_cons_succ])
            | (apply GR.gw_call (by rfl)
               · (intro W' hB hD; go_simp; exact ⟨rfl, rfl⟩)
               · (intro W' hB hD; first | exact (HB1.out W').mono fun e w' h => ⟨h.1, by rw [← h.2]; exact RB_refl _⟩ | exact (HB2.out W').mono fun e w' h => ⟨h.1, by rw [← h.2]; exact RB_refl _⟩ | exact (HE1.out W').mono fun e w' h => ⟨h.1, by rw [← h.2]; exact RB_refl _⟩)
               simp only [Act.put, List.setIfInBounds_toArray, List.set_cons_zero, List.set_cons_succ]))
          apply GR.gw_nil
          intro Wz hBz hF hP
          clear hF hP n1 n2
          have HN := Lib.hid (bAfter hJ.out hBz)
          clear hBz hJ
          go_wp2_with fail
          obtain ⟨k1, rfl⟩ : ∃ z, gk = z + 1 := ⟨gk - 1, by have := HI.out; omega⟩
          go_roundg k1
          case measure => omega
          case rel => exact ⟨i + 1, by first | rfl | exact congrArg _ (wrap_next (by have := HP.out.2.2.2.2; have := HI.out.1; omega)), by have := HI.out.2; exact Lib.hid (by omega), HN⟩
        · have dv : decide ((q2 : Int) < (k : Int)) = false := by simp; omega
          have dv2 : decide (q2 < k) = false := by simpa using h1
          subst h2
          clear h1
          go_wp2_with fail
          apply GR.wp_region_grow (R := RB) 28 (by kernel_rfl) (by kernel_rfl) (by kernel_rfl)
          · intro c a d v w h; cases d <;> exact h
          simp only [List.take_succ_cons, List.take_zero, List.drop_succ_cons, List.drop_zero]
          repeat (first
            | (apply GR.gw_skip (by rfl); simp only [Act.put, List.setIfInBounds_toArray, List.set_cons_zero, List.set_cons_succ])
            | (apply GR.gw_val (by rfl); · (intro W' hB hD; have zn1 := n1 W' hB; have zn2 := n2 W' hB; go_simp; first | done | rfl)
               simp only [Act.put, List.setIfInBounds_toArray, List.set_cons_zero, List.set_cons_succ])
            | (apply GR.gw_call (by rfl)
               · (intro W' hB hD; go_simp; exact ⟨rfl, rfl⟩)
               · (intro W' hB hD; first | exact (HB1.out W').mono fun e w' h => ⟨h.1, by rw [← h.2]; exact RB_refl _⟩ | exact (HB2.out W').mono fun e w' h => ⟨h.1, by rw [← h.2]; exact RB_refl _⟩ | exact (HE1.out W').mono fun e w' h => ⟨h.1, by rw [← h.2]; exact RB_refl _⟩)
               simp only [Act.put, List.setIfInBounds_toArray, List.set_cons_zero, List.set_cons_succ]))
          apply GR.gw_nil
          intro Wz hBz hF hP
          clear hF hP n1 n2
          have HN := Lib.hid (bAfter hJ.out hBz)
          clear hBz hJ
          go_wp2_with fail
          obtain ⟨k1, rfl⟩ : ∃ z, gk = z + 1 := ⟨gk - 1, by have := HI.out; omega⟩
          go_roundg k1
          case measure => omega
          case rel => exact ⟨i + 1, by first | rfl | exact congrArg _ (wrap_next (by have := HP.out.2.2.2.2; have := HI.out.1; omega)), by have := HI.out.2; exact Lib.hid (by omega), HN⟩
      · have hi2 : ¬ (i : Int) < r1.length := by omega
        have HN := Lib.hid (bAfter H6.out.2.2 hJ.out)
        clear hi hq hJ
        go_wp2_with fail
        go_ret
        exact ⟨rfl, HN.out⟩
end Go.Proofs.Ytkijjgdcbgmglaa.Q
namespace Go.Proofs.Ytkijjgdcbgmglaa
open Go.RowKit Go.Lib Go.ChangeShapes Go.WideShapes Go.Proofs.Ytkijjgdcbgmglaa.Q Go.Proofs.YtkijjgdcbgmglaaW.PrintWords
set_option maxRecDepth 100000 in
theorem walk_HistoryParts {H : Type} {enc : TypeId × Value → H} (W : World) (base : Nat) (v0 : Value) (d0 : DataW H) (p0 : List MemPlace) (o0 : Value.okWide Try.prog W .any base 22 v0) (h0 : DataW.Trod enc Try.prog W 0 (fun _ => true) true 22 v0 d0 p0) (v1 : Value) (d1 : DataW H) (p1 : List MemPlace) (o1 : Value.okWide Try.prog W .any base 5 v1) (h1 : DataW.Trod enc Try.prog W 0 (fun _ => true) true 5 v1 d1 p1) (_hsz : (DataW.weightsEach Try.prog (Try.f8.params.toList ++ Rows.historyPartsSpec.plain.varTypes Try.prog) ([d0, d1] ++ [])).all (· ≤ reachBytes) = true) :
    Calls Try.prog 8 #[v0, v1] W fun e w' => e = .returned (.bool true) ∧ Below W.heap.size W w' := by
  obtain ⟨A, c, l, rfl, hc, hC, -⟩ := events_of o0 h0
  obtain ⟨x, rfl, hx⟩ := byte_of o1 h1
  exact parts_calls A c l x W hC hc hx
end Go.Proofs.Ytkijjgdcbgmglaa
