/- Who is in a row began, and is over, just as its events say: in plain words, and the walk. -/
import Derived.Test.YtkijjgdcbgmglaaHAlive
import Derived.Test.YtkijjgdcbgmglaaLaw0
import Derived.Test.YtkijjgdcbgmglaaRows
import Derived.ProofKit
import Derived.OpenShut
import Derived.SizedLaws
import Derived.WideLaws
namespace Go.Proofs.Ytkijjgdcbgmglaa.Q
open Go.RowKit Go.Lib Go.ChangeShapes Go.WideShapes Go.Proofs.Ytkijjgdcbgmglaa Go.Proofs.YtkijjgdcbgmglaaW.PrintWords Go.Proofs.YtkijjgdcbgmglaaW.PrintLast Go.Proofs.YtkijjgdcbgmglaaW.PrintMore
set_option linter.unusedVariables false
set_option linter.unusedSimpArgs false
def isB (e : S44) : Bool := decide (e.f0 = 0)
def isC (e : S44) : Bool := decide (e.f0 = 3)
def isE (e : S44) : Bool := decide (e.f0 = 3 ∨ e.f0 = 4)
def comB (l : Life) : Bool := l.com
def ovB (l : Life) : Bool := decide (0 ≤ l.fin)
theorem stepL_same (l : Life) (n : Int) (e : S44) : (stepL l n e).1.com = l.com ∧ (stepL l n e).1.fin = l.fin := by
  unfold stepL
  split
  · exact ⟨rfl, rfl⟩
  split
  · exact ⟨rfl, rfl⟩
  split <;> exact ⟨rfl, rfl⟩
/-- What an event counts for. -/
theorem takeL_count {all : List Life} {n : Int} {e : S44} (h0 : 0 ≤ n) (h : ∀ l ∈ all, LifeT n l) (hr : (takeL all n e).2 = true) :
    (takeL all n e).1.length = all.length + (if isB e = true then 1 else 0) ∧ (takeL all n e).1.countP comB = all.countP comB + (if isC e = true then 1 else 0) ∧ (takeL all n e).1.countP ovB = all.countP ovB + (if isE e = true then 1 else 0) := by
  unfold takeL at hr ⊢
  split at hr
  · rename_i h1
    rw [if_pos h1]
    have b1 : isB e = true := by simpa [isB] using h1
    have b2 : isC e = false := by simp [isC]; omega
    have b3 : isE e = false := by simp [isE]; omega
    rw [b1, b2, b3]
    refine ⟨by simp, by simp [comB, newLife, List.countP_append], by simp [ovB, newLife, List.countP_append]⟩
  rename_i h1
  rw [if_neg h1]
  split at hr
  · cases hr
  rename_i h2
  rw [if_neg h2]
  split at hr
  · cases hr
  rename_i l hl
  have b1 : isB e = false := by simpa [isB] using h1
  have hi : (e.f1 - 1).toNat < all.length := (List.getElem?_eq_some_iff.1 hl).1
  have hl' : all[(e.f1 - 1).toNat] = l := (List.getElem?_eq_some_iff.1 hl).2
  have ht := h l (List.mem_of_getElem? hl)
  try simp only [hl]
  split at hr
  · cases hr
  rename_i h3
  rw [if_neg h3]
  have hc : l.com = false := by rcases ht.e with h4 | h4; exact h4.2; (have := ht.b0; omega)
  have hp := List.countP_pos_iff (p := comB) (l := all)
  split at hr
  · rename_i h4
    rw [if_pos h4]
    have b2 : isC e = false := by simp [isC]; omega
    have b3 : isE e = false := by simp [isE]; omega
    rw [b1, b2, b3]
    obtain ⟨s1, s2⟩ := stepL_same l n e
    refine ⟨by simp, ?_, ?_⟩
    · rw [List.countP_set hi, hl']
      simp [comB, s1, hc]
    · rw [List.countP_set hi, hl']
      simp [ovB, s2, h3]
  rename_i h4
  rw [if_neg h4]
  split at hr
  · rename_i h5
    rw [if_pos h5]
    have b3 : isE e = true := by simpa [isE] using h5
    rw [b1, b3]
    refine ⟨by simp, ?_, ?_⟩
    · rw [List.countP_set hi, hl']
      simp [comB, hc, isC]
    · rw [List.countP_set hi, hl']
      simp [ovB, h3, h0]
  · cases hr
theorem livesFrom_count : ∀ (h : List S44) (n : Int) (all r : List Life), 0 ≤ n → livesFrom h n all = some r → (∀ l ∈ all, LifeT n l) →
    r.length = all.length + h.countP isB ∧ r.countP comB = all.countP comB + h.countP isC ∧ r.countP ovB = all.countP ovB + h.countP isE
  | [], n, all, r, _, h, h1 => by
    injection h with h
    subst h
    simp
  | e :: h, n, all, r, h0, hr, h1 => by
    unfold livesFrom at hr
    split at hr
    · rename_i ht
      obtain ⟨a1, a2, a3⟩ := takeL_count h0 h1 ht
      obtain ⟨c1, c2, c3⟩ := livesFrom_count h (n + 1) _ r (by omega) hr (takeL_t h0 h1)
      rw [List.countP_cons, List.countP_cons, List.countP_cons]
      refine ⟨by omega, by omega, by omega⟩
    · cases hr
theorem allL_count {h : List S44} (hs : (livedL h).isSome = true) : (allL h).length = h.countP isB ∧ (allL h).countP comB = h.countP isC ∧ (allL h).countP ovB = h.countP isE := by
  unfold allL
  cases hl : livedL h with
  | none => rw [hl] at hs; cases hs
  | some r =>
    unfold livedL at hl
    split at hl
    · cases hl
    · have := livesFrom_count h 0 [] r (by omega) hl (fun l hl => by simp at hl)
      simpa using this
theorem rd_entry (all : List Life) {i : Nat} {l : Life} (h : all[i]? = some l) : rd_T47 (entriesL all) (i : Int) = entryL i l := by
  unfold rd_T47 entriesL
  rw [Int.toNat_natCast, List.getD_eq_getElem?_getD, List.getElem?_mapIdx, h]
  rfl
theorem entries_len (all : List Life) : (entriesL all).length = all.length := by simp [entriesL]
theorem drop_cons {α : Type} {l : List α} {i : Nat} {x : α} (h : l[i]? = some x) : l.drop i = x :: l.drop (i + 1) := by
  obtain ⟨hi, e⟩ := List.getElem?_eq_some_iff.1 h
  rw [List.drop_eq_getElem_cons hi, e]
theorem wrap_small {x : Int} (h : -1000000 ≤ x ∧ x ≤ 1000000) : wrap64 x = x := by unfold wrap64; omega
theorem take_next {α : Type} {l : List α} {i : Nat} {x : α} (h : l[i]? = some x) : l.take (i + 1) = l.take i ++ [x] := by rw [List.take_add_one, h]; rfl
/-- The walk. -/
theorem rd44 (T : List S44) {i : Nat} (hi : i < T.length) : T[i]? = some (rd_T44 T (i : Int)) := by unfold rd_T44; rw [Int.toNat_natCast, List.getD_eq_getElem?_getD, List.getElem?_eq_getElem hi]; rfl
set_option maxRecDepth 100000 in
set_option maxHeartbeats 4000000 in
theorem counts_calls (A : Option Addr) (c : Nat) (l : List S76) (W : World) (hC : Kd.C k76 W A l.length l) (hc : l.length ≤ c) :
    Calls Try.prog 4 #[.slice A l.length c] W fun e w' => e = .returned (.bool true) ∧ Below W.heap.size W w' := by
  have hu44 := Try.underlying44
  have hu47 := Try.underlying47
  have HA := Lib.hid (warpbeamlaw11_alive.calls true W rfl)
  have HC := Lib.hid (And.intro hC hc)
  clear hC hc
  by_cases hl : 120 < l.length
  · have d0 : decide ((l.length : Int) > 120) = true := by simp; omega
    clear hl
    go_enter Try.func4, Try.ntmps4
    go_wp2_with fail
    refine HA.out.mono ?_
    rintro e w1 ⟨rfl, hB1⟩
    have HB := Lib.hid hB1
    clear hB1
    go_wp2_with fail
    go_ret
    exact ⟨rfl, HB.out⟩
  have d0 : decide ((l.length : Int) > 120) = false := by simp; omega
  have hT := fun V => theirs_calls A c l V
  have hlen : (l.map conv44).length = l.length := List.length_map _
  generalize l.map conv44 = T at *
  have HT := Lib.hid (And.intro hT (show T.length ≤ 120 by omega))
  have HL := Lib.hid (show l.length ≤ 120 by omega)
  clear hT hlen hl
  go_enter Try.func4, Try.ntmps4
  go_wp2_with fail
  refine HA.out.mono ?_
  rintro e w1 ⟨rfl, hB1⟩
  have HB := Lib.hid hB1
  clear hB1 HA
  go_wp2_with fail
  refine (HT.out.1 w1 (Kd.C_below HC.out.1 HB.out) HC.out.2 (by have := HL.out; omega)).mono ?_
  rintro e w2 ⟨v2, rfl, hR2, hB2⟩
  obtain ⟨A3, c3, rfl, hl3, hC3⟩ := Kd.R_reads hR2
  have H2 := Lib.hid (And.intro hC3 (And.intro hl3 (bAfter HB.out hB2)))
  clear hR2 hB2 hC3 hl3
  go_wp2_with fail
  refine (history_Entries.calls A3 c3 T _ w2 H2.out.1 H2.out.2.1 rfl).mono ?_
  rintro e w3 ⟨v3, rfl, hR3, hB3⟩
  obtain ⟨A4, c4, rfl, hl4, hC4⟩ := Kd.R_reads hR3
  have H3 := Lib.hid (And.intro hC4 (And.intro hl4 (And.intro (bAfter H2.out.2.2 hB3) (Kd.C_below H2.out.1 hB3))))
  clear hR3 hB3 hC4 hl4
  obtain ⟨is, his⟩ : ∃ b, (livedL T).isSome = b := ⟨_, rfl⟩
  have hcnt := allL_count (h := T)
  have hok := allL_ok T
  have hno : is = false → allL T = [] := by
    intro h
    unfold allL
    cases hq : livedL T with
    | none => rfl
    | some r => rw [hq, h] at his; cases his
  rw [his] at hcnt
  have HR := Lib.hid (fun (V : World) (h : Kd.C k44 V A3 T.length T) => history_Right.calls A3 c3 T is V h H2.out.2.1 (by unfold history_Right.f; rw [his]))
  generalize allL T = all at *
  have HO := Lib.hid (And.intro hcnt hok)
  have HNO := Lib.hid hno
  clear hcnt hok hno his
  go_wp2_with fail
  refine (HR.out w3 H3.out.2.2.2).mono ?_
  rintro e w4 ⟨rfl, hB4⟩
  have H4 := Lib.hid (And.intro (Kd.C_below H3.out.1 hB4) (And.intro (Kd.C_below H3.out.2.2.2 hB4) (bAfter H3.out.2.2.1 hB4)))
  clear hB4 HR
  have hel := entries_len all
  rw [hel]
  have HEL := Lib.hid hel
  clear hel
  cases is with
  | false =>
    obtain rfl := HNO.out rfl
    go_wp2_with fail
    go_ret
    exact ⟨rfl, H4.out.2.2⟩
  | true =>
    go_wp2_with fail
    go_loopg [29, 5, 6, 7] T.length (fun kq v29 v5 v6 v7 V => ∃ i : Nat, v29 = .int .i64 i ∧ v5 = .int .i64 ((T.take i).countP isB : Int) ∧ v6 = .int .i64 ((T.take i).countP isC : Int) ∧ v7 = .int .i64 ((T.take i).countP isE : Int) ∧ Hid (kq + i = T.length) ∧ Hid (Kd.C k44 V A3 T.length T ∧ Kd.C k47 V A4 (entriesL all).length (entriesL all) ∧ Below W.heap.size W V))
    case atStart => exact ⟨0, rfl, by simp, by simp, by simp, by simp [Hid], Lib.hid ⟨H4.out.2.1, H4.out.1, H4.out.2.2⟩⟩
    case round =>
      obtain ⟨i, rfl, rfl, rfl, rfl, hk, hJ⟩ := hrel
      have hi0 : (0 : Int) ≤ i := by omega
      by_cases hi : i < T.length
      · have hi2 : (i : Int) < T.length := by omega
        obtain ⟨ad, hA3, a0, a1, a2, a3, a4⟩ := at_T44 hJ.out.1 (i : Int) hi0 hi2
        have hrd := rd44 T hi
        have hn1 : (T.take (i + 1)).countP isB = (T.take i).countP isB + List.countP isB [rd_T44 T (i : Int)] := by rw [take_next hrd, List.countP_append]
        have hn2 : (T.take (i + 1)).countP isC = (T.take i).countP isC + List.countP isC [rd_T44 T (i : Int)] := by rw [take_next hrd, List.countP_append]
        have hn3 : (T.take (i + 1)).countP isE = (T.take i).countP isE + List.countP isE [rd_T44 T (i : Int)] := by rw [take_next hrd, List.countP_append]
        simp only [Int.toNat_natCast] at a0 a1 a2 a3 a4
        generalize rd_T44 T (i : Int) = x at *
        obtain ⟨e0, e1, e2, ⟨e3, e4⟩⟩ := x
        dsimp only at a0 a1 a2 a3 a4
        obtain ⟨W3, hW3, B3, hB3⟩ : ∃ W3, wr.alloc (.cells #[.int .i64 e0, .int .i64 e1, .int .i64 e2, .int .i64 e3, .int .i64 e4] 44) = W3 ∧ W3.heap[wr.heap.size]? = some (.cells #[.int .i64 e0, .int .i64 e1, .int .i64 e2, .int .i64 e3, .int .i64 e4] 44 (0, 0)) ∧ Below wr.heap.size wr W3 := ⟨_, rfl, heap_alloc_new _ _, bOne _⟩
        have b0 := blk_cell B3 0
        have l1 : (T.take i).countP isB ≤ 120 := Nat.le_trans List.countP_le_length (by rw [List.length_take]; have := HT.out.2; omega)
        have l2 : (T.take i).countP isC ≤ 120 := Nat.le_trans List.countP_le_length (by rw [List.length_take]; have := HT.out.2; omega)
        have l3 : (T.take i).countP isE ≤ 120 := Nat.le_trans List.countP_le_length (by rw [List.length_take]; have := HT.out.2; omega)
        have w1' : wrap64 (((T.take i).countP isB : Int) + 1) = ((T.take i).countP isB : Int) + 1 := wrap_small (by omega)
        have w2' : wrap64 (((T.take i).countP isC : Int) + 1) = ((T.take i).countP isC : Int) + 1 := wrap_small (by omega)
        have w3' : wrap64 (((T.take i).countP isE : Int) + 1) = ((T.take i).countP isE : Int) + 1 := wrap_small (by omega)
        have hC3 := Kd.C_below hJ.out.1 hB3
        have hE3 := Kd.C_below hJ.out.2.1 hB3
        have hB3' := bAfter hJ.out.2.2 hB3
        have HI := Lib.hid (And.intro hi (And.intro hk.out hA3))
        subst hA3
        clear hi hk B3 hB3 l1 l2 l3 hrd hJ
        cases hq0 : (e0 == 0) with
        | true =>
          have hq3 : (e0 == 3) = false := by have : e0 = 0 := by simpa using hq0
                                             subst this; rfl
          have hq4 : (e0 == 4) = false := by have : e0 = 0 := by simpa using hq0
                                             subst this; rfl
          have k0 := hq0
          have p0 : e0 = 0 := by simpa using hq0
          have p3 : ¬ e0 = 3 := by simpa using hq3
          have p4 : ¬ e0 = 4 := by simpa using hq4
          have HN := Lib.hid (show (T.take (i + 1)).countP isB = (T.take i).countP isB + 1 ∧ (T.take (i + 1)).countP isC = (T.take i).countP isC + 0 ∧ (T.take (i + 1)).countP isE = (T.take i).countP isE + 0 ∧ Kd.C k44 W3 (some ad) T.length T ∧ Kd.C k47 W3 A4 (entriesL all).length (entriesL all) ∧ Below W.heap.size W W3 from ⟨by rw [hn1]; simp [isB, p0, p3, p4], by rw [hn2]; simp [isC, p0, p3, p4], by rw [hn3]; simp [isE, p0, p3, p4], hC3, hE3, hB3'⟩)
          clear p0 p3 p4 hn1 hn2 hn3 hC3 hE3 hB3' hq0 hq3 hq4
          go_wp2_with fail
          obtain ⟨k1, rfl⟩ : ∃ m, gk = m + 1 := ⟨gk - 1, by have := HI.out.1; have := HI.out.2.1; omega⟩
          go_roundg k1
          case measure => omega
          case rel => exact ⟨i + 1, by first | rfl | exact congrArg _ (wrap_next (by have := HT.out.2; have := HI.out.1; omega)), by first | rfl | (rw [HN.out.1]; rfl) | (rw [HN.out.1]; exact congrArg _ (by push_cast; rfl)), by first | rfl | (rw [HN.out.2.1]; rfl) | (rw [HN.out.2.1]; exact congrArg _ (by push_cast; rfl)), by first | rfl | (rw [HN.out.2.2.1]; rfl) | (rw [HN.out.2.2.1]; exact congrArg _ (by push_cast; rfl)), by have := HI.out.2.1; exact Lib.hid (by omega), Lib.hid ⟨HN.out.2.2.2.1, HN.out.2.2.2.2.1, HN.out.2.2.2.2.2⟩⟩
        | false =>
          cases hq3 : (e0 == 3) with
          | true =>
            have hq4 : (e0 == 4) = false := by have : e0 = 3 := by simpa using hq3
                                               subst this; rfl
            have k0 := hq0
            have k3 := hq3
            have p0 : ¬ e0 = 0 := by simpa using hq0
            have p3 : e0 = 3 := by simpa using hq3
            have p4 : ¬ e0 = 4 := by simpa using hq4
            have HN := Lib.hid (show (T.take (i + 1)).countP isB = (T.take i).countP isB + 0 ∧ (T.take (i + 1)).countP isC = (T.take i).countP isC + 1 ∧ (T.take (i + 1)).countP isE = (T.take i).countP isE + 1 ∧ Kd.C k44 W3 (some ad) T.length T ∧ Kd.C k47 W3 A4 (entriesL all).length (entriesL all) ∧ Below W.heap.size W W3 from ⟨by rw [hn1]; simp [isB, p0, p3, p4], by rw [hn2]; simp [isC, p0, p3, p4], by rw [hn3]; simp [isE, p0, p3, p4], hC3, hE3, hB3'⟩)
            clear p0 p3 p4 hn1 hn2 hn3 hC3 hE3 hB3' hq0 hq3 hq4
            go_wp2_with fail
            obtain ⟨k1, rfl⟩ : ∃ m, gk = m + 1 := ⟨gk - 1, by have := HI.out.1; have := HI.out.2.1; omega⟩
            go_roundg k1
            case measure => omega
            case rel => exact ⟨i + 1, by first | rfl | exact congrArg _ (wrap_next (by have := HT.out.2; have := HI.out.1; omega)), by first | rfl | (rw [HN.out.1]; rfl) | (rw [HN.out.1]; exact congrArg _ (by push_cast; rfl)), by first | rfl | (rw [HN.out.2.1]; rfl) | (rw [HN.out.2.1]; exact congrArg _ (by push_cast; rfl)), by first | rfl | (rw [HN.out.2.2.1]; rfl) | (rw [HN.out.2.2.1]; exact congrArg _ (by push_cast; rfl)), by have := HI.out.2.1; exact Lib.hid (by omega), Lib.hid ⟨HN.out.2.2.2.1, HN.out.2.2.2.2.1, HN.out.2.2.2.2.2⟩⟩
          | false =>
            cases hq4 : (e0 == 4) with
            | true =>
              have k0 := hq0
              have k3 := hq3
              have k4 := hq4
              have p0 : ¬ e0 = 0 := by simpa using hq0
              have p3 : ¬ e0 = 3 := by simpa using hq3
              have p4 : e0 = 4 := by simpa using hq4
              have HN := Lib.hid (show (T.take (i + 1)).countP isB = (T.take i).countP isB + 0 ∧ (T.take (i + 1)).countP isC = (T.take i).countP isC + 0 ∧ (T.take (i + 1)).countP isE = (T.take i).countP isE + 1 ∧ Kd.C k44 W3 (some ad) T.length T ∧ Kd.C k47 W3 A4 (entriesL all).length (entriesL all) ∧ Below W.heap.size W W3 from ⟨by rw [hn1]; simp [isB, p0, p3, p4], by rw [hn2]; simp [isC, p0, p3, p4], by rw [hn3]; simp [isE, p0, p3, p4], hC3, hE3, hB3'⟩)
              clear p0 p3 p4 hn1 hn2 hn3 hC3 hE3 hB3' hq0 hq3 hq4
              go_wp2_with fail
              obtain ⟨k1, rfl⟩ : ∃ m, gk = m + 1 := ⟨gk - 1, by have := HI.out.1; have := HI.out.2.1; omega⟩
              go_roundg k1
              case measure => omega
              case rel => exact ⟨i + 1, by first | rfl | exact congrArg _ (wrap_next (by have := HT.out.2; have := HI.out.1; omega)), by first | rfl | (rw [HN.out.1]; rfl) | (rw [HN.out.1]; exact congrArg _ (by push_cast; rfl)), by first | rfl | (rw [HN.out.2.1]; rfl) | (rw [HN.out.2.1]; exact congrArg _ (by push_cast; rfl)), by first | rfl | (rw [HN.out.2.2.1]; rfl) | (rw [HN.out.2.2.1]; exact congrArg _ (by push_cast; rfl)), by have := HI.out.2.1; exact Lib.hid (by omega), Lib.hid ⟨HN.out.2.2.2.1, HN.out.2.2.2.2.1, HN.out.2.2.2.2.2⟩⟩
            | false =>
              have k0 := hq0
              have k3 := hq3
              have k4 := hq4
              have p0 : ¬ e0 = 0 := by simpa using hq0
              have p3 : ¬ e0 = 3 := by simpa using hq3
              have p4 : ¬ e0 = 4 := by simpa using hq4
              have HN := Lib.hid (show (T.take (i + 1)).countP isB = (T.take i).countP isB + 0 ∧ (T.take (i + 1)).countP isC = (T.take i).countP isC + 0 ∧ (T.take (i + 1)).countP isE = (T.take i).countP isE + 0 ∧ Kd.C k44 W3 (some ad) T.length T ∧ Kd.C k47 W3 A4 (entriesL all).length (entriesL all) ∧ Below W.heap.size W W3 from ⟨by rw [hn1]; simp [isB, p0, p3, p4], by rw [hn2]; simp [isC, p0, p3, p4], by rw [hn3]; simp [isE, p0, p3, p4], hC3, hE3, hB3'⟩)
              clear p0 p3 p4 hn1 hn2 hn3 hC3 hE3 hB3' hq0 hq3 hq4
              go_wp2_with fail
              obtain ⟨k1, rfl⟩ : ∃ m, gk = m + 1 := ⟨gk - 1, by have := HI.out.1; have := HI.out.2.1; omega⟩
              go_roundg k1
              case measure => omega
              case rel => exact ⟨i + 1, by first | rfl | exact congrArg _ (wrap_next (by have := HT.out.2; have := HI.out.1; omega)), by first | rfl | (rw [HN.out.1]; rfl) | (rw [HN.out.1]; exact congrArg _ (by push_cast; rfl)), by first | rfl | (rw [HN.out.2.1]; rfl) | (rw [HN.out.2.1]; exact congrArg _ (by push_cast; rfl)), by first | rfl | (rw [HN.out.2.2.1]; rfl) | (rw [HN.out.2.2.1]; exact congrArg _ (by push_cast; rfl)), by have := HI.out.2.1; exact Lib.hid (by omega), Lib.hid ⟨HN.out.2.2.2.1, HN.out.2.2.2.2.1, HN.out.2.2.2.2.2⟩⟩
      · have hi2 : ¬ (i : Int) < T.length := by omega
        obtain rfl : i = T.length := by have := hk.out; omega
        obtain ⟨h1, h2, h3⟩ := HO.out.1 (by trivial)
        have HV := Lib.hid hJ.out
        rw [List.take_length, ← h1, ← h2, ← h3]
        clear h1 h2 h3 hi hJ hk
        go_wp2_with fail
        go_loopg [52, 6, 7] all.length (fun kq v52 v6 v7 V => ∃ i : Nat, v52 = .int .i64 i ∧ v6 = .int .i64 ((all.drop i).countP comB : Int) ∧ v7 = .int .i64 ((all.drop i).countP ovB : Int) ∧ Hid (kq + i = all.length) ∧ Hid (Kd.C k47 V A4 (entriesL all).length (entriesL all) ∧ Below W.heap.size W V))
        case atStart => exact ⟨0, rfl, by simp, by simp, by simp [Hid], Lib.hid ⟨HV.out.2.1, HV.out.2.2⟩⟩
        case round =>
          obtain ⟨i, rfl, rfl, rfl, hk, hJ⟩ := hrel
          have hi0 : (0 : Int) ≤ i := by omega
          by_cases hi : i < all.length
          · have hi2 : (i : Int) < all.length := by omega
            obtain ⟨ad, B3, d3, B4, d4, hA4, a0, a1, a2, a3, a4, -⟩ := at_T47 hJ.out.1 (i : Int) hi0 (by rw [HEL.out]; omega)
            obtain ⟨l, hli⟩ : ∃ l, all[i]? = some l := ⟨_, List.getElem?_eq_getElem hi⟩
            rw [rd_entry all hli] at a0 a1 a2 a3 a4
            have hw : wrap64 ((i : Int) + 1) = (i : Int) + 1 := by have := HO.out.2.1; unfold wrap64; omega
            have hd := drop_cons hli
            have hn1 : (all.drop i).countP comB = (all.drop (i + 1)).countP comB + (if l.com = true then 1 else 0) := by rw [hd, List.countP_cons]; rfl
            have hn2 : (all.drop i).countP ovB = (all.drop (i + 1)).countP ovB + (if decide (0 ≤ l.fin) = true then 1 else 0) := by rw [hd, List.countP_cons]; rfl
            unfold entryL at a0 a1 a2 a3 a4
            dsimp only at a0 a1 a2 a3 a4
            simp only [Int.toNat_natCast] at a0 a1 a2 a3 a4
            generalize decide (0 ≤ l.fin) = ov at *
            generalize l.com = cm at *
            have l1 : (all.drop (i + 1)).countP comB ≤ 32 := Nat.le_trans List.countP_le_length (by rw [List.length_drop]; have := HO.out.2.1; omega)
            have l2 : (all.drop (i + 1)).countP ovB ≤ 32 := Nat.le_trans List.countP_le_length (by rw [List.length_drop]; have := HO.out.2.1; omega)
            obtain ⟨x1, hx1⟩ : ∃ x, (all.drop (i + 1)).countP comB = x := ⟨_, rfl⟩
            obtain ⟨x2, hx2⟩ : ∃ x, (all.drop (i + 1)).countP ovB = x := ⟨_, rfl⟩
            rw [hx1] at hn1 l1
            rw [hx2] at hn2 l2
            obtain ⟨n3, hn3⟩ : ∃ n, (stepsOf l.reads).length = n := ⟨_, rfl⟩
            obtain ⟨n4, hn4⟩ : ∃ n, (if cm = true then stepsOf l.writes else []).length = n := ⟨_, rfl⟩
            rw [hn3] at a3
            rw [hn4] at a4
            obtain ⟨W3, hW3, B5, hB3⟩ : ∃ W3, wr.alloc (.cells #[.int .i64 ((i : Int) + 1), .bool cm, .bool ov, .slice B3 n3 d3, .slice B4 n4 d4] 47) = W3 ∧ W3.heap[wr.heap.size]? = some (.cells #[.int .i64 ((i : Int) + 1), .bool cm, .bool ov, .slice B3 n3 d3, .slice B4 n4 d4] 47 (0, 0)) ∧ Below wr.heap.size wr W3 := ⟨_, rfl, heap_alloc_new _ _, bOne _⟩
            have b0 := blk_cell B5 0
            have b1 := blk_cell B5 1
            have b2 := blk_cell B5 2
            rw [hn1, hn2]
            have HN := Lib.hid (show Kd.C k47 W3 A4 (entriesL all).length (entriesL all) ∧ Below W.heap.size W W3 from ⟨Kd.C_below hJ.out.1 hB3, bAfter hJ.out.2 hB3⟩)
            have HI := Lib.hid (And.intro hi (And.intro hk.out (And.intro hx1 (And.intro hx2 hA4))))
            have HX := Lib.hid (And.intro l1 l2)
            subst hA4
            clear hi hk hB3 B5 hd hn1 hn2 hx1 hx2 hn3 hn4 hJ l1 l2
            cases cm with
            | true =>
              have u1 : wrap64 (((x1 + 1 : Nat) : Int) - 1) = (x1 : Int) := by have := HX.out.1; unfold wrap64; omega
              have u1' : wrap64 ((x1 : Int) + 1 - 1) = (x1 : Int) := by have := HX.out.1; unfold wrap64; omega
              cases ov with
              | true =>
                have u2 : wrap64 (((x2 + 1 : Nat) : Int) - 1) = (x2 : Int) := by have := HX.out.2; unfold wrap64; omega
                have u2' : wrap64 ((x2 : Int) + 1 - 1) = (x2 : Int) := by have := HX.out.2; unfold wrap64; omega
                go_wp2_with fail
                obtain ⟨k1, rfl⟩ : ∃ m, gk = m + 1 := ⟨gk - 1, by have := HI.out.1; have := HI.out.2.1; omega⟩
                go_roundg k1
                case measure => omega
                case rel => exact ⟨i + 1, by first | rfl | exact congrArg _ (wrap_next (by have := HO.out.2.1; have := HI.out.1; omega)), by first | exact congrArg (fun z : Nat => Value.int .i64 (z : Int)) HI.out.2.2.1.symm | (rw [HI.out.2.2.1]; simp; exact wrap_small (by have := HX.out.1; omega)), by first | exact congrArg (fun z : Nat => Value.int .i64 (z : Int)) HI.out.2.2.2.1.symm | (rw [HI.out.2.2.2.1]; simp; exact wrap_small (by have := HX.out.2; omega)), by have := HI.out.2.1; exact Lib.hid (by omega), HN⟩
              | false =>
                go_wp2_with fail
                obtain ⟨k1, rfl⟩ : ∃ m, gk = m + 1 := ⟨gk - 1, by have := HI.out.1; have := HI.out.2.1; omega⟩
                go_roundg k1
                case measure => omega
                case rel => exact ⟨i + 1, by first | rfl | exact congrArg _ (wrap_next (by have := HO.out.2.1; have := HI.out.1; omega)), by first | exact congrArg (fun z : Nat => Value.int .i64 (z : Int)) HI.out.2.2.1.symm | (rw [HI.out.2.2.1]; simp; exact wrap_small (by have := HX.out.1; omega)), by first | exact congrArg (fun z : Nat => Value.int .i64 (z : Int)) HI.out.2.2.2.1.symm | (rw [HI.out.2.2.2.1]; simp; exact wrap_small (by have := HX.out.2; omega)), by have := HI.out.2.1; exact Lib.hid (by omega), HN⟩
            | false =>
              cases ov with
              | true =>
                have u2 : wrap64 (((x2 + 1 : Nat) : Int) - 1) = (x2 : Int) := by have := HX.out.2; unfold wrap64; omega
                have u2' : wrap64 ((x2 : Int) + 1 - 1) = (x2 : Int) := by have := HX.out.2; unfold wrap64; omega
                go_wp2_with fail
                obtain ⟨k1, rfl⟩ : ∃ m, gk = m + 1 := ⟨gk - 1, by have := HI.out.1; have := HI.out.2.1; omega⟩
                go_roundg k1
                case measure => omega
                case rel => exact ⟨i + 1, by first | rfl | exact congrArg _ (wrap_next (by have := HO.out.2.1; have := HI.out.1; omega)), by first | exact congrArg (fun z : Nat => Value.int .i64 (z : Int)) HI.out.2.2.1.symm | (rw [HI.out.2.2.1]; simp; exact wrap_small (by have := HX.out.1; omega)), by first | exact congrArg (fun z : Nat => Value.int .i64 (z : Int)) HI.out.2.2.2.1.symm | (rw [HI.out.2.2.2.1]; simp; exact wrap_small (by have := HX.out.2; omega)), by have := HI.out.2.1; exact Lib.hid (by omega), HN⟩
              | false =>
                go_wp2_with fail
                obtain ⟨k1, rfl⟩ : ∃ m, gk = m + 1 := ⟨gk - 1, by have := HI.out.1; have := HI.out.2.1; omega⟩
                go_roundg k1
                case measure => omega
                case rel => exact ⟨i + 1, by first | rfl | exact congrArg _ (wrap_next (by have := HO.out.2.1; have := HI.out.1; omega)), by first | exact congrArg (fun z : Nat => Value.int .i64 (z : Int)) HI.out.2.2.1.symm | (rw [HI.out.2.2.1]; simp; exact wrap_small (by have := HX.out.1; omega)), by first | exact congrArg (fun z : Nat => Value.int .i64 (z : Int)) HI.out.2.2.2.1.symm | (rw [HI.out.2.2.2.1]; simp; exact wrap_small (by have := HX.out.2; omega)), by have := HI.out.2.1; exact Lib.hid (by omega), HN⟩
          · have hi2 : ¬ (i : Int) < all.length := by omega
            obtain rfl : i = all.length := by have := hk.out; omega
            have HF := Lib.hid hJ.out.2
            rw [List.drop_length]
            clear hi hk hJ
            go_wp2_with fail
            go_ret
            exact ⟨by first | rfl | simp, HF.out⟩
end Go.Proofs.Ytkijjgdcbgmglaa.Q
namespace Go.Proofs.Ytkijjgdcbgmglaa
open Go.RowKit Go.Lib Go.ChangeShapes Go.WideShapes Go.Proofs.Ytkijjgdcbgmglaa.Q Go.Proofs.YtkijjgdcbgmglaaW.PrintWords
set_option maxRecDepth 100000 in
theorem walk_HistoryCounts {H : Type} {enc : TypeId × Value → H} (W : World) (base : Nat) (v0 : Value) (d0 : DataW H) (p0 : List MemPlace) (o0 : Value.okWide Try.prog W .any base 22 v0) (h0 : DataW.Trod enc Try.prog W 0 (fun _ => true) true 22 v0 d0 p0) (_hsz : (DataW.weightsEach Try.prog (Try.f4.params.toList ++ Rows.historyCountsSpec.plain.varTypes Try.prog) ([d0] ++ [])).all (· ≤ reachBytes) = true) :
    Calls Try.prog 4 #[v0] W fun e w' => e = .returned (.bool true) ∧ Below W.heap.size W w' := by
  obtain ⟨A, c, l, rfl, hc, hC, -⟩ := events_of o0 h0
  exact counts_calls A c l W hC hc
end Go.Proofs.Ytkijjgdcbgmglaa
