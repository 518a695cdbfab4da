/- An event more takes no edge away: by hand. -/
import Derived.Test.YtkijjgdcbgmglaaHAlive
import Derived.Test.YtkijjgdcbgmglaaLaw0
import Derived.Test.YtkijjgdcbgmglaaHGraph
import Derived.Test.YtkijjgdcbgmglaaGrowsP
import Derived.Test.YtkijjgdcbgmglaaRows
import Derived.ProofKit
import Derived.OpenShut
import Derived.SizedLaws
import Derived.WideLaws
namespace Go.Proofs.Ytkijjgdcbgmglaa.Q
open Go.RowKit Go.Lib Go.ChangeShapes Go.WideShapes Go.Proofs.Ytkijjgdcbgmglaa Go.Proofs.YtkijjgdcbgmglaaW.PrintWords Go.Proofs.YtkijjgdcbgmglaaW.PrintLast Go.Proofs.YtkijjgdcbgmglaaW.PrintMore
set_option linter.unusedVariables false
set_option linter.unusedSimpArgs false
theorem livesFrom_snoc (e : S44) : ∀ (h : List S44) (n : Int) (all : List Life), livesFrom (h ++ [e]) n all = (livesFrom h n all).bind fun r => if (takeL r (n + h.length) e).2 = true then some (takeL r (n + h.length) e).1 else none
  | [], n, all => by
    show (if (takeL all n e).2 = true then some (takeL all n e).1 else none) = _
    simp [livesFrom]
  | a :: h, n, all => by
    rw [List.cons_append]
    unfold livesFrom
    split
    · rw [livesFrom_snoc e h (n + 1)]
      have : n + 1 + (h.length : Int) = n + ((a :: h).length : Int) := by rw [List.length_cons]; push_cast; omega
      rw [this]
    · rfl
theorem stepL_old {l : Life} {n : Int} {e : S44} (h : Old n l) : Old (n + 1) (stepL l n e).1 := by
  have h' : Old (n + 1) l := ⟨fun x t ht => by have := h.1 x t ht; omega, fun x t ht => by have := h.2 x t ht; omega⟩
  unfold stepL
  split
  · exact h'
  split
  · refine ⟨h'.1, fun x t ht => ?_⟩
    unfold put at ht
    dsimp only at ht
    split at ht
    · injection ht with ht
      subst ht
      show n < n + 1
      omega
    · exact h'.2 x t ht
  split
  · refine ⟨fun x t ht => ?_, h'.2⟩
    unfold put at ht
    dsimp only at ht
    split at ht
    · injection ht with ht
      subst ht
      show n < n + 1
      omega
    · exact h'.1 x t ht
  · exact h'
theorem takeL_old {all : List Life} {n : Int} {e : S44} (h : ∀ l ∈ all, Old n l) : ∀ l ∈ (takeL all n e).1, Old (n + 1) l := by
  have hm : ∀ l ∈ all, Old (n + 1) l := fun l hl => ⟨fun x t ht => by have := (h l hl).1 x t ht; omega, fun x t ht => by have := (h l hl).2 x t ht; omega⟩
  unfold takeL
  split
  · intro l hl
    rcases List.mem_append.1 hl with h1 | h1
    · exact hm l h1
    · obtain rfl := List.mem_singleton.1 h1
      exact ⟨(fun x t ht => by cases ht), (fun x t ht => by cases ht)⟩
  split
  · exact hm
  split
  · exact hm
  rename_i l0 hl0
  have h1 := h l0 (List.mem_of_getElem? hl0)
  have h2 := hm l0 (List.mem_of_getElem? hl0)
  split
  · exact hm
  split
  · intro l hl
    rcases List.mem_or_eq_of_mem_set hl with h3 | rfl
    · exact hm l h3
    · exact stepL_old h1
  split
  · intro l hl
    rcases List.mem_or_eq_of_mem_set hl with h3 | rfl
    · exact hm l h3
    · exact h2
  · exact hm
theorem livesFrom_old : ∀ (h : List S44) (n : Int) (all r : List Life), livesFrom h n all = some r → (∀ l ∈ all, Old n l) → ∀ l ∈ r, Old (n + h.length) l
  | [], n, all, r, h, h1 => by
    injection h with h
    subst h
    simpa using h1
  | e :: h, n, all, r, hr, h1 => by
    unfold livesFrom at hr
    split at hr
    · have := livesFrom_old h (n + 1) _ r hr (takeL_old h1)
      intro l hl
      have h2 := this l hl
      have e : n + ((e :: h).length : Int) = n + 1 + (h.length : Int) := by rw [List.length_cons]; push_cast; omega
      rw [e]
      exact h2
    · cases hr
/-- An event more. -/
theorem grows_all {T : List S44} {e : S44} (hl : T.length ≤ 1000) (hs : (livedL (T ++ [e])).isSome = true) : (livedL T).isSome = true ∧ ∀ i j, ((graphL (allL T)).getD i 0).testBit j = true → ((graphL (allL (T ++ [e]))).getD i 0).testBit j = true := by
  have hl1 : ¬ 2000 < T.length := by omega
  have hl2 : ¬ 2000 < (T ++ [e]).length := by rw [List.length_append, List.length_singleton]; omega
  cases hr : livesFrom T 0 [] with
  | none =>
    unfold livedL at hs
    rw [if_neg hl2, livesFrom_snoc, hr] at hs
    cases hs
  | some r =>
    have e1 : livedL T = some r := by unfold livedL; rw [if_neg hl1]; exact hr
    have hs2 := hs
    unfold livedL at hs2
    rw [if_neg hl2, livesFrom_snoc, hr] at hs2
    simp only [Option.bind_some] at hs2
    split at hs2
    · rename_i hok
      have e2 : livedL (T ++ [e]) = some (takeL r (0 + T.length) e).1 := by
        unfold livedL
        rw [if_neg hl2, livesFrom_snoc, hr]
        simp only [Option.bind_some]
        rw [if_pos hok]
      have a1 : allL T = r := by unfold allL; rw [e1]; rfl
      have a2 : allL (T ++ [e]) = (takeL r (0 + T.length) e).1 := by unfold allL; rw [e2]; rfl
      have ht := livesFrom_t T 0 [] r (by omega) hr (fun l hl => by simp at hl)
      have ho := livesFrom_old T 0 [] r hr (fun l hl => by simp at hl)
      have hM := takeL_more (by omega) ht hok
      have o1 := allL_ok T
      have o2 := allL_ok (T ++ [e])
      refine ⟨by rw [e1]; rfl, fun i j hb => ?_⟩
      rw [graphL_bit _ o1.1, a1] at hb
      rw [graphL_bit _ o2.1, a2]
      simp only [Bool.and_eq_true, decide_eq_true_eq] at hb ⊢
      obtain ⟨h1, h2, h3, h4⟩ := hb
      have l1 := hM.len
      refine ⟨by omega, by omega, h3, ?_⟩
      have g1 : r[i]? = some r[i] := List.getElem?_eq_getElem h1
      have g2 : r[j]? = some r[j] := List.getElem?_eq_getElem h2
      have g3 : (takeL r (0 + T.length) e).1[i]? = some ((takeL r (0 + T.length) e).1[i]'(by omega)) := List.getElem?_eq_getElem _
      have g4 : (takeL r (0 + T.length) e).1[j]? = some ((takeL r (0 + T.length) e).1[j]'(by omega)) := List.getElem?_eq_getElem _
      exact ahead_more g1 g2 g3 g4 (hM.ext i _ _ g1 g3) (hM.ext j _ _ g2 g4) (ho _ (List.mem_of_getElem? g2)) (fun m x hm => hM.wr m x (by omega)) h4
    · cases hs2
theorem andNot_zero (a b : Nat) (ha : a < 2 ^ 64) (hb : b < 2 ^ 64) (h : ∀ j, a.testBit j = true → b.testBit j = true) : Go.bits .andNot .u64 (a : Int) (b : Int) = 0 := by
  rw [u64_andNot_nat a b ha hb]
  have : a &&& (18446744073709551615 - b) = 0 := by
    apply Nat.eq_of_testBit_eq
    intro j
    rw [Nat.testBit_and, Nat.zero_testBit]
    have e : (18446744073709551615 - b) = 2 ^ 64 - (b + 1) := by omega
    rw [e, Nat.testBit_two_pow_sub_succ hb]
    cases hj : a.testBit j with
    | false => rfl
    | true => rw [h j hj]; simp
  rw [this]
  rfl
theorem forIn_ok {σ : Type} {P : Program} {w : World} {z : σ} {body : Nat → σ → Sem (ForInStep σ)} : ∀ (l : List Nat), (∀ i ∈ l, (body i z).run P w = .ok (.yield z) w) → (forIn l z body).run P w = .ok z w
  | [], _ => rfl
  | i :: l, h => by
    rw [List.forIn_cons, Sem.run_bind, h i List.mem_cons_self, Result.andThen_ok]
    exact forIn_ok l fun j hj => h j (List.mem_cons_of_mem _ hj)
set_option maxRecDepth 100000 in
theorem eqM27 (d : Nat) (w : World) (m : List Nat) (h : m.length = 32) : (Op.equalIn (d + 3) 27 (.agg (mc m)) (.agg (mc m))).run Try.prog w = .ok true w := by
  have hu27 := Try.underlying27
  have hu25 := Try.underlying25
  have hs : (mc m).size = 32 := by rw [mc_size]; exact h
  have hg : ∀ i, i < 32 → ∃ x : Nat, (mc m)[i]? = some (.int .u64 (x : Int)) := fun i hi => by
    have e : m[i]? = some (m[i]'(by omega)) := List.getElem?_eq_getElem _
    exact ⟨_, mc_get e⟩
  generalize mc m = cs at *
  unfold Op.equalIn
  go_simp
  rw [forIn_ok _ (by
    intro i hi
    have hi32 : i < 32 := by have := List.mem_range'.1 hi; omega
    obtain ⟨x, hx⟩ := hg i hi32
    obtain ⟨hlt, hx2⟩ := Array.getElem?_eq_some_iff.1 hx
    go_simp
    done)]
  go_simp
set_option maxRecDepth 100000 in
theorem eqZ27 (d : Nat) (w : World) : (Op.equalIn (d + 3) 27 (.agg (mc [0, 0, 0, 0, 0, 0, 0, 0, 0, 0, 0, 0, 0, 0, 0, 0, 0, 0, 0, 0, 0, 0, 0, 0, 0, 0, 0, 0, 0, 0, 0, 0])) (.agg #[.int .u64 0, .int .u64 0, .int .u64 0, .int .u64 0, .int .u64 0, .int .u64 0, .int .u64 0, .int .u64 0, .int .u64 0, .int .u64 0, .int .u64 0, .int .u64 0, .int .u64 0, .int .u64 0, .int .u64 0, .int .u64 0, .int .u64 0, .int .u64 0, .int .u64 0, .int .u64 0, .int .u64 0, .int .u64 0, .int .u64 0, .int .u64 0, .int .u64 0, .int .u64 0, .int .u64 0, .int .u64 0, .int .u64 0, .int .u64 0, .int .u64 0, .int .u64 0])).run Try.prog w = .ok true w := eqM27 d w (List.replicate 32 0) rfl
attribute [local go_sem high] eqZ27
set_option maxRecDepth 100000 in
set_option maxHeartbeats 4000000 in
theorem grows_calls (A : Option Addr) (c : Nat) (l : List S76) (W : World) (hC : Kd.C k76 W A l.length l) (hc : l.length ≤ c) :
    Calls Try.prog 5 #[.slice A l.length c] W fun e w' => e = .returned (.bool true) ∧ Below W.heap.size W w' := by
  have hu27 := Try.underlying27
  have hu26 := Try.underlying26
  have hu25 := Try.underlying25
  by_cases hz : l.length = 0
  · have HA := Lib.hid (warpbeamlaw11_alive.calls true W rfl)
    have d0 : decide ((l.length : Int) > 120) = false := by simp; omega
    have d1 : ((l.length : Int) == 0) = true := by rw [hz]; rfl
    clear hz hC hc
    go_enter Try.func5, Try.ntmps5
    go_wp2_with fail
    refine HA.out.mono ?_
    rintro e w1 ⟨rfl, hB1⟩
    have HB := Lib.hid hB1
    clear hB1
    go_wp2_with fail
    go_ret
    exact ⟨rfl, HB.out⟩
  have d1 : ((l.length : Int) == 0) = false := by simpa using hz
  have HZ := Lib.hid hz
  clear hz
  have HA := Lib.hid (warpbeamlaw11_alive.calls true W rfl)
  have HC := Lib.hid (And.intro hC hc)
  clear hC hc
  by_cases hl : 120 < l.length
  · have d0 : decide ((l.length : Int) > 120) = true := by simp; omega
    clear hl
    go_enter Try.func5, Try.ntmps5
    go_wp2_with fail
    refine HA.out.mono ?_
    rintro e w1 ⟨rfl, hB1⟩
    have HB := Lib.hid hB1
    clear hB1
    go_wp2_with fail
    go_ret
    exact ⟨rfl, HB.out⟩
  have d0 : decide ((l.length : Int) > 120) = false := by simp; omega
  have hT := fun V => theirs_calls A c l V
  have hlen : (l.map conv44).length = l.length := List.length_map _
  generalize l.map conv44 = T at *
  have HT := Lib.hid (And.intro hT (And.intro (show T.length ≤ 120 by omega) hlen))
  have HL := Lib.hid (show l.length ≤ 120 by omega)
  clear hT hlen hl
  go_enter Try.func5, Try.ntmps5
  go_wp2_with fail
  refine HA.out.mono ?_
  rintro e w1 ⟨rfl, hB1⟩
  have HB := Lib.hid hB1
  clear hB1 HA
  go_wp2_with fail
  refine (HT.out.1 w1 (Kd.C_below HC.out.1 HB.out) HC.out.2 (by have := HL.out; omega)).mono ?_
  rintro e w2 ⟨v2, rfl, hR2, hB2⟩
  obtain ⟨A3, c3, rfl, hl3, hC3⟩ := Kd.R_reads hR2
  have H2 := Lib.hid (And.intro hC3 (And.intro hl3 (bAfter HB.out hB2)))
  clear hR2 hB2 hC3 hl3
  go_wp2_with fail
  refine (graph_calls A3 c3 T w2 H2.out.1).mono ?_
  rintro e w4 ⟨rfl, hB4⟩
  obtain ⟨m, hm⟩ : ∃ m, graphL (allL T) = m := ⟨_, rfl⟩
  have hwd4 := graphL_wd (allL T) (allL_ok T).1
  rw [hm] at hwd4 ⊢
  have hsz4 : (mc m).size = 32 := by rw [mc_size]; exact hwd4.1
  obtain ⟨V4a, V4, hV4, hS4, K4, hL4⟩ := laid (P := Try.prog) w4 27 [.int .u64 0, .int .u64 0, .int .u64 0, .int .u64 0, .int .u64 0, .int .u64 0, .int .u64 0, .int .u64 0, .int .u64 0, .int .u64 0, .int .u64 0, .int .u64 0, .int .u64 0, .int .u64 0, .int .u64 0, .int .u64 0, .int .u64 0, .int .u64 0, .int .u64 0, .int .u64 0, .int .u64 0, .int .u64 0, .int .u64 0, .int .u64 0, .int .u64 0, .int .u64 0, .int .u64 0, .int .u64 0, .int .u64 0, .int .u64 0, .int .u64 0, .int .u64 0] (mc m).toList (by simp only [Array.length_toList]; rw [hsz4]; rfl) (by simp only [Array.length_toList]; rw [sz27, hsz4]) (mc_one m)
  simp only [Array.toArray_toList] at hS4 K4
  have H4 := Lib.hid (And.intro K4 (And.intro hwd4 (And.intro (bAfter hB4 hL4) hm)))
  clear hB4 hwd4 hsz4 K4 hL4 hm
  obtain ⟨n, hn⟩ : ∃ n, T.length = n + 1 := ⟨T.length - 1, by have := HT.out.2.2; have := HZ.out; omega⟩
  have hi0 : (0 : Int) ≤ (T.length : Int) - 1 := by omega
  have hw : wrap64 ((T.length : Int) - 1) = (T.length : Int) - 1 := by have := HT.out.2.1; unfold wrap64; omega
  have hle : (T.length : Int) - 1 ≤ c3 := by have := H2.out.2.1; omega
  have HNN := Lib.hid hn
  clear hn
  go_wp2_with (refine wpList_st rfl rfl hS4 ?_)
  have htk : ((T.length : Int) - 1).toNat = (T.take n).length := by rw [List.length_take]; have := HNN.out; omega
  have htk2 : T.length - 1 = (T.take n).length := by rw [List.length_take]; have := HNN.out; omega
  first | rw [htk] | rw [htk2]
  refine (graph_calls A3 c3 (T.take n) V4 (Kd.C_take (Kd.C_below H2.out.1 H4.out.2.2.1) (by have := HNN.out; omega))).mono ?_
  rintro e w6 ⟨rfl, hB6⟩
  obtain ⟨m2, hm2⟩ : ∃ m, graphL (allL (T.take n)) = m := ⟨_, rfl⟩
  have hwd6 := graphL_wd (allL (T.take n)) (allL_ok (T.take n)).1
  rw [hm2] at hwd6 ⊢
  have hsz6 : (mc m2).size = 32 := by rw [mc_size]; exact hwd6.1
  obtain ⟨V6a, V6, hV6, hS6, K6, hL6⟩ := laid (P := Try.prog) w6 27 [.int .u64 0, .int .u64 0, .int .u64 0, .int .u64 0, .int .u64 0, .int .u64 0, .int .u64 0, .int .u64 0, .int .u64 0, .int .u64 0, .int .u64 0, .int .u64 0, .int .u64 0, .int .u64 0, .int .u64 0, .int .u64 0, .int .u64 0, .int .u64 0, .int .u64 0, .int .u64 0, .int .u64 0, .int .u64 0, .int .u64 0, .int .u64 0, .int .u64 0, .int .u64 0, .int .u64 0, .int .u64 0, .int .u64 0, .int .u64 0, .int .u64 0, .int .u64 0] (mc m2).toList (by simp only [Array.length_toList]; rw [hsz6]; rfl) (by simp only [Array.length_toList]; rw [sz27, hsz6]) (mc_one m2)
  simp only [Array.toArray_toList] at hS6 K6
  have H6 := Lib.hid (And.intro K6 (And.intro hwd6 (And.intro (bAfter hB6 hL6) hm2)))
  clear hB6 hwd6 hsz6 K6 hL6 hm2
  have hsp : T = T.take n ++ [T[n]'(by have := HNN.out; omega)] := by
    have := HNN.out
    rw [List.take_append_getElem, List.take_of_length_le (by omega)]
  have hga := fun (e : S44) => grows_all (T := T.take n) (e := e) (by rw [List.length_take]; have := HT.out.2.1; omega)
  have hno : (livedL T).isSome = false → m = List.replicate 32 0 := by
    intro h
    rw [← H4.out.2.2.2]
    have : allL T = [] := by
      unfold allL
      cases hq : livedL T with
      | none => rfl
      | some r => rw [hq] at h; cases h
    rw [this]
    rfl
  have hyes : (livedL T).isSome = true → (livedL (T.take n)).isSome = true ∧ ∀ i j, (m2.getD i 0).testBit j = true → (m.getD i 0).testBit j = true := by
    intro h
    rw [← H4.out.2.2.2, ← H6.out.2.2.2]
    have h2 := hga (T[n]'(by have := HNN.out; omega))
    rw [← hsp] at h2
    exact h2 h
  generalize (livedL T).isSome = is at *
  generalize (livedL (T.take n)).isSome = was at *
  have HNO := Lib.hid hno
  have HYES := Lib.hid hyes
  have hlt := blk_lt H4.out.1
  have HLT := Lib.hid hlt
  have HK := Lib.hid (And.intro (blk_below H4.out.1 H6.out.2.2.1) (bAfter H2.out.2.2 (bAfter H4.out.2.2.1 H6.out.2.2.1)))
  clear hno hyes hga hsp hlt htk htk2
  cases is with
  | false =>
    obtain rfl := HNO.out rfl
    have hL := ld_whole (P := Try.prog) (ty := 27) HK.out.1 hu27 rfl (by rw [sz27]; rfl)
    go_wp2_with (first | refine wpList_st rfl rfl hS6 ?_ | refine wpList_ld rfl rfl hL ?_)
    go_ret
    exact ⟨rfl, HK.out.2⟩
  | true =>
    obtain ⟨rfl, hbits⟩ := HYES.out rfl
    have HBI := Lib.hid hbits
    clear hbits
    go_wp2_with (refine wpList_st rfl rfl hS6 ?_)
    go_loopg [40] 32 (fun kq v40 V => ∃ i : Nat, v40 = .int .i64 i ∧ Hid (kq + i = 32) ∧ Hid (Below V6.heap.size V6 V))
    case atStart => exact ⟨0, rfl, by simp [Hid], Lib.hid (Below.refl _ _)⟩
    case round =>
      obtain ⟨i, rfl, hk, hJ⟩ := hrel
      have hi0 : (0 : Int) ≤ i := by omega
      by_cases hi : i < 32
      · have hi2 : (i : Int) < 32 := by omega
        have h1 := H4.out.2.1.at_ (i := i) hi
        have h2 := H6.out.2.1.at_ (i := i) hi
        have c1 : wr.cell? ⟨w4.heap.size, i, none⟩ = some (.int .u64 ((m.getD i 0 : Nat) : Int)) := (blk_cell (blk_below HK.out.1 hJ.out) i).trans (mc_get h1.1)
        have c2 : wr.cell? ⟨w6.heap.size, i, none⟩ = some (.int .u64 ((m2.getD i 0 : Nat) : Int)) := (blk_cell (blk_below H6.out.1 hJ.out) i).trans (mc_get h2.1)
        have hz := andNot_zero _ _ h2.2 h1.2 (HBI.out i)
        have HI := Lib.hid (And.intro hi hk.out)
        generalize m.getD i 0 = a at *
        generalize m2.getD i 0 = b at *
        have n1 : ∀ W', Below wr.heap.size wr W' → W'.cell? ⟨w4.heap.size, i, none⟩ = some (.int .u64 (a : Int)) := fun W' hB => pw_cell_below hB c1
        have n2 : ∀ W', Below wr.heap.size wr W' → W'.cell? ⟨w6.heap.size, i, none⟩ = some (.int .u64 (b : Int)) := fun W' hB => pw_cell_below hB c2
        clear hi hk h1 h2 c1 c2
        go_wp2_with fail
        apply GR.wp_region_grow (R := RB) 8 (by kernel_rfl) (by kernel_rfl) (by kernel_rfl)
        · intro c a d v w h; cases d <;> exact h
        simp only [List.take_succ_cons, List.take_zero, List.drop_succ_cons, List.drop_zero]
        repeat (first
          | (apply GR.gw_skip (by rfl); simp only [Act.put, List.setIfInBounds_toArray, List.set_cons_zero, List.set_cons_succ])
          | (apply GR.gw_val (by rfl); · (intro W' hB hD; have zn1 := n1 W' hB; have zn2 := n2 W' hB; go_simp; first | done | rfl)
             simp only [Act.put, List.setIfInBounds_toArray, List.set_cons_zero, List.set_cons_succ]))
        apply GR.gw_nil
        intro Wz hBz hF hP
        clear hF hP n1 n2
        have HN := Lib.hid (bAfter hJ.out hBz)
        clear hJ hBz
        go_wp2_with fail
        obtain ⟨k1, rfl⟩ : ∃ z, gk = z + 1 := ⟨gk - 1, by have := HI.out; omega⟩
        go_roundg k1
        case measure => omega
        case rel => exact ⟨i + 1, by first | rfl | exact congrArg _ (wrap_next (by have := HI.out.1; omega)), by have := HI.out.2; exact Lib.hid (by omega), HN⟩
      · have hi2 : ¬ (i : Int) < 32 := by omega
        have HN := Lib.hid (bAfter HK.out.2 hJ.out)
        clear hi hk hJ
        go_wp2_with fail
        go_ret
        exact ⟨rfl, HN.out⟩
end Go.Proofs.Ytkijjgdcbgmglaa.Q
namespace Go.Proofs.Ytkijjgdcbgmglaa
open Go.RowKit Go.Lib Go.ChangeShapes Go.WideShapes Go.Proofs.Ytkijjgdcbgmglaa.Q Go.Proofs.YtkijjgdcbgmglaaW.PrintWords
set_option maxRecDepth 100000 in
theorem walk_HistoryGrows {H : Type} {enc : TypeId × Value → H} (W : World) (base : Nat) (v0 : Value) (d0 : DataW H) (p0 : List MemPlace) (o0 : Value.okWide Try.prog W .any base 22 v0) (h0 : DataW.Trod enc Try.prog W 0 (fun _ => true) true 22 v0 d0 p0) (_hsz : (DataW.weightsEach Try.prog (Try.f5.params.toList ++ Rows.historyGrowsSpec.plain.varTypes Try.prog) ([d0] ++ [])).all (· ≤ reachBytes) = true) :
    Calls Try.prog 5 #[v0] W fun e w' => e = .returned (.bool true) ∧ Below W.heap.size W w' := by
  obtain ⟨A, c, l, rfl, hc, hC, -⟩ := events_of o0 h0
  exact grows_calls A c l W hC hc
end Go.Proofs.Ytkijjgdcbgmglaa
