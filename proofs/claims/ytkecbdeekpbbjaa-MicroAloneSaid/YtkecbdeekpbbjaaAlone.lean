/- A commit alone in its machine: it goes through, or it fails, as the values say: the law's walk. -/
import Derived.Test.YtkecbdeekpbbjaaBegun
import Derived.Test.YtkecbdeekpbbjaaHAll
import Derived.Test.YtkecbdeekpbbjaaEnv
import Derived.BigQuiet
attribute [local go_sem high] Go.Proofs.Ytkecbdeekpbbjaa.Q.eqA44
namespace Go.Proofs.Ytkecbdeekpbbjaa
open Go.RowKit Go.Lib Go.ChangeShapes Go.WideShapes Go.Proofs.Ytkecbdeekpbbjaa.Q Go.Proofs.YtkecbdeekpbbjaaW.PrintWords Go.Proofs.YtkecbdeekpbbjaaW.PrintLast Go.Proofs.YtkecbdeekpbbjaaW.PrintMore
set_option linter.unusedVariables false
set_option linter.unusedSimpArgs false

theorem ends {m : Mach} (h : Inv m) (ho : ∀ (k : Nat) (j : Job), m.jobs[k]? = some j → isOver j) {x : Nat} (hx : x < m.vars.length) : (vAt m.vars x).val = (fin m).getD x v0 := by
  rcases h.vals x hx with ⟨k, j, h1, h2, -⟩ | h1
  · have hov := ho k j h1
    unfold isOver at hov
    omega
  · exact h1

theorem mu_over {m : Mach} (h : ∀ (k : Nat) (j : Job), m.jobs[k]? = some j → isOver j) : mu m = 0 := by
  have hz : ∀ l : List Job, (∀ j ∈ l, isOver j) → (l.map left).sum = 0 := fun l => by
    induction l with
    | nil => intro _; rfl
    | cons a l ih => intro hall; rw [List.map_cons, List.sum_cons, left_over (hall a List.mem_cons_self), ih fun j hj => hall j (List.mem_cons_of_mem _ hj)]
  exact hz m.jobs fun j hj => by
    obtain ⟨k, hk⟩ := List.getElem?_of_mem hj
    exact h k j hk
theorem getD_some {α : Type} {l : List α} {x : Nat} {v z : α} (h : l[x]? = some v) : l.getD x z = v := by
  rw [List.getD_eq_getElem?_getD, h]
  rfl

set_option maxHeartbeats 1000000 in
set_option maxRecDepth 100000 in
theorem alone_walk (v : Int) (A : Option Addr) (c : Nat) (l : List (List S69)) (w : World) (hv : 0 ≤ v ∧ v ≤ 255) (hC : Kd.C (Kd.slice 69 k69) w A l.length l) (hc : l.length ≤ c) :
    Calls Try.prog 6 #[.int .u8 v, .slice A l.length c] w fun e w' => e = .returned (.bool true) ∧ Below w.heap.size w w' := by
  have hu44 := Try.underlying44
  have hu54 := Try.underlying54
  obtain ⟨vn, rfl⟩ := Int.eq_ofNat_of_zero_le hv.1
  have HA := Lib.hid (alive_calls w)
  have HX := Lib.hid (And.intro hC (And.intro hc hv))
  have hv0 : (0 : Int) ≤ vn := hv.1
  have hv1 : (vn : Int) ≤ 255 := hv.2
  have hvn : varsN vn = 1 + vn % 9 := rfl
  have e1 : ((varsN vn : Nat) : Int) = 1 + (vn : Int) % 9 := by rw [hvn]; omega
  have hn9 : varsN vn ≤ 9 := by omega
  have HN : Hid (∀ W, Calls Try.prog 23 #[.int .i64 (1 + (vn : Int) % 9)] W fun e w' => ∃ mb, e = .returned (ptr mb) ∧ IsM W.heap.size (fun k => W.heap.size ≤ k) w' mb (newS (varsN vn)) ∧ Below W.heap.size W w') := Lib.hid (fun W => by rw [← e1]; exact new_calls (varsN vn) (by omega) W)
  have HE := Lib.hid e1
  clear hC hc hv hvn e1
  go_enter Try.func6, Try.ntmps6
  go_wp2_with fail
  refine HA.out.mono ?_
  rintro e w1 ⟨rfl, hB1⟩
  have HB1 := Lib.hid hB1
  clear hB1 HA
  go_wp2_with fail
  refine (heavy_calls A c l none 0 [] w1 (Kd.C_below HX.out.1 HB1.out) HX.out.2.1 (Kd.C_nil _ _) (Nat.le_refl _)).mono ?_
  rintro e w2 ⟨rfl, hB2⟩
  have HB2 := Lib.hid (bAfter HB1.out hB2)
  clear hB2
  cases hh : heavyB l [] with
  | true =>
    have HH := Lib.hid hh
    clear hh
    go_wp2_with fail
    go_ret
    exact ⟨rfl, HB2.out⟩
  | false =>
    obtain ⟨ht, hl, -⟩ := heavy_not hh
    have hbf := begun_f vn HX.out.2.2 l hl ht
    have hSl := begunL_len (varsN vn) l
    have hbt : ∀ t ∈ begunL (varsN vn) l, t.length ≤ 30 := fun t h => by
      unfold begunL at h
      obtain ⟨u, hu, rfl⟩ := List.mem_map.1 (List.mem_filter.1 h).1
      rw [List.length_map]
      exact ht u hu
    have hbn : ∀ t ∈ begunL (varsN vn) l, farT (varsN vn) t = false := fun t h => begunL_far h
    generalize begunL (varsN vn) l = S at *
    have HI := Lib.hid (And.intro hbf (And.intro (show S.length ≤ 20 by omega) (And.intro hbt hbn)))
    have hS0 : (S.length : Int) ≤ 20 := by omega
    clear hh ht hl hbf hSl hbt hbn
    have hm0 : 0 ≤ (vn : Int) % 9 := by omega
    have hm1 : (vn : Int) % 9 ≤ 8 := by omega
    go_wp2_with fail
    refine (HN.out w2).mono ?_
    rintro e w3 ⟨mb, rfl, hM3, hB3⟩
    obtain ⟨i0, hi0, hz0, hz1, hz2⟩ := info_parts info44
    obtain ⟨w4, hrun, hown, hgrow⟩ := run_makeSlice_full (P := Try.prog) w3 w3.heap.size 39 44 i0 _ 2 Try.underlying39 hi0 hz0 hz1 .i64 .i64 (varsN vn) (by omega) (by rw [hz2]; omega) (by simp only [maxLen]; omega) (Nat.le_refl _)
    rw [HE.out] at hrun
    have hNR : NR w4 w3.heap.size w3.heap.size (varsN vn) (varsN vn) (mid (varsN vn) 0) := ⟨by unfold mid; simp, by rw [← madeFlat]; exact hown⟩
    have hB4 : Below w3.heap.size w3 w4 := (Below.refl _ _).grown hgrow (Nat.le_refl _) (fun k e => by cases e)
    have H3 := Lib.hid (And.intro hM3 hB3)
    have H4 := Lib.hid (And.intro hNR hB4)
    have HE2 := HE.out
    clear hM3 hB3 hown hgrow hNR hB4 hi0 hz0 hz1 hz2 HN
    go_wp2_with fail
    clear hrun
    rw [← HE2]
    obtain ⟨n, hn⟩ : ∃ n, n = varsN vn := ⟨_, rfl⟩
    rw [← hn] at H4 HE2 hn9 ⊢
    have hn0 : (0 : Int) ≤ n := by omega
    have hn1 : (n : Int) ≤ 9 := by omega
    have HNN := Lib.hid hn
    clear hn HE2
    go_loopg [8, 40] n (fun kq _ v40 W => ∃ i : Nat, v40 = .int .i64 i ∧ Hid (kq + i = n) ∧ Hid (NR W w3.heap.size w3.heap.size n n (mid n i) ∧ Below w3.heap.size w3 W))
    case atStart => exact ⟨0, rfl, by simp [Hid], H4⟩
    case round =>
      obtain ⟨i, rfl, hk, hJ⟩ := hrel
      by_cases hi : i < n
      · have hi2 : (i : Int) < n := by omega
        have hi0 : (0 : Int) ≤ i := by omega
        have hib : (i : Int) ≤ 9 := by omega
        obtain ⟨⟨a0, f0⟩, ⟨a1, f1⟩⟩ := hJ.out.1.at_ (mid_at hi)
        have HN : Hid (NR ((wr.setCell ⟨w3.heap.size, i * 2, none⟩ (.int .i64 1)).setCell ⟨w3.heap.size, i * 2 + 1, none⟩ (.int .i64 0)) w3.heap.size w3.heap.size n n (mid n (i + 1)) ∧ Below w3.heap.size w3 ((wr.setCell ⟨w3.heap.size, i * 2, none⟩ (.int .i64 1)).setCell ⟨w3.heap.size, i * 2 + 1, none⟩ (.int .i64 0))) := Lib.hid ⟨by rw [← mid_set hi]; exact hJ.out.1.put hi 1 0, hJ.out.1.put_below hJ.out.2 i 1 0⟩
        dsimp only at a0 a1
        go_wp2_with fail
        obtain ⟨k1, rfl⟩ : ∃ q, gk = q + 1 := ⟨gk - 1, by have := hk.out; omega⟩
        go_roundg k1
        case measure => omega
        case rel => exact ⟨i + 1, by first | rfl | (congr 1), Lib.hid (by have := hk.out; omega), HN⟩
      · have hi2 : ¬ (i : Int) < n := by omega
        have hk0 : i = n := by have := hk.out; omega
        subst hk0
        have hz : mid i i = zeros i := by unfold mid zeros; rw [Nat.sub_self]; simp
        have hJ1 := hJ.out.1
        rw [hz] at hJ1
        have H5 := Lib.hid (And.intro hJ1 hJ.out.2)
        clear hJ hz hJ1
        obtain ⟨w5, rfl⟩ : ∃ wo : World, wo = wr := ⟨_, rfl⟩
        obtain ⟨gk5, rfl⟩ : ∃ z : Nat, z = gk := ⟨_, rfl⟩
        go_wp2_with fail
        refine (warpbeamlaw15_begun.calls 10000 vn A c l S w5 (Kd.C_below (Kd.C_below HX.out.1 HB2.out) (H3.out.2.trans (H5.out.2.mono H3.out.2.size))) HX.out.2.1 HI.out.1).mono ?_
        rintro e w6 ⟨v6, rfl, hS6, hB6⟩
        obtain ⟨A6, c6, rfl⟩ := Kd.S_slice hS6
        have hEnv : Env w2.heap.size w3.heap.size w5.heap.size w6.heap.size w2 mb i (.slice A6 S.length c6) S w6 (newS i) (fin (newS i)) := by
          have hb := H5.out.1.base
          have hs3 := H3.out.2.size
          have hM := H3.out.1.away.below H5.out.2
          rw [← HNN.out] at hM
          refine ⟨(hM.below hB6).mono fun q hq _ => .inl hq, ?_, Kd.S_mono (Kd.S_bound hS6) fun k hk => ⟨hk.2.1, hk.2.2.1⟩, H3.out.2.trans ((H5.out.2.trans (hB6.mono H5.out.2.size)).mono hs3), Nat.le_refl _, ⟨hs3, hb.2, hB6.size⟩⟩
          have e : fin (newS i) = zeros i := by
            unfold fin hist after
            simp [newS]
          rw [e]
          exact H5.out.1.below hB6
        have H6 := Lib.hid hEnv
        clear hS6 hB6 hEnv
        go_wp2_with fail
        go_loopg [10, 11, 12, 13, 14, 15, 16, 17, 19, 21, 22, 23, 52] S.length (fun kq _ _ _ _ _ _ _ _ _ _ _ _ v52 W => ∃ (q : Nat) (m : Mach), v52 = .int .i64 q ∧ Hid (kq + q = S.length) ∧ Hid (Env w2.heap.size w3.heap.size w5.heap.size w6.heap.size w2 mb i (.slice A6 S.length c6) S W m (fin m) ∧ Inv m ∧ (∀ (k : Nat) (j : Job), m.jobs[k]? = some j → isOver j) ∧ m.jobs.length = q ∧ m.vars.length = i))
        case atStart => exact ⟨0, newS i, rfl, by simp [Hid], Lib.hid ⟨H6.out, Inv.new (by omega), fun k j h => by simp [newS] at h, rfl, by simp [newS]⟩⟩
        case round =>
          obtain ⟨q, m, rfl, hkq, hJ⟩ := hrel
          by_cases hq : q < S.length
          · have hq2 : (q : Int) < S.length := by omega
            have hq0 : (0 : Int) ≤ q := by omega
            obtain ⟨hEnv, hInv, hov, hjl, hvl⟩ := hJ.out
            obtain ⟨ad, A7, c7, rfl, a0, hT⟩ := hEnv.txn hq
            have hmem : S.getD q [] ∈ S := by rw [List.getD_eq_getElem?_getD, List.getElem?_eq_getElem hq]; exact List.getElem_mem hq
            have htl := HI.out.2.2.1 _ hmem
            have hfar := HI.out.2.2.2 _ hmem
            generalize S.getD q [] = t at *
            obtain ⟨heq, hSolo, hmu, hvl1, hjq⟩ := Solo.start hInv hov (t := t) (by rw [hvl, HNN.out]; exact hfar) (by have := HI.out.2.1; omega) htl
            rw [hjl] at heq hSolo hjq
            have hst := start_calls w2.heap.size _ wr mb m A7 c7 t hEnv.mach (Kd.R_reads' hT).2.2 (by omega) hEnv.bel.size (by have := hInv.jl; omega)
            rw [heq] at hst
            rw [hvl] at hvl1
            generalize (startS m t).1 = m1 at *
            have hst2 : Calls Try.prog 24 #[ptr mb, .slice A7 t.length c7] wr fun e w' => e = .returned (.tuple #[.int .i64 ((q : Int) + 1), .int .i64 0]) ∧ IsM w2.heap.size (fun p => okA w2.heap.size w3.heap.size w6.heap.size p ∨ wr.heap.size ≤ p) w' mb m1 ∧ Turned (okA w2.heap.size w3.heap.size w6.heap.size) wr w' := hst
            obtain ⟨now, hnow⟩ : ∃ now, now = fin m := ⟨_, rfl⟩
            rw [← hnow] at hEnv hSolo
            have HST := Lib.hid hst2
            have HE7 := Lib.hid (And.intro hEnv (And.intro hT (And.intro hSolo (And.intro hmu (And.intro hvl1 (And.intro hjq (And.intro htl hfar)))))))
            have hqb : (q : Int) ≤ 20 := by omega
            clear hJ hEnv hInv hov hjl hvl hT hmem htl hfar heq hSolo hmu hvl1 hjq hst hst2 hnow
            obtain ⟨gkq, rfl⟩ : ∃ z : Nat, z = gk := ⟨_, rfl⟩
            go_wp2_with fail
            refine HST.out.mono ?_
            rintro e w7 ⟨rfl, hM7, hT7⟩
            have H7 : Hid (Env w2.heap.size w3.heap.size w5.heap.size w6.heap.size w2 mb i (.slice (some ad) S.length c6) S w7 m1 now ∧ Txn w5.heap.size w6.heap.size w7 (.slice A7 t.length c7) t) := Lib.hid ⟨HE7.out.1.turned hT7 hM7, HE7.out.2.1.turned HE7.out.1.ord hT7⟩
            have hsc := state_calls w2.heap.size _ w7 mb m1 ((q : Int) + 1) H7.out.1.mach (by have := HE7.out.2.2.1.inv.jl; omega)
            rw [state_at HE7.out.2.2.2.2.2.1] at hsc
            have HSC := Lib.hid hsc
            clear hM7 hT7 HST hsc
            go_wp2_with fail
            refine HSC.out.mono ?_
            rintro e w8 ⟨rfl, hw8⟩
            subst hw8
            clear HSC
            have hj0 : ∃ j0, j0 = jobOf t := ⟨_, rfl⟩
            obtain ⟨j0, hj0⟩ := hj0
            have HJ0 := Lib.hid (show m1.jobs[q]? = some j0 by rw [hj0]; exact HE7.out.2.2.2.2.2.1)
            rw [← hj0]
            clear hj0
            go_wp2_with fail
            go_loopg [13, 14, 15, 16, 70] 124 (fun kq v13 v14 _ _ v70 W => ∃ (y : Nat) (m2 : Mach) (j : Job), v13 = .int .i64 j.state ∧ v14 = .int .i64 0 ∧ v70 = .int .i64 y ∧ Hid (kq + y = 124) ∧ Hid (Env w2.heap.size w3.heap.size w5.heap.size w6.heap.size w2 mb i (.slice (some ad) S.length c6) S W m2 now ∧ Txn w5.heap.size w6.heap.size W (.slice A7 t.length c7) t ∧ Solo m2 q t now ∧ m2.jobs[q]? = some j ∧ (isOver j ∨ mu m2 + y ≤ 91) ∧ m2.vars.length = i))
            case atStart => exact ⟨0, m1, j0, rfl, rfl, rfl, by simp [Hid], Lib.hid ⟨H7.out.1, H7.out.2, HE7.out.2.2.1, HJ0.out, .inr HE7.out.2.2.2.1, HE7.out.2.2.2.2.1⟩⟩
            case round =>
              obtain ⟨y, m2, j, rfl, rfl, rfl, hky, hJy⟩ := hrel
              by_cases hy : y < 124
              · have hy2 : (y : Int) < 124 := by omega
                have hy0 : (0 : Int) ≤ y := by omega
                obtain ⟨hEnv, hT, hSolo, hjq, hdn, hvl⟩ := hJy.out
                have hsp := step_calls w2.heap.size _ wr mb m2 ((q : Int) + 1) hEnv.mach hSolo.inv.mok hEnv.bel.size
                obtain ⟨hS3, hcs⟩ := hSolo.step
                have hvl3 := (hSolo.inv.step ((q : Int) + 1)).1.vl
                obtain ⟨m3, s3, e3, heq⟩ : ∃ m3 s3 e3, stepM m2 ((q : Int) + 1) = (m3, s3, e3) := ⟨_, _, _, rfl⟩
                rw [heq] at hsp hS3 hcs hvl3
                have hsp2 : Calls Try.prog 20 #[ptr mb, .int .i64 ((q : Int) + 1)] wr fun e w' => e = .returned (.tuple #[.int .i64 s3, .int .i64 e3]) ∧ IsM w2.heap.size (fun p => okA w2.heap.size w3.heap.size w6.heap.size p ∨ wr.heap.size ≤ p) w' mb m3 ∧ Turned (okA w2.heap.size w3.heap.size w6.heap.size) wr w' := hsp
                have hcs2 : (∃ j', m3.jobs[q]? = some j' ∧ s3 = j'.state ∧ e3 = 0 ∧ mu m3 < mu m2) ∨ (m3 = m2 ∧ e3 = 6 ∧ ∀ j, m2.jobs[q]? = some j → isOver j) := hcs
                have hvl4 : m3.vars.length = i := hvl3.trans hvl
                have hS4 : Solo m3 q t now := hS3
                have HZ : Hid (isOver j → mu m2 = 0) := Lib.hid fun ho => mu_over (hSolo.over hjq ho)
                have HSP := Lib.hid hsp2
                have HY := Lib.hid (And.intro hEnv (And.intro hT (And.intro hS4 (And.intro hjq (And.intro hdn hvl4)))))
                clear hJy hEnv hT hSolo hjq hdn hvl hsp hsp2 hS3 hcs hvl3 heq hvl4 hS4
                rcases hcs2 with ⟨j', hj', rfl, rfl, hmu⟩ | ⟨rfl, rfl, hov⟩
                · have HMU := Lib.hid (And.intro hj' hmu)
                  clear hj' hmu
                  go_wp2_with fail
                  refine HSP.out.mono ?_
                  rintro e w9 ⟨rfl, hM9, hT9⟩
                  have H9 : Hid (Env w2.heap.size w3.heap.size w5.heap.size w6.heap.size w2 mb i (.slice (some ad) S.length c6) S w9 m3 now ∧ Txn w5.heap.size w6.heap.size w9 (.slice A7 t.length c7) t) := Lib.hid ⟨HY.out.1.turned hT9 hM9, HY.out.2.1.turned HY.out.1.ord hT9⟩
                  clear hM9 hT9 HSP
                  go_wp2_with fail
                  obtain ⟨k1, rfl⟩ : ∃ z, gk = z + 1 := ⟨gk - 1, by have := hky.out; omega⟩
                  go_roundg k1
                  case measure => omega
                  case rel =>
                    refine ⟨y + 1, m3, j', rfl, rfl, by first | rfl | (congr 1), Lib.hid (by have := hky.out; omega), Lib.hid ⟨H9.out.1, H9.out.2, HY.out.2.2.1, HMU.out.1, ?_, HY.out.2.2.2.2.2⟩⟩
                    rcases HY.out.2.2.2.2.1 with h | h
                    · exfalso
                      have := HZ.out h
                      have := HMU.out.2
                      omega
                    · exact .inr (by have := HMU.out.2; omega)
                · have HOV := Lib.hid hov
                  clear hov
                  go_wp2_with fail
                  refine HSP.out.mono ?_
                  rintro e w9 ⟨rfl, hM9, hT9⟩
                  have H9 : Hid (Env w2.heap.size w3.heap.size w5.heap.size w6.heap.size w2 mb i (.slice (some ad) S.length c6) S w9 m3 now ∧ Txn w5.heap.size w6.heap.size w9 (.slice A7 t.length c7) t) := Lib.hid ⟨HY.out.1.turned hT9 hM9, HY.out.2.1.turned HY.out.1.ord hT9⟩
                  clear hM9 hT9 HSP
                  go_wp2_with fail
                  obtain ⟨k1, rfl⟩ : ∃ z, gk = z + 1 := ⟨gk - 1, by have := hky.out; omega⟩
                  go_roundg k1
                  case measure => omega
                  case rel => exact ⟨y + 1, m3, j, rfl, rfl, by first | rfl | (congr 1), Lib.hid (by have := hky.out; omega), Lib.hid ⟨H9.out.1, H9.out.2, HY.out.2.2.1, HY.out.2.2.2.1, .inl (HOV.out j HY.out.2.2.2.1), HY.out.2.2.2.2.2⟩⟩
              · have hy2 : ¬ (y : Int) < 124 := by omega
                obtain ⟨hEnv, hT, hSolo, hjq, hdn, hvl⟩ := hJy.out
                have hov : isOver j := hdn.elim id fun h => by have := hky.out; omega
                have hdone := hSolo.done hjq hov
                have hall := hSolo.over hjq hov
                have hrs : ∀ s ∈ readsL t, inR i s := by
                  have := (hSolo.inv.job q j hjq).rd
                  rw [(hSolo.job j hjq).1, hvl] at this
                  exact this
                have hws : ∀ s ∈ writesL t, inR i s := by
                  have := (hSolo.inv.job q j hjq).wr
                  rw [(hSolo.job j hjq).2, hvl] at this
                  exact this
                have hrl : (readsL t).length ≤ 64 := listOf_len _
                have hwl : (writesL t).length ≤ 64 := listOf_len _
                have HW := Lib.hid (And.intro hEnv (And.intro hT (And.intro hSolo.inv (And.intro hall (And.intro hvl (And.intro hSolo.jl (And.intro hdone (And.intro hrs hws))))))))
                have hrl0 : ((readsL t).length : Int) ≤ 64 := by omega
                have hwl0 : ((writesL t).length : Int) ≤ 64 := by omega
                clear hJy hEnv hT hSolo hjq hdn hvl hov hdone hall hrs hws hrl hwl H7 HJ0
                obtain ⟨wy, rfl⟩ : ∃ wy : World, wy = wr := ⟨_, rfl⟩
                obtain ⟨gky, rfl⟩ : ∃ z : Nat, z = gk := ⟨_, rfl⟩
                have hdone := HW.out.2.2.2.2.2.2.1
                generalize j.state = sj at *
                have HD := Lib.hid hdone
                clear hdone
                go_wp2_with fail
                refine (reads_calls A7 c7 t wy (Kd.R_reads' HW.out.2.1).2.2 (by have := HE7.out.2.2.2.2.2.2.1; omega)).mono ?_
                rintro e w9 ⟨B7, d7, rfl, hC8, hc8, hB8, hT8⟩
                have HR := Lib.hid (And.intro hC8 hB8)
                have H9 := Lib.hid (HW.out.1.below hB8)
                clear hC8 hc8 hB8 hT8
                obtain ⟨rs, hrs⟩ : ∃ rs, rs = readsL t := ⟨_, rfl⟩
                rw [← hrs] at HR hrl0 ⊢
                have HRS := Lib.hid hrs
                clear hrs
                go_wp2_with fail
                go_loopg [17, 19, 86] rs.length (fun kq v17 _ v86 W => ∃ (z : Nat) (b : Bool), v17 = .bool b ∧ v86 = .int .i64 z ∧ Hid (kq + z = rs.length) ∧ Hid (Below w9.heap.size w9 W ∧ (b = true ↔ ∀ s ∈ rs.take z, now.getD (wx s) v0 = s.f1)))
                case atStart => exact ⟨0, true, rfl, rfl, by simp [Hid], Lib.hid ⟨Below.refl _ _, by simp⟩⟩
                case round =>
                  obtain ⟨z, b, rfl, rfl, hkz, hJz⟩ := hrel
                  by_cases hz : z < rs.length
                  · have hz2 : (z : Int) < rs.length := by omega
                    have hz0 : (0 : Int) ≤ z := by omega
                    obtain ⟨ad3, rfl, s0, s1, s2, s3⟩ := at_T54 (Kd.C_below HR.out.1 hJz.out.1) (z : Int) hz0 hz2
                    have hs : rs[z]? = some (rd_T54 rs z) := by
                      unfold rd_T54
                      rw [Int.toNat_natCast, List.getD_eq_getElem?_getD, List.getElem?_eq_getElem hz]
                      rfl
                    have hin : inR i (rd_T54 rs z) := HW.out.2.2.2.2.2.2.2.1 _ (by rw [← HRS.out]; exact List.mem_of_getElem? hs)
                    have hzb : (z : Int) ≤ 64 := by omega
                    simp only [Int.toNat_natCast] at s0 s1 s2 s3
                    generalize rd_T54 rs z = st at *
                    obtain ⟨t0, ⟨t1, t2⟩, t3⟩ := st
                    dsimp only at s0 s1 s2 s3
                    obtain ⟨x, hx⟩ := Int.eq_ofNat_of_zero_le hin.1
                    dsimp only at hx
                    subst hx
                    have hx1n : x < i := by have := hin.2; dsimp only at this; omega
                    have hx1 : (x : Int) < i := by omega
                    have hx0 : (0 : Int) ≤ x := by omega
                    obtain ⟨u, hu⟩ : ∃ u, now[x]? = some u := ⟨_, List.getElem?_eq_getElem (show x < now.length by rw [H9.out.row.1]; exact hx1n)⟩
                    have hnext : (∀ s ∈ rs.take (z + 1), now.getD (wx s) v0 = s.f1) ↔ (∀ s ∈ rs.take z, now.getD (wx s) v0 = s.f1) ∧ u = ⟨t1, t2⟩ := by
                      rw [take_next hs]
                      have e : now.getD x v0 = u := getD_some hu
                      simp only [List.mem_append, List.mem_singleton]
                      constructor
                      · intro h
                        have h2 := h _ (.inr rfl)
                        have h3 : now.getD x v0 = ⟨t1, t2⟩ := h2
                        exact ⟨fun s hs => h s (.inl hs), e.symm.trans h3⟩
                      · rintro ⟨h1, h2⟩ s (hs | rfl)
                        · exact h1 s hs
                        · exact e.trans h2
                    obtain ⟨W6, hW6, K6, hB6⟩ : ∃ W6, wr.alloc (.cells #[.int .i64 (x : Int), .int .i64 t1, .int .i64 t2, .bool t3] 54) = W6 ∧ W6.heap[wr.heap.size]? = some (.cells #[.int .i64 (x : Int), .int .i64 t1, .int .i64 t2, .bool t3] 54 (0, 0)) ∧ Below wr.heap.size wr W6 := ⟨_, rfl, heap_alloc_new _ _, bOne _⟩
                    obtain ⟨⟨n0, -⟩, ⟨n1, -⟩⟩ := (H9.out.row.below (bAfter hJz.out.1 hB6)).at_ hu
                    obtain ⟨u0, u1⟩ := u
                    dsimp only at n0 n1
                    have d0 := blk_cell K6 0
                    have d1 := blk_cell K6 1
                    have d2 := blk_cell K6 2
                    have H10 := Lib.hid (And.intro (bAfter hJz.out.1 hB6) (And.intro hnext hJz.out.2))
                    clear hs hin hu hnext K6 hB6 hJz
                    cases b with
                    | true =>
                      go_wp2_with fail
                      go_quiet (fail)
                      go_wp2_with fail
                      obtain ⟨k1, rfl⟩ : ∃ z, gk = z + 1 := ⟨gk - 1, by have := hkz.out; omega⟩
                      go_roundg k1
                      case measure => omega
                      case rel =>
                        refine ⟨z + 1, _, rfl, by first | rfl | (congr 1), Lib.hid (by have := hkz.out; omega), Lib.hid ⟨pw_below_drewN H10.out.1 nq, ?_⟩⟩
                        rw [H10.out.2.1, ← H10.out.2.2]
                        simp
                    | false =>
                      go_wp2_with fail
                      go_quiet (fail)
                      go_wp2_with fail
                      obtain ⟨k1, rfl⟩ : ∃ z, gk = z + 1 := ⟨gk - 1, by have := hkz.out; omega⟩
                      go_roundg k1
                      case measure => omega
                      case rel =>
                        refine ⟨z + 1, false, rfl, by first | rfl | (congr 1), Lib.hid (by have := hkz.out; omega), Lib.hid ⟨pw_below_drewN H10.out.1 nq, ?_⟩⟩
                        rw [H10.out.2.1, ← H10.out.2.2]
                        simp
                  · have hz2 : ¬ (z : Int) < rs.length := by omega
                    have hze : z = rs.length := by have := hkz.out; omega
                    subst hze
                    have hok : b = true ↔ okR t now := by
                      rw [hJz.out.2, List.take_length, HRS.out]
                      exact Iff.rfl
                    have H11 : Hid (Env w2.heap.size w3.heap.size w5.heap.size w6.heap.size w2 mb i (.slice (some ad) S.length c6) S wr m2 now ∧ Txn w5.heap.size w6.heap.size wr (.slice A7 t.length c7) t) := Lib.hid ⟨H9.out.below hJz.out.1, Kd.R_below (Kd.R_below HW.out.2.1 HR.out.2) hJz.out.1⟩
                    obtain ⟨wz, rfl⟩ : ∃ wz : World, wz = wr := ⟨_, rfl⟩
                    obtain ⟨gkz, rfl⟩ : ∃ z : Nat, z = gk := ⟨_, rfl⟩
                    clear hJz
                    rcases HD.out with ⟨rfl, hokr, hfin⟩ | ⟨rfl, hokr, hfin⟩
                    · obtain rfl : b = true := hok.2 hokr
                      have HF := Lib.hid hfin
                      clear hok hokr hfin
                      go_wp2_with fail
                      refine (writes_calls A7 c7 t wz (Kd.R_reads' H11.out.2).2.2 (by have := HE7.out.2.2.2.2.2.2.1; omega)).mono ?_
                      rintro e w12 ⟨B8, d8, rfl, hC9, hc9, hB9, hT9⟩
                      have HR12 : Hid (Row54 w12 (.slice B8 (writesL t).length d8) (writesL t)) := Lib.hid ⟨B8, d8, rfl, hc9, hC9, hT9⟩
                      have H12 := Lib.hid (H11.out.1.below hB9)
                      clear hC9 hc9 hB9 hT9 H11
                      obtain ⟨ws, hws⟩ : ∃ ws, ws = writesL t := ⟨_, rfl⟩
                      rw [← hws] at HR12 HF hwl0 ⊢
                      have HWS := Lib.hid hws
                      clear hws
                      go_wp2_with fail
                      go_loopg [21, 119] ws.length (fun kq _ v119 W => ∃ z : Nat, v119 = .int .i64 z ∧ Hid (kq + z = ws.length) ∧ Hid (Env w2.heap.size w3.heap.size w5.heap.size w6.heap.size w2 mb i (.slice (some ad) S.length c6) S W m2 (putAll now (ws.take z)) ∧ Row54 W (.slice B8 ws.length d8) ws))
                      case atStart => exact ⟨0, rfl, by simp [Hid], Lib.hid ⟨H12.out, HR12.out⟩⟩
                      case round =>
                        obtain ⟨z, rfl, hkz, hJz⟩ := hrel
                        by_cases hz : z < ws.length
                        · have hz2 : (z : Int) < ws.length := by omega
                          have hz0 : (0 : Int) ≤ z := by omega
                          have hzb : (z : Int) ≤ 64 := by omega
                          obtain ⟨A9, c9, e9, -, hC10, hT10⟩ := hJz.out.2
                          injection e9 with e9 _ e9'
                          subst e9; subst e9'
                          obtain ⟨ad4, rfl, s0, s1, s2, s3⟩ := at_T54 hC10 (z : Int) hz0 hz2
                          have hs : ws[z]? = some (rd_T54 ws z) := by
                            unfold rd_T54
                            rw [Int.toNat_natCast, List.getD_eq_getElem?_getD, List.getElem?_eq_getElem hz]
                            rfl
                          clear hC10 hT10
                          have hin : inR i (rd_T54 ws z) := HW.out.2.2.2.2.2.2.2.2 _ (by rw [← HWS.out]; exact List.mem_of_getElem? hs)
                          have hput : putAll now (ws.take (z + 1)) = (putAll now (ws.take z)).set (wx (rd_T54 ws z)) (rd_T54 ws z).f1 := by
                            rw [take_next hs]
                            unfold Q.putAll
                            rw [List.foldl_append]
                            rfl
                          simp only [Int.toNat_natCast] at s0 s1 s2 s3
                          generalize rd_T54 ws z = st at *
                          obtain ⟨t0, ⟨t1, t2⟩, t3⟩ := st
                          dsimp only at s0 s1 s2 s3
                          obtain ⟨x, hx⟩ := Int.eq_ofNat_of_zero_le hin.1
                          dsimp only at hx
                          subst hx
                          have hx1n : x < i := by have := hin.2; dsimp only at this; omega
                          have hx1 : (x : Int) < i := by omega
                          have hx0 : (0 : Int) ≤ x := by omega
                          obtain ⟨W6, hW6, K6, hB6⟩ : ∃ W6, wr.alloc (.cells #[.int .i64 (x : Int), .int .i64 t1, .int .i64 t2, .bool t3] 54) = W6 ∧ W6.heap[wr.heap.size]? = some (.cells #[.int .i64 (x : Int), .int .i64 t1, .int .i64 t2, .bool t3] 54 (0, 0)) ∧ Below wr.heap.size wr W6 := ⟨_, rfl, heap_alloc_new _ _, bOne _⟩
                          have hE6 := hJz.out.1.below hB6
                          have hN6 := hE6.row
                          obtain ⟨o, ho⟩ : ∃ o, (putAll now (ws.take z))[x]? = some o := ⟨_, List.getElem?_eq_getElem (show x < (putAll now (ws.take z)).length by rw [hN6.1]; exact hx1n)⟩
                          obtain ⟨⟨n0, f0⟩, ⟨n1, f1⟩⟩ := hN6.at_ ho
                          have d0 := blk_cell K6 0
                          have d1 := blk_cell K6 1
                          have d2 := blk_cell K6 2
                          have HN : Hid (Env w2.heap.size w3.heap.size w5.heap.size w6.heap.size w2 mb i (.slice (some ad) S.length c6) S ((W6.setCell ⟨w3.heap.size, x * 2, none⟩ (.int .i64 t1)).setCell ⟨w3.heap.size, x * 2 + 1, none⟩ (.int .i64 t2)) m2 (putAll now (ws.take (z + 1))) ∧ Row54 ((W6.setCell ⟨w3.heap.size, x * 2, none⟩ (.int .i64 t1)).setCell ⟨w3.heap.size, x * 2 + 1, none⟩ (.int .i64 t2)) (.slice (some ad4) ws.length d8) ws) := Lib.hid ⟨by rw [hput]; exact hE6.put hx1n t1 t2, (hJz.out.2.below hB6).T (NR.turn hN6 x t1 t2) (SpT.row hN6.2 (by decide))⟩
                          clear hs hin hput K6 hB6 hN6 hE6 hx1n ho hJz
                          go_wp2_with fail
                          obtain ⟨k1, rfl⟩ : ∃ z, gk = z + 1 := ⟨gk - 1, by have := hkz.out; omega⟩
                          go_roundg k1
                          case measure => omega
                          case rel => exact ⟨z + 1, by first | rfl | (congr 1), Lib.hid (by have := hkz.out; omega), HN⟩
                        · have hz2 : ¬ (z : Int) < ws.length := by omega
                          have hze : z = ws.length := by have := hkz.out; omega
                          subst hze
                          have H13 : Hid (Env w2.heap.size w3.heap.size w5.heap.size w6.heap.size w2 mb i (.slice (some ad) S.length c6) S wr m2 (fin m2)) := Lib.hid (by
                            have h1 := hJz.out.1
                            rw [HF.out]
                            rw [List.take_length] at h1
                            exact h1)
                          obtain ⟨wx3, rfl⟩ : ∃ wz : World, wz = wr := ⟨_, rfl⟩
                          obtain ⟨gkx, rfl⟩ : ∃ z : Nat, z = gk := ⟨_, rfl⟩
                          clear hJz
                          go_wp2_with fail
                          refine (values_calls' w2.heap.size _ wx3 mb m2 H13.out.mach HW.out.2.2.1.mok.vars).mono ?_
                          rintro e w14 ⟨v14, rfl, hR14, hB14⟩
                          obtain ⟨Nv, hNv⟩ : ∃ Nv, Nv = m2.vars.map Vr.val := ⟨_, rfl⟩
                          have hNl : Nv.length = i := by rw [hNv, List.length_map]; exact HW.out.2.2.2.2.1
                          rw [← hNv] at hR14
                          obtain ⟨A14, c14, rfl⟩ := Kd.R_slice hR14
                          have H14 := Lib.hid (And.intro (H13.out.below hB14) (And.intro (Kd.R_reads' hR14).2.2 (And.intro hNv hNl)))
                          have hN0 : (Nv.length : Int) ≤ 9 := by omega
                          clear hR14 hB14 hNv H13
                          go_wp2_with fail
                          go_loopg [22, 23, 134] Nv.length (fun kq _ _ v134 W => ∃ x : Nat, v134 = .int .i64 x ∧ Hid (kq + x = Nv.length) ∧ Hid (Below w14.heap.size w14 W))
                          case atStart => exact ⟨0, rfl, by simp [Hid], Lib.hid (Below.refl _ _)⟩
                          case round =>
                            obtain ⟨x, rfl, hkx, hJx⟩ := hrel
                            by_cases hx : x < Nv.length
                            · have hx2 : (x : Int) < Nv.length := by omega
                              have hx0 : (0 : Int) ≤ x := by omega
                              have hxi : (x : Int) < i := by omega
                              have hxm : x < m2.vars.length := by rw [HW.out.2.2.2.2.1]; omega
                              have e2 := ends HW.out.2.2.1 HW.out.2.2.2.1 hxm
                              obtain ⟨g1, rfl, a1, a2⟩ := at_T44 (Kd.C_below H14.out.2.1 hJx.out) (x : Int) hx0 hx2
                              have ea : rd_T44 Nv (x : Int) = (vAt m2.vars x).val := by
                                rw [H14.out.2.2.1]
                                unfold rd_T44 vAt
                                rw [Int.toNat_natCast, List.getD_eq_getElem?_getD, List.getElem?_map, List.getD_eq_getElem?_getD, List.getElem?_eq_getElem hxm]
                                rfl
                              simp only [Int.toNat_natCast] at a1 a2
                              rw [ea] at a1 a2
                              have hfx : (fin m2)[x]? = some (vAt m2.vars x).val := by
                                have hl : x < (fin m2).length := by rw [fin_len]; exact hxm
                                rw [List.getD_eq_getElem?_getD, List.getElem?_eq_getElem hl] at e2
                                rw [List.getElem?_eq_getElem hl]
                                exact congrArg some e2.symm
                              clear ea e2 hxm
                              generalize (vAt m2.vars x).val = vv at *
                              obtain ⟨y0, y1⟩ := vv
                              dsimp only at a1 a2
                              obtain ⟨W12, hW12, K12, hB12⟩ : ∃ W12, wr.alloc (.cells #[.int .i64 y0, .int .i64 y1] 44) = W12 ∧ W12.heap[wr.heap.size]? = some (.cells #[.int .i64 y0, .int .i64 y1] 44 (0, 0)) ∧ Below wr.heap.size wr W12 := ⟨_, rfl, heap_alloc_new _ _, bOne _⟩
                              have hB := bAfter hJx.out hB12
                              obtain ⟨⟨n0, -⟩, ⟨n1, -⟩⟩ := (H14.out.1.row.below hB).at_ hfx
                              dsimp only at n0 n1
                              have d0 := blk_cell K12 0
                              have d1 := blk_cell K12 1
                              have H15 := Lib.hid hB
                              clear hB hB12 K12 hfx hJx
                              go_wp2_with fail
                              go_quiet (fail)
                              go_wp2_with fail
                              obtain ⟨k1, rfl⟩ : ∃ z, gk = z + 1 := ⟨gk - 1, by have := hkx.out; omega⟩
                              go_roundg k1
                              case measure => omega
                              case rel => exact ⟨x + 1, by first | rfl | (congr 1), Lib.hid (by have := hkx.out; omega), Lib.hid (pw_below_drewN H15.out nq)⟩
                            · have hx2 : ¬ (x : Int) < Nv.length := by omega
                              have HL : Hid (Env w2.heap.size w3.heap.size w5.heap.size w6.heap.size w2 mb i (.slice (some ad) S.length c6) S wr m2 (fin m2)) := Lib.hid (H14.out.1.below hJx.out)
                              clear hJx
                              go_wp2_with fail
                              obtain ⟨k1, rfl⟩ : ∃ z, gkq = z + 1 := ⟨gkq - 1, by have := hkq.out; omega⟩
                              go_roundg k1
                              case measure => omega
                              case rel => exact ⟨q + 1, m2, by first | rfl | (congr 1), Lib.hid (by have := hkq.out; omega), Lib.hid ⟨HL.out, HW.out.2.2.1, HW.out.2.2.2.1, HW.out.2.2.2.2.2.1, HW.out.2.2.2.2.1⟩⟩
                    · obtain rfl : b = false := by
                        cases b with
                        | false => rfl
                        | true => exact absurd (hok.1 rfl) hokr
                      have HF := Lib.hid hfin
                      clear hok hokr hfin
                      go_wp2_with fail
                      refine (writes_calls A7 c7 t wz (Kd.R_reads' H11.out.2).2.2 (by have := HE7.out.2.2.2.2.2.2.1; omega)).mono ?_
                      rintro e w12 ⟨B8, d8, rfl, hC9, hc9, hB9, hT9⟩
                      have HR12 : Hid (Row54 w12 (.slice B8 (writesL t).length d8) (writesL t)) := Lib.hid ⟨B8, d8, rfl, hc9, hC9, hT9⟩
                      have H12 := Lib.hid (H11.out.1.below hB9)
                      clear hC9 hc9 hB9 hT9 H11
                      obtain ⟨ws, hws⟩ : ∃ ws, ws = writesL t := ⟨_, rfl⟩
                      rw [← hws] at HR12 hwl0 ⊢
                      have HWS := Lib.hid hws
                      clear hws
                      go_wp2_with fail
                      go_loopg [21, 119] ws.length (fun kq _ v119 W => ∃ z : Nat, v119 = .int .i64 z ∧ Hid (kq + z = ws.length) ∧ Hid (Env w2.heap.size w3.heap.size w5.heap.size w6.heap.size w2 mb i (.slice (some ad) S.length c6) S W m2 (now) ∧ Row54 W (.slice B8 ws.length d8) ws))
                      case atStart => exact ⟨0, rfl, by simp [Hid], Lib.hid ⟨H12.out, HR12.out⟩⟩
                      case round =>
                        obtain ⟨z, rfl, hkz, hJz⟩ := hrel
                        by_cases hz : z < ws.length
                        · have hz2 : (z : Int) < ws.length := by omega
                          have hz0 : (0 : Int) ≤ z := by omega
                          have hzb : (z : Int) ≤ 64 := by omega
                          obtain ⟨A9, c9, e9, -, hC10, hT10⟩ := hJz.out.2
                          injection e9 with e9 _ e9'
                          subst e9; subst e9'
                          obtain ⟨ad4, rfl, s0, s1, s2, s3⟩ := at_T54 hC10 (z : Int) hz0 hz2
                          have hs : ws[z]? = some (rd_T54 ws z) := by
                            unfold rd_T54
                            rw [Int.toNat_natCast, List.getD_eq_getElem?_getD, List.getElem?_eq_getElem hz]
                            rfl
                          clear hC10 hT10
                          simp only [Int.toNat_natCast] at s0 s1 s2 s3
                          generalize rd_T54 ws z = st at *
                          obtain ⟨t0, ⟨t1, t2⟩, t3⟩ := st
                          dsimp only at s0 s1 s2 s3
                          obtain ⟨W6, hW6, K6, hB6⟩ : ∃ W6, wr.alloc (.cells #[.int .i64 t0, .int .i64 t1, .int .i64 t2, .bool t3] 54) = W6 ∧ W6.heap[wr.heap.size]? = some (.cells #[.int .i64 t0, .int .i64 t1, .int .i64 t2, .bool t3] 54 (0, 0)) ∧ Below wr.heap.size wr W6 := ⟨_, rfl, heap_alloc_new _ _, bOne _⟩
                          have HN : Hid (Env w2.heap.size w3.heap.size w5.heap.size w6.heap.size w2 mb i (.slice (some ad) S.length c6) S W6 m2 now ∧ Row54 W6 (.slice (some ad4) ws.length d8) ws) := Lib.hid ⟨hJz.out.1.below hB6, hJz.out.2.below hB6⟩
                          clear hs K6 hB6 hJz
                          go_wp2_with fail
                          obtain ⟨k1, rfl⟩ : ∃ z, gk = z + 1 := ⟨gk - 1, by have := hkz.out; omega⟩
                          go_roundg k1
                          case measure => omega
                          case rel => exact ⟨z + 1, by first | rfl | (congr 1), Lib.hid (by have := hkz.out; omega), HN⟩
                        · have hz2 : ¬ (z : Int) < ws.length := by omega
                          have hze : z = ws.length := by have := hkz.out; omega
                          subst hze
                          have H13 : Hid (Env w2.heap.size w3.heap.size w5.heap.size w6.heap.size w2 mb i (.slice (some ad) S.length c6) S wr m2 (fin m2)) := Lib.hid (by
                            have h1 := hJz.out.1
                            rw [HF.out]
                            exact h1)
                          obtain ⟨wx3, rfl⟩ : ∃ wz : World, wz = wr := ⟨_, rfl⟩
                          obtain ⟨gkx, rfl⟩ : ∃ z : Nat, z = gk := ⟨_, rfl⟩
                          clear hJz
                          go_wp2_with fail
                          refine (values_calls' w2.heap.size _ wx3 mb m2 H13.out.mach HW.out.2.2.1.mok.vars).mono ?_
                          rintro e w14 ⟨v14, rfl, hR14, hB14⟩
                          obtain ⟨Nv, hNv⟩ : ∃ Nv, Nv = m2.vars.map Vr.val := ⟨_, rfl⟩
                          have hNl : Nv.length = i := by rw [hNv, List.length_map]; exact HW.out.2.2.2.2.1
                          rw [← hNv] at hR14
                          obtain ⟨A14, c14, rfl⟩ := Kd.R_slice hR14
                          have H14 := Lib.hid (And.intro (H13.out.below hB14) (And.intro (Kd.R_reads' hR14).2.2 (And.intro hNv hNl)))
                          have hN0 : (Nv.length : Int) ≤ 9 := by omega
                          clear hR14 hB14 hNv H13
                          go_wp2_with fail
                          go_loopg [22, 23, 134] Nv.length (fun kq _ _ v134 W => ∃ x : Nat, v134 = .int .i64 x ∧ Hid (kq + x = Nv.length) ∧ Hid (Below w14.heap.size w14 W))
                          case atStart => exact ⟨0, rfl, by simp [Hid], Lib.hid (Below.refl _ _)⟩
                          case round =>
                            obtain ⟨x, rfl, hkx, hJx⟩ := hrel
                            by_cases hx : x < Nv.length
                            · have hx2 : (x : Int) < Nv.length := by omega
                              have hx0 : (0 : Int) ≤ x := by omega
                              have hxi : (x : Int) < i := by omega
                              have hxm : x < m2.vars.length := by rw [HW.out.2.2.2.2.1]; omega
                              have e2 := ends HW.out.2.2.1 HW.out.2.2.2.1 hxm
                              obtain ⟨g1, rfl, a1, a2⟩ := at_T44 (Kd.C_below H14.out.2.1 hJx.out) (x : Int) hx0 hx2
                              have ea : rd_T44 Nv (x : Int) = (vAt m2.vars x).val := by
                                rw [H14.out.2.2.1]
                                unfold rd_T44 vAt
                                rw [Int.toNat_natCast, List.getD_eq_getElem?_getD, List.getElem?_map, List.getD_eq_getElem?_getD, List.getElem?_eq_getElem hxm]
                                rfl
                              simp only [Int.toNat_natCast] at a1 a2
                              rw [ea] at a1 a2
                              have hfx : (fin m2)[x]? = some (vAt m2.vars x).val := by
                                have hl : x < (fin m2).length := by rw [fin_len]; exact hxm
                                rw [List.getD_eq_getElem?_getD, List.getElem?_eq_getElem hl] at e2
                                rw [List.getElem?_eq_getElem hl]
                                exact congrArg some e2.symm
                              clear ea e2 hxm
                              generalize (vAt m2.vars x).val = vv at *
                              obtain ⟨y0, y1⟩ := vv
                              dsimp only at a1 a2
                              obtain ⟨W12, hW12, K12, hB12⟩ : ∃ W12, wr.alloc (.cells #[.int .i64 y0, .int .i64 y1] 44) = W12 ∧ W12.heap[wr.heap.size]? = some (.cells #[.int .i64 y0, .int .i64 y1] 44 (0, 0)) ∧ Below wr.heap.size wr W12 := ⟨_, rfl, heap_alloc_new _ _, bOne _⟩
                              have hB := bAfter hJx.out hB12
                              obtain ⟨⟨n0, -⟩, ⟨n1, -⟩⟩ := (H14.out.1.row.below hB).at_ hfx
                              dsimp only at n0 n1
                              have d0 := blk_cell K12 0
                              have d1 := blk_cell K12 1
                              have H15 := Lib.hid hB
                              clear hB hB12 K12 hfx hJx
                              go_wp2_with fail
                              go_quiet (fail)
                              go_wp2_with fail
                              obtain ⟨k1, rfl⟩ : ∃ z, gk = z + 1 := ⟨gk - 1, by have := hkx.out; omega⟩
                              go_roundg k1
                              case measure => omega
                              case rel => exact ⟨x + 1, by first | rfl | (congr 1), Lib.hid (by have := hkx.out; omega), Lib.hid (pw_below_drewN H15.out nq)⟩
                            · have hx2 : ¬ (x : Int) < Nv.length := by omega
                              have HL : Hid (Env w2.heap.size w3.heap.size w5.heap.size w6.heap.size w2 mb i (.slice (some ad) S.length c6) S wr m2 (fin m2)) := Lib.hid (H14.out.1.below hJx.out)
                              clear hJx
                              go_wp2_with fail
                              obtain ⟨k1, rfl⟩ : ∃ z, gkq = z + 1 := ⟨gkq - 1, by have := hkq.out; omega⟩
                              go_roundg k1
                              case measure => omega
                              case rel => exact ⟨q + 1, m2, by first | rfl | (congr 1), Lib.hid (by have := hkq.out; omega), Lib.hid ⟨HL.out, HW.out.2.2.1, HW.out.2.2.2.1, HW.out.2.2.2.2.2.1, HW.out.2.2.2.2.1⟩⟩
          · have hq2 : ¬ (q : Int) < S.length := by omega
            go_wp2_with fail
            go_ret
            exact ⟨rfl, bAfter HB2.out hJ.out.1.bel⟩

set_option maxRecDepth 100000 in
theorem walk_MicroAlone {H : Type} {enc : TypeId × Value → H} (W : World) (base : Nat) (v0 : Value) (d0 : DataW H) (p0 : List MemPlace) (o0 : Value.okWide Try.prog W .any base 5 v0) (h0 : DataW.Trod enc Try.prog W 0 (fun _ => true) true 5 v0 d0 p0) (v1 : Value) (d1 : DataW H) (p1 : List MemPlace) (o1 : Value.okWide Try.prog W .any base 22 v1) (h1 : DataW.Trod enc Try.prog W 0 (fun _ => true) true 22 v1 d1 p1) {P : Prop} (_hsz : P) :
    Calls Try.prog 6 #[v0, v1] W fun e w' => e = .returned (.bool true) ∧ Below W.heap.size W w' := by
  obtain ⟨a, rfl, ha⟩ := byte_arg o0 h0
  obtain ⟨A, c, l, rfl, hc, hC, -⟩ := txns_of o1 h1
  exact alone_walk a A c l W ha hC hc
end Go.Proofs.Ytkecbdeekpbbjaa
