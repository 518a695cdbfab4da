/- Just those that are decided come to be done: the law's walk. -/
import Derived.Test.YtkecbdeekpbbjaaLaw0
import Derived.Maps.OwnSet
import Derived.Maps.OwnOps
namespace Go.Proofs.Ytkecbdeekpbbjaa
open Go.RowKit Go.Lib Go.ChangeShapes Go.WideShapes Go.Maps Go.Proofs.Ytkecbdeekpbbjaa.Q Go.Proofs.YtkecbdeekpbbjaaW.PrintWords Go.Proofs.YtkecbdeekpbbjaaW.PrintLast Go.Proofs.YtkecbdeekpbbjaaW.PrintMore
set_option linter.unusedVariables false
set_option linter.unusedSimpArgs false

/-- A map that counts. -/
def Cnt (D : DataW Unit) (L : List Int) : Prop := IsMap D ∧ ∀ x, D.atKey (.int .i64 x) (.lit (.int .i64 0)) = .lit (.int .i64 (L.count x : Nat))
theorem Cnt.nil : Cnt (.map []) [] := ⟨isMap_empty, fun x => rfl⟩
theorem Cnt.put {D : DataW Unit} {L : List Int} (h : Cnt D L) (x : Int) : Cnt (D.put (.int .i64 x) (.lit (.int .i64 ((L.count x : Nat) + 1)))) (L ++ [x]) := by
  refine ⟨h.1.put _ _, fun y => ?_⟩
  rw [List.count_append]
  by_cases hy : y = x
  · subst hy
    rw [atKey_put_same h.1 (by simp [WideAt.IsKeyLit])]
    congr 2
    rw [List.count_singleton_self]
    omega
  · have hne : (Lit.int .i64 y) ≠ .int .i64 x := fun e => hy (by injection e)
    rw [atKey_put_other hne, h.2 y]
    congr 2
    rw [List.count_singleton, if_neg (by simpa using fun e => hy e.symm)]
    rfl
theorem count_nodup {L : List Int} (h : L.Nodup) (x : Int) : L.count x = if x ∈ L then 1 else 0 := by
  by_cases hx : x ∈ L
  · rw [if_pos hx]
    have h1 := List.nodup_iff_count.1 h x
    have h2 := List.count_pos_iff.2 hx
    omega
  · rw [if_neg hx]
    exact List.count_eq_zero.2 hx
theorem lit_eq {a b : Int} (h : (DataW.lit (.int .i64 a) : DataW Unit) = .lit (.int .i64 b)) : a = b := by
  injection h with h
  injection h with _ h
theorem zero3 (w : World) : (zeroValue 3).run Try.prog w = .ok (.int .i64 0) w := by kernel_rfl
theorem wf_i64' {x : Int} (h0 : -9223372036854775808 ≤ x) (h1 : x ≤ 9223372036854775807) : (Lit.int .i64 x).wf = true := wf_i64 h0 h1
/-- What a commit's state says of the count. -/
theorem JI_cases {m : Mach} {k : Nat} {j : Job} (h : JI m k j) (hn : m.decided.Nodup) : ∃ c : Nat, m.decided.count ((k : Int) + 1) = c ∧ ((j.state = 0 ∧ c = 0) ∨ (j.state = 1 ∧ c = 0) ∨ (j.state = 2 ∧ c = 1) ∨ (j.state = 3 ∧ (c = 0 ∨ c = 1)) ∨ (j.state = 4 ∧ c = 1) ∨ (j.state = 5 ∧ c = 0)) := by
  refine ⟨_, rfl, ?_⟩
  rw [count_nodup hn]
  rcases h.st with h | h | h | h | h | h | h
  · exact .inl ⟨h.1, by rw [if_neg h.2.2.2]⟩
  · exact .inr (.inl ⟨h.1, by rw [if_neg h.2.2.2]⟩)
  · exact .inr (.inr (.inl ⟨h.1, by rw [if_pos h.2.2.2]⟩))
  · exact .inr (.inr (.inr (.inl ⟨h.1, by rw [if_pos h.2.2.2]; exact .inr rfl⟩)))
  · exact .inr (.inr (.inr (.inl ⟨h.1, by rw [if_neg h.2.2.2]; exact .inl rfl⟩)))
  · exact .inr (.inr (.inr (.inr (.inl ⟨h.1, by rw [if_pos h.2.2]⟩))))
  · exact .inr (.inr (.inr (.inr (.inr ⟨h.1, by rw [if_neg h.2.2]⟩))))

theorem not_map {w : World} {b n : Nat} {D : DataW Unit} (h : w.ownsMap Try.prog 3 (plainElem (H := Unit) Try.prog 3) b n D) : ∃ o, w.heap[b]? = some o ∧ o.isCells = false := by
  obtain ⟨es, clock, hb, -⟩ := h
  exact ⟨_, hb, rfl⟩
theorem map_move {w w' : World} {b n : Nat} {D : DataW Unit} (h : w.ownsMap Try.prog 3 (plainElem (H := Unit) Try.prog 3) b n D) (he : w'.heap[b]? = w.heap[b]?) : w'.ownsMap Try.prog 3 (plainElem (H := Unit) Try.prog 3) b n D := by
  obtain ⟨es, clock, hb, F, hs, hD⟩ := h
  exact ⟨es, clock, he.trans hb, F, hs, hD⟩
/-- A row of numbers that is read, while a map is written. -/
theorem C_spare {W W' : World} {A : Option Addr} {n b : Nat} {xs : List Int} (h : Kd.C (Kd.int .i64) W A n xs) (hg : W.grownBy W' (some b)) (hb : ∃ o, W.heap[b]? = some o ∧ o.isCells = false) : Kd.C (Kd.int .i64) W' A n xs := by
  obtain ⟨h1, h2, h3⟩ := h
  refine ⟨h1, h2, fun hn => ?_⟩
  obtain ⟨ad, e, hc⟩ := h3 hn
  refine ⟨ad, e, fun j q hq => ?_⟩
  obtain ⟨cl, hl, hk, hcell⟩ := hc j q hq
  refine ⟨cl, hl, hk, fun i u hu => ?_⟩
  have h5 := hcell i u hu
  refine (World.cell?_of_block (w := W) (w' := W') (hg.block _ (World.block_lt_of_cell? _ _ h5) (fun e => ?_))).trans h5
  injection e with e
  obtain ⟨o, ho, hno⟩ := hb
  unfold World.cell? at h5
  rw [e, ho] at h5
  cases o <;> simp_all [Obj.isCells]
set_option maxHeartbeats 2000000 in
set_option maxRecDepth 100000 in
theorem decided_walk (v : Int) (A : Option Addr) (c : Nat) (l : List (List S69)) (A2 : Option Addr) (c2 : Nat) (p : List Int) (w : World) (hv : 0 ≤ v ∧ v ≤ 255) (hC : Kd.C (Kd.slice 69 k69) w A l.length l) (hc : l.length ≤ c) (hP : Kd.C (Kd.int .u8) w A2 p.length p) (hc2 : p.length ≤ c2) (hp : ∀ k ∈ p, 0 ≤ k ∧ k ≤ 255) :
    Calls Try.prog 7 #[.int .u8 v, .slice A l.length c, .slice A2 p.length c2] w fun e w' => e = .returned (.bool true) ∧ Below w.heap.size w w' := by
  have hk3 := int_keyed Try.underlying3
  have hu56 := Try.underlying56
  have hmm := @run_makeMap Try.prog
  have HA := Lib.hid (alive_calls w)
  have HX := Lib.hid (And.intro hC (And.intro hc (And.intro hP (And.intro hc2 (And.intro hp hv)))))
  clear hC hc hP hc2 hp hv
  go_enter Try.func7, Try.ntmps7
  go_wp2_with fail
  refine HA.out.mono ?_
  rintro e w1 ⟨rfl, hB1⟩
  have HB1 := Lib.hid hB1
  clear hB1 HA
  go_wp2_with fail
  refine (heavy_calls A c l A2 c2 p w1 (Kd.C_below HX.out.1 HB1.out) HX.out.2.1 (Kd.C_below HX.out.2.2.1 HB1.out) HX.out.2.2.2.1).mono ?_
  rintro e w2 ⟨rfl, hB2⟩
  have HB2 := Lib.hid (bAfter HB1.out hB2)
  clear hB2
  cases hh : heavyB l p with
  | true =>
    have HH := Lib.hid hh
    clear hh
    go_wp2_with fail
    go_ret
    exact ⟨rfl, HB2.out⟩
  | false =>
    obtain ⟨ht, hl, hpl⟩ := heavy_not hh
    obtain ⟨hI, hj, hmu, -⟩ := run_facts v l p hl ht
    have HR := Lib.hid (run_calls v A c l A2 c2 p w2 HX.out.2.2.2.2.2 (Kd.C_below HX.out.1 HB2.out) (Kd.C_below HX.out.2.2.1 HB2.out) HX.out.2.2.2.2.1 (by omega) (by omega) (fun t h => by have := ht t h; omega) (runOk v l p))
    have HI := Lib.hid (And.intro hI (And.intro hj (And.intro hmu hl)))
    have hl0 : (l.length : Int) ≤ 20 := by omega
    have hl1 : (0 : Int) ≤ l.length := by omega
    clear hh ht hpl hI hj hmu hl
    generalize stepAll (startAll (newS (varsN v)) l) l.length p = m0 at *
    go_wp2_with fail
    refine HR.out.mono ?_
    rintro e w3 ⟨mb, rfl, hM3, hB3⟩
    obtain ⟨W4, hW4, hD4, hB4⟩ : ∃ W4, w3.alloc (.map #[] 0) = W4 ∧ W4.ownsMap Try.prog 3 (plainElem (H := Unit) Try.prog 3) w3.heap.size 0 (.map []) ∧ Below w3.heap.size w3 W4 := ⟨_, rfl, World.ownsMap_made w3 Try.prog 3 (plainElem Try.prog 3), bOne _⟩
    have hM4 : IsM w2.heap.size (fun q => w2.heap.size ≤ q ∧ q < w3.heap.size) W4 mb m0 := hM3.away.below hB4
    have H4 := Lib.hid (And.intro hM4 (And.intro (hB3.trans (hB4.mono hB3.size)) (And.intro hD4 hB3.size)))
    clear hM3 hB3 HR hM4 hD4 hB4
    go_wp2_with fail
    clear hW4 hmm
    refine (decided_calls w2.heap.size _ W4 mb m0 H4.out.1 HI.out.1.mok.decided).mono ?_
    rintro e w5 ⟨v5, rfl, hR5, hB5⟩
    obtain ⟨A5, c5, rfl⟩ := Kd.R_slice hR5
    have hC5 := (Kd.R_reads' hR5).2.2
    have H5 : Hid (IsM w2.heap.size (fun q => w2.heap.size ≤ q ∧ q < w3.heap.size) w5 mb m0 ∧ Below w2.heap.size w2 w5 ∧ w5.ownsMap Try.prog 3 (plainElem (H := Unit) Try.prog 3) w3.heap.size 0 (.map []) ∧ Kd.C (Kd.int .i64) w5 A5 m0.decided.length m0.decided) := Lib.hid ⟨H4.out.1.below hB5, H4.out.2.1.trans (hB5.mono H4.out.2.1.size), ?d5, hC5⟩
    case d5 => exact H4.out.2.2.1.kept (grown_of_below hB5 none) (by simp)
    clear hR5 hC5 hB5
    generalize hdec : m0.decided = dec at *
    go_wp2_with fail
    go_loopg [10, 29] dec.length (fun kq _ v29 W => ∃ i : Nat, v29 = .int .i64 i ∧ Hid (kq + i = dec.length) ∧ Hid ((∃ D, W.ownsMap Try.prog 3 (plainElem (H := Unit) Try.prog 3) w3.heap.size i D ∧ Cnt D (dec.take i)) ∧ w5.grownBy W (some w3.heap.size)))
    case atStart => exact ⟨0, rfl, by simp [Hid], Lib.hid ⟨⟨_, H5.out.2.2.1, Cnt.nil⟩, World.grownBy.refl _ _⟩⟩
    case round =>
      obtain ⟨i, rfl, hk, hJ⟩ := hrel
      by_cases hi : i < dec.length
      · have hi2 : (i : Int) < dec.length := by omega
        have hi0 : (0 : Int) ≤ i := by omega
        obtain ⟨⟨D, hD, hCnt⟩, hg⟩ := hJ.out
        have hCw : Kd.C (Kd.int .i64) wr A5 dec.length dec := C_spare H5.out.2.2.2 hg (not_map H5.out.2.2.1)
        obtain ⟨ad, rfl, a0⟩ := at_int hCw i hi
        have hx : dec[i]? = some (dec.getD i 0) := by simp [List.getD_eq_getElem?_getD, hi]
        have hr := HI.out.1.ids _ (by rw [hdec]; exact List.mem_of_getElem? hx)
        have hjl := HI.out.1.jl
        have HT := Lib.hid hx
        clear hx hCw
        generalize dec.getD i 0 = x at *
        have hx0 : (0 : Int) ≤ x := by omega
        have hx1 : x ≤ 200 := by omega
        have hkey : keyOf Try.prog 3 (.int .i64 x) = some (.int .i64 x) := Maps.keyOf_int_mk Try.underlying3 (wf_i64 (by omega) (by omega))
        obtain ⟨c0, hrun, hat, hwc⟩ := hD.lookup_int hk3 hu56 Try.underlying3 (zero3 wr) hkey
        have hc0 : c0 = ((dec.take i).count x : Nat) := by
          rw [hCnt.2 x] at hat
          injection hat with hat
          injection hat with _ hat
          exact hat.symm
        have hcl : (dec.take i).count x ≤ 200 := Nat.le_trans List.count_le_length (by rw [List.length_take]; have h3 := dec_len HI.out.1; rw [hdec] at h3; have := HI.out.1.jl; omega)
        have hD' := hD
        have HD := Lib.hid (And.intro hCnt (And.intro hg hcl))
        subst hc0
        have hc1 : (0 : Int) ≤ ((dec.take i).count x : Nat) := by omega
        have hc2 : (((dec.take i).count x : Nat) : Int) ≤ 200 := by omega
        clear hat hwc hCnt hJ hg hD hr hjl hcl
        generalize hcc : (dec.take i).count x = cc at *
        have HCC := Lib.hid hcc
        clear hcc
        have hib : (i : Int) ≤ 200 := by have h3 := dec_len HI.out.1; rw [hdec] at h3; have := HI.out.1.jl; omega
        have hil : i < maxLen := by have := HI.out.1.mok.decided; rw [hdec] at this; simp only [maxLen]; omega
        have HIL := Lib.hid hil
        clear hil
        go_wp2_with (at_mapUpdate; refine wpList_mapUpdate_own _ rfl _ _ _ 56 rfl 3 3 hk3 hu56 (plainElem Try.prog 3) w3.heap.size i D rfl hD' HIL.out _ _ _ rfl rfl hkey (.lit (.int .i64 ((cc : Int) + 1))) [] (plainElem_int Try.underlying3 (wf_i64 (by omega) (by omega))) ?_)
        intro w6 hown6 hgrow6
        have HN : Hid ((∃ D, w6.ownsMap Try.prog 3 (plainElem (H := Unit) Try.prog 3) w3.heap.size (i + 1) D ∧ Cnt D (dec.take (i + 1))) ∧ w5.grownBy w6 (some w3.heap.size)) := Lib.hid ⟨⟨_, hown6, by
          have := HD.out.1.put x
          rw [HCC.out] at this
          rw [take_next1 HT.out]
          exact this⟩, HD.out.2.1.trans hgrow6⟩
        clear hown6 hgrow6 hD' hrun a0
        go_wp2_with fail
        obtain ⟨k1, rfl⟩ : ∃ q, gk = q + 1 := ⟨gk - 1, by have := hk.out; omega⟩
        go_roundg k1
        case measure => omega
        case rel => exact ⟨i + 1, by first | rfl | rw [wrap_next (by omega)] | (congr 1), Lib.hid (by have := hk.out; omega), HN⟩
      · have hi2 : ¬ (i : Int) < dec.length := by omega
        have hk0 : i = dec.length := by have := hk.out; omega
        subst hk0
        obtain ⟨⟨D, hD, hCnt⟩, hg⟩ := hJ.out
        rw [List.take_length] at hCnt
        have hT := Turned.grown (ok := fun q => q = w3.heap.size) hg fun p e => by injection e with e; exact e.symm
        obtain ⟨o, ho, hno⟩ := not_map H5.out.2.2.1
        have H6 : Hid ((IsM w2.heap.size (fun q => w2.heap.size ≤ q ∧ q < w3.heap.size) wr mb m0 ∧ wr.ownsMap Try.prog 3 (plainElem (H := Unit) Try.prog 3) w3.heap.size dec.length D ∧ Below w2.heap.size w2 wr) ∧ Cnt D dec) := Lib.hid ⟨⟨H5.out.1.calm hT (fun q hq e => by omega) (SpT.map ho hno 54), hD, H5.out.2.1.grown hg H5.out.2.1.size (fun k e => by injection e with e; have := H4.out.2.2.2; omega)⟩, hCnt⟩
        clear hJ hD hCnt hg hT ho hno
        obtain ⟨wo, rfl⟩ : ∃ wo : World, wo = wr := ⟨_, rfl⟩
        obtain ⟨gko, rfl⟩ : ∃ q : Nat, q = gk := ⟨_, rfl⟩
        go_wp2_with fail
        go_loopg [11, 12, 13] l.length (fun kq v11 _ _ W => ∃ i : Nat, v11 = .int .i64 ((i : Int) + 1) ∧ Hid (kq + i = l.length) ∧ Hid (IsM w2.heap.size (fun q => w2.heap.size ≤ q ∧ q < w3.heap.size) W mb m0 ∧ W.ownsMap Try.prog 3 (plainElem (H := Unit) Try.prog 3) w3.heap.size dec.length D ∧ Below w2.heap.size w2 W))
        case atStart => exact ⟨0, rfl, by simp [Hid], Lib.hid H6.out.1⟩
        case round =>
          obtain ⟨i, rfl, hk2, hJ2⟩ := hrel
          have hi3 : (0 : Int) ≤ i := by omega
          by_cases hi : i < l.length
          · have hi2 : (i : Int) + 1 ≤ l.length := by omega
            have HSt := Lib.hid (state_calls w2.heap.size _ wr mb m0 ((i : Int) + 1) hJ2.out.1 HI.out.1.mok.jobs)
            cases hj : m0.jobs[i]? with
            | none =>
              rw [state_none hj] at HSt
              have HQ : Hid (Calls Try.prog 22 #[ptr mb, .int .i64 ((i : Int) + 1)] wr fun e w' => e = .returned (.tuple #[.int .i64 0, .int .i64 3]) ∧ wr = w') := Lib.hid (HSt.out.mono fun e w' hh => ⟨hh.1, hh.2.symm⟩)
              clear hj HSt
              go_wp2_with fail
              refine HQ.out.mono ?_
              rintro e w' ⟨rfl, rfl⟩
              go_wp2_with fail
              obtain ⟨k1, rfl⟩ : ∃ q, gk = q + 1 := ⟨gk - 1, by have := hk2.out; omega⟩
              go_roundg k1
              case measure => omega
              case rel => exact ⟨i + 1, by first | rfl | (congr 1), Lib.hid (by have := hk2.out; omega), hJ2⟩
            | some j =>
              rw [state_at hj] at HSt
              obtain ⟨cc, hcc, hs⟩ := JI_cases (HI.out.1.job i j hj) HI.out.1.nod
              have hkey : keyOf Try.prog 3 (.int .i64 ((i : Int) + 1)) = some (.int .i64 ((i : Int) + 1)) := Maps.keyOf_int_mk Try.underlying3 (wf_i64 (by omega) (by omega))
              obtain ⟨c0, hrun, hat, hwc⟩ := hJ2.out.2.1.lookup_int hk3 hu56 Try.underlying3 (zero3 wr) hkey
              have hc0 : c0 = (cc : Nat) := by
                rw [← hcc, hdec]
                exact lit_eq (hat.symm.trans (H6.out.2.2 ((i : Int) + 1)))
              subst hc0
              clear hat hwc hkey hcc
              rcases hs with ⟨hs, rfl⟩ | ⟨hs, rfl⟩ | ⟨hs, rfl⟩ | ⟨hs, rfl | rfl⟩ | ⟨hs, rfl⟩ | ⟨hs, rfl⟩
              · have HQ : Hid (Calls Try.prog 22 #[ptr mb, .int .i64 ((i : Int) + 1)] wr fun e w' => e = .returned (.tuple #[.int .i64 0, .int .i64 0]) ∧ wr = w') := Lib.hid (HSt.out.mono fun e w' hh => ⟨by rw [hh.1, hs], hh.2.symm⟩)
                clear hs HSt hj
                go_wp2_with fail
                refine HQ.out.mono ?_
                rintro e w' ⟨rfl, rfl⟩
                go_wp2_with fail
                obtain ⟨k1, rfl⟩ : ∃ q, gk = q + 1 := ⟨gk - 1, by have := hk2.out; omega⟩
                go_roundg k1
                case measure => omega
                case rel => exact ⟨i + 1, by first | rfl | (congr 1), Lib.hid (by have := hk2.out; omega), hJ2⟩
              · have HQ : Hid (Calls Try.prog 22 #[ptr mb, .int .i64 ((i : Int) + 1)] wr fun e w' => e = .returned (.tuple #[.int .i64 1, .int .i64 0]) ∧ wr = w') := Lib.hid (HSt.out.mono fun e w' hh => ⟨by rw [hh.1, hs], hh.2.symm⟩)
                clear hs HSt hj
                go_wp2_with fail
                refine HQ.out.mono ?_
                rintro e w' ⟨rfl, rfl⟩
                go_wp2_with fail
                obtain ⟨k1, rfl⟩ : ∃ q, gk = q + 1 := ⟨gk - 1, by have := hk2.out; omega⟩
                go_roundg k1
                case measure => omega
                case rel => exact ⟨i + 1, by first | rfl | (congr 1), Lib.hid (by have := hk2.out; omega), hJ2⟩
              · have HQ : Hid (Calls Try.prog 22 #[ptr mb, .int .i64 ((i : Int) + 1)] wr fun e w' => e = .returned (.tuple #[.int .i64 2, .int .i64 0]) ∧ wr = w') := Lib.hid (HSt.out.mono fun e w' hh => ⟨by rw [hh.1, hs], hh.2.symm⟩)
                clear hs HSt hj
                go_wp2_with fail
                refine HQ.out.mono ?_
                rintro e w' ⟨rfl, rfl⟩
                go_wp2_with fail
                obtain ⟨k1, rfl⟩ : ∃ q, gk = q + 1 := ⟨gk - 1, by have := hk2.out; omega⟩
                go_roundg k1
                case measure => omega
                case rel => exact ⟨i + 1, by first | rfl | (congr 1), Lib.hid (by have := hk2.out; omega), hJ2⟩
              · have HQ : Hid (Calls Try.prog 22 #[ptr mb, .int .i64 ((i : Int) + 1)] wr fun e w' => e = .returned (.tuple #[.int .i64 3, .int .i64 0]) ∧ wr = w') := Lib.hid (HSt.out.mono fun e w' hh => ⟨by rw [hh.1, hs], hh.2.symm⟩)
                clear hs HSt hj
                go_wp2_with fail
                refine HQ.out.mono ?_
                rintro e w' ⟨rfl, rfl⟩
                go_wp2_with fail
                obtain ⟨k1, rfl⟩ : ∃ q, gk = q + 1 := ⟨gk - 1, by have := hk2.out; omega⟩
                go_roundg k1
                case measure => omega
                case rel => exact ⟨i + 1, by first | rfl | (congr 1), Lib.hid (by have := hk2.out; omega), hJ2⟩
              · have HQ : Hid (Calls Try.prog 22 #[ptr mb, .int .i64 ((i : Int) + 1)] wr fun e w' => e = .returned (.tuple #[.int .i64 3, .int .i64 0]) ∧ wr = w') := Lib.hid (HSt.out.mono fun e w' hh => ⟨by rw [hh.1, hs], hh.2.symm⟩)
                clear hs HSt hj
                go_wp2_with fail
                refine HQ.out.mono ?_
                rintro e w' ⟨rfl, rfl⟩
                go_wp2_with fail
                obtain ⟨k1, rfl⟩ : ∃ q, gk = q + 1 := ⟨gk - 1, by have := hk2.out; omega⟩
                go_roundg k1
                case measure => omega
                case rel => exact ⟨i + 1, by first | rfl | (congr 1), Lib.hid (by have := hk2.out; omega), hJ2⟩
              · have HQ : Hid (Calls Try.prog 22 #[ptr mb, .int .i64 ((i : Int) + 1)] wr fun e w' => e = .returned (.tuple #[.int .i64 4, .int .i64 0]) ∧ wr = w') := Lib.hid (HSt.out.mono fun e w' hh => ⟨by rw [hh.1, hs], hh.2.symm⟩)
                clear hs HSt hj
                go_wp2_with fail
                refine HQ.out.mono ?_
                rintro e w' ⟨rfl, rfl⟩
                go_wp2_with fail
                obtain ⟨k1, rfl⟩ : ∃ q, gk = q + 1 := ⟨gk - 1, by have := hk2.out; omega⟩
                go_roundg k1
                case measure => omega
                case rel => exact ⟨i + 1, by first | rfl | (congr 1), Lib.hid (by have := hk2.out; omega), hJ2⟩
              · have HQ : Hid (Calls Try.prog 22 #[ptr mb, .int .i64 ((i : Int) + 1)] wr fun e w' => e = .returned (.tuple #[.int .i64 5, .int .i64 0]) ∧ wr = w') := Lib.hid (HSt.out.mono fun e w' hh => ⟨by rw [hh.1, hs], hh.2.symm⟩)
                clear hs HSt hj
                go_wp2_with fail
                refine HQ.out.mono ?_
                rintro e w' ⟨rfl, rfl⟩
                go_wp2_with fail
                obtain ⟨k1, rfl⟩ : ∃ q, gk = q + 1 := ⟨gk - 1, by have := hk2.out; omega⟩
                go_roundg k1
                case measure => omega
                case rel => exact ⟨i + 1, by first | rfl | (congr 1), Lib.hid (by have := hk2.out; omega), hJ2⟩
          · have hi2 : ¬ ((i : Int) + 1 ≤ l.length) := by omega
            go_wp2_with fail
            refine (finish_core w2.heap.size _ mb m0 l.length wr hJ2.out.1 HI.out.1 HI.out.2.1 HI.out.2.2.1 (by have := HI.out.2.2.2; omega) hJ2.out.2.2.size).mono ?_
            rintro e w6 ⟨rfl, m', hM6, hR6, -, hT6⟩
            have hD6 : w6.ownsMap Try.prog 3 (plainElem (H := Unit) Try.prog 3) w3.heap.size dec.length D := map_move hJ2.out.2.1 (hT6.block _ hJ2.out.2.1.lt (fun h => by omega))
            obtain ⟨ext, hext⟩ := hR6.dec
            have H7 := Lib.hid (And.intro hM6 (And.intro hD6 (And.intro (hJ2.out.2.2.trans (hT6.base hJ2.out.2.2.size fun q h => h.1)) (And.intro hR6 hext))))
            clear hM6 hR6 hT6 hD6 hext
            go_wp2_with fail
            refine (decided_calls w2.heap.size _ w6 mb m' H7.out.1 H7.out.2.2.2.1.inv.mok.decided).mono ?_
            rintro e w8 ⟨v8, rfl, hR8, hB8⟩
            obtain ⟨A8, c8, rfl⟩ := Kd.R_slice hR8
            have hD8 : w8.ownsMap Try.prog 3 (plainElem (H := Unit) Try.prog 3) w3.heap.size dec.length D := H7.out.2.1.kept (grown_of_below hB8 none) (by simp)
            have hlen := hD8.len hu56 3
            have hsz : (Maps.size D : Int) ≤ m'.decided.length := by
              have h1 := hD8.size_le
              have h2 := congrArg List.length H7.out.2.2.2.2
              rw [List.length_append, hdec] at h2
              omega
            have HZ := Lib.hid (bAfter HB2.out (H7.out.2.2.1.trans (hB8.mono H7.out.2.2.1.size)))
            clear hR8 hB8 hD8
            go_wp2_with fail
            go_ret
            exact ⟨rfl, HZ.out⟩

set_option maxRecDepth 100000 in
theorem walk_MicroDecided {H : Type} {enc : TypeId × Value → H} (W : World) (base : Nat) (v0 : Value) (d0 : DataW H) (p0 : List MemPlace) (o0 : Value.okWide Try.prog W .any base 5 v0) (h0 : DataW.Trod enc Try.prog W 0 (fun _ => true) true 5 v0 d0 p0) (v1 : Value) (d1 : DataW H) (p1 : List MemPlace) (o1 : Value.okWide Try.prog W .any base 22 v1) (h1 : DataW.Trod enc Try.prog W 0 (fun _ => true) true 22 v1 d1 p1) (v2 : Value) (d2 : DataW H) (p2 : List MemPlace) (o2 : Value.okWide Try.prog W .any base 23 v2) (h2 : DataW.Trod enc Try.prog W 0 (fun _ => true) true 23 v2 d2 p2) {P : Prop} (_hsz : P) :
    Calls Try.prog 7 #[v0, v1, v2] W fun e w' => e = .returned (.bool true) ∧ Below W.heap.size W w' := by
  obtain ⟨a, rfl, ha⟩ := byte_arg o0 h0
  obtain ⟨A, c, l, rfl, hc, hC, -⟩ := txns_of o1 h1
  obtain ⟨A2, c2, p, rfl, hc2, hP, hp⟩ := bytes_of o2 h2
  exact decided_walk a A c l A2 c2 p W ha hC hc hP hc2 hp
end Go.Proofs.Ytkecbdeekpbbjaa
