/- However steps come: one by one, as they were decided: the law's walk. -/
import Derived.Test.YtkecbdeekpbbjaaBegun
import Derived.Test.YtkecbdeekpbbjaaHAll
import Derived.BigQuiet
attribute [local go_sem high] Go.Proofs.Ytkecbdeekpbbjaa.Q.eqA44
namespace Go.Proofs.Ytkecbdeekpbbjaa
open Go.RowKit Go.Lib Go.ChangeShapes Go.WideShapes Go.Proofs.Ytkecbdeekpbbjaa.Q Go.Proofs.YtkecbdeekpbbjaaW.PrintWords Go.Proofs.YtkecbdeekpbbjaaW.PrintLast Go.Proofs.YtkecbdeekpbbjaaW.PrintMore
set_option linter.unusedVariables false
set_option linter.unusedSimpArgs false

theorem varS_at {m : Mach} {x : Nat} (h : x < m.vars.length) : varS m x = (vAt m.vars x, 0) := by
  unfold varS getVar vAt
  rw [if_pos (by omega), Int.toNat_natCast, List.getD_eq_getElem?_getD, List.getElem?_eq_getElem h]
  rfl

/-! ### What is left -/
theorem ends {m : Mach} (h : Inv m) (ho : ∀ (k : Nat) (j : Job), m.jobs[k]? = some j → isOver j) {x : Nat} (hx : x < m.vars.length) : (vAt m.vars x).lock = 0 ∧ (vAt m.vars x).val = (fin m).getD x v0 := by
  constructor
  · rcases h.free x hx with h1 | ⟨k, j, -, h2, h3⟩
    · exact h1
    · have hov := ho k j h2
      unfold isOver at hov
      unfold held at h3
      rw [if_neg (by omega), if_neg (by omega), if_neg (by omega)] at h3
      cases h3
  · rcases h.vals x hx with ⟨k, j, h1, h2, -⟩ | h1
    · have hov := ho k j h1
      unfold isOver at hov
      omega
    · exact h1
def entryOf (S : List (List S54)) (id : Int) : S38 := ⟨id, true, false, readsL (S.getD (id - 1).toNat []), writesL (S.getD (id - 1).toNat [])⟩
theorem pr_entries (S : List (List S54)) (m m0 : Mach) (hm0 : m0.jobs = S.map jobOf) (hR : Ran m0 m) : pr (m.decided.map (entryOf S)) = hist m := by
  unfold pr hist
  rw [List.map_map]
  refine List.map_congr_left fun id hid => ?_
  have hr := hR.inv.ids id hid
  have hjl := hR.jl
  have hk : (id - 1).toNat < S.length := by rw [hm0, List.length_map] at hjl; omega
  obtain ⟨h1, h2⟩ := hR.job id
  have h3 : jobAt m0 id = jobOf (S.getD (id - 1).toNat []) := by
    unfold jobAt
    rw [hm0, List.getD_eq_getElem?_getD, List.getElem?_map, List.getD_eq_getElem?_getD, List.getElem?_eq_getElem hk]
    rfl
  rw [h1, h2, h3]
  rfl

theorem entries_ok (S : List (List S54)) (m m0 : Mach) (hm0 : m0.jobs = S.map jobOf) (hR : Ran m0 m) : ∀ x ∈ m.decided.map (entryOf S), (∀ s ∈ x.f3, inR m.vars.length s) ∧ (∀ s ∈ x.f4, inR m.vars.length s) ∧ x.f3.length ≤ 1000 ∧ x.f4.length ≤ 1000 := by
  intro x hx
  obtain ⟨id, hid, rfl⟩ := List.mem_map.1 hx
  have hr := hR.inv.ids id hid
  have hjl := hR.jl
  have hk : (id - 1).toNat < S.length := by rw [hm0, List.length_map] at hjl; omega
  have hkm : (id - 1).toNat < m.jobs.length := by omega
  obtain ⟨h1, h2⟩ := hR.job id
  have h3 : jobAt m0 id = jobOf (S.getD (id - 1).toNat []) := by
    unfold jobAt
    rw [hm0, List.getD_eq_getElem?_getD, List.getElem?_map, List.getD_eq_getElem?_getD, List.getElem?_eq_getElem hk]
    rfl
  have hJ := hR.inv.job _ _ (List.getElem?_eq_getElem hkm)
  have h4 : jobAt m id = m.jobs[(id - 1).toNat] := by
    unfold jobAt
    rw [List.getD_eq_getElem?_getD, List.getElem?_eq_getElem hkm]
    rfl
  rw [h3, h4] at h1 h2
  have e3 : (entryOf S id).f3 = (m.jobs[(id - 1).toNat]).reads := h1.symm
  have e4 : (entryOf S id).f4 = (m.jobs[(id - 1).toNat]).writes := h2.symm
  rw [e3, e4]
  exact ⟨hJ.rd, hJ.wr, by have := hJ.lr; omega, by have := hJ.lw; omega⟩

/-! ### The row of entries -/
def Ent (W : World) (x : S38) (cs : List Value) : Prop := ∃ A3 c3 A4 c4, cs = [.int .i64 x.f0, .bool x.f1, .bool x.f2, .slice A3 x.f3.length c3, .slice A4 x.f4.length c4] ∧ Row54 W (.slice A3 x.f3.length c3) x.f3 ∧ Row54 W (.slice A4 x.f4.length c4) x.f4
def RowE (W : World) (base : Nat) (v : Value) (E : List S38) : Prop := ∃ cells : List (List Value), cells.length = E.length ∧ (∀ (i : Nat) (x : S38) (cs : List Value), E[i]? = some x → cells[i]? = some cs → Ent W x cs) ∧ W.ownsRow base 38 5 v E.length cells.flatten
theorem flat5 (cells : List (List Value)) (h : ∀ cs ∈ cells, cs.length = 5) {j : Nat} {cs : List Value} (hj : cells[j]? = some cs) : ∀ i, i < 5 → cells.flatten[j * 5 + i]? = cs[i]? := by
  induction cells generalizing j with
  | nil => cases hj
  | cons a cells ih =>
    intro i hi
    have ha := h a List.mem_cons_self
    rw [List.flatten_cons]
    rcases j with _ | j
    · have : a = cs := by simpa using hj
      subst this
      rw [Nat.zero_mul, Nat.zero_add, List.getElem?_append_left (by omega)]
    · rw [List.getElem?_append_right (by omega)]
      rw [show (j + 1) * 5 + i - a.length = j * 5 + i by omega]
      exact ih (fun c hc => h c (List.mem_cons_of_mem _ hc)) (by simpa using hj) i hi
theorem RowE.nil (W : World) (base : Nat) : RowE W base (.slice none 0 0) [] := ⟨[], rfl, fun i x cs h => by simp at h, own_nil _ _ _ _⟩
theorem Ent.len {W : World} {x : S38} {cs : List Value} (h : Ent W x cs) : cs.length = 5 := by
  obtain ⟨A3, c3, A4, c4, rfl, -, -⟩ := h
  rfl
theorem Ent.below {W W' : World} {x : S38} {cs : List Value} (h : Ent W x cs) (hB : Below W.heap.size W W') : Ent W' x cs := by
  obtain ⟨A3, c3, A4, c4, h1, h2, h3⟩ := h
  exact ⟨A3, c3, A4, c4, h1, h2.below hB, h3.below hB⟩
theorem Ent.T {W W' : World} {T : Nat → Prop} {x : S38} {cs : List Value} (h : Ent W x cs) (hT : Turned T W W') (hs : SpT W T 54) : Ent W' x cs := by
  obtain ⟨A3, c3, A4, c4, h1, h2, h3⟩ := h
  exact ⟨A3, c3, A4, c4, h1, h2.T hT hs, h3.T hT hs⟩
theorem RowE.below {W W' : World} {base : Nat} {v : Value} {E : List S38} (h : RowE W base v E) (hB : Below W.heap.size W W') : RowE W' base v E := by
  obtain ⟨cells, h1, h2, h3⟩ := h
  exact ⟨cells, h1, fun i x cs a b => (h2 i x cs a b).below hB, own_below hB h3⟩
theorem RowE.reads {W : World} {base : Nat} {v : Value} {E : List S38} (h : RowE W base v E) (hl : E.length ≤ 1000000) : ∃ A c, v = .slice A E.length c ∧ E.length ≤ c ∧ Kd.C k38 W A E.length E := by
  obtain ⟨cells, h1, h2, h3⟩ := h
  have hall : ∀ cs ∈ cells, cs.length = 5 := fun cs hc => by
    obtain ⟨i, hi⟩ := List.getElem?_of_mem hc
    have hlt := (List.getElem?_eq_some_iff.1 hi).1
    exact (h2 i _ cs (List.getElem?_eq_getElem (by omega)) hi).len
  rcases own_at h3 with ⟨rfl, h0⟩ | ⟨g, cap, rfl, -, hn, -, hc⟩
  · have : E = [] := List.eq_nil_of_length_eq_zero h0
    subst this
    exact ⟨none, 0, rfl, Nat.le_refl _, Kd.C_nil _ _⟩
  · refine ⟨_, cap, rfl, hn, rfl, by omega, fun _ => ⟨_, rfl, fun j q hq => ?_⟩⟩
    have hj := (List.getElem?_eq_some_iff.1 hq).1
    have hcj : cells[j]? = some (cells[j]'(by omega)) := List.getElem?_eq_getElem (by omega)
    have hE := h2 j q _ hq hcj
    generalize cells[j]'(by omega) = cs at *
    refine ⟨cs, hE.len, ?_, fun i u hu => ?_⟩
    · obtain ⟨A3, c3, A4, c4, e1, ⟨B3, d3, e3, l3, k3, -⟩, ⟨B4, d4, e4, l4, k4, -⟩⟩ := hE
      injection e3 with e3 _ e3'
      injection e4 with e4 _ e4'
      subst e3; subst e3'; subst e4; subst e4'
      rw [e1]
      exact k38_mk W q l3 k3 l4 k4
    · have hi : i < 5 := by have := (List.getElem?_eq_some_iff.1 hu).1; have := hE.len; omega
      have := (hc (j * 5 + i) u (by rw [flat5 cells hall hcj i hi]; exact hu)).1
      rw [Addr.add_lit]
      show W.cell? ⟨g, 0 + (j * 5 + i), none⟩ = some u
      rw [Nat.zero_add]
      exact this
theorem RowE.snoc {W W' : World} {base : Nat} {v v' : Value} {E : List S38} {x : S38} {cs : List Value} {cells : List (List Value)} (h1 : cells.length = E.length) (h2 : ∀ (i : Nat) (x : S38) (cs : List Value), E[i]? = some x → cells[i]? = some cs → Ent W x cs) (hx : Ent W x cs) (hT : Turned (fun q => v.ownBlock = some q) W W') (hs : SpT W (fun q => v.ownBlock = some q) 54) (ho : W'.ownsRow base 38 5 v' (E.length + 1) (cells.flatten ++ cs)) : RowE W' base v' (E ++ [x]) := by
  refine ⟨cells ++ [cs], by simp [h1], fun i y ds hy hd => ?_, by rw [List.flatten_append, List.length_append]; simpa using ho⟩
  rcases Nat.lt_or_ge i E.length with hi | hi
  · rw [List.getElem?_append_left hi] at hy
    rw [List.getElem?_append_left (by omega)] at hd
    exact (h2 i y ds hy hd).T hT hs
  · rw [List.getElem?_append_right hi] at hy
    rw [List.getElem?_append_right (by omega), h1] at hd
    rcases hq : i - E.length with _ | z
    · rw [hq] at hy hd
      simp at hy hd
      subst hy; subst hd
      exact hx.T hT hs
    · rw [hq] at hy
      simp at hy

set_option maxHeartbeats 1000000 in
set_option maxRecDepth 100000 in
theorem atOnce_walk (v : Int) (A : Option Addr) (c : Nat) (l : List (List S69)) (A2 : Option Addr) (c2 : Nat) (p : List Int) (w : World) (hv : 0 ≤ v ∧ v ≤ 255) (hC : Kd.C (Kd.slice 69 k69) w A l.length l) (hc : l.length ≤ c) (hP : Kd.C (Kd.int .u8) w A2 p.length p) (hc2 : p.length ≤ c2) (hp : ∀ k ∈ p, 0 ≤ k ∧ k ≤ 255) :
    Calls Try.prog 3 #[.int .u8 v, .slice A l.length c, .slice A2 p.length c2] w fun e w' => e = .returned (.bool true) ∧ Below w.heap.size w w' := by
  have hu44 := Try.underlying44
  have hu54 := Try.underlying54
  have hu38 := Try.underlying38
  have HA := Lib.hid (alive_calls w)
  have HX := Lib.hid (And.intro hC (And.intro hc (And.intro hP (And.intro hc2 (And.intro hp hv)))))
  clear hC hc hP hc2 hp hv
  go_enter Try.func3, Try.ntmps3
  go_wp2_with fail
  refine HA.out.mono ?_
  rintro e w1 ⟨rfl, hB1⟩
  have HB1 := Lib.hid hB1
  clear hB1 HA
  go_wp2_with fail
  refine (heavy_calls A c l A2 c2 p w1 (Kd.C_below HX.out.1 HB1.out) HX.out.2.1 (Kd.C_below HX.out.2.2.1 HB1.out) HX.out.2.2.2.1).mono ?_
  rintro e w2 ⟨rfl, hB2⟩
  have HB2 := Lib.hid (bAfter HB1.out hB2)
  clear hB2
  cases hh : heavyB l p with
  | true =>
    have HH := Lib.hid hh
    clear hh
    go_wp2_with fail
    go_ret
    exact ⟨rfl, HB2.out⟩
  | false =>
    obtain ⟨ht, hl, hpl⟩ := heavy_not hh
    obtain ⟨hI, hj, hmu, hran⟩ := run_facts v l p hl ht
    have hjobs := startAll_jobs v l hl
    have hbf := begun_f v HX.out.2.2.2.2.2 l hl ht
    have hSl := begunL_len (varsN v) l
    have hvl : (startAll (newS (varsN v)) l).vars.length = varsN v := by rw [hjobs]; simp [newS]
    have hbt : ∀ t ∈ begunL (varsN v) l, t.length ≤ 30 := fun t h => by
      unfold begunL at h
      obtain ⟨u, hu, rfl⟩ := List.mem_map.1 (List.mem_filter.1 h).1
      rw [List.length_map]
      exact ht u hu
    have HR := Lib.hid (run_calls v A c l A2 c2 p w2 HX.out.2.2.2.2.2 (Kd.C_below HX.out.1 HB2.out) (Kd.C_below HX.out.2.2.1 HB2.out) HX.out.2.2.2.2.1 (by omega) (by omega) (fun t h => by have := ht t h; omega) (runOk v l p))
    have HI := Lib.hid (And.intro hI (And.intro hj (And.intro hmu (And.intro hl (And.intro hran (And.intro hjobs (And.intro hbf (And.intro hSl (And.intro hvl hbt)))))))))
    have hl0 : (l.length : Int) ≤ 20 := by omega
    have hl1 : (0 : Int) ≤ l.length := by omega
    clear hh ht hpl hI hj hmu hl hran hjobs hbf hSl hvl hbt
    generalize stepAll (startAll (newS (varsN v)) l) l.length p = m0 at *
    go_wp2_with fail
    refine HR.out.mono ?_
    rintro e w3 ⟨mb, rfl, hM3, hB3⟩
    generalize begunL (varsN v) l = S at *
    have H3 := Lib.hid (And.intro hM3 hB3)
    clear hM3 hB3 HR
    go_wp2_with fail
    refine (finish_calls w2.heap.size mb m0 l.length w3 H3.out.1 HI.out.1 HI.out.2.1 HI.out.2.2.1 (by have := HI.out.2.2.2.1; omega) H3.out.2.size).mono ?_
    rintro e w4 ⟨rfl, m1, hM4, hR4, hov4, hB4⟩
    have hran := HI.out.2.2.2.2.1.trans hR4
    have hpr := pr_entries S m1 (startAll (newS (varsN v)) l) (by rw [HI.out.2.2.2.2.2.1]) hran
    have H4 := Lib.hid (And.intro hM4 (And.intro hR4.inv (And.intro hov4 (And.intro (H3.out.2.trans hB4) (And.intro hran hpr)))))
    clear hM4 hR4 hov4 hB4 hran hpr
    go_wp2_with fail
    refine (decided_calls w2.heap.size _ w4 mb m1 H4.out.1 H4.out.2.1.mok.decided).mono ?_
    rintro e w5 ⟨v5, rfl, hR5, hB5⟩
    obtain ⟨A5, c5, rfl⟩ := Kd.R_slice hR5
    have H5 := Lib.hid (And.intro (H4.out.1.below hB5) (And.intro (Kd.R_reads' hR5).2.2 (H4.out.2.2.2.1.trans (hB5.mono H4.out.2.2.2.1.size))))
    clear hR5 hB5
    go_wp2_with fail
    refine (warpbeamlaw15_begun.calls 10000 v A c l S w5 (Kd.C_below (Kd.C_below HX.out.1 HB2.out) H5.out.2.2) HX.out.2.1 HI.out.2.2.2.2.2.2.1).mono ?_
    rintro e w6 ⟨v6, rfl, hS6, hB6⟩
    obtain ⟨A6, c6, rfl, -, hC6⟩ := Kd.S_reads hS6
    have H6 := Lib.hid (And.intro (H5.out.1.away.below hB6) (And.intro (Kd.C_below H5.out.2.1 hB6) (And.intro hC6 (And.intro (H5.out.2.2.trans (hB6.mono H5.out.2.2.size)) hB6.size))))
    clear hS6 hB6 hC6
    have hS0 : (S.length : Int) ≤ 20 := by have := HI.out.2.2.2.2.2.2.2.1; have := HI.out.2.2.2.1; omega
    generalize hdec : m1.decided = dec at *
    have hdl : dec.length ≤ 200 := by have h3 := dec_len H4.out.2.1; rw [hdec] at h3; have := H4.out.2.1.jl; omega
    have hd0 : (dec.length : Int) ≤ 200 := by omega
    have HDL := Lib.hid (And.intro hdl hdec)
    clear hdl hdec
    go_wp2_with fail
    go_loopg [8, 12, 13, 46] dec.length (fun kq v8 _ _ v46 W => ∃ (q : Nat) (Ar : Option Addr) (cr : Nat), v8 = .slice Ar q cr ∧ v46 = .int .i64 q ∧ Hid (kq + q = dec.length) ∧ Hid (RowE W w6.heap.size (.slice Ar q cr) ((dec.take q).map (entryOf S)) ∧ Below w6.heap.size w6 W))
    case atStart => exact ⟨0, none, 0, rfl, rfl, by simp [Hid], Lib.hid ⟨RowE.nil _ _, Below.refl _ _⟩⟩
    case round =>
      obtain ⟨q, Ar, cr, rfl, rfl, hk, hJ⟩ := hrel
      by_cases hq : q < dec.length
      · have hq2 : (q : Int) < dec.length := by omega
        have hq0 : (0 : Int) ≤ q := by omega
        obtain ⟨ad, rfl, a0⟩ := at_int (Kd.C_below H6.out.2.1 hJ.out.2) q hq
        have hx : dec[q]? = some (dec.getD q 0) := by simp [List.getD_eq_getElem?_getD, hq]
        have hr := H4.out.2.1.ids _ (by rw [HDL.out.2]; exact List.mem_of_getElem? hx)
        have hjl : m1.jobs.length = S.length := by rw [H4.out.2.2.2.2.1.jl, HI.out.2.2.2.2.2.1]; simp
        generalize dec.getD q 0 = id at *
        obtain ⟨k, hkk⟩ := Int.eq_ofNat_of_zero_le (show 0 ≤ id - 1 by omega)
        obtain rfl : id = (k : Int) + 1 := by omega
        have hkS : k < S.length := by omega
        have hk0 : (0 : Int) ≤ k := by omega
        have hk1 : (k : Int) < S.length := by omega
        obtain ⟨ad6, A7, c7, rfl, b0, hc7, hC7⟩ := at_L8 (Kd.C_below H6.out.2.2.1 hJ.out.2) (k : Int) hk0 hk1
        have ht : rd_L8 S (k : Int) = S.getD k [] := rfl
        have htl : (rd_L8 S (k : Int)).length ≤ 30 := HI.out.2.2.2.2.2.2.2.2.2 _ (by
          rw [ht, List.getD_eq_getElem?_getD, List.getElem?_eq_getElem hkS]
          exact List.getElem_mem hkS)
        have htake : (dec.take (q + 1)).map (entryOf S) = (dec.take q).map (entryOf S) ++ [⟨(k : Int) + 1, true, false, readsL (rd_L8 S (k : Int)), writesL (rd_L8 S (k : Int))⟩] := by
          rw [take_next1 hx, List.map_append]
          unfold entryOf
          rw [List.map_singleton, show ((k : Int) + 1 - 1).toNat = k by omega, ht]
        simp only [Int.toNat_natCast] at b0
        generalize rd_L8 S (k : Int) = t at *
        have HT := Lib.hid (And.intro hc7 (And.intro hC7 (And.intro htl htake)))
        have hw : wrap64 ((k : Int) + 1 - 1) = k := by unfold wrap64; omega
        have hw' : wrap64 ((k : Int) + 1 + -1) = k := by unfold wrap64; omega
        have hlo : ((dec.take q).map (entryOf S)).length = q := by rw [List.length_map, List.length_take]; omega
        clear hx hr hjl ht htl htake hc7 hC7 hkk
        generalize hout : (dec.take q).map (entryOf S) = out at *
        have hlo2 : out.length = q := hlo
        subst hlo2
        have HJ := Lib.hid hJ.out
        clear hJ hlo hout
        go_wp2_with fail
        refine (reads_calls A7 c7 t wr HT.out.2.1 (by have := HT.out.2.2.1; omega)).mono ?_
        rintro e w7 ⟨B7, d7, rfl, hC8, hc8, hB8, hT8⟩
        have HR7 : Hid (Row54 w7 (.slice B7 (readsL t).length d7) (readsL t) ∧ Below wr.heap.size wr w7) := Lib.hid ⟨⟨B7, d7, rfl, hc8, hC8, hT8⟩, hB8⟩
        clear hC8 hc8 hB8 hT8
        go_wp2_with fail
        refine (writes_calls A7 c7 t w7 (Kd.C_below HT.out.2.1 HR7.out.2) (by have := HT.out.2.2.1; omega)).mono ?_
        rintro e w8 ⟨B8, d8, rfl, hC9, hc9, hB9, hT9⟩
        have HR8 : Hid (Row54 w8 (.slice B8 (writesL t).length d8) (writesL t) ∧ Below w7.heap.size w7 w8) := Lib.hid ⟨⟨B8, d8, rfl, hc9, hC9, hT9⟩, hB9⟩
        clear hC9 hc9 hB9 hT9
        have HE : Hid (RowE w8 w6.heap.size (.slice Ar out.length cr) out ∧ Below w6.heap.size w6 w8 ∧ Ent w8 ⟨(k : Int) + 1, true, false, readsL t, writesL t⟩ [.int .i64 ((k : Int) + 1), .bool true, .bool false, .slice B7 (readsL t).length d7, .slice B8 (writesL t).length d8]) := Lib.hid ⟨(HJ.out.1.below HR7.out.2).below HR8.out.2, HJ.out.2.trans ((bAfter HR7.out.2 HR8.out.2).mono HJ.out.2.size), ⟨B7, d7, B8, d8, rfl, HR7.out.1.below HR8.out.2, HR8.out.1⟩⟩
        obtain ⟨i0, hi0, hz0, hz1, hz2⟩ := info_parts info38
        obtain ⟨cells, hcl, hce, hown⟩ := HE.out.1
        have HC := Lib.hid (And.intro hcl hce)
        have hown2 := hown
        clear hcl hce hown
        go_wp2_with (at_builtin; refine wpList_append_own_at (w8.alloc (.cells #[.int .i64 ((k : Int) + 1), .bool true, .bool false, .slice B7 (readsL t).length d7, .slice B8 (writesL t).length d8] 38)) rfl _ _ 29 rfl w6.heap.size 38 i0 _ 5 64 Try.underlying29 hi0 hz0 hz1 hz2 rfl (by decide) (.slice Ar out.length cr) out.length _ rfl (hown2.alloc _) ⟨w8.heap.size, 0, none⟩ 1 1 [.int .i64 ((k : Int) + 1), .bool true, .bool false, .slice B7 (readsL t).length d7, .slice B8 (writesL t).length d8] rfl rfl (World.news_of_block (cs := #[.int .i64 ((k : Int) + 1), .bool true, .bool false, .slice B7 (readsL t).length d7, .slice B8 (writesL t).length d8]) (t := 38) (fr := (0, 0)) (heap_alloc_new w8 _)) (by simp [Value.oneCell']) ?h63 ?hby ?hba ?_)
        case h63 => have := HDL.out.1; simp only [maxLen]; omega
        case hby => have := HDL.out.1; omega
        case hba => have := HE.out.2.1.size; simp; omega
        intro v9 w9 hown9 hg9 _ hat9
        obtain ⟨A9, c9, rfl⟩ := own_slice hown9
        have hT9 : Turned (fun q => (Value.slice Ar out.length cr).ownBlock = some q) w8 w9 := (Turned.below (bOne _)).trans (Turned.grown hg9 fun p e => e)
        have HN : Hid (RowE w9 w6.heap.size (.slice A9 (out.length + 1) c9) ((dec.take (out.length + 1)).map (entryOf S)) ∧ Below w6.heap.size w6 w9) := Lib.hid ⟨by
            rw [HT.out.2.2.2]
            exact RowE.snoc HC.out.1 HC.out.2 HE.out.2.2 hT9 (SpT.row hown2 (by decide)) hown9, (HE.out.2.1.alloc HE.out.2.1.size _).grown hg9 (by have := HE.out.2.1.size; simp; omega) (fun k hk => own_base hown2 k hk)⟩
        clear hown9 hg9 hat9 hT9 hown2 hi0 hz0 hz1 hz2 a0 b0
        go_wp2_with fail
        obtain ⟨k1, rfl⟩ : ∃ z, gk = z + 1 := ⟨gk - 1, by have := hk.out; omega⟩
        go_roundg k1
        case measure => omega
        case rel => exact ⟨out.length + 1, A9, c9, by first | rfl | (congr 1), by first | rfl | (congr 1), Lib.hid (by have := hk.out; omega), HN⟩
      · have hq2 : ¬ (q : Int) < dec.length := by omega
        have hqe : q = dec.length := by have := hk.out; omega
        subst hqe
        obtain ⟨hrow, hBr⟩ := hJ.out
        rw [List.take_length] at hrow
        have hEl : (dec.map (entryOf S)).length = dec.length := List.length_map _
        obtain ⟨Ae, ce, hae, hce, hCE⟩ := hrow.reads (by rw [hEl]; have := HDL.out.1; omega)
        rw [hEl] at hae
        injection hae with hae _ hae'
        subst hae; subst hae'
        have hok := entries_ok S m1 (startAll (newS (varsN v)) l) (by rw [HI.out.2.2.2.2.2.1]) H4.out.2.2.2.2.1
        have hpr := H4.out.2.2.2.2.2
        rw [HDL.out.2] at hok
        have hleg : legal (pr (dec.map (entryOf S))) (zeros m1.vars.length) := by rw [hpr]; exact H4.out.2.1.leg
        have hfin : after (pr (dec.map (entryOf S))) (zeros m1.vars.length) = fin m1 := by rw [hpr]; rfl
        have HJ := Lib.hid (And.intro (H6.out.1.below hBr) (And.intro hCE (And.intro (H6.out.2.2.2.1.trans (hBr.mono H6.out.2.2.2.1.size)) (And.intro hok (And.intro hleg (And.intro hfin hEl))))))
        clear hJ hrow hBr hCE hce hok hpr hleg hfin hEl
        obtain ⟨wo, rfl⟩ : ∃ wo : World, wo = wr := ⟨_, rfl⟩
        obtain ⟨gko, rfl⟩ : ∃ z : Nat, z = gk := ⟨_, rfl⟩
        go_wp2_with fail
        refine (values_calls' w2.heap.size _ wo mb m1 HJ.out.1 H4.out.2.1.mok.vars).mono ?_
        rintro e w10 ⟨v10, rfl, hR10, hB10⟩
        obtain ⟨Nv, hNv⟩ : ∃ Nv, Nv = m1.vars.map Vr.val := ⟨_, rfl⟩
        have hNl : Nv.length = m1.vars.length := by rw [hNv, List.length_map]
        rw [← hNv] at hR10
        obtain ⟨A10, c10, rfl⟩ := Kd.R_slice hR10
        have hn64 : Nv.length ≤ 64 := by rw [hNl]; exact H4.out.2.1.n
        have HAll := all_calls Nv.length hn64 Ar cr (dec.map (entryOf S)) w10 (Kd.C_below HJ.out.2.1 hB10) (by rw [HJ.out.2.2.2.2.2.2]; have := HDL.out.1; omega) (by rw [hNl]; exact HJ.out.2.2.2.1) (by rw [hNl]; exact HJ.out.2.2.2.2.1)
        rw [HJ.out.2.2.2.2.2.2] at HAll
        have HA := Lib.hid HAll
        have H10 := Lib.hid (And.intro (HJ.out.1.below hB10) (And.intro (Kd.R_reads' hR10).2.2 (And.intro (HJ.out.2.2.1.trans (hB10.mono HJ.out.2.2.1.size)) (And.intro hNv hNl))))
        have hN0 : (Nv.length : Int) ≤ 64 := by omega
        clear hR10 hB10 HAll hNv hNl hn64
        go_wp2_with fail
        refine HA.out.mono ?_
        rintro e w11 ⟨g, cap, rfl, hNR, hB11⟩
        have H11 := Lib.hid (And.intro (H10.out.1.below hB11) (And.intro (Kd.C_below H10.out.2.1 hB11) (And.intro (H10.out.2.2.1.trans (hB11.mono H10.out.2.2.1.size)) (show NR w11 w10.heap.size g Nv.length cap (fin m1) by
          have h1 := HJ.out.2.2.2.2.2.1
          rw [← H10.out.2.2.2.2] at h1
          rw [← h1]
          exact hNR))))
        clear hNR hB11 HA
        go_wp2_with fail
        go_loopg [17, 18, 19, 20, 86] Nv.length (fun kq _ _ _ _ v86 W => ∃ x : Nat, v86 = .int .i64 x ∧ Hid (kq + x = Nv.length) ∧ Hid (Below w11.heap.size w11 W))
        case atStart => exact ⟨0, rfl, by simp [Hid], Lib.hid (Below.refl _ _)⟩
        case round =>
          obtain ⟨x, rfl, hkx, hJx⟩ := hrel
          by_cases hx : x < Nv.length
          · have hx2 : (x : Int) < Nv.length := by omega
            have hx0 : (0 : Int) ≤ x := by omega
            have hxm : x < m1.vars.length := by rw [← H10.out.2.2.2.2]; exact hx
            obtain ⟨e1, e2⟩ := ends H4.out.2.1 H4.out.2.2.1 hxm
            obtain ⟨g1, rfl, a1, a2⟩ := at_T44 (Kd.C_below H11.out.2.1 hJx.out) (x : Int) hx0 hx2
            have ea : rd_T44 Nv (x : Int) = (vAt m1.vars x).val := by
              rw [H10.out.2.2.2.1]
              unfold rd_T44 vAt
              rw [Int.toNat_natCast, List.getD_eq_getElem?_getD, List.getElem?_map, List.getD_eq_getElem?_getD, List.getElem?_eq_getElem hxm]
              rfl
            simp only [Int.toNat_natCast] at a1 a2
            rw [ea] at a1 a2
            have hfx : (fin m1)[x]? = some (vAt m1.vars x).val := by
              have hl : x < (fin m1).length := by rw [fin_len]; exact hxm
              rw [List.getD_eq_getElem?_getD, List.getElem?_eq_getElem hl] at e2
              rw [List.getElem?_eq_getElem hl]
              exact congrArg some e2.symm
            have hLk := fun W (hB : Below w11.heap.size w11 W) => lock_calls w2.heap.size _ W mb m1 x (H11.out.1.below hB)
            rw [varS_at hxm, e1] at hLk
            have HLk := Lib.hid hLk
            clear ea hLk e1 e2 hxm
            generalize (vAt m1.vars x).val = vv at *
            obtain ⟨y0, y1⟩ := vv
            dsimp only at a1 a2
            obtain ⟨W12, hW12, K12, hB12⟩ : ∃ W12, wr.alloc (.cells #[.int .i64 y0, .int .i64 y1] 44) = W12 ∧ W12.heap[wr.heap.size]? = some (.cells #[.int .i64 y0, .int .i64 y1] 44 (0, 0)) ∧ Below wr.heap.size wr W12 := ⟨_, rfl, heap_alloc_new _ _, bOne _⟩
            have H12 := Lib.hid (And.intro (bAfter hJx.out hB12) (And.intro K12 hfx))
            clear K12 hB12 hfx
            go_wp2_with fail
            refine (HLk.out W12 H12.out.1).mono ?_
            rintro e w13 ⟨rfl, hB13⟩
            have hB := bAfter H12.out.1 hB13
            obtain ⟨⟨n0, -⟩, ⟨n1, -⟩⟩ := (H11.out.2.2.2.below hB).at_ H12.out.2.2
            dsimp only at n0 n1
            have d0 := blk_cell (blk_below H12.out.2.1 hB13) 0
            have d1 := blk_cell (blk_below H12.out.2.1 hB13) 1
            have H13 := Lib.hid hB
            clear hB hB13
            go_wp2_with fail
            go_quiet (fail)
            go_wp2_with fail
            obtain ⟨k1, rfl⟩ : ∃ z, gk = z + 1 := ⟨gk - 1, by have := hkx.out; omega⟩
            go_roundg k1
            case measure => omega
            case rel => exact ⟨x + 1, by first | rfl | (congr 1), Lib.hid (by have := hkx.out; omega), Lib.hid (pw_below_drewN H13.out nq)⟩
          · have hx2 : ¬ (x : Int) < Nv.length := by omega
            go_wp2_with fail
            go_ret
            exact ⟨rfl, bAfter HB2.out (H11.out.2.2.1.trans (hJx.out.mono H11.out.2.2.1.size))⟩

set_option maxRecDepth 100000 in
theorem walk_MicroAtOnce {H : Type} {enc : TypeId × Value → H} (W : World) (base : Nat) (v0 : Value) (d0 : DataW H) (p0 : List MemPlace) (o0 : Value.okWide Try.prog W .any base 5 v0) (h0 : DataW.Trod enc Try.prog W 0 (fun _ => true) true 5 v0 d0 p0) (v1 : Value) (d1 : DataW H) (p1 : List MemPlace) (o1 : Value.okWide Try.prog W .any base 22 v1) (h1 : DataW.Trod enc Try.prog W 0 (fun _ => true) true 22 v1 d1 p1) (v2 : Value) (d2 : DataW H) (p2 : List MemPlace) (o2 : Value.okWide Try.prog W .any base 23 v2) (h2 : DataW.Trod enc Try.prog W 0 (fun _ => true) true 23 v2 d2 p2) {P : Prop} (_hsz : P) :
    Calls Try.prog 3 #[v0, v1, v2] W fun e w' => e = .returned (.bool true) ∧ Below W.heap.size W w' := by
  obtain ⟨a, rfl, ha⟩ := byte_arg o0 h0
  obtain ⟨A, c, l, rfl, hc, hC, -⟩ := txns_of o1 h1
  obtain ⟨A2, c2, p, rfl, hc2, hP, hp⟩ := bytes_of o2 h2
  exact atOnce_walk a A c l A2 c2 p W ha hC hc hP hc2 hp
end Go.Proofs.Ytkecbdeekpbbjaa
