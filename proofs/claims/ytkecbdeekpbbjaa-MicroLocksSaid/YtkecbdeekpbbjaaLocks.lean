/- A variable that has a lock is written by nobody else: the law's walk. -/
import Derived.Test.YtkecbdeekpbbjaaLaw0
import Derived.BigQuiet
attribute [local go_sem high] Go.Proofs.Ytkecbdeekpbbjaa.Q.eqA44
namespace Go.Proofs.Ytkecbdeekpbbjaa
open Go.RowKit Go.Lib Go.ChangeShapes Go.WideShapes Go.Proofs.Ytkecbdeekpbbjaa.Q Go.Proofs.YtkecbdeekpbbjaaW.PrintWords Go.Proofs.YtkecbdeekpbbjaaW.PrintLast Go.Proofs.YtkecbdeekpbbjaaW.PrintMore
set_option linter.unusedVariables false
set_option linter.unusedSimpArgs false

/-- What a step may do to a variable. -/
theorem step_frame {m : Mach} (h : Inv m) (id : Int) (x : Nat) (hx : x < m.vars.length) :
    ((vAt (stepM m id).1.vars x).val = (vAt m.vars x).val ∨ (vAt m.vars x).lock = id) ∧ ((vAt (stepM m id).1.vars x).lock = (vAt m.vars x).lock ∨ (vAt (stepM m id).1.vars x).lock = id ∨ (vAt m.vars x).lock = id) := by
  have same : (stepM m id).1.vars = m.vars → ((vAt (stepM m id).1.vars x).val = (vAt m.vars x).val ∨ (vAt m.vars x).lock = id) ∧ ((vAt (stepM m id).1.vars x).lock = (vAt m.vars x).lock ∨ (vAt (stepM m id).1.vars x).lock = id ∨ (vAt m.vars x).lock = id) := fun e => by rw [e]; exact ⟨.inl rfl, .inl rfl⟩
  cases hj : getJob m id with
  | none => exact same (by unfold stepM; rw [hj])
  | some j =>
    obtain ⟨k, rfl, hk⟩ := getJob_some hj
    have hJ := h.job k j hk
    have hst := hJ.st
    have hs : stepM m ((k : Int) + 1) = stepJ m ((k : Int) + 1) k j := by
      unfold stepM
      rw [hj]
      show stepJ m ((k : Int) + 1) (((k : Int) + 1 - 1).toNat) j = _
      rw [show ((k : Int) + 1 - 1).toNat = k by omega]
    have hsv : ∀ v, j.next < j.writes.length → vAt (putVar m (atW j).f0 v) x = if x = wx (atW j) then v else vAt m.vars x := fun v hnx => by
      unfold putVar
      exact vAt_set _ (wx_lt (hJ.wr _ (atW_mem hnx))) v x
    by_cases h0 : j.state = 0
    · by_cases hl : (varAt m (atW j).f0).lock ≠ 0
      · exact same (by rw [hs]; unfold stepJ; rw [if_pos h0, if_pos hl])
      · have e : (stepM m ((k : Int) + 1)).1.vars = putVar m (atW j).f0 { varAt m (atW j).f0 with lock := (k : Int) + 1 } := by rw [hs]; unfold stepJ; rw [if_pos h0, if_neg hl]
        rw [e, hsv _ (by omega)]
        by_cases hxe : x = wx (atW j)
        · rw [if_pos hxe]
          subst hxe
          exact ⟨.inl rfl, .inr (.inl rfl)⟩
        · rw [if_neg hxe]
          exact ⟨.inl rfl, .inl rfl⟩
    by_cases h1 : j.state = 1
    · refine same ?_
      rw [hs]; unfold stepJ; rw [if_neg h0, if_pos h1]
      unfold decideM
      split <;> rfl
    by_cases h2 : j.state = 2
    · have hnx : j.next < j.writes.length := by omega
      have e : (stepM m ((k : Int) + 1)).1.vars = putVar m (atW j).f0 { varAt m (atW j).f0 with val := ⟨(atW j).f1.f0, (atW j).f1.f1⟩ } := by rw [hs]; unfold stepJ; rw [if_neg h0, if_neg h1, if_pos h2]
      have hlk : (vAt m.vars (wx (atW j))).lock = (k : Int) + 1 := hJ.hl _ (by unfold held; simp [h2]; exact ⟨_, atW_mem hnx, rfl⟩)
      rw [e, hsv _ hnx]
      by_cases hxe : x = wx (atW j)
      · subst hxe
        exact ⟨.inr hlk, .inr (.inr hlk)⟩
      · rw [if_neg hxe]
        exact ⟨.inl rfl, .inl rfl⟩
    by_cases h3 : j.state = 3
    · have hnx : j.next < j.writes.length := by omega
      have e : (stepM m ((k : Int) + 1)).1.vars = putVar m (atW j).f0 { varAt m (atW j).f0 with lock := 0 } := by rw [hs]; unfold stepJ; rw [if_neg h0, if_neg h1, if_neg h2, if_pos h3]
      have hlk : (vAt m.vars (wx (atW j))).lock = (k : Int) + 1 := hJ.hl _ (by
        have : held j = (j.writes.drop j.next).map wx := by unfold held; simp [h3]
        rw [this, drop_atW hnx]
        exact List.mem_cons_self)
      rw [e, hsv _ hnx]
      by_cases hxe : x = wx (atW j)
      · subst hxe
        exact ⟨.inr hlk, .inr (.inr hlk)⟩
      · rw [if_neg hxe]
        exact ⟨.inl rfl, .inl rfl⟩
    · exact same (by rw [hs]; unfold stepJ; rw [if_neg h0, if_neg h1, if_neg h2, if_neg h3])
theorem varS_at {m : Mach} {x : Nat} (h : x < m.vars.length) : varS m x = (vAt m.vars x, 0) := by
  unfold varS getVar vAt
  rw [if_pos (by omega), Int.toNat_natCast, List.getD_eq_getElem?_getD, List.getElem?_eq_getElem h]
  rfl
/-- A row of one's own goes on while others' blocks are turned. -/
theorem R_turn {α : Type} {d : Kd α} {e b0 : Nat} {T : Nat → Prop} {W W' : World} {v : Value} {xs : List α} (hE : d.E = []) (h : Kd.R d e W b0 (fun _ => True) v xs) (hT : Turned T W W') (hs : ∀ q cs, T q → b0 ≤ q → W.heap[q]? ≠ some (.cells cs e (0, 0))) : Kd.R d e W' b0 (fun _ => True) v xs :=
  Kd.R_mono (Kd.R_move (Kd.R_bound h) fun k hk => hT.block k hk.2.2.1 (fun ht => by
    obtain ⟨-, h1, -, q, hq, cs, hc⟩ := hk
    rw [hE, List.mem_singleton] at hq
    subst hq
    exact hs k cs ht h1 hc)) fun _ _ => trivial
theorem own_turn {T : Nat → Prop} {W W' : World} {base e size n : Nat} {v : Value} {xs : List Value} (h : W.ownsRow base e size v n xs) (hT : Turned T W W') (hs : ∀ q, T q → q < base ∨ W.heap.size ≤ q) : W'.ownsRow base e size v n xs :=
  own_move h fun k hk => hT.block k (own_lt h k hk) (fun ht => by have := hs k ht; have := own_base h k hk; have := own_lt h k hk; omega)
theorem C_nums {W : World} {base n : Nat} {v : Value} {xs : List Int} (h : W.ownsRow base 3 1 v n (nums .i64 xs)) (hl : xs.length = n) : ∃ A c, v = .slice A n c ∧ Kd.C (Kd.int .i64) W A n xs := by
  subst hl
  obtain ⟨A, c, h1, -, h3⟩ := decided_own h
  exact ⟨A, c, h1, h3⟩

set_option maxHeartbeats 600000 in
set_option maxRecDepth 100000 in
theorem locks_walk (v : Int) (A : Option Addr) (c : Nat) (l : List (List S69)) (A2 : Option Addr) (c2 : Nat) (p : List Int) (w : World) (hv : 0 ≤ v ∧ v ≤ 255) (hC : Kd.C (Kd.slice 69 k69) w A l.length l) (hc : l.length ≤ c) (hP : Kd.C (Kd.int .u8) w A2 p.length p) (hc2 : p.length ≤ c2) (hp : ∀ k ∈ p, 0 ≤ k ∧ k ≤ 255) :
    Calls Try.prog 4 #[.int .u8 v, .slice A l.length c, .slice A2 p.length c2] w fun e w' => e = .returned (.bool true) ∧ Below w.heap.size w w' := by
  have hu44 := Try.underlying44
  have HA := Lib.hid (alive_calls w)
  have HX := Lib.hid (And.intro hC (And.intro hc (And.intro hP (And.intro hc2 (And.intro hp hv)))))
  clear hC hc hP hc2 hp hv
  go_enter Try.func4, Try.ntmps4
  go_wp2_with fail
  refine HA.out.mono ?_
  rintro e w1 ⟨rfl, hB1⟩
  have HB1 := Lib.hid hB1
  clear hB1 HA
  go_wp2_with fail
  refine (heavy_calls A c l A2 c2 p w1 (Kd.C_below HX.out.1 HB1.out) HX.out.2.1 (Kd.C_below HX.out.2.2.1 HB1.out) HX.out.2.2.2.1).mono ?_
  rintro e w2 ⟨rfl, hB2⟩
  have HB2 := Lib.hid (bAfter HB1.out hB2)
  clear hB2
  cases hh : heavyB l p with
  | true =>
    have HH := Lib.hid hh
    clear hh
    go_wp2_with fail
    go_ret
    exact ⟨rfl, HB2.out⟩
  | false =>
    obtain ⟨ht, hl, hpl⟩ := heavy_not hh
    obtain ⟨hI, -, -, -⟩ := run_facts v l [] hl ht
    have HR := Lib.hid (run_calls v A c l none 0 [] w2 HX.out.2.2.2.2.2 (Kd.C_below HX.out.1 HB2.out) (Kd.C_nil _ _) (fun k h => by cases h) (by omega) (by simp) (fun t h => by have := ht t h; omega) (runOk v l []))
    have HI := Lib.hid (And.intro hI (And.intro hl hpl))
    have hl0 : (l.length : Int) ≤ 20 := by omega
    have hl1 : (0 : Int) ≤ l.length := by omega
    clear hh ht hpl hI hl
    generalize stepAll (startAll (newS (varsN v)) l) l.length [] = m0 at *
    go_wp2_with fail
    refine HR.out.mono ?_
    rintro e w3 ⟨mb, rfl, hM3, hB3⟩
    have H3 := Lib.hid (And.intro hM3 hB3)
    clear hM3 hB3 HR
    go_wp2_with fail
    go_loopg [9, 10, 11, 12, 13, 14, 15, 16, 17, 18, 19, 20, 21, 34] p.length (fun kq _ _ _ _ _ _ _ _ _ _ _ _ _ v34 W => ∃ (i : Nat) (m : Mach), v34 = .int .i64 i ∧ Hid (kq + i = p.length) ∧ Hid (IsM w2.heap.size (fun q => w2.heap.size ≤ q) W mb m ∧ Ran m0 m ∧ Below w2.heap.size w2 W))
    case atStart => exact ⟨0, m0, rfl, by simp [Hid], Lib.hid ⟨H3.out.1, Ran.refl HI.out.1, H3.out.2⟩⟩
    case round =>
      obtain ⟨i, m, rfl, hk, hJ⟩ := hrel
      by_cases hi : i < p.length
      · have hi2 : (i : Int) < p.length := by omega
        have hi0 : (0 : Int) ≤ i := by omega
        obtain ⟨ad, rfl, a0⟩ := at_int (Kd.C_below (Kd.C_below HX.out.2.2.1 HB2.out) (hJ.out.2.2)) i hi
        have hx : p[i]? = some (p.getD i 0) := by simp [List.getD_eq_getElem?_getD, hi]
        obtain ⟨hk1, hk2⟩ := HX.out.2.2.2.2.1 _ (List.mem_of_getElem? hx)
        have hib : (i : Int) ≤ 400 := by have := HI.out.2.2; omega
        clear hx
        generalize p.getD i 0 = q at *
        obtain ⟨qn, rfl⟩ := Int.eq_ofNat_of_zero_le hk1
        have hb0 : (0 : Int) ≤ (qn : Int) % ((l.length : Int) + 1) := Int.emod_nonneg _ (by omega)
        have hb1 : (qn : Int) % ((l.length : Int) + 1) ≤ 1000000 := by have := Int.emod_lt_of_pos (qn : Int) (show (0 : Int) < (l.length : Int) + 1 by omega); omega
        obtain ⟨wo, rfl⟩ : ∃ wo : World, wo = wr := ⟨_, rfl⟩
        obtain ⟨gko, rfl⟩ : ∃ q : Nat, q = gk := ⟨_, rfl⟩
        go_wp2_with fail
        refine (values_calls' w2.heap.size _ wo mb m hJ.out.1 hJ.out.2.1.inv.mok.vars).mono ?_
        rintro e w4 ⟨v4, rfl, hR4, hB4⟩
        obtain ⟨Bv, hBv⟩ : ∃ Bv, Bv = m.vars.map Vr.val := ⟨_, rfl⟩
        rw [← hBv] at hR4
        have hBl : Bv.length = m.vars.length := by rw [hBv, List.length_map]
        obtain ⟨A4, c4, rfl⟩ := Kd.R_slice hR4
        have hM4 : IsM w2.heap.size (fun q => w2.heap.size ≤ q ∧ q < wo.heap.size) w4 mb m := hJ.out.1.away.below hB4
        have hBn : (Bv.length : Int) ≤ 64 := by have := hJ.out.2.1.inv.n; omega
        have HB9 := Lib.hid hB4.size
        have H4 := Lib.hid (And.intro hM4 (And.intro hR4 (And.intro (hJ.out.2.2.trans (hB4.mono hJ.out.2.2.size)) (And.intro hBv (And.intro hBl hJ.out.2.2.size)))))
        clear hM4 hR4 hB4 hBv hBl
        go_wp2_with fail
        go_loopg [12, 13, 14, 15, 49] Bv.length (fun kq v12 _ _ _ v49 W => ∃ (x : Nat) (A : Option Addr) (c : Nat), v12 = .slice A x c ∧ v49 = .int .i64 x ∧ Hid (kq + x = Bv.length) ∧ Hid (IsM w2.heap.size (fun q => w2.heap.size ≤ q ∧ q < wo.heap.size) W mb m ∧ Kd.R k44 44 W wo.heap.size (fun _ => True) (.slice A4 Bv.length c4) Bv ∧ Below w2.heap.size w2 W ∧ W.ownsRow w4.heap.size 3 1 (.slice A x c) x (nums .i64 ((m.vars.take x).map Vr.lock)) ∧ w4.heap.size ≤ W.heap.size))
        case atStart => exact ⟨0, none, 0, rfl, rfl, by simp [Hid], Lib.hid ⟨H4.out.1, H4.out.2.1, H4.out.2.2.1, own_nil _ _ _ _, Nat.le_refl _⟩⟩
        case round =>
          obtain ⟨x, Ax, cx, rfl, rfl, hkx, hJx⟩ := hrel
          by_cases hxi : x < Bv.length
          · have hx2 : (x : Int) < Bv.length := by omega
            have hx0 : (0 : Int) ≤ x := by omega
            have hLk := lock_calls w2.heap.size _ wr mb m x hJx.out.1
            rw [varS_at (by have := H4.out.2.2.2.2.1; omega)] at hLk
            have HLk := Lib.hid hLk
            clear hLk
            go_wp2_with fail
            refine HLk.out.mono ?_
            rintro e w5 ⟨rfl, hB5⟩
            have hlo : ((m.vars.take x).map Vr.lock).length = x := by rw [List.length_map, List.length_take]; have := H4.out.2.2.2.2.1; omega
            have htk : (m.vars.take (x + 1)).map Vr.lock = (m.vars.take x).map Vr.lock ++ [(vAt m.vars x).lock] := by
              have hxm : x < m.vars.length := by have := H4.out.2.2.2.2.1; omega
              have : m.vars[x]? = some (vAt m.vars x) := by unfold vAt; rw [List.getD_eq_getElem?_getD, List.getElem?_eq_getElem hxm]; rfl
              rw [take_next1 this, List.map_append]
              rfl
            have HTK := Lib.hid htk
            clear htk
            generalize (vAt m.vars x).lock = lk at *
            generalize hout : (m.vars.take x).map Vr.lock = out at *
            have hlo2 : out.length = x := hlo
            subst hlo2
            have HJ := Lib.hid (And.intro hJx.out hB5)
            clear hJx hlo hB5 HLk
            go_wp2_with (at_builtin; refine print_append_num (w0 := w5) w4.heap.size rfl _ _ 30 3 .i64 8 rfl Try.underlying30 info30 (by decide) (.slice Ax out.length cx) out lk rfl rfl (own_below HJ.out.2 HJ.out.1.2.2.2.1) (Below.refl _ _) (Nat.le_trans HJ.out.1.2.2.2.2 HJ.out.2.size) (by omega) ?_)
            intro v6 w6 hown hB6 hg6 hat
            obtain ⟨A6, c6, rfl⟩ := own_slice hown
            have hT6 := Turned.grown (ok := fun q => (Value.slice Ax out.length cx).ownBlock = some q) hg6 fun p e => e
            have hown0 := own_below HJ.out.2 HJ.out.1.2.2.2.1
            have H6 : Hid (IsM w2.heap.size (fun q => w2.heap.size ≤ q ∧ q < wo.heap.size) w6 mb m ∧ Kd.R k44 44 w6 wo.heap.size (fun _ => True) (.slice A4 Bv.length c4) Bv ∧ Below w2.heap.size w2 w6 ∧ w6.ownsRow w4.heap.size 3 1 (.slice A6 (out.length + 1) c6) (out.length + 1) (nums .i64 ((m.vars.take (out.length + 1)).map Vr.lock)) ∧ w4.heap.size ≤ w6.heap.size) := Lib.hid ⟨
              (HJ.out.1.1.below HJ.out.2).calm hT6 (fun q hq e => by have := own_base hown0 q e; have := H4.out.2.2.2.2.2; have h9 := HB9.out; omega) (SpT.row hown0 (by decide)),
              R_turn rfl (Kd.R_below HJ.out.1.2.1 HJ.out.2) hT6 (fun q cs e _ hc => SpT.row hown0 (e := 44) (by decide) q e cs hc),
              (HJ.out.1.2.2.1.trans (HJ.out.2.mono HJ.out.1.2.2.1.size)).trans (hB6.mono (Nat.le_trans H4.out.2.2.1.size (Nat.le_refl _))),
              by rw [HTK.out]; exact hown, Nat.le_trans (Nat.le_trans HJ.out.1.2.2.2.2 HJ.out.2.size) hg6.size⟩
            clear hown hB6 hg6 hat hT6 hown0
            go_wp2_with fail
            obtain ⟨k1, rfl⟩ : ∃ q, gk = q + 1 := ⟨gk - 1, by have := hkx.out; omega⟩
            go_roundg k1
            case measure => omega
            case rel => exact ⟨out.length + 1, A6, c6, by first | rfl | (congr 1), by first | rfl | (congr 1), Lib.hid (by have := hkx.out; omega), H6⟩
          · have hx2 : ¬ (x : Int) < Bv.length := by omega
            have hk0 : x = Bv.length := by have := hkx.out; omega
            subst hk0
            have htk : m.vars.take Bv.length = m.vars := by rw [H4.out.2.2.2.2.1, List.take_length]
            generalize 1 + (qn : Int) % ((l.length : Int) + 1) = id at *
            obtain ⟨L, hL⟩ : ∃ L, L = m.vars.map Vr.lock := ⟨_, rfl⟩
            have hLl : L.length = Bv.length := by rw [hL, List.length_map, H4.out.2.2.2.2.1]
            have HJ := Lib.hid (show IsM w2.heap.size (fun q => w2.heap.size ≤ q ∧ q < wo.heap.size) wr mb m ∧ Kd.R k44 44 wr wo.heap.size (fun _ => True) (.slice A4 Bv.length c4) Bv ∧ Below w2.heap.size w2 wr ∧ wr.ownsRow w4.heap.size 3 1 (.slice Ax Bv.length cx) Bv.length (nums .i64 L) ∧ w4.heap.size ≤ wr.heap.size by
              have := hJx.out
              rw [htk, ← hL] at this
              exact this)
            have HS := Lib.hid (step_calls w2.heap.size _ wr mb m id HJ.out.1 hJ.out.2.1.inv.mok HJ.out.2.2.1.size)
            have HF := Lib.hid (step_frame hJ.out.2.1.inv id)
            have hRn := hJ.out.2.1.trans (hJ.out.2.1.inv.step id).1
            have HRn := Lib.hid hRn
            have hvl := (hJ.out.2.1.inv.step id).1.vl
            have HVL := Lib.hid (And.intro hvl (And.intro hL hLl))
            clear hJx htk hRn hvl hL hLl
            generalize stepM m id = rs at *
            obtain ⟨m', s', er⟩ := rs
            dsimp only at HF HRn HVL
            go_wp2_with fail
            refine HS.out.mono ?_
            rintro e w6 ⟨rfl, hM6, hT6⟩
            have hR6 : Kd.R k44 44 w6 wo.heap.size (fun _ => True) (.slice A4 Bv.length c4) Bv := R_turn rfl HJ.out.2.1 hT6 (fun q cs e hq _ => by omega)
            have ho6 : w6.ownsRow w4.heap.size 3 1 (.slice Ax Bv.length cx) Bv.length (nums .i64 L) := own_turn HJ.out.2.2.2.1 hT6 (fun q hq => .inl (by have := HB9.out; omega))
            have H6 := Lib.hid (And.intro (hM6.up HJ.out.2.2.1.size (fun q h => h.1)) (And.intro hR6 (And.intro ho6 (HJ.out.2.2.1.trans (hT6.base HJ.out.2.2.1.size fun q h => h.1)))))
            clear hM6 hT6 hR6 ho6 HS
            go_wp2_with fail
            refine (values_calls' w2.heap.size _ w6 mb m' H6.out.1 HRn.out.inv.mok.vars).mono ?_
            rintro e w7 ⟨v7, rfl, hR7, hB7⟩
            obtain ⟨Cv, hCv⟩ : ∃ Cv, Cv = m'.vars.map Vr.val := ⟨_, rfl⟩
            have hCl : Cv.length = Bv.length := by rw [hCv, List.length_map, HVL.out.1, H4.out.2.2.2.2.1]
            rw [← hCv] at hR7
            obtain ⟨A7, c7, rfl⟩ := Kd.R_slice hR7
            have hC7 := (Kd.R_reads' hR7).2.2
            have hC6 := Kd.C_below (Kd.R_reads' H6.out.2.1).2.2 hB7
            obtain ⟨AL, cL, hAL, hCL⟩ := C_nums (own_below hB7 H6.out.2.2.1) HVL.out.2.2
            have e7 : Value.slice Ax Bv.length cx = Value.slice AL Bv.length cL := hAL
            injection e7 with e7 _ e8
            subst e7; subst e8
            rw [hCl] at hC7 ⊢
            have H7 := Lib.hid (And.intro (H6.out.1.below hB7) (And.intro hC7 (And.intro hC6 (And.intro hCL (And.intro (H6.out.2.2.2.trans (hB7.mono H6.out.2.2.2.size)) (And.intro hCv hCl))))))
            clear hR7 hC7 hC6 hAL hCL hB7 hCv hCl
            obtain ⟨wo2, rfl⟩ : ∃ wo2 : World, wo2 = wr := ⟨_, rfl⟩
            obtain ⟨gko2, rfl⟩ : ∃ q : Nat, q = gk := ⟨_, rfl⟩
            go_wp2_with fail
            go_loopg [16, 17, 18, 19, 20, 21, 69] Bv.length (fun kq _ _ _ _ _ _ v69 W => ∃ x : Nat, v69 = .int .i64 x ∧ Hid (kq + x = Bv.length) ∧ Hid (Below w7.heap.size w7 W))
            case atStart => exact ⟨0, rfl, by simp [Hid], Lib.hid (Below.refl _ _)⟩
            case round =>
              obtain ⟨x, rfl, hkx, hJx⟩ := hrel
              by_cases hxi : x < Bv.length
              · have hx2 : (x : Int) < Bv.length := by omega
                have hx0 : (0 : Int) ≤ x := by omega
                obtain ⟨g1, q1, a1, a2⟩ := at_T44 (Kd.C_below H7.out.2.1 hJx.out) (x : Int) hx0 hx2
                obtain ⟨g2, q2, b1, b2⟩ := at_T44 (Kd.C_below H7.out.2.2.1 hJx.out) (x : Int) hx0 hx2
                obtain ⟨g3, q3, l1⟩ := at_int (Kd.C_below H7.out.2.2.2.1 hJx.out) x hxi
                subst q1; subst q2; subst q3
                simp only [Int.toNat_natCast] at a1 a2 b1 b2
                have hxm : x < m.vars.length := by have := H4.out.2.2.2.2.1; omega
                have hxm' : x < m'.vars.length := by rw [HVL.out.1]; exact hxm
                have ea : rd_T44 Cv (x : Int) = (vAt m'.vars x).val := by
                  rw [H7.out.2.2.2.2.2.1]
                  unfold rd_T44 vAt
                  rw [Int.toNat_natCast, List.getD_eq_getElem?_getD, List.getElem?_map, List.getD_eq_getElem?_getD, List.getElem?_eq_getElem hxm']
                  rfl
                have eb : rd_T44 Bv (x : Int) = (vAt m.vars x).val := by
                  rw [H4.out.2.2.2.1]
                  unfold rd_T44 vAt
                  rw [Int.toNat_natCast, List.getD_eq_getElem?_getD, List.getElem?_map, List.getD_eq_getElem?_getD, List.getElem?_eq_getElem hxm]
                  rfl
                have el : L.getD x 0 = (vAt m.vars x).lock := by
                  rw [HVL.out.2.1]
                  unfold vAt
                  rw [List.getD_eq_getElem?_getD, List.getElem?_map, List.getD_eq_getElem?_getD, List.getElem?_eq_getElem hxm]
                  rfl
                rw [ea] at a1 a2
                rw [eb] at b1 b2
                rw [el] at l1
                have hfr := HF.out x hxm
                have hLk := fun W (hB : Below w7.heap.size w7 W) => lock_calls w2.heap.size _ W mb m' x (H7.out.1.below hB)
                have hRd := fun W (hB : Below w7.heap.size w7 W) => read_calls w2.heap.size _ W mb m' x (H7.out.1.below hB)
                rw [varS_at hxm'] at hLk hRd
                have HLk := Lib.hid hLk
                have HRd := Lib.hid hRd
                clear ea eb el hLk hRd hxm hxm'
                generalize vAt m.vars x = vo at *
                generalize vAt m'.vars x = vn at *
                obtain ⟨⟨o0, o1⟩, ol⟩ := vo
                obtain ⟨⟨n0, n1⟩, nl⟩ := vn
                dsimp only at a1 a2 b1 b2 l1 hfr HLk HRd
                obtain ⟨W8, hW8, K8, hB8⟩ : ∃ W8, wr.alloc (.cells #[.int .i64 n0, .int .i64 n1] 44) = W8 ∧ W8.heap[wr.heap.size]? = some (.cells #[.int .i64 n0, .int .i64 n1] 44 (0, 0)) ∧ Below wr.heap.size wr W8 := ⟨_, rfl, heap_alloc_new _ _, bOne _⟩
                have d0 := blk_cell K8 0
                have d1 := blk_cell K8 1
                have a1' := pw_cell_below hB8 a1
                have a2' := pw_cell_below hB8 a2
                have b1' := pw_cell_below hB8 b1
                have b2' := pw_cell_below hB8 b2
                have l1' := pw_cell_below hB8 l1
                have H8 := Lib.hid (bAfter hJx.out hB8)
                have HFR := Lib.hid hfr
                clear K8 hB8 hfr
                have h1 : (n0 = o0 ∧ n1 = o1) ∨ ((n0 == o0 && (n1 == o1)) = false ∧ (ol != id) = false) := by
                  rcases HFR.out.1 with h | h
                  · left
                    injection h with h h'
                    exact ⟨h, h'⟩
                  · cases hq : (n0 == o0 && (n1 == o1)) with
                    | true => left; simpa using hq
                    | false => exact .inr ⟨rfl, by rw [h]; simp⟩
                rcases h1 with ⟨e0, e1⟩ | ⟨h1, h2⟩
                · subst e0; subst e1
                  go_wp2_with fail
                  go_quiet (fail)
                  go_wp2_with fail
                  refine (HLk.out _ (pw_below_drewN H8.out nq)).mono ?_
                  rintro e w9 ⟨rfl, hB9⟩
                  have l9 := pw_cell_below hB9 (show (W8.drewN nq).cell? (g3.add x) = some (.int .i64 ol) from l1')
                  have H9 := Lib.hid (bAfter (pw_below_drewN H8.out nq) hB9)
                  clear hB9 l1'
                  cases c1 : (nl != ol) with
                  | false =>
                    go_wp2_with fail
                    by_cases hn0 : nl = 0
                    · have hnb : (nl == 0) = true := by rw [hn0]; rfl
                      have HR9 : Hid (Calls Try.prog 21 #[ptr mb, .int .i64 x] w9 fun e w' => e = .returned (.tuple #[.agg #[.int .i64 n0, .int .i64 n1], .int .i64 0]) ∧ Below w9.heap.size w9 w') := Lib.hid ((HRd.out w9 H9.out).mono fun e w' hh => ⟨by rw [hh.1]; simp only [if_pos hn0], hh.2⟩)
                      clear hn0
                      refine HR9.out.mono ?_
                      rintro e w10 ⟨rfl, hB10⟩
                      obtain ⟨W11, hW11, hB11⟩ : ∃ W11, w10.alloc (.cells #[.int .i64 n0, .int .i64 n1] 44) = W11 ∧ Below w10.heap.size w10 W11 := ⟨_, rfl, bOne _⟩
                      have H11 := Lib.hid (bAfter (bAfter H9.out hB10) hB11)
                      clear hB10 hB11 HR9
                      go_wp2_with fail
                      obtain ⟨k1, rfl⟩ : ∃ q, gk = q + 1 := ⟨gk - 1, by have := hkx.out; omega⟩
                      go_roundg k1
                      case measure => omega
                      case rel => exact ⟨x + 1, by first | rfl | (congr 1), Lib.hid (by have := hkx.out; omega), H11⟩
                    · have hnb : (nl == 0) = false := by rw [beq_eq_false_iff_ne]; exact hn0
                      have HR9 : Hid (∀ z0 z1 : Int, z0 = 0 → z1 = 0 → Calls Try.prog 21 #[ptr mb, .int .i64 x] w9 fun e w' => e = .returned (.tuple #[.agg #[.int .i64 z0, .int .i64 z1], .int .i64 10]) ∧ Below w9.heap.size w9 w') := Lib.hid (fun z0 z1 hz0 hz1 => (HRd.out w9 H9.out).mono fun e w' hh => ⟨by rw [hh.1, hz0, hz1]; simp only [if_neg hn0], hh.2⟩)
                      clear hn0
                      obtain ⟨z0, hz0⟩ : ∃ z : Int, z = 0 := ⟨0, rfl⟩
                      refine (HR9.out z0 z0 hz0 hz0).mono ?_
                      clear hz0
                      rintro e w10 ⟨rfl, hB10⟩
                      obtain ⟨W11, hW11, hB11⟩ : ∃ W11, w10.alloc (.cells #[.int .i64 z0, .int .i64 z0] 44) = W11 ∧ Below w10.heap.size w10 W11 := ⟨_, rfl, bOne _⟩
                      have H11 := Lib.hid (bAfter (bAfter H9.out hB10) hB11)
                      clear hB10 hB11 HR9
                      go_wp2_with fail
                      obtain ⟨k1, rfl⟩ : ∃ q, gk = q + 1 := ⟨gk - 1, by have := hkx.out; omega⟩
                      go_roundg k1
                      case measure => omega
                      case rel => exact ⟨x + 1, by first | rfl | (congr 1), Lib.hid (by have := hkx.out; omega), H11⟩
                  | true =>
                    cases c2 : (nl != id) with
                    | false =>
                      go_wp2_with fail
                      by_cases hn0 : nl = 0
                      · have hnb : (nl == 0) = true := by rw [hn0]; rfl
                        have HR9 : Hid (Calls Try.prog 21 #[ptr mb, .int .i64 x] w9 fun e w' => e = .returned (.tuple #[.agg #[.int .i64 n0, .int .i64 n1], .int .i64 0]) ∧ Below w9.heap.size w9 w') := Lib.hid ((HRd.out w9 H9.out).mono fun e w' hh => ⟨by rw [hh.1]; simp only [if_pos hn0], hh.2⟩)
                        clear hn0
                        refine HR9.out.mono ?_
                        rintro e w10 ⟨rfl, hB10⟩
                        obtain ⟨W11, hW11, hB11⟩ : ∃ W11, w10.alloc (.cells #[.int .i64 n0, .int .i64 n1] 44) = W11 ∧ Below w10.heap.size w10 W11 := ⟨_, rfl, bOne _⟩
                        have H11 := Lib.hid (bAfter (bAfter H9.out hB10) hB11)
                        clear hB10 hB11 HR9
                        go_wp2_with fail
                        obtain ⟨k1, rfl⟩ : ∃ q, gk = q + 1 := ⟨gk - 1, by have := hkx.out; omega⟩
                        go_roundg k1
                        case measure => omega
                        case rel => exact ⟨x + 1, by first | rfl | (congr 1), Lib.hid (by have := hkx.out; omega), H11⟩
                      · have hnb : (nl == 0) = false := by rw [beq_eq_false_iff_ne]; exact hn0
                        have HR9 : Hid (∀ z0 z1 : Int, z0 = 0 → z1 = 0 → Calls Try.prog 21 #[ptr mb, .int .i64 x] w9 fun e w' => e = .returned (.tuple #[.agg #[.int .i64 z0, .int .i64 z1], .int .i64 10]) ∧ Below w9.heap.size w9 w') := Lib.hid (fun z0 z1 hz0 hz1 => (HRd.out w9 H9.out).mono fun e w' hh => ⟨by rw [hh.1, hz0, hz1]; simp only [if_neg hn0], hh.2⟩)
                        clear hn0
                        obtain ⟨z0, hz0⟩ : ∃ z : Int, z = 0 := ⟨0, rfl⟩
                        refine (HR9.out z0 z0 hz0 hz0).mono ?_
                        clear hz0
                        rintro e w10 ⟨rfl, hB10⟩
                        obtain ⟨W11, hW11, hB11⟩ : ∃ W11, w10.alloc (.cells #[.int .i64 z0, .int .i64 z0] 44) = W11 ∧ Below w10.heap.size w10 W11 := ⟨_, rfl, bOne _⟩
                        have H11 := Lib.hid (bAfter (bAfter H9.out hB10) hB11)
                        clear hB10 hB11 HR9
                        go_wp2_with fail
                        obtain ⟨k1, rfl⟩ : ∃ q, gk = q + 1 := ⟨gk - 1, by have := hkx.out; omega⟩
                        go_roundg k1
                        case measure => omega
                        case rel => exact ⟨x + 1, by first | rfl | (congr 1), Lib.hid (by have := hkx.out; omega), H11⟩
                    | true =>
                      have c3 : (ol != id) = false := by
                        rcases HFR.out.2 with h | h | h
                        · rw [h] at c1; simp at c1
                        · rw [h] at c2; simp at c2
                        · rw [h]; simp
                      go_wp2_with fail
                      by_cases hn0 : nl = 0
                      · have hnb : (nl == 0) = true := by rw [hn0]; rfl
                        have HR9 : Hid (Calls Try.prog 21 #[ptr mb, .int .i64 x] w9 fun e w' => e = .returned (.tuple #[.agg #[.int .i64 n0, .int .i64 n1], .int .i64 0]) ∧ Below w9.heap.size w9 w') := Lib.hid ((HRd.out w9 H9.out).mono fun e w' hh => ⟨by rw [hh.1]; simp only [if_pos hn0], hh.2⟩)
                        clear hn0
                        refine HR9.out.mono ?_
                        rintro e w10 ⟨rfl, hB10⟩
                        obtain ⟨W11, hW11, hB11⟩ : ∃ W11, w10.alloc (.cells #[.int .i64 n0, .int .i64 n1] 44) = W11 ∧ Below w10.heap.size w10 W11 := ⟨_, rfl, bOne _⟩
                        have H11 := Lib.hid (bAfter (bAfter H9.out hB10) hB11)
                        clear hB10 hB11 HR9
                        go_wp2_with fail
                        obtain ⟨k1, rfl⟩ : ∃ q, gk = q + 1 := ⟨gk - 1, by have := hkx.out; omega⟩
                        go_roundg k1
                        case measure => omega
                        case rel => exact ⟨x + 1, by first | rfl | (congr 1), Lib.hid (by have := hkx.out; omega), H11⟩
                      · have hnb : (nl == 0) = false := by rw [beq_eq_false_iff_ne]; exact hn0
                        have HR9 : Hid (∀ z0 z1 : Int, z0 = 0 → z1 = 0 → Calls Try.prog 21 #[ptr mb, .int .i64 x] w9 fun e w' => e = .returned (.tuple #[.agg #[.int .i64 z0, .int .i64 z1], .int .i64 10]) ∧ Below w9.heap.size w9 w') := Lib.hid (fun z0 z1 hz0 hz1 => (HRd.out w9 H9.out).mono fun e w' hh => ⟨by rw [hh.1, hz0, hz1]; simp only [if_neg hn0], hh.2⟩)
                        clear hn0
                        obtain ⟨z0, hz0⟩ : ∃ z : Int, z = 0 := ⟨0, rfl⟩
                        refine (HR9.out z0 z0 hz0 hz0).mono ?_
                        clear hz0
                        rintro e w10 ⟨rfl, hB10⟩
                        obtain ⟨W11, hW11, hB11⟩ : ∃ W11, w10.alloc (.cells #[.int .i64 z0, .int .i64 z0] 44) = W11 ∧ Below w10.heap.size w10 W11 := ⟨_, rfl, bOne _⟩
                        have H11 := Lib.hid (bAfter (bAfter H9.out hB10) hB11)
                        clear hB10 hB11 HR9
                        go_wp2_with fail
                        obtain ⟨k1, rfl⟩ : ∃ q, gk = q + 1 := ⟨gk - 1, by have := hkx.out; omega⟩
                        go_roundg k1
                        case measure => omega
                        case rel => exact ⟨x + 1, by first | rfl | (congr 1), Lib.hid (by have := hkx.out; omega), H11⟩
                · go_wp2_with fail
                  go_quiet (fail)
                  go_wp2_with fail
                  refine (HLk.out _ (pw_below_drewN H8.out nq)).mono ?_
                  rintro e w9 ⟨rfl, hB9⟩
                  have l9 := pw_cell_below hB9 (show (W8.drewN nq).cell? (g3.add x) = some (.int .i64 ol) from l1')
                  have H9 := Lib.hid (bAfter (pw_below_drewN H8.out nq) hB9)
                  clear hB9 l1'
                  cases c1 : (nl != ol) with
                  | false =>
                    go_wp2_with fail
                    by_cases hn0 : nl = 0
                    · have hnb : (nl == 0) = true := by rw [hn0]; rfl
                      have HR9 : Hid (Calls Try.prog 21 #[ptr mb, .int .i64 x] w9 fun e w' => e = .returned (.tuple #[.agg #[.int .i64 n0, .int .i64 n1], .int .i64 0]) ∧ Below w9.heap.size w9 w') := Lib.hid ((HRd.out w9 H9.out).mono fun e w' hh => ⟨by rw [hh.1]; simp only [if_pos hn0], hh.2⟩)
                      clear hn0
                      refine HR9.out.mono ?_
                      rintro e w10 ⟨rfl, hB10⟩
                      obtain ⟨W11, hW11, hB11⟩ : ∃ W11, w10.alloc (.cells #[.int .i64 n0, .int .i64 n1] 44) = W11 ∧ Below w10.heap.size w10 W11 := ⟨_, rfl, bOne _⟩
                      have H11 := Lib.hid (bAfter (bAfter H9.out hB10) hB11)
                      clear hB10 hB11 HR9
                      go_wp2_with fail
                      obtain ⟨k1, rfl⟩ : ∃ q, gk = q + 1 := ⟨gk - 1, by have := hkx.out; omega⟩
                      go_roundg k1
                      case measure => omega
                      case rel => exact ⟨x + 1, by first | rfl | (congr 1), Lib.hid (by have := hkx.out; omega), H11⟩
                    · have hnb : (nl == 0) = false := by rw [beq_eq_false_iff_ne]; exact hn0
                      have HR9 : Hid (∀ z0 z1 : Int, z0 = 0 → z1 = 0 → Calls Try.prog 21 #[ptr mb, .int .i64 x] w9 fun e w' => e = .returned (.tuple #[.agg #[.int .i64 z0, .int .i64 z1], .int .i64 10]) ∧ Below w9.heap.size w9 w') := Lib.hid (fun z0 z1 hz0 hz1 => (HRd.out w9 H9.out).mono fun e w' hh => ⟨by rw [hh.1, hz0, hz1]; simp only [if_neg hn0], hh.2⟩)
                      clear hn0
                      obtain ⟨z0, hz0⟩ : ∃ z : Int, z = 0 := ⟨0, rfl⟩
                      refine (HR9.out z0 z0 hz0 hz0).mono ?_
                      clear hz0
                      rintro e w10 ⟨rfl, hB10⟩
                      obtain ⟨W11, hW11, hB11⟩ : ∃ W11, w10.alloc (.cells #[.int .i64 z0, .int .i64 z0] 44) = W11 ∧ Below w10.heap.size w10 W11 := ⟨_, rfl, bOne _⟩
                      have H11 := Lib.hid (bAfter (bAfter H9.out hB10) hB11)
                      clear hB10 hB11 HR9
                      go_wp2_with fail
                      obtain ⟨k1, rfl⟩ : ∃ q, gk = q + 1 := ⟨gk - 1, by have := hkx.out; omega⟩
                      go_roundg k1
                      case measure => omega
                      case rel => exact ⟨x + 1, by first | rfl | (congr 1), Lib.hid (by have := hkx.out; omega), H11⟩
                  | true =>
                    cases c2 : (nl != id) with
                    | false =>
                      go_wp2_with fail
                      by_cases hn0 : nl = 0
                      · have hnb : (nl == 0) = true := by rw [hn0]; rfl
                        have HR9 : Hid (Calls Try.prog 21 #[ptr mb, .int .i64 x] w9 fun e w' => e = .returned (.tuple #[.agg #[.int .i64 n0, .int .i64 n1], .int .i64 0]) ∧ Below w9.heap.size w9 w') := Lib.hid ((HRd.out w9 H9.out).mono fun e w' hh => ⟨by rw [hh.1]; simp only [if_pos hn0], hh.2⟩)
                        clear hn0
                        refine HR9.out.mono ?_
                        rintro e w10 ⟨rfl, hB10⟩
                        obtain ⟨W11, hW11, hB11⟩ : ∃ W11, w10.alloc (.cells #[.int .i64 n0, .int .i64 n1] 44) = W11 ∧ Below w10.heap.size w10 W11 := ⟨_, rfl, bOne _⟩
                        have H11 := Lib.hid (bAfter (bAfter H9.out hB10) hB11)
                        clear hB10 hB11 HR9
                        go_wp2_with fail
                        obtain ⟨k1, rfl⟩ : ∃ q, gk = q + 1 := ⟨gk - 1, by have := hkx.out; omega⟩
                        go_roundg k1
                        case measure => omega
                        case rel => exact ⟨x + 1, by first | rfl | (congr 1), Lib.hid (by have := hkx.out; omega), H11⟩
                      · have hnb : (nl == 0) = false := by rw [beq_eq_false_iff_ne]; exact hn0
                        have HR9 : Hid (∀ z0 z1 : Int, z0 = 0 → z1 = 0 → Calls Try.prog 21 #[ptr mb, .int .i64 x] w9 fun e w' => e = .returned (.tuple #[.agg #[.int .i64 z0, .int .i64 z1], .int .i64 10]) ∧ Below w9.heap.size w9 w') := Lib.hid (fun z0 z1 hz0 hz1 => (HRd.out w9 H9.out).mono fun e w' hh => ⟨by rw [hh.1, hz0, hz1]; simp only [if_neg hn0], hh.2⟩)
                        clear hn0
                        obtain ⟨z0, hz0⟩ : ∃ z : Int, z = 0 := ⟨0, rfl⟩
                        refine (HR9.out z0 z0 hz0 hz0).mono ?_
                        clear hz0
                        rintro e w10 ⟨rfl, hB10⟩
                        obtain ⟨W11, hW11, hB11⟩ : ∃ W11, w10.alloc (.cells #[.int .i64 z0, .int .i64 z0] 44) = W11 ∧ Below w10.heap.size w10 W11 := ⟨_, rfl, bOne _⟩
                        have H11 := Lib.hid (bAfter (bAfter H9.out hB10) hB11)
                        clear hB10 hB11 HR9
                        go_wp2_with fail
                        obtain ⟨k1, rfl⟩ : ∃ q, gk = q + 1 := ⟨gk - 1, by have := hkx.out; omega⟩
                        go_roundg k1
                        case measure => omega
                        case rel => exact ⟨x + 1, by first | rfl | (congr 1), Lib.hid (by have := hkx.out; omega), H11⟩
                    | true =>
                      have c3 : (ol != id) = false := by
                        rcases HFR.out.2 with h | h | h
                        · rw [h] at c1; simp at c1
                        · rw [h] at c2; simp at c2
                        · rw [h]; simp
                      go_wp2_with fail
                      by_cases hn0 : nl = 0
                      · have hnb : (nl == 0) = true := by rw [hn0]; rfl
                        have HR9 : Hid (Calls Try.prog 21 #[ptr mb, .int .i64 x] w9 fun e w' => e = .returned (.tuple #[.agg #[.int .i64 n0, .int .i64 n1], .int .i64 0]) ∧ Below w9.heap.size w9 w') := Lib.hid ((HRd.out w9 H9.out).mono fun e w' hh => ⟨by rw [hh.1]; simp only [if_pos hn0], hh.2⟩)
                        clear hn0
                        refine HR9.out.mono ?_
                        rintro e w10 ⟨rfl, hB10⟩
                        obtain ⟨W11, hW11, hB11⟩ : ∃ W11, w10.alloc (.cells #[.int .i64 n0, .int .i64 n1] 44) = W11 ∧ Below w10.heap.size w10 W11 := ⟨_, rfl, bOne _⟩
                        have H11 := Lib.hid (bAfter (bAfter H9.out hB10) hB11)
                        clear hB10 hB11 HR9
                        go_wp2_with fail
                        obtain ⟨k1, rfl⟩ : ∃ q, gk = q + 1 := ⟨gk - 1, by have := hkx.out; omega⟩
                        go_roundg k1
                        case measure => omega
                        case rel => exact ⟨x + 1, by first | rfl | (congr 1), Lib.hid (by have := hkx.out; omega), H11⟩
                      · have hnb : (nl == 0) = false := by rw [beq_eq_false_iff_ne]; exact hn0
                        have HR9 : Hid (∀ z0 z1 : Int, z0 = 0 → z1 = 0 → Calls Try.prog 21 #[ptr mb, .int .i64 x] w9 fun e w' => e = .returned (.tuple #[.agg #[.int .i64 z0, .int .i64 z1], .int .i64 10]) ∧ Below w9.heap.size w9 w') := Lib.hid (fun z0 z1 hz0 hz1 => (HRd.out w9 H9.out).mono fun e w' hh => ⟨by rw [hh.1, hz0, hz1]; simp only [if_neg hn0], hh.2⟩)
                        clear hn0
                        obtain ⟨z0, hz0⟩ : ∃ z : Int, z = 0 := ⟨0, rfl⟩
                        refine (HR9.out z0 z0 hz0 hz0).mono ?_
                        clear hz0
                        rintro e w10 ⟨rfl, hB10⟩
                        obtain ⟨W11, hW11, hB11⟩ : ∃ W11, w10.alloc (.cells #[.int .i64 z0, .int .i64 z0] 44) = W11 ∧ Below w10.heap.size w10 W11 := ⟨_, rfl, bOne _⟩
                        have H11 := Lib.hid (bAfter (bAfter H9.out hB10) hB11)
                        clear hB10 hB11 HR9
                        go_wp2_with fail
                        obtain ⟨k1, rfl⟩ : ∃ q, gk = q + 1 := ⟨gk - 1, by have := hkx.out; omega⟩
                        go_roundg k1
                        case measure => omega
                        case rel => exact ⟨x + 1, by first | rfl | (congr 1), Lib.hid (by have := hkx.out; omega), H11⟩
              · have hx2 : ¬ (x : Int) < Bv.length := by omega
                go_wp2_with fail
                obtain ⟨k1, rfl⟩ : ∃ q, gko = q + 1 := ⟨gko - 1, by have := hk.out; omega⟩
                go_roundg k1
                case measure => omega
                case rel => exact ⟨i + 1, m', by first | rfl | (congr 1), Lib.hid (by have := hk.out; omega), Lib.hid ⟨(H7.out.1.below hJx.out), HRn.out, H7.out.2.2.2.2.1.trans (hJx.out.mono H7.out.2.2.2.2.1.size)⟩⟩
      · have hi2 : ¬ (i : Int) < p.length := by omega
        go_wp2_with fail
        go_ret
        exact ⟨rfl, bAfter HB2.out hJ.out.2.2⟩

set_option maxRecDepth 100000 in
theorem walk_MicroLocks {H : Type} {enc : TypeId × Value → H} (W : World) (base : Nat) (v0 : Value) (d0 : DataW H) (p0 : List MemPlace) (o0 : Value.okWide Try.prog W .any base 5 v0) (h0 : DataW.Trod enc Try.prog W 0 (fun _ => true) true 5 v0 d0 p0) (v1 : Value) (d1 : DataW H) (p1 : List MemPlace) (o1 : Value.okWide Try.prog W .any base 22 v1) (h1 : DataW.Trod enc Try.prog W 0 (fun _ => true) true 22 v1 d1 p1) (v2 : Value) (d2 : DataW H) (p2 : List MemPlace) (o2 : Value.okWide Try.prog W .any base 23 v2) (h2 : DataW.Trod enc Try.prog W 0 (fun _ => true) true 23 v2 d2 p2) {P : Prop} (_hsz : P) :
    Calls Try.prog 4 #[v0, v1, v2] W fun e w' => e = .returned (.bool true) ∧ Below W.heap.size W w' := by
  obtain ⟨a, rfl, ha⟩ := byte_arg o0 h0
  obtain ⟨A, c, l, rfl, hc, hC, -⟩ := txns_of o1 h1
  obtain ⟨A2, c2, p, rfl, hc2, hP, hp⟩ := bytes_of o2 h2
  exact locks_walk a A c l A2 c2 p W ha hC hc hP hc2 hp
end Go.Proofs.Ytkecbdeekpbbjaa
