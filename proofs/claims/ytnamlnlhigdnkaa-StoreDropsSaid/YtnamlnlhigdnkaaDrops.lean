/- The walk of StoreDrops, by hand: what was dropped is nowhere, and nothing else changes. -/
import Derived.Test.YtnamlnlhigdnkaaPure0
import Derived.Test.YtnamlnlhigdnkaaFlat
import Derived.Test.YtnamlnlhigdnkaaBits
import Derived.Test.YtnamlnlhigdnkaaHAlive
import Derived.Test.YtnamlnlhigdnkaaGrow
import Derived.ProofKit
import Derived.OpenShut
import Derived.SizedLaws
import Derived.WideLaws
set_option linter.unusedSimpArgs false
set_option linter.unusedVariables false
namespace Go.Proofs.Ytnamlnlhigdnkaa
open Go.ChangeShapes Go.WideShapes Go.ChangeAt Go.RowKit Go.Proofs.Ytnamlnlhigdnkaa.Q Go.Proofs.YtnamlnlhigdnkaaW.PrintWords Go.Proofs.YtnamlnlhigdnkaaW.PrintLast Go.Proofs.YtnamlnlhigdnkaaW.PrintMore

attribute [local go_sem high] eqA31
theorem stays {W0 : World} {p : Addr} {v : Value} (h : W0.cell? p = some v) : ∀ W, Below W0.heap.size W0 W → W.cell? p = some v := fun W hb => (hb.cell (World.block_lt_of_cell? _ _ h)).trans h
theorem stays1 {W0 : World} {p : Addr} {v : Value} {o : Obj} (h : W0.cell? p = some v) : (W0.alloc o).cell? p = some v := stays h _ (bOne o)
theorem callD {P : Program} {f : FuncId} {args : Array Value} {W : World} {c : Value} (h : Calls P f args W fun e w' => e = .returned c ∧ Drawn0 W w') : Calls P f args W fun e w' => e = .returned c ∧ Below W.heap.size W w' :=
  h.mono fun e w' hh => by
    obtain ⟨n, rfl⟩ := hh.2
    exact ⟨hh.1, pw_below_drewN (Below.refl _ _) n⟩
theorem th_word (x : S40) (h : goodVar x) : 0 ≤ (th x).f3 ∧ (th x).f3 < 2 ^ 64 := by
  unfold goodVar at h
  simp only [Lit.wf, Bool.and_eq_true, decide_eq_true_eq] at h
  have m1 : IntKind.u64.min = 0 := by decide
  have m2 : IntKind.u64.max = 18446744073709551615 := by decide
  rw [m1, m2] at h
  exact ⟨h.1, by show x.f3 < 2 ^ 64; omega⟩

set_option maxHeartbeats 1000000 in
set_option maxRecDepth 100000 in
theorem drops_walk (A0 : Option Addr) (c0 : Nat) (l : List S40) (x : Int) (w : World) (hC : Kd.C k40 w A0 l.length l) (hc0 : l.length ≤ c0) (hg : ∀ y ∈ l, goodVar y) (hx : 0 ≤ x ∧ x ≤ 255) :
    Calls Try.prog 8 #[.slice A0 l.length c0, .int .u8 x] w fun e w' => e = .returned (.bool true) ∧ Below w.heap.size w w' := by
  have hu35 := Try.underlying35
  have hu31 := Try.underlying31
  have C1 := Lib.hid (warpbeamlaw07_alive.calls true w rfl)
  have HC := Lib.hid hC
  clear hC
  by_cases hl : (l.length : Int) > 100
  · go_enter Try.func8, Try.ntmps8
    go_wp2_with fail
    refine C1.out.mono ?_
    rintro e w1 ⟨rfl, hB1⟩
    go_wp2_with fail
    go_ret
    exact ⟨rfl, hB1⟩
  · have hT := theirs_f l (by omega) 200 (by omega)
    go_enter Try.func8, Try.ntmps8
    go_wp2_with fail
    refine C1.out.mono ?_
    rintro e w1 ⟨rfl, hB1⟩
    have C2 := Lib.hid (warpbeamlaw07_Theirs.calls 200 A0 c0 l _ w1 (Kd.C_below HC.out hB1) hc0 hT)
    have HB1 := Lib.hid hB1
    clear C1 hB1 HC hT
    go_wp2_with fail
    refine C2.out.mono ?_
    rintro e w2 ⟨v2, rfl, hR2, hB2⟩
    have hm : (l.map th).length = l.length := List.length_map _
    have hw : ∀ i : Nat, i < (l.map th).length → 0 ≤ (rd_T35 (l.map th) i).f3 ∧ (rd_T35 (l.map th) i).f3 < 2 ^ 64 := fun i hi => by
      unfold rd_T35
      simp only [List.length_map] at hi
      simp only [Int.toNat_natCast, List.getD_eq_getElem?_getD, List.getElem?_map, List.getElem?_eq_getElem hi, Option.map_some, Option.getD_some]
      exact th_word _ (hg _ (List.getElem_mem hi))
    generalize hte : l.map th = t at *
    have ht : t.length ≤ 100 := by omega
    obtain ⟨A2, c2, rfl, hc2, hC2⟩ := Kd.R_reads hR2
    obtain ⟨s, hs, hs0⟩ : ∃ s : Nat, x.tmod 32 = s ∧ s < 32 := ⟨(x.tmod 32).toNat, by rw [Int.tmod_eq_emod_of_nonneg hx.1]; omega, by rw [Int.tmod_eq_emod_of_nonneg hx.1]; omega⟩
    have C3 := Lib.hid (store_Drop.calls A2 c2 t s _ w2 hC2 hc2 (show store_Drop.f t s = some _ from if_pos (by omega)))
    have HB2 := Lib.hid (bAfter HB1.out hB2)
    have HR2 := Lib.hid (Kd.R_lower hR2 HB1.out.size)
    clear C2 hR2 hB2 hC2 HB1
    have HH := Lib.hid (And.intro hw (And.intro hm ht))
    clear hte hm ht hg hw
    go_wp2_with fail
    refine C3.out.mono ?_
    rintro e w3 ⟨v3, rfl, hR3, hB3⟩
    have hdl : (t.map (dropOne s)).length = t.length := List.length_map _
    have hdg : ∀ i : Nat, i < t.length → rd_T35 (t.map (dropOne s)) i = dropOne s (rd_T35 t i) := fun i hi => by
      unfold rd_T35
      simp [List.getD_eq_getElem?_getD, hi]
    generalize t.map (dropOne s) = d at *
    obtain ⟨A3, c3, rfl, hc3, hC3⟩ := Kd.R_reads hR3
    have HI := Lib.hid (And.intro (bAfter HB2.out hB3) (And.intro (Kd.C_below ((Kd.R_reads' HR2.out).2.2) hB3) hC3))
    have HD := Lib.hid (And.intro hdl hdg)
    have hdl' : (d.length : Int) = t.length := by omega
    have hn100 : t.length ≤ 100 := HH.out.2.2
    clear C3 hR3 hB3 hC3 HR2 hdl hdg hc3
    go_wp2_with fail
    go_loopg [30] t.length (fun kq v30 w' => ∃ i : Nat, v30 = .int .i64 i ∧ Hid (kq + i = t.length) ∧ Hid (Below w.heap.size w w' ∧ Kd.C k35 w' A2 t.length t ∧ Kd.C k35 w' A3 d.length d))
    case atStart => exact ⟨0, rfl, by simp [Hid], HI⟩
    case round =>
      obtain ⟨i, rfl, hk, hI⟩ := hrel
      clear HI
      by_cases hi : i < t.length
      · have hi2 : (i : Int) < t.length := by omega
        have hi0 : (0 : Int) ≤ i := by omega
        obtain ⟨ad, rfl, a0, a1, a2, a3, a4⟩ := at_T35 hI.out.2.1 (i : Int) hi0 hi2
        obtain ⟨bd, rfl, b0, b1, b2, b3, b4⟩ := at_T35 hI.out.2.2 (i : Int) hi0 (by omega)
        rw [HD.out.2 i hi] at b0 b1 b2 b3 b4
        simp only [Int.toNat_natCast] at a0 a1 a2 a3 a4 b0 b1 b2 b3 b4
        have hvw := HH.out.1 i hi
        generalize rd_T35 t i = v at *
        have HI := hI
        clear hI
        obtain ⟨q, hq⟩ : ∃ q, dropOne s v = q := ⟨_, rfl⟩
        have q0 : q.f0 = v.f0 := by rw [← hq]; rfl
        have q1 : q.f1 = v.f1 := by rw [← hq]; rfl
        have q2 : (q.f2 == (s : Int)) = false := by
          rw [← hq]
          unfold dropOne
          simp only [beq_eq_false_iff_ne]
          split <;> omega
        have q2' : (q.f2 != v.f2) = false ∨ ((q.f2 != v.f2) = true ∧ (v.f2 != (s : Int)) = false) := by
          rw [← hq]
          unfold dropOne
          simp only [bne_eq_false_iff_eq, bne_iff_ne, ne_eq]
          split <;> omega
        have q3 : q.f3 = Go.bits .andNot .u64 v.f3 (bitI s) := by rw [← hq]; rfl
        have hs64 : (0 : Int) ≤ s ∧ (s : Int) < 64 := by omega
        have D1 := Lib.hid fun W => set_Has.calls q.f3 s false W (by rw [q3]; exact has_less v.f3 s hvw hs64)
        have D2 := Lib.hid fun W => set_With.calls q.f3 s (Go.bits .or .u64 v.f3 (bitI s)) W (by rw [q3]; exact with_less v.f3 s hvw hs64)
        have D3 := Lib.hid fun W => set_With.calls v.f3 s (Go.bits .or .u64 v.f3 (bitI s)) W (with_f v.f3 s)
        generalize Go.bits .or .u64 v.f3 (bitI s) = orv at *
        rw [hq] at b0 b1 b2 b3 b4
        rw [q0] at b0 b1
        rw [q1] at b2
        clear hq q0 q3 hvw
        generalize q.f2 = x2 at *
        generalize v.f2 = y2 at *
        generalize q.f3 = x3 at *
        generalize v.f3 = y3 at *
        generalize v.f1 = y1 at *
        generalize v.f0.f0 = y00 at *
        generalize v.f0.f1 = y01 at *
        go_wp2_with fail
        obtain ⟨W0, hW0⟩ : ∃ W0, wr.alloc (.cells #[.int .i64 y00, .int .i64 y01, .int .i64 y1, .int .i64 x2, .int .u64 x3] 35) = W0 := ⟨_, rfl⟩
        have HW0 : Hid (Below wr.heap.size wr W0) := Lib.hid (by rw [← hW0]; exact bOne _)
        have A0' := stays (W0 := W0) (by rw [← hW0]; exact stays1 a0)
        have A1' := stays (W0 := W0) (by rw [← hW0]; exact stays1 a1)
        have A2' := stays (W0 := W0) (by rw [← hW0]; exact stays1 a2)
        have A3' := stays (W0 := W0) (by rw [← hW0]; exact stays1 a3)
        have A4' := stays (W0 := W0) (by rw [← hW0]; exact stays1 a4)
        have B0' := stays (W0 := W0) (p := ⟨wr.heap.size, 0, none⟩) (v := .int .i64 y00) (by rw [← hW0]; simp)
        have B1' := stays (W0 := W0) (p := ⟨wr.heap.size, 1, none⟩) (v := .int .i64 y01) (by rw [← hW0]; simp)
        have B2' := stays (W0 := W0) (p := ⟨wr.heap.size, 2, none⟩) (v := .int .i64 y1) (by rw [← hW0]; simp)
        have B3' := stays (W0 := W0) (p := ⟨wr.heap.size, 3, none⟩) (v := .int .i64 x2) (by rw [← hW0]; simp)
        have B4' := stays (W0 := W0) (p := ⟨wr.heap.size, 4, none⟩) (v := .int .u64 x3) (by rw [← hW0]; simp)
        rw [hW0]
        clear hW0
        clear a0 a1 a2 a3 a4 b0 b1 b2 b3 b4
        rcases q2' with e1 | ⟨e1, e2⟩
        all_goals apply wp_region_grows (by kernel_rfl) (by kernel_rfl)
        all_goals repeat
          first
            | (apply gw_skip (by rfl); simp only [Act.put, List.setIfInBounds_toArray, List.set_cons_zero, List.set_cons_succ])
            | (apply gw_val (by rfl)
               · (intro W hB hD; go_simp; try rfl)
               simp only [Act.put, List.setIfInBounds_toArray, List.set_cons_zero, List.set_cons_succ])
            | (apply gw_call (by rfl)
               · (intro W hB hD; go_simp; exact ⟨rfl, rfl⟩)
               · (intro W hB hD; first | with_reducible exact callD (D1.out _) | with_reducible exact callD (D2.out _) | with_reducible exact callD (D3.out _))
               simp only [Act.put, List.setIfInBounds_toArray, List.set_cons_zero, List.set_cons_succ])
        all_goals apply gw_nil
        all_goals intro W hW _ _
        all_goals
          have HB9 := Lib.hid (bAfter (bAfter HI.out.1 HW0.out) hW)
          have HC9 := Lib.hid (And.intro (Kd.C_below (Kd.C_below HI.out.2.1 HW0.out) hW) (Kd.C_below (Kd.C_below HI.out.2.2 HW0.out) hW))
          clear A0' A1' A2' A3' A4' B0' B1' B2' B3' B4' HI HW0 hW
          go_wp2_with fail
          obtain ⟨k1, rfl⟩ : ∃ m, gk = m + 1 := ⟨gk - 1, by have := hk.out; omega⟩
          go_roundg k1
          case measure => omega
          case rel => exact ⟨i + 1, by first | rfl | rw [show wrap64 ((i : Int) + 1) = ((i + 1 : Nat) : Int) by unfold wrap64; omega], Lib.hid (by have := hk.out; omega), Lib.hid ⟨HB9.out, HC9.out⟩⟩
      · have hi2 : ¬ (i : Int) < t.length := by omega
        have HZ := Lib.hid hI.out.1
        clear hI hk HD HH hc0 hx hc2 hn100 HB2 hi hs hs0
        clear hdl'
        go_wp2_with fail
        go_ret
        exact ⟨rfl, HZ.out⟩

theorem byte_drops {W : World} {cs : List Value} (n : Int) (h : (Lit.int .u8 n).wf = true) : 0 ≤ n ∧ n ≤ 255 := by
  simp only [Lit.wf, Bool.and_eq_true, decide_eq_true_eq] at h
  have m1 : IntKind.u8.min = 0 := by decide
  have m2 : IntKind.u8.max = 255 := by decide
  rw [m1, m2] at h
  exact h

theorem walk_StoreDrops {H : Type} {enc : TypeId × Value → H} (W : World) (base : Nat) (v0 : Value) (d0 : DataW H) (p0 : List MemPlace) (o0 : Value.okWide Try.prog W .any base 22 v0) (h0 : DataW.Trod enc Try.prog W 0 (fun _ => true) true 22 v0 d0 p0) (v1 : Value) (d1 : DataW H) (p1 : List MemPlace) (o1 : Value.okWide Try.prog W .any base 5 v1) (h1 : DataW.Trod enc Try.prog W 0 (fun _ => true) true 5 v1 d1 p1) {P : Prop} (_hsz : P) :
    Calls Try.prog 8 #[v0, v1] W fun e w' => e = .returned (.bool true) ∧ Below W.heap.size W w' := by
  obtain ⟨A, c, l, rfl, hlc, -, hC, hg⟩ := open_rows k40 goodVar z40 Try.underlying22 flat_var (by kernel_rfl) rfl (fun cs h => var_of h) o0 h0
  obtain ⟨y, rfl⟩ := okWide_int (k := .u8) (by kernel_rfl) o1
  obtain ⟨f, hf⟩ := h1
  obtain ⟨x, hx, -, hw⟩ := DataW.trod_int (k := .u8) (by kernel_rfl) hf
  have hx : [Value.int .u8 y] = [Value.int .u8 x] := hx
  injection hx with hx
  injection hx with _ hx
  subst hx
  exact drops_walk A c l y W hC hlc hg (byte_drops (W := W) (cs := []) y hw)

end Go.Proofs.Ytnamlnlhigdnkaa
