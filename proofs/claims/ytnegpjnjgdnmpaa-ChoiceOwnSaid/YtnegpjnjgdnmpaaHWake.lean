/- Wake of a lot, by hand: the function value notes whom it wakes. -/
import Derived.Test.YtnegpjnjgdnmpaaHPass
namespace Go.Proofs.Ytnegpjnjgdnmpaa.Q
open Go.RowKit Go.Lib Go.Proofs.Ytnegpjnjgdnmpaa Go.Proofs.YtnegpjnjgdnmpaaW.PrintWords Go.Proofs.YtnegpjnjgdnmpaaW.PrintLast Go.Proofs.YtnegpjnjgdnmpaaW.PrintMore
set_option linter.unusedVariables false
set_option linter.unusedSimpArgs false

/-- Does a spot wait for one of these? -/
def wakesB (a : Int) (s : S43) : Bool := Go.bits .and .u64 s.f1 a != 0
def wokenIds (a : Int) (l : List S43) : List Int := (l.filter (wakesB a)).map (·.f0)

/-- The state between two calls of the function value. -/
structure Wk (w : World) (a : Int) (g : Nat) (lot : Array Value) (pre : List S43) (W : World) : Prop where
  k0 : W.heap[w.heap.size]? = some (.cells lot 27)
  k1 : W.heap[w.heap.size + 1]? = some (.cells #[.int .u64 a] 39)
  k2 : W.heap[w.heap.size + 1 + 1]? = some (.cells #[.slice none 0 0, .slice none 0 0] 27)
  ids : ∃ v, W.heap[w.heap.size + 3]? = some (.cells #[v] 25) ∧ Kd.R (Kd.int .i64) 3 W (w.heap.size + 4) (fun k => k ≠ g ∧ w.heap.size + 4 ≤ k) v (wokenIds a pre)
  below : Below w.heap.size w W
  big : w.heap.size + 4 ≤ W.heap.size
  row : w.heap.size + 4 ≤ g
  old : g < W.heap.size

theorem R_grown_ne {α : Type} {d : Kd α} {e : Nat} {W W' : World} {base g : Nat} {ok : Nat → Prop} {v : Value} {xs : List α} (h : d.R e W base ok v xs) (hok : ∀ k, ok k → k ≠ g) (hg : W.grownBy W' (some g)) : d.R e W' base ok v xs :=
  Kd.R_grown h hg (fun k hk e => by injection e with e; exact hok k hk e)

theorem Wk.grow {w W W' : World} {a : Int} {g : Nat} {lot : Array Value} {pre : List S43} (h : Wk w a g lot pre W) (hg : W.grownBy W' (some g)) : Wk w a g lot pre W' := by
  have hr := h.row
  have ho := h.old
  obtain ⟨v, hv, hR⟩ := h.ids
  exact ⟨blk_grown h.k0 hg (by intro e; injection e with e; omega), blk_grown h.k1 hg (by intro e; injection e with e; omega), blk_grown h.k2 hg (by intro e; injection e with e; omega), ⟨v, blk_grown hv hg (by intro e; injection e with e; omega), R_grown_ne hR (fun k hk => hk.1) hg⟩,
    h.below.grown hg h.below.size (by intro k hk; injection hk with hk; omega), Nat.le_trans h.big hg.size, h.row, Nat.lt_of_lt_of_le h.old hg.size⟩

set_option maxHeartbeats 4000000 in
theorem wake1_calls (w : World) (a : Int) (g : Nat) (lot : Array Value) (pre : List S43) (x : S43) (W W1 : World) (hp : pre.length < 1000000001) (h : Wk w a g lot pre W) (hb : Below W.heap.size W W1) :
    Calls Try.prog 28 #[.agg #[.int .i64 x.f0, .int .u64 x.f1], .pointer (some ⟨w.heap.size + 1, 0, none⟩), .pointer (some ⟨w.heap.size + 3, 0, none⟩)] W1 fun e w' => e = .returned (.bool (wakesB a x)) ∧ Wk w a g lot (pre ++ [x]) w' ∧ w'.heap[g]? = W1.heap[g]? ∧ (∀ k, W.heap.size ≤ k → k < W1.heap.size → w'.heap[k]? = W1.heap[k]?) ∧ W1.heap.size ≤ w'.heap.size := by
  have hu := Try.underlying43
  obtain ⟨vi, hvi, hRi⟩ := h.ids
  have hlen : (wokenIds a pre).length ≤ 1000000000 := by
    have h1 : (wokenIds a pre).length ≤ pre.length := by
      unfold wokenIds
      rw [List.length_map]
      exact List.length_filter_le _ _
    omega
  obtain ⟨Ai, ci, rfl⟩ := Kd.R_slice hRi
  have h1 := h.grow (grown_below hb (some g))
  have hvi1 := blk_below hvi hb
  have hR1 := Kd.R_below hRi hb
  have hz := h.big
  have hz1 := hb.size
  obtain ⟨W2, hW2, B2, hB2⟩ : ∃ W2, W1.alloc (.cells #[.int .i64 x.f0, .int .u64 x.f1] 43) = W2 ∧ W2.heap[W1.heap.size]? = some (.cells #[.int .i64 x.f0, .int .u64 x.f1] 43 (0, 0)) ∧ Below W1.heap.size W1 W2 := ⟨_, rfl, heap_alloc_new _ _, bOne _⟩
  have b0 : W2.cell? ⟨W1.heap.size, 0, none⟩ = some (.int .i64 x.f0) := blk_cell B2 0
  have b1 : W2.cell? ⟨W1.heap.size, 1, none⟩ = some (.int .u64 x.f1) := blk_cell B2 1
  have c1 : W2.cell? ⟨w.heap.size + 1, 0, none⟩ = some (.int .u64 a) := blk_cell (blk_below h1.k1 hB2) 0
  have c3 : W2.cell? ⟨w.heap.size + 3, 0, none⟩ = some (.slice Ai (wokenIds a pre).length ci) := blk_cell (blk_below hvi1 hB2) 0
  have h2 := h1.grow (grown_below hB2 (some g))
  have hR2 := Kd.R_below hR1 hB2
  cases hp : wakesB a x with
  | false =>
    have hw : wokenIds a (pre ++ [x]) = wokenIds a pre := by simp [wokenIds, List.filter_append, hp]
    have HZ := Lib.hid (And.intro h2 (And.intro hw (And.intro hB2 h1.old)))
    have hp2 : (Go.bits .and .u64 x.f1 a != 0) = false := hp
    have HP := Lib.hid hp
    clear h h1 h2 hvi hRi hvi1 hR1 hR2 hb hB2 B2 hw hz hz1 hlen hp
    go_enter Try.func28, Try.ntmps28
    go_wp2_with fail
    go_ret
    obtain ⟨h2, hw, hB2, hold⟩ := HZ.out
    obtain ⟨v, hv, hR⟩ := h2.ids
    exact ⟨rfl, ⟨h2.k0, h2.k1, h2.k2, ⟨v, hv, by rw [hw]; exact hR⟩, h2.below, h2.big, h2.row, h2.old⟩, hB2.block g hold, fun k _ hk => hB2.block k hk, hB2.size⟩
  | true =>
    have hw : wokenIds a (pre ++ [x]) = wokenIds a pre ++ [x.f0] := by simp [wokenIds, List.filter_append, hp]
    have hne : ∀ k, (Value.slice Ai (wokenIds a pre).length ci).ownBlock = some k → w.heap.size + 4 ≤ k ∧ k ≠ g ∧ k < W.heap.size := fun k hk => by
      obtain ⟨⟨h1, h2⟩, h3, h4, -⟩ := (Kd.R_bound hRi).1 k hk
      exact ⟨h2, h1, h4⟩
    have HZ := Lib.hid (And.intro h1 (And.intro h2 (And.intro hw (And.intro hB2 (And.intro hR2 (And.intro hne (And.intro hlen (And.intro (blk_below hvi1 hB2) (And.intro h.big hb.size)))))))))
    have hp2 : (Go.bits .and .u64 x.f1 a != 0) = true := hp
    have HP := Lib.hid hp
    clear h h1 h2 hvi hRi hvi1 hR1 hR2 hb hB2 B2 hw hz hz1 hlen hp hne
    go_enter Try.func28, Try.ntmps28
    go_wp2_with (at_builtin; refine Kd.R_append_rows (Kd.int .i64) (w0 := W2.alloc (.cells #[.int .i64 x.f0] 3)) (Rr := (Kd.int .i64).K w) (w.heap.size + 4) rfl _ _ 25 3 _ _ rfl Try.underlying25 infoI rfl (by decide) (by decide) _ (wokenIds a pre) [x.f0] (some ⟨W2.heap.size, 0, none⟩) 1 1 (fun k => k ≠ g ∧ w.heap.size + 4 ≤ k) (fun _ => False) rfl rfl ?HO ?HR ?hKM (fun _ h => h.elim) ?hfr ?HB ?hbase ?hl ?_)
    case HO => exact Kd.R_alloc HZ.out.2.2.2.2.1 _
    case HR => exact ⟨rfl, by decide, fun _ => ⟨_, rfl, fun j p hj => by
        rcases j with _ | j
        · have : x.f0 = p := by simpa using hj
          subst this
          exact ⟨[.int .i64 x.f0], rfl, rfl, fun i u hu => by
            rw [Addr.add_lit]
            show (W2.alloc _).cell? ⟨W2.heap.size, 0 + (0 * 1 + i), none⟩ = _
            rw [Nat.zero_mul, Nat.zero_add, Nat.zero_add]
            exact (blk_cell (blk_new _ _) i).trans (by simpa using hu)⟩
        · simp at hj⟩⟩
    case hKM => exact fun x cs h => flatI h _ _
    case hfr =>
      intro k hk
      have h1 := HZ.out.2.1.big
      have h2 := HZ.out.2.1.old
      rw [World.size_alloc] at hk
      exact ⟨by omega, by omega⟩
    case HB => exact Below.refl _ _
    case hbase => have := HZ.out.2.1.big; simp; omega
    case hl => have := HZ.out.2.2.2.2.2.2.1; omega
    intro v1 w1 hR hB hg hat
    generalize hl2 : wokenIds a pre ++ [x.f0] = l2 at hR
    have HL2 := Lib.hid hl2
    clear hl2
    obtain ⟨A1, c1', rfl⟩ := Kd.R_slice hR
    have hne := HZ.out.2.2.2.2.2.1
    have h3 := HZ.out.2.1.grow (grown_below (bOne (.cells #[.int .i64 x.f0] 3)) (some g))
    have hcell := blk_grown (blk_alloc HZ.out.2.2.2.2.2.2.2.1 (.cells #[.int .i64 x.f0] 3)) hg (by intro e; have := hne _ e.symm; omega)
    have d3 : w1.cell? ⟨w.heap.size + 3, 0, none⟩ = some (.slice Ai (wokenIds a pre).length ci) := blk_cell hcell 0
    have e3 := blk_frozen hcell 0
    have HQ := Lib.hid (And.intro hR (And.intro hg (And.intro h3 hcell)))
    clear hR hB hg hat hne h3 hcell b0 b1 c1 c3
    go_wp2_with fail
    go_ret
    obtain ⟨h1, h2, hw, hB2, hR2, hne, hlen, hv3, hbig, hsz⟩ := HZ.out
    obtain ⟨hR, hg, h3, hcell⟩ := HQ.out
    have hz2 := hB2.size
    have hz3 : w1.heap.size ≥ W2.heap.size + 1 := by have := hg.size; simpa using this
    have far : ∀ k, k ≠ w.heap.size + 3 → (w1.setCell ⟨w.heap.size + 3, 0, none⟩ (.slice A1 l2.length c1')).heap[k]? = w1.heap[k]? := fun k hk => Below.heap_setCell _ _ _ _ hk
    have hgne : some g ≠ (Value.slice Ai (wokenIds a pre).length ci).ownBlock := by intro e; have := hne _ e.symm; omega
    have hrow := h1.row
    have hold := h1.old
    have hold2 := h2.old
    have hb2 := h2.big
    refine ⟨rfl, ⟨?_, ?_, ?_, ⟨.slice A1 l2.length c1', ?_, ?_⟩, ?_, ?_, hrow, ?_⟩, ?_, ?_, ?_⟩
    · exact (far _ (by omega)).trans (blk_grown h3.k0 hg (by intro e; have := hne _ e.symm; omega))
    · exact (far _ (by omega)).trans (blk_grown h3.k1 hg (by intro e; have := hne _ e.symm; omega))
    · exact (far _ (by omega)).trans (blk_grown h3.k2 hg (by intro e; have := hne _ e.symm; omega))
    · exact blk_put hcell 0 _ rfl
    · rw [hw, HL2.out]
      exact Kd.R_far (p := ⟨w.heap.size + 3, 0, none⟩) hR (fun k hk => by show k ≠ w.heap.size + 3; omega) _
    · exact (h3.below.grown hg h3.below.size (fun k hk => by have := hne _ hk; omega)).setCell (p := ⟨w.heap.size + 3, 0, none⟩) (by show _ ≤ w.heap.size + 3; omega) _
    · simp [World.setCell]; omega
    · simp [World.setCell]; omega
    · refine (far _ (by omega)).trans ((hg.block g (by simp; omega) hgne).trans ((Below.heap_alloc _ _ _ hold2).trans (hB2.block g hold)))
    · intro k hk hk1
      have hkne : some k ≠ (Value.slice Ai (wokenIds a pre).length ci).ownBlock := by intro e; have := hne _ e.symm; omega
      exact (far _ (by omega)).trans ((hg.block k (by simp; omega) hkne).trans ((Below.heap_alloc _ _ _ (by omega)).trans (hB2.block k hk1)))
    · simp [World.setCell]; omega

/-- Who is woken, and who waits on. -/
def choice_Wake.f (l0_0 : List S43) (l0_1 : List Int) (a1 : Int) : Option (List S43 × List Int × List Int) :=
  if l0_0.length ≤ 1000000 then some (l0_0.filter (fun x => !(wakesB a1 x)), l0_1, wokenIds a1 l0_0) else none

set_option maxHeartbeats 4000000 in
theorem choice_Wake.calls (P0_0_ : Nat → Prop) (A0_0 : Option Addr) (c0_0 : Nat) (l0_0 : List (S43)) (P0_1_ : Nat → Prop) (A0_1 : Option Addr) (c0_1 : Nat) (l0_1 : List Int) (a1 : Int) (r1 : List (S43)) (r2 : List Int) (r3 : List Int) (w : World) (hs0_0 : Kd.V k43 43 w w.heap.size (fun k_ => P0_0_ k_) (.slice A0_0 l0_0.length c0_0) l0_0) (hs0_1 : Kd.V (Kd.int .i64) 3 w w.heap.size (fun k_ => P0_1_ k_) (.slice A0_1 l0_1.length c0_1) l0_1) (h : choice_Wake.f l0_0 l0_1 a1 = some (r1, r2, r3)) :
    Calls Try.prog 13 #[.agg #[.slice A0_0 l0_0.length c0_0, .slice A0_1 l0_1.length c0_1], .int .u64 a1] w fun e w' => ∃ v0_ v1_ v2_ : Value, e = .returned (.tuple #[.agg #[v0_, v1_], v2_]) ∧ Kd.V k43 43 w' w.heap.size (fun k_ => ((P0_0_ k_ ∨ P0_1_ k_) ∨ w.heap.size ≤ k_)) v0_ r1 ∧ Kd.V (Kd.int .i64) 3 w' w.heap.size (fun k_ => ((P0_0_ k_ ∨ P0_1_ k_) ∨ w.heap.size ≤ k_)) v1_ r2 ∧ Kd.V (Kd.int .i64) 3 w' w.heap.size (fun k_ => ((P0_0_ k_ ∨ P0_1_ k_) ∨ w.heap.size ≤ k_)) v2_ r3 ∧ Below w.heap.size w w' := by
  have hu := Try.underlying27
  unfold choice_Wake.f at h
  split at h
  case isFalse => cases h
  rename_i hl
  obtain ⟨rfl, rfl, rfl⟩ : (l0_0.filter fun x => !(wakesB a1 x)) = r1 ∧ l0_1 = r2 ∧ wokenIds a1 l0_0 = r3 := by simpa using h
  have hC := (Kd.V_reads' hs0_0).2.2
  have hcap := (Kd.V_reads' hs0_0).2.1
  have C2 : Hid (∀ W, Below w.heap.size w W → Calls Try.prog 27 #[.slice A0_0 l0_0.length c0_0] W fun e w' => ∃ v, e = .returned v ∧ Kd.R k43 43 w' W.heap.size (fun _ => True) v l0_0 ∧ Below W.heap.size W w') := Lib.hid fun W hW => clone_spot A0_0 c0_0 l0_0 W (Kd.C_below hC hW) (by omega)
  have HV := Lib.hid (And.intro hs0_0 (And.intro hs0_1 hl))
  clear hs0_0 hs0_1 hC hcap hl h
  obtain ⟨W0, hW0, K0, K1, K2, HB0, hz⟩ := three_named w (.cells #[.slice A0_0 l0_0.length c0_0, .slice A0_1 l0_1.length c0_1] 27) (.cells #[.int .u64 a1] 39) (.cells #[.slice none 0 0, .slice none 0 0] 27)
  obtain ⟨W4, hW4, K3, HB4, hz4⟩ : ∃ W4, W0.alloc (.cells #[.slice none 0 0] 25) = W4 ∧ W4.heap[W0.heap.size]? = some (.cells #[.slice none 0 0] 25 (0, 0)) ∧ Below W0.heap.size W0 W4 ∧ W4.heap.size = W0.heap.size + 1 := ⟨_, rfl, heap_alloc_new _ _, bOne _, by simp⟩
  have c00 : W4.cell? ⟨w.heap.size, 0, none⟩ = some (.slice A0_0 l0_0.length c0_0) := blk_cell (blk_below K0 HB4) 0
  have HK := Lib.hid (And.intro (blk_below K0 HB4) (And.intro (blk_below K1 HB4) (And.intro (blk_below K2 HB4) (And.intro K3 (And.intro (bAfter HB0 HB4) (And.intro hz hz4))))))
  clear K0 K1 K2 HB0 K3 HB4 hz4
  go_enter Try.func13, Try.ntmps13
  go_wp2_with fail
  refine (C2.out _ HK.out.2.2.2.2.1).mono ?_
  rintro e w1 ⟨v1, rfl, hR, hB⟩
  clear C2
  obtain ⟨A1, c1, rfl⟩ := Kd.R_slice hR
  have hz0 : W4.heap.size = w.heap.size + 4 := by have := HK.out.2.2.2.2.2; omega
  have h0 := blk_below HK.out.1 hB
  have h1 := blk_below HK.out.2.1 hB
  have h2 := blk_below HK.out.2.2.1 hB
  have h3 := blk_below HK.out.2.2.2.1 hB
  rw [hz] at h3
  have hbw := bAfter HK.out.2.2.2.2.1 hB
  have hbig : w.heap.size + 4 ≤ w1.heap.size := by have := hB.size; omega
  have C3 : Hid (Calls Try.prog 26 #[.slice A1 l0_0.length c1, .func (.func 28) #[] #[.pointer (some ⟨w.heap.size + 1, 0, none⟩), .pointer (some ⟨w.heap.size + 3, 0, none⟩)]] w1 fun e w' => ∃ A c m, m = (l0_0.filter fun x => !(wakesB a1 x)).length ∧ e = .returned (.slice A m c) ∧ Kd.V k43 43 w' w.heap.size (fun k => w.heap.size + 4 ≤ k) (.slice A m c) (l0_0.filter fun x => !(wakesB a1 x)) ∧
      w'.heap[w.heap.size]? = some (.cells #[.slice A0_0 l0_0.length c0_0, .slice A0_1 l0_1.length c0_1] 27) ∧ w'.heap[w.heap.size + 1 + 1]? = some (.cells #[.slice none 0 0, .slice none 0 0] 27) ∧ (∃ v, w'.heap[w.heap.size + 3]? = some (.cells #[v] 25) ∧ Kd.V (Kd.int .i64) 3 w' w.heap.size (fun k => w.heap.size + 4 ≤ k) v (wokenIds a1 l0_0)) ∧ Below w.heap.size w w') := by
    refine Lib.hid ?_
    rcases Nat.eq_zero_or_pos l0_0.length with hq | hp
    · obtain rfl : l0_0 = [] := List.eq_nil_of_length_eq_zero hq
      have hV := Kd.V_mono (V_of_R (B := w.heap.size) hR) (fun k hk => (by omega : w.heap.size + 4 ≤ k))
      have hIx := indexFunc_spot 28 #[.pointer (some ⟨w.heap.size + 1, 0, none⟩), .pointer (some ⟨w.heap.size + 3, 0, none⟩)] (wakesB a1) (fun _ W => Below w1.heap.size w1 W) A1 c1 [] w1 (fun args W => rfl) (fun pre W h => ⟨rfl, by decide, fun h => by cases h⟩) (fun pre x W h => by cases h) (Below.refl _ _) (by decide)
      refine (deleteFunc_nil_spot _ (wakesB a1) _ A1 c1 w1 hIx).mono ?_
      rintro e w' ⟨rfl, hb⟩
      exact ⟨A1, c1, 0, rfl, rfl, Kd.V_below hV hb, blk_below h0 hb, blk_below h2 hb, ⟨_, blk_below h3 hb, Kd.V_nil _ _ _ _ _⟩, bAfter hbw hb⟩
    · obtain ⟨g, cap, e, hg, hgl, -⟩ := Kd.R_form hR hp
      injection e with e1 _ e2
      subst e1; subst e2
      have hS0 : Wk w a1 g #[.slice A0_0 l0_0.length c0_0, .slice A0_1 l0_1.length c0_1] [] w1 := ⟨h0, h1, h2, ⟨_, h3, Kd.R_nil _ _ _ _ _⟩, hbw, hbig, by omega, hgl⟩
      refine (deleteFunc_spot 28 #[.pointer (some ⟨w.heap.size + 1, 0, none⟩), .pointer (some ⟨w.heap.size + 3, 0, none⟩)] (wakesB a1) (Wk w a1 g #[.slice A0_0 l0_0.length c0_0, .slice A0_1 l0_1.length c0_1]) g _ l0_0 w1 _ (fun args W => rfl) hR hS0 (fun pre W W' h hg => h.grow hg) (fun pre x W W1 hpl h hb hlt => wake1_calls w a1 g _ pre x W W1 (by have := HV.out.2.2; omega) h hb) (by have := HV.out.2.2; omega)).mono ?_
      rintro e w' ⟨m, rfl, hm, hmc, hCm, hS⟩
      obtain ⟨v, hv, hRv⟩ := hS.ids
      have hrow := hS.row
      exact ⟨_, _, m, hm, rfl, Kd.V_mono (V_of_Cg (e := 43) (B := w.heap.size) (fun _ _ _ _ h => flatK43 h) hCm hmc) (fun k hk => by omega), hS.k0, hS.k2, ⟨v, hv, Kd.V_mono (V_of_R (B := w.heap.size) hRv) (fun k hk => hk)⟩, hS.below⟩
  have c00 : w1.cell? ⟨w.heap.size, 0, none⟩ = some (.slice A0_0 l0_0.length c0_0) := blk_cell h0 0
  clear h0 h1 h2 h3 hbw hbig hR hB hz0 HK hz hW0 hW4
  generalize hl2 : (l0_0.filter fun x => !(wakesB a1 x)) = l2 at C3
  have HL2 := Lib.hid hl2
  clear hl2
  go_wp2_with fail
  refine C3.out.mono ?_
  rintro e w3 ⟨A3, c3, m, rfl, rfl, hV3, k0, k2, ⟨v, k3, hVv⟩, hB3⟩
  obtain ⟨Av, cv, rfl⟩ := Kd.V_slice hVv
  have d00 : w3.cell? ⟨w.heap.size, 0, none⟩ = some (.slice A0_0 l0_0.length c0_0) := blk_cell k0 0
  have d01 : w3.cell? ⟨w.heap.size, 1, none⟩ = some (.slice A0_1 l0_1.length c0_1) := blk_cell k0 1
  have f00 := blk_frozen k0 0
  have f01 := blk_frozen k0 1
  have d20 : w3.cell? ⟨w.heap.size + 1 + 1, 0, none⟩ = some (.slice none 0 0) := blk_cell k2 0
  have d21 : w3.cell? ⟨w.heap.size + 1 + 1, 1, none⟩ = some (.slice none 0 0) := blk_cell k2 1
  have f20 := blk_frozen k2 0
  have f21 := blk_frozen k2 1
  generalize hl3 : wokenIds a1 l0_0 = l3 at *
  have HL3 := Lib.hid hl3
  clear hl3
  have d30 : w3.cell? ⟨w.heap.size + 3, 0, none⟩ = some (.slice Av l3.length cv) := blk_cell k3 0
  have HR := Lib.hid (And.intro hV3 (And.intro hVv (And.intro hB3 (And.intro k2 (And.intro k0 k3)))))
  clear C3 hV3 hVv hB3 k0 k2 k3
  clear c00
  go_wp2_with fail
  obtain ⟨W5, hW5, k5, far5⟩ : ∃ W5, w3.setCell ⟨w.heap.size, 0, none⟩ (.slice A3 l2.length c3) = W5 ∧ W5.heap[w.heap.size]? = some (.cells #[.slice A3 l2.length c3, .slice A0_1 l0_1.length c0_1] 27 (0, 0)) ∧ ∀ k, k ≠ w.heap.size → W5.heap[k]? = w3.heap[k]? := ⟨_, rfl, blk_put HR.out.2.2.2.2.1 0 _ rfl, fun k hk => Below.heap_setCell _ _ _ _ hk⟩
  have hV5 : Kd.V k43 43 W5 w.heap.size (fun k => w.heap.size + 4 ≤ k) (.slice A3 l2.length c3) l2 := by rw [← hW5]; exact Kd.V_far (p := ⟨w.heap.size, 0, none⟩) HR.out.1 (fun k hk => by show k ≠ w.heap.size; omega) _
  have hv5 : Kd.V (Kd.int .i64) 3 W5 w.heap.size (fun k => w.heap.size + 4 ≤ k) (.slice Av l3.length cv) l3 := by rw [← hW5]; exact Kd.V_far (p := ⟨w.heap.size, 0, none⟩) HR.out.2.1 (fun k hk => by show k ≠ w.heap.size; omega) _
  have hB5 : Below w.heap.size w W5 := by rw [← hW5]; exact HR.out.2.2.1.setCell (p := ⟨w.heap.size, 0, none⟩) (Nat.le_refl _) _
  have k25 := (far5 (w.heap.size + 1 + 1) (by omega)).trans HR.out.2.2.2.1
  have k35 := (far5 (w.heap.size + 3) (by omega)).trans HR.out.2.2.2.2.2
  rw [hW5]
  clear hW5 far5 d00 d01 f00 f01 d20 d21 f20 f21 d30
  have d00 : W5.cell? ⟨w.heap.size, 0, none⟩ = some (.slice A3 l2.length c3) := blk_cell k5 0
  have d01 : W5.cell? ⟨w.heap.size, 1, none⟩ = some (.slice A0_1 l0_1.length c0_1) := blk_cell k5 1
  have d20 : W5.cell? ⟨w.heap.size + 1 + 1, 0, none⟩ = some (.slice none 0 0) := blk_cell k25 0
  have d21 : W5.cell? ⟨w.heap.size + 1 + 1, 1, none⟩ = some (.slice none 0 0) := blk_cell k25 1
  have f20 := blk_frozen k25 0
  have f21 := blk_frozen k25 1
  have d30 : W5.cell? ⟨w.heap.size + 3, 0, none⟩ = some (.slice Av l3.length cv) := blk_cell k35 0
  clear HR
  have HR := Lib.hid (And.intro hV5 (And.intro hv5 (And.intro hB5 k25)))
  clear hV5 hv5 hB5 k25 k35 k5
  go_region
  go_wp2_with fail
  refine bodyPost_ret (results_ct rfl _ _ (w.heap.size + 1 + 1) 27 #[.slice A3 l2.length c3, .slice A0_1 l0_1.length c0_1] (0, 0) _ rfl (by refine blk_drew ?_; refine blk_put (cs := #[.slice A3 l2.length c3, .slice none 0 0]) ?_ 1 _ rfl; refine blk_put (cs := #[.slice none 0 0, .slice none 0 0]) ?_ 0 _ rfl; exact HR.out.2.2.2) hu rfl (by kernel_rfl)) rfl ?_
  have HBF := below_drew ((HR.out.2.2.1.setCell (p := ⟨w.heap.size + 1 + 1, 0, none⟩) (by show _ ≤ w.heap.size + 1 + 1; omega) (.slice A3 l2.length c3)).setCell (p := ⟨w.heap.size + 1 + 1, 1, none⟩) (by show _ ≤ w.heap.size + 1 + 1; omega) (.slice A0_1 l0_1.length c0_1))
  rw [HL2.out, HL3.out]
  exact ⟨_, _, _, rfl, Kd.V_mono (Kd.V_drew (Kd.V_far (p := ⟨w.heap.size + 1 + 1, 1, none⟩) (Kd.V_far (p := ⟨w.heap.size + 1 + 1, 0, none⟩) HR.out.1 (fun k hk => by show k ≠ w.heap.size + 1 + 1; omega) _) (fun k hk => by show k ≠ w.heap.size + 1 + 1; omega) _)) (fun k hk => .inr (by omega)), Kd.V_mono (Kd.V_below HV.out.2.1 HBF) (fun _ h => .inl (.inr h)), Kd.V_mono (Kd.V_drew (Kd.V_far (p := ⟨w.heap.size + 1 + 1, 1, none⟩) (Kd.V_far (p := ⟨w.heap.size + 1 + 1, 0, none⟩) HR.out.2.1 (fun k hk => by show k ≠ w.heap.size + 1 + 1; omega) _) (fun k hk => by show k ≠ w.heap.size + 1 + 1; omega) _)) (fun k hk => .inr (by omega)), HBF⟩

end Go.Proofs.Ytnegpjnjgdnmpaa.Q
