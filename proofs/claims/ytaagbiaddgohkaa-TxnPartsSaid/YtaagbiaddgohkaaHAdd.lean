/- A transaction with one step more, by hand. -/
import Derived.Test.YtaagbiaddgohkaaHConv
import Derived.Test.YtaagbiaddgohkaaGrow
import Derived.Test.YtaagbiaddgohkaaClip
import Derived.Test.YtaagbiaddgohkaaQ2
import Derived.RegionTactic
import Derived.ChangeAlike
import Derived.BigRegion
namespace Go.Proofs.Ytaagbiaddgohkaa.Q
open Go.RowKit Go.Lib Go.Proofs.Ytaagbiaddgohkaa Go.Proofs.YtaagbiaddgohkaaW.PrintWords Go.Proofs.YtaagbiaddgohkaaW.PrintLast Go.Proofs.YtaagbiaddgohkaaW.PrintMore
set_option linter.unusedVariables false
set_option linter.unusedSimpArgs false

theorem C_empty {α : Type} {d : Kd α} {w : World} {xs : List α} (h : d.C w none xs.length xs) : xs = [] := by
  rcases xs with _ | ⟨x, xs⟩
  · rfl
  · obtain ⟨ad, h2, _⟩ := h.2.2 (by simp)
    cases h2
/-- What was read in a box stays. -/
theorem stays {w : World} {b o : Nat} {v : Value} (h : w.cell? ⟨b, o, none⟩ = some v) : ∀ W, Below w.heap.size w W → W.cell? ⟨b, o, none⟩ = some v := fun W hB => (hB.cell (p := ⟨b, o, none⟩) (World.block_lt_of_cell? w _ h)).trans h

theorem clip_calls (A : Option Addr) (n c : Nat) (w : World) (hA : A = none → n = 0) (hn : n ≤ c) :
    Calls Try.prog 25 #[.slice A n c] w fun e w' => e = .returned (.slice A n n) ∧ w' = w := by
  rcases A with _ | ad
  · obtain rfl := hA rfl
    go_enter Try.func25, Try.ntmps25
    go_wp2
    go_ret
    exact ⟨rfl, rfl⟩
  · go_enter Try.func25, Try.ntmps25
    go_wp2
    go_ret
    exact ⟨rfl, rfl⟩

/-- May a value be? -/
def valR (k n : Int) : Bool := if k = 0 then (n == 0) else if k = 1 then true else if k = 2 then (if n ≥ 0 then decide (n < 64) else false) else false
theorem right_f (k n : Int) : value_Right.f k n = some (valR k n) := by
  unfold value_Right.f valR
  split
  · rfl
  · split
    · rfl
    · split
      · split <;> rfl
      · rfl
/-- A row told by what may be read of it, with the error. -/
def Got (w : World) (l : List S39) (err : Int) (e : Ending) (w' : World) : Prop := ∃ A c, e = .returned (.tuple #[.slice A l.length c, .int .i64 err]) ∧ Kd.C k39 w' A l.length l ∧ l.length ≤ c ∧ Below w.heap.size w w'
abbrev stV (x0 x1 x2 : Int) (x3 : Bool) : Array Value := #[.int .i64 x0, .int .i64 x1, .int .i64 x2, .bool x3]

/-- A transaction with one step more. -/
def addL (l : List S39) (s : S39) : List S39 × Int := if s.f0 < 0 ∨ 64 ≤ s.f0 ∨ valR s.f1.f0 s.f1.f1 = false then (l, 2) else if 200 ≤ l.length then (l, 4) else (l ++ [s], 0)

/-- A row of one step, laid by a literal. -/
def Laid (cs : Array Value) (W : World) (v : Value) : Prop := ∃ b, v = .slice (some ⟨b, 0, none⟩) 1 1 ∧ W.heap[b]? = some (.cells cs 39 (0, 0))
theorem stable_laid (cs : Array Value) : Stable (Laid cs) := by
  rintro W W' v ⟨b, rfl, hc⟩ h
  exact ⟨b, rfl, (h.block b (Array.getElem?_eq_some_iff.1 hc).1).trans hc⟩

set_option maxRecDepth 100000 in
set_option maxHeartbeats 4000000 in
theorem add_core (A : Option Addr) (c : Nat) (l : List S39) (x0 x1 x2 : Int) (x3 : Bool) (w : World) (hC : Kd.C k39 w A l.length l) (hc : l.length ≤ c) (hl : l.length ≤ 1000000) :
    Calls Try.prog 17 #[.slice A l.length c, .agg (stV x0 x1 x2 x3)] w (Got w (addL l ⟨x0, ⟨x1, x2⟩, x3⟩).1 (addL l ⟨x0, ⟨x1, x2⟩, x3⟩).2) := by
  have hu39 := Try.underlying39
  have hu34 := Try.underlying34
  have C1 : Hid (∀ W, Calls Try.prog 24 #[.agg #[.int .i64 x1, .int .i64 x2]] W fun e w' => e = .returned (.bool (valR x1 x2)) ∧ Below W.heap.size W w') := Lib.hid fun W => value_Right.calls x1 x2 _ W (right_f x1 x2)
  obtain ⟨W0, hW0, K0, hB0⟩ : ∃ W0, w.alloc (.cells (stV x0 x1 x2 x3) 39) = W0 ∧ W0.heap[w.heap.size]? = some (.cells (stV x0 x1 x2 x3) 39 (0, 0)) ∧ Below w.heap.size w W0 := ⟨_, rfl, heap_alloc_new _ _, bOne _⟩
  have k0 : W0.cell? ⟨w.heap.size, 0, none⟩ = some (.int .i64 x0) := blk_cell K0 0
  have k1 : W0.cell? ⟨w.heap.size, 1, none⟩ = some (.int .i64 x1) := blk_cell K0 1
  have k2 : W0.cell? ⟨w.heap.size, 2, none⟩ = some (.int .i64 x2) := blk_cell K0 2
  have HA : Hid (A = none → l.length = 0) := Lib.hid fun h => by subst h; rw [C_empty hC]; rfl
  have HC := Lib.hid (And.intro hC (And.intro hc hl))
  have HK := Lib.hid (And.intro hB0 K0)
  clear hC hc hl K0 hB0
  have stay : ∀ w1 : World, Below W0.heap.size W0 w1 → Kd.C k39 w1 A l.length l ∧ Below w.heap.size w w1 ∧ w1.heap[w.heap.size]? = some (.cells (stV x0 x1 x2 x3) 39 (0, 0)) := fun w1 h => ⟨Kd.C_below HC.out.1 (bAfter HK.out.1 h), bAfter HK.out.1 h, blk_below HK.out.2 h⟩
  have ST := Lib.hid stay
  clear stay
  by_cases h1 : x0 < 0
  · have hf : addL l ⟨x0, ⟨x1, x2⟩, x3⟩ = (l, 2) := by unfold addL; rw [if_pos (.inl h1)]
    rw [hf]
    clear hf C1
    go_enter Try.func17, Try.ntmps17
    go_wp2_with fail
    go_ret2
    have := ST.out _ (Below.refl _ _)
    exact ⟨A, c, rfl, this.1, HC.out.2.1, this.2.1⟩
  · by_cases h2 : 64 ≤ x0
    · have hf : addL l ⟨x0, ⟨x1, x2⟩, x3⟩ = (l, 2) := by unfold addL; rw [if_pos (.inr (.inl h2))]
      rw [hf]
      clear hf C1
      go_enter Try.func17, Try.ntmps17
      go_wp2_with fail
      go_ret2
      have := ST.out _ (Below.refl _ _)
      exact ⟨A, c, rfl, this.1, HC.out.2.1, this.2.1⟩
    · cases h3 : valR x1 x2 with
      | false =>
        have hf : addL l ⟨x0, ⟨x1, x2⟩, x3⟩ = (l, 2) := by unfold addL; rw [if_pos (.inr (.inr h3))]
        rw [hf]
        rw [h3] at C1
        clear hf h3
        go_enter Try.func17, Try.ntmps17
        go_wp2_with fail
        refine (C1.out _).mono ?_
        rintro e w1 ⟨rfl, hB1⟩
        have HB1 := Lib.hid hB1
        clear hB1 C1
        go_wp2_with fail
        go_ret2
        have := ST.out _ HB1.out
        exact ⟨A, c, rfl, this.1, HC.out.2.1, this.2.1⟩
      | true =>
        rw [h3] at C1
        by_cases h4 : 200 ≤ l.length
        · have hf : addL l ⟨x0, ⟨x1, x2⟩, x3⟩ = (l, 4) := by unfold addL; rw [if_neg (by simp [h1, h2, h3]), if_pos h4]
          rw [hf]
          have h5 : (200 : Int) ≤ l.length := by omega
          clear hf h3 h4
          go_enter Try.func17, Try.ntmps17
          go_wp2_with fail
          refine (C1.out _).mono ?_
          rintro e w1 ⟨rfl, hB1⟩
          have HB1 := Lib.hid hB1
          clear hB1 C1
          go_wp2_with fail
          go_ret2
          have := ST.out _ HB1.out
          exact ⟨A, c, rfl, this.1, HC.out.2.1, this.2.1⟩
        · have hf : addL l ⟨x0, ⟨x1, x2⟩, x3⟩ = (l ++ [⟨x0, ⟨x1, x2⟩, x3⟩], 0) := by unfold addL; rw [if_neg (by simp [h1, h2, h3]), if_neg h4]
          rw [hf]
          have h5 : ¬ (200 : Int) ≤ l.length := by omega
          clear hf h3 h4
          go_enter Try.func17, Try.ntmps17
          go_wp2_with fail
          refine (C1.out _).mono ?_
          rintro e w1 ⟨rfl, hB1⟩
          have HS := Lib.hid (ST.out _ hB1)
          have F0 := stays (show w1.cell? ⟨w.heap.size, 0, none⟩ = some (.int .i64 x0) from blk_cell HS.out.2.2 0)
          have F1 := stays (show w1.cell? ⟨w.heap.size, 1, none⟩ = some (.int .i64 x1) from blk_cell HS.out.2.2 1)
          have F2 := stays (show w1.cell? ⟨w.heap.size, 2, none⟩ = some (.int .i64 x2) from blk_cell HS.out.2.2 2)
          have F3 := stays (show w1.cell? ⟨w.heap.size, 3, none⟩ = some (.bool x3) from blk_cell HS.out.2.2 3)
          clear hB1 C1 k0 k1 k2
          go_wp2_with fail
          apply wp_region_grow 4 (by kernel_rfl) (by kernel_rfl) (by kernel_rfl)
          apply gw_val (by rfl)
          · intro W hB hD; go_simp; try rfl
          simp only [Act.put, List.setIfInBounds_toArray, List.set_cons_zero, List.set_cons_succ]
          apply gw_call (by rfl)
          · intro W hB hD; go_simp; exact ⟨rfl, rfl⟩
          · intro W hB hD
            exact (clip_calls A l.length c W HA.out HC.out.2.1).mono fun e w' hh => ⟨hh.1, by rw [hh.2]; exact Below.refl _ _⟩
          simp only [Act.put, List.setIfInBounds_toArray, List.set_cons_zero, List.set_cons_succ]
          apply gw_val (by rfl)
          · intro W hB hD; go_simp; try rfl
          simp only [Act.put, List.setIfInBounds_toArray, List.set_cons_zero, List.set_cons_succ]
          apply gw_rel (stable_laid (stV x0 x1 x2 x3)) (by rfl)
          · intro W hB hD
            refine ⟨_, W.alloc (.cells (stV x0 x1 x2 x3) 39), ?_, bOne _, ⟨W.heap.size, rfl, heap_alloc_new _ _⟩⟩
            go_simp
            try rfl
          rintro v ⟨Wv, b, rfl, -⟩
          simp only [Act.put, List.setIfInBounds_toArray, List.set_cons_zero, List.set_cons_succ]
          apply gw_nil
          intro W hB hF hP
          have hL : Laid (stV x0 x1 x2 x3) W (.slice (some ⟨b, 0, none⟩) 1 1) := hF (fun W => Laid (stV x0 x1 x2 x3) W (.slice (some ⟨b, 0, none⟩) 1 1)) (by simp)
          obtain ⟨b', e, hK⟩ := hL
          injection e with e
          injection e with e
          injection e with e
          subst e
          clear hF hP
          have HS2 := Lib.hid (And.intro (Kd.C_below HS.out.1 hB) (And.intro (bAfter HS.out.2.1 hB) hK))
          clear hB hK F0 F1 F2 F3
          simp only [List.drop_succ_cons, List.drop_zero]
          refine R_append_clip k39 (w0 := w) w.heap.size rfl _ _ 29 39 _ _ rfl Try.underlying29 info39 rfl (by decide) (by decide) A _ l ⟨x0, ⟨x1, x2⟩, x3⟩ [.int .i64 x0, .int .i64 x1, .int .i64 x2, .bool x3] b 1 rfl rfl HS2.out.1 ?qc2 ?qc3 ?qc4 HS2.out.2.1 HS2.out.2.1.size (by have := HC.out.2.2; omega) ?_
          case qc2 => exact fun j u hj => (blk_cell HS2.out.2.2 j).trans (by simpa using hj)
          case qc3 => exact k39_mk _ ⟨x0, ⟨x1, x2⟩, x3⟩
          case qc4 => exact fun _ ok x cs h => flat39 h _ ok
          intro v1 w3 hR hB3 hB4
          obtain ⟨A3, c3, rfl⟩ := Kd.R_slice hR
          have hr := Kd.R_reads' hR
          have HR := Lib.hid (And.intro hr.2.2 (And.intro hr.2.1 hB3))
          clear hR hr hB3 hB4
          go_wp2_with fail
          go_ret2
          exact ⟨A3, c3, by rw [List.length_append]; rfl, HR.out.1, HR.out.2.1, HR.out.2.2⟩

theorem add_calls (A : Option Addr) (c : Nat) (l : List S39) (s : S39) (w : World) (hC : Kd.C k39 w A l.length l) (hc : l.length ≤ c) (hl : l.length ≤ 1000000) :
    Calls Try.prog 17 #[.slice A l.length c, .agg (stV s.f0 s.f1.f0 s.f1.f1 s.f2)] w (Got w (addL l s).1 (addL l s).2) := add_core A c l s.f0 s.f1.f0 s.f1.f1 s.f2 w hC hc hl
theorem write_calls (A : Option Addr) (c : Nat) (l : List S39) (x : Int) (v : S34) (w : World) (hC : Kd.C k39 w A l.length l) (hc : l.length ≤ c) (hl : l.length ≤ 1000000) :
    Calls Try.prog 8 #[.slice A l.length c, .int .i64 x, .agg #[.int .i64 v.f0, .int .i64 v.f1]] w (Got w (addL l ⟨x, v, true⟩).1 (addL l ⟨x, v, true⟩).2) := by
  rcases v with ⟨v0, v1⟩
  have C := Lib.hid (add_core A c l x v0 v1 true (w.alloc (.cells #[.int .i64 v0, .int .i64 v1] 34)) (Kd.C_alloc hC _) hc hl)
  generalize (addL l ⟨x, ⟨v0, v1⟩, true⟩).1 = r at *
  generalize (addL l ⟨x, ⟨v0, v1⟩, true⟩).2 = er at *
  clear hC hc hl
  go_enter Try.func8, Try.ntmps8
  go_wp2_with fail
  refine C.out.mono ?_
  rintro e w1 ⟨A1, c1, rfl, h1, h2, h3⟩
  have H := Lib.hid (And.intro h1 (And.intro h2 (bAfter (bOne (w := w) (.cells #[.int .i64 v0, .int .i64 v1] 34)) h3)))
  clear h1 h2 h3 C
  go_wp2_with fail
  go_ret2
  exact ⟨A1, c1, rfl, H.out.1, H.out.2.1, H.out.2.2⟩
theorem read_calls (A : Option Addr) (c : Nat) (l : List S39) (x : Int) (v : S34) (w : World) (hC : Kd.C k39 w A l.length l) (hc : l.length ≤ c) (hl : l.length ≤ 1000000) :
    Calls Try.prog 15 #[.slice A l.length c, .int .i64 x, .agg #[.int .i64 v.f0, .int .i64 v.f1]] w (Got w (addL l ⟨x, v, false⟩).1 (addL l ⟨x, v, false⟩).2) := by
  rcases v with ⟨v0, v1⟩
  have C := Lib.hid (add_core A c l x v0 v1 false (w.alloc (.cells #[.int .i64 v0, .int .i64 v1] 34)) (Kd.C_alloc hC _) hc hl)
  generalize (addL l ⟨x, ⟨v0, v1⟩, false⟩).1 = r at *
  generalize (addL l ⟨x, ⟨v0, v1⟩, false⟩).2 = er at *
  clear hC hc hl
  go_enter Try.func15, Try.ntmps15
  go_wp2_with fail
  refine C.out.mono ?_
  rintro e w1 ⟨A1, c1, rfl, h1, h2, h3⟩
  have H := Lib.hid (And.intro h1 (And.intro h2 (bAfter (bOne (w := w) (.cells #[.int .i64 v0, .int .i64 v1] 34)) h3)))
  clear h1 h2 h3 C
  go_wp2_with fail
  go_ret2
  exact ⟨A1, c1, rfl, H.out.1, H.out.2.1, H.out.2.2⟩

end Go.Proofs.Ytaagbiaddgohkaa.Q
