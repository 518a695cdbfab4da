/- An act on a lot, by hand: what 'does' leaves, beside the document's empty lot. -/
import Derived.Test.YtnegpjnjgdnmpaaPure1
import Derived.Test.YtnegpjnjgdnmpaaGrow
import Derived.Deep.RegionWith
import Derived.Test.YtnegpjnjgdnmpaaQ3
import Derived.Test.YtnegpjnjgdnmpaaQ4
import Derived.Test.YtnegpjnjgdnmpaaQ4
import Derived.Test.YtnegpjnjgdnmpaaQ4
set_option linter.unusedSimpArgs false
set_option linter.unusedVariables false
namespace Go.Proofs.Ytnegpjnjgdnmpaa
open Go.RowKit Go.Proofs.Ytnegpjnjgdnmpaa.Q Go.Proofs.YtnegpjnjgdnmpaaW.PrintWords Go.Proofs.YtnegpjnjgdnmpaaW.PrintLast Go.Proofs.YtnegpjnjgdnmpaaW.PrintMore

theorem Lot_both {W : World} {ok : Nat → Prop} {A B : Option Addr} {c d : Nat} {P : List S43} {Q : List Int} (h : Lot W ok A c P B d Q) : Lot W (fun k => ok k ∧ k < W.heap.size) A c P B d Q := ⟨Kd.V_bound h.1, Kd.V_bound h.2⟩

theorem stays {W0 : World} {p : Addr} {v : Value} (h : W0.cell? p = some v) : ∀ W, Below W0.heap.size W0 W → W.cell? p = some v := fun W hb => (hb.cell (World.block_lt_of_cell? _ _ h)).trans h
theorem callD {P : Program} {f : FuncId} {args : Array Value} {W : World} {c : Value} (h : Calls P f args W fun e w' => e = .returned c ∧ Drawn0 W w') : Calls P f args W fun e w' => e = .returned c ∧ Below W.heap.size W w' :=
  h.mono fun e w' hh => by
    obtain ⟨n, rfl⟩ := hh.2
    exact ⟨hh.1, pw_below_drewN (Below.refl _ _) n⟩

theorem Lot.both {W : World} {ok : Nat → Prop} {A B : Option Addr} {c d : Nat} {P : List S43} {Q : List Int} (h : Lot W ok A c P B d Q) : Lot W (fun k => ok k ∧ k < W.heap.size) A c P B d Q := ⟨Kd.V_bound h.1, Kd.V_bound h.2⟩

/-! ### The document's calls on an empty lot -/
theorem rpark_f (id a : Int) : ∃ r1 r2 r3, warpbeamref18_Park.f 10 [] [] id a = some (r1, r2, r3) := by
  unfold warpbeamref18_Park.f
  by_cases h : id < 1
  · rw [if_pos h]; exact ⟨_, _, _, rfl⟩
  · rw [if_neg h]
    cases h2 : (a == 0) with
    | true => exact ⟨_, _, _, rfl⟩
    | false => exact ⟨_, _, _, rfl⟩
theorem rwake_f (a : Int) : warpbeamref18_Wake.f 10 [] [] a = some ([], [], []) := rfl
theorem rask_f (id : Int) : ∃ r1 r2 r3, warpbeamref18_Ask.f 10 [] [] id = some (r1, r2, r3) := by
  unfold warpbeamref18_Ask.f
  by_cases h : id < 1
  · rw [if_pos h]; exact ⟨_, _, _, rfl⟩
  · rw [if_neg h]; exact ⟨_, _, _, rfl⟩
theorem rpass_f (id : Int) : ∃ r1 r2 r3, warpbeamref18_Pass.f 10 [] [] id = some (r1, r2, r3) := ⟨_, _, _, rfl⟩
theorem rsame_f (l : List Int) : ∃ r, warpbeamref01_Same.f 5 l [] = some r := by
  unfold warpbeamref01_Same.f
  cases l with
  | nil => exact ⟨_, rfl⟩
  | cons x l => rw [if_neg (by simp only [List.length_cons, List.length_nil]; omega)]; exact ⟨_, rfl⟩

/-- What is handed back: two slices. -/
def Two (W : World) (v : Value) : Prop := ∃ A n c B m d, v = .agg #[.slice A n c, .slice B m d]
theorem two_of {α β : Type} {k : Kd α} {k' : Kd β} {e e' : Nat} {W : World} {b b' : Nat} {ok ok' : Nat → Prop} {v u : Value} {xs : List α} {ys : List β} (h : Kd.V k e W b ok v xs) (h' : Kd.V k' e' W b' ok' u ys) : ∃ A n c B m d, v = .slice A n c ∧ u = .slice B m d := by
  obtain ⟨A, c, rfl⟩ := Kd.V_slice h
  obtain ⟨B, d, rfl⟩ := Kd.V_slice h'
  exact ⟨_, _, _, _, _, _, rfl, rfl⟩
theorem rpark_calls (id a : Int) (W : World) : Calls Try.prog 29 #[.agg #[.slice none 0 0, .slice none 0 0], .int .i64 id, .int .u64 a] W fun e w' => ∃ A n c B m d r, e = .returned (.tuple #[.agg #[.slice A n c, .slice B m d], .int .i64 r]) ∧ Below W.heap.size W w' := by
  obtain ⟨r1, r2, r3, hf⟩ := rpark_f id a
  refine (warpbeamref18_Park.calls 10 (fun _ => True) none 0 [] (fun _ => True) none 0 [] id a r1 r2 r3 W (Kd.V_nil _ _ _ _ _) (Kd.V_nil _ _ _ _ _) hf).mono ?_
  rintro e w' ⟨v0, v1, rfl, hV0, hV1, hB⟩
  obtain ⟨A, n, c, B, m, d, rfl, rfl⟩ := two_of hV0 hV1
  exact ⟨A, n, c, B, m, d, r3, rfl, hB⟩
theorem rask_calls (id : Int) (W : World) : Calls Try.prog 32 #[.agg #[.slice none 0 0, .slice none 0 0], .int .i64 id] W fun e w' => ∃ A n c B m d r, e = .returned (.tuple #[.agg #[.slice A n c, .slice B m d], .int .i64 r]) ∧ Below W.heap.size W w' := by
  obtain ⟨r1, r2, r3, hf⟩ := rask_f id
  refine (warpbeamref18_Ask.calls 10 (fun _ => True) none 0 [] (fun _ => True) none 0 [] id r1 r2 r3 W (Kd.V_nil _ _ _ _ _) (Kd.V_nil _ _ _ _ _) hf).mono ?_
  rintro e w' ⟨v0, v1, rfl, hV0, hV1, hB⟩
  obtain ⟨A, n, c, B, m, d, rfl, rfl⟩ := two_of hV0 hV1
  exact ⟨A, n, c, B, m, d, r3, rfl, hB⟩
theorem rpass_calls (id : Int) (W : World) : Calls Try.prog 33 #[.agg #[.slice none 0 0, .slice none 0 0], .int .i64 id] W fun e w' => ∃ A n c B m d r, e = .returned (.tuple #[.agg #[.slice A n c, .slice B m d], .int .i64 r]) ∧ Below W.heap.size W w' := by
  obtain ⟨r1, r2, r3, hf⟩ := rpass_f id
  refine (warpbeamref18_Pass.calls 10 (fun _ => True) none 0 [] (fun _ => True) none 0 [] id r1 r2 r3 W (Kd.V_nil _ _ _ _ _) (Kd.V_nil _ _ _ _ _) hf).mono ?_
  rintro e w' ⟨v0, v1, rfl, hV0, hV1, hB⟩
  obtain ⟨A, n, c, B, m, d, rfl, rfl⟩ := two_of hV0 hV1
  exact ⟨A, n, c, B, m, d, r3, rfl, hB⟩
theorem rwake_calls (a : Int) (W : World) : Calls Try.prog 30 #[.agg #[.slice none 0 0, .slice none 0 0], .int .u64 a] W fun e w' => ∃ A n c B m d D k, e = .returned (.tuple #[.agg #[.slice A n c, .slice B m d], .slice D 0 k]) ∧ Kd.C (Kd.int .i64) w' D 0 [] ∧ Below W.heap.size W w' := by
  refine (warpbeamref18_Wake.calls 10 none 0 [] (fun _ => True) none 0 [] a [] [] [] W (Kd.C_nil _ _) (Nat.le_refl _) (Kd.V_nil _ _ _ _ _) (rwake_f a)).mono ?_
  rintro e w' ⟨v0, v1, v2, rfl, hR0, hV1, hR2, hB⟩
  obtain ⟨A, n, c, B, m, d, rfl, rfl⟩ := two_of (Kd.R_V (base' := 0) hR0) hV1
  obtain ⟨D, k, rfl⟩ := Kd.R_slice hR2
  exact ⟨A, n, c, B, m, d, D, k, rfl, (Kd.R_reads' hR2).2.2, hB⟩

/-! ### The program's, on a lot that is not large: some lot comes of it -/
section
variable {W : World} {ok : Nat → Prop} {A B : Option Addr} {c d : Nat} {P : List S43} {Q : List Int} {N : Nat}
theorem park_some (hN : N ≤ 100000) (id a : Int) (h : Lot W ok A c P B d Q) (hl : P.length ≤ N) : ∃ P' e, P'.length ≤ N + 1 ∧ Calls Try.prog 12 #[.agg #[.slice A P.length c, .slice B Q.length d], .int .i64 id, .int .u64 a] W fun x w' => ∃ A' c' B' d', x = .returned (.tuple #[.agg #[.slice A' P'.length c', .slice B' Q.length d'], .int .i64 e]) ∧ Lot w' (fun k => ok k ∨ W.heap.size ≤ k) A' c' P' B' d' Q ∧ Below W.heap.size W w' := by
  obtain ⟨P', e, hf, hl', hc⟩ : ∃ P' e, choice_Park.f P Q id a = some (P', Q, e) ∧ P'.length ≤ N + 1 ∧ True := by
    unfold choice_Park.f
    rw [if_pos (by omega)]
    split
    · exact ⟨_, _, rfl, by omega, trivial⟩
    · split
      · exact ⟨_, _, rfl, by omega, trivial⟩
      · exact ⟨_, _, rfl, by simp; omega, trivial⟩
  exact ⟨P', e, hl', park_lot id a e h hf⟩
theorem ask_some (hN : N ≤ 100000) (id : Int) (h : Lot W ok A c P B d Q) (hl : Q.length ≤ N) : ∃ Q' e, Q'.length ≤ N + 1 ∧ Calls Try.prog 8 #[.agg #[.slice A P.length c, .slice B Q.length d], .int .i64 id] W fun x w' => ∃ A' c' B' d', x = .returned (.tuple #[.agg #[.slice A' P.length c', .slice B' Q'.length d'], .int .i64 e]) ∧ Lot w' (fun k => ok k ∨ W.heap.size ≤ k) A' c' P B' d' Q' ∧ Below W.heap.size W w' := by
  obtain ⟨Q', e, hf, hl', hc⟩ : ∃ Q' e, choice_Ask.f P Q id = some (P, Q', e) ∧ Q'.length ≤ N + 1 ∧ True := by
    unfold choice_Ask.f
    rw [if_pos (by omega)]
    split
    · exact ⟨_, _, rfl, by omega, trivial⟩
    · split
      · exact ⟨_, _, rfl, by omega, trivial⟩
      · exact ⟨_, _, rfl, by simp; omega, trivial⟩
  exact ⟨Q', e, hl', ask_lot id e h hf⟩
theorem pass_some (hN : N ≤ 100000) (id : Int) (h : Lot W ok A c P B d Q) (hl : Q.length ≤ N) : ∃ Q' e, Q'.length ≤ N + 1 ∧ Calls Try.prog 11 #[.agg #[.slice A P.length c, .slice B Q.length d], .int .i64 id] W fun x w' => ∃ A' c' B' d', x = .returned (.tuple #[.agg #[.slice A' P.length c', .slice B' Q'.length d'], .int .i64 e]) ∧ Lot w' (fun k => ok k ∨ W.heap.size ≤ k) A' c' P B' d' Q' ∧ Below W.heap.size W w' := by
  obtain ⟨Q', e, hf, hl', hc⟩ : ∃ Q' e, choice_Pass.f P Q id = some (P, Q', e) ∧ Q'.length ≤ N + 1 ∧ True := by
    unfold choice_Pass.f
    rw [if_pos (by omega)]
    split
    · exact ⟨_, _, rfl, Nat.le_trans (List.length_filter_le _ _) (by omega), trivial⟩
    · exact ⟨_, _, rfl, by omega, trivial⟩
  exact ⟨Q', e, hl', pass_lot id e h hf⟩
theorem wake_some (hN : N ≤ 100000) (a : Int) (h : Lot W ok A c P B d Q) (hl : P.length ≤ N) : ∃ P' I, P'.length ≤ N + 1 ∧ Calls Try.prog 13 #[.agg #[.slice A P.length c, .slice B Q.length d], .int .u64 a] W fun x w' => ∃ A' c' B' d' D n, x = .returned (.tuple #[.agg #[.slice A' P'.length c', .slice B' Q.length d'], .slice D I.length n]) ∧ Lot w' (fun k => ok k ∨ W.heap.size ≤ k) A' c' P' B' d' Q ∧ Kd.V (Kd.int .i64) 3 w' W.heap.size (fun k => ok k ∨ W.heap.size ≤ k) (.slice D I.length n) I ∧ Below W.heap.size W w' := by
  refine ⟨_, _, ?_, wake_lot a h (show choice_Wake.f P Q a = _ from if_pos (by omega))⟩
  exact Nat.le_trans (List.length_filter_le _ _) (by omega)
end

theorem results_cct {P : Program} {fn : Func} {p q u : Tmp} {ty ty' : TypeId} (h : fn.results = #[.cell p ty, .cell q ty', .tmp u]) (tmps : Array Value) (w : World) (g g' : Nat) (t t' : TypeId) (cs cs' : Array Value) (fr fr' : Nat × Nat) (d d' : TypeDesc)
    (hp : tmps.getD p undef = .pointer (some ⟨g, 0, none⟩)) (hg : w.heap[g]? = some (.cells cs t fr))
    (hu : P.underlying ty = some d) (hd : (match d with | .struct _ | .array _ _ => true | _ => false) = true) (hi : (P.info? ty).map (·.size) = some cs.size)
    (hp' : tmps.getD q undef = .pointer (some ⟨g', 0, none⟩)) (hg' : w.heap[g']? = some (.cells cs' t' fr'))
    (hu' : P.underlying ty' = some d') (hd' : (match d' with | .struct _ | .array _ _ => true | _ => false) = true) (hi' : (P.info? ty').map (·.size) = some cs'.size) :
    (results fn tmps).run P w = .ok (.tuple #[.agg cs, .agg cs', tmps.getD u undef]) w := by
  have h1 : tmps[p]?.getD undef = .pointer (some ⟨g, 0, none⟩) := by simpa using hp
  have h2 : tmps[q]?.getD undef = .pointer (some ⟨g', 0, none⟩) := by simpa using hp'
  simp [results, h, h1, h2, asAddr, run_loadVar_row w g t ty cs fr d hg hu hd hi, run_loadVar_row w g' t' ty' cs' fr' d' hg' hu' hd' hi']

/-- The five boxes of 'does'. -/
theorem five_named (w : World) (o1 o2 o3 o4 o5 : Obj) : ∃ W0, ((((w.alloc o1).alloc o2).alloc o3).alloc o4).alloc o5 = W0 ∧ W0.heap[w.heap.size]? = some o1 ∧ W0.heap[w.heap.size + 1]? = some o2 ∧ W0.heap[w.heap.size + 1 + 1]? = some o3 ∧ W0.heap[w.heap.size + 1 + 1 + 1]? = some o4 ∧ W0.heap[w.heap.size + 1 + 1 + 1 + 1]? = some o5 ∧ Below w.heap.size w W0 ∧ W0.heap.size = w.heap.size + 5 := by
  obtain ⟨W1, h1, a, b, c, hb, hz⟩ := three_named w o1 o2 o3
  obtain ⟨W2, h2, d, e, hb2, hz2⟩ := two_named W1 o4 o5
  have hz : W1.heap.size = w.heap.size + 1 + 1 + 1 := hz
  rw [hz] at d e
  refine ⟨W2, by rw [h1]; exact h2, blk_below a hb2, blk_below b hb2, blk_below c hb2, d, e, bAfter hb hb2, by omega⟩

set_option maxHeartbeats 4000000 in
set_option maxRecDepth 100000 in
theorem does_lot {N : Nat} (hN : N ≤ 100000) {W : World} {ok : Nat → Prop} {A B : Option Addr} {c d : Nat} {P : List S43} {Q : List Int} (h : Lot W ok A c P B d Q) (hl : P.length ≤ N) (hl2 : Q.length ≤ N) (kd id a : Int) (hk : 0 ≤ kd ∧ kd ≤ 255) :
    Calls Try.prog 15 #[.agg #[.slice A P.length c, .slice B Q.length d], .agg #[.slice none 0 0, .slice none 0 0], .agg #[.int .u8 kd, .int .i64 id, .int .u64 a]] W fun e w' => ∃ A' c' P' B' d' Q' A2 n2 c2 B2 m2 d2 r, e = .returned (.tuple #[.agg #[.slice A' P'.length c', .slice B' Q'.length d'], .agg #[.slice A2 n2 c2, .slice B2 m2 d2], .bool r]) ∧ Lot w' (fun k => ok k ∨ W.heap.size ≤ k) A' c' P' B' d' Q' ∧ P'.length ≤ N + 1 ∧ Q'.length ≤ N + 1 ∧ Below W.heap.size W w' := by
  have hu := Try.underlying27
  have huR := Try.underlying46
  have huA := Try.underlying48
  obtain ⟨W0, hW0, K0, K1, K2, K3, K4, HB0, hz⟩ := five_named W (.cells #[.slice A P.length c, .slice B Q.length d] 27) (.cells #[.slice none 0 0, .slice none 0 0] 46) (.cells #[.int .u8 kd, .int .i64 id, .int .u64 a] 48) (.cells #[.slice none 0 0, .slice none 0 0] 27) (.cells #[.slice none 0 0, .slice none 0 0] 46)
  have c00 : W0.cell? ⟨W.heap.size, 0, none⟩ = some (.slice A P.length c) := blk_cell K0 0
  have c01 : W0.cell? ⟨W.heap.size, 1, none⟩ = some (.slice B Q.length d) := blk_cell K0 1
  have c20 : W0.cell? ⟨W.heap.size + 1 + 1, 0, none⟩ = some (.int .u8 kd) := blk_cell K2 0
  have c21 : W0.cell? ⟨W.heap.size + 1 + 1, 1, none⟩ = some (.int .i64 id) := blk_cell K2 1
  have c22 : W0.cell? ⟨W.heap.size + 1 + 1, 2, none⟩ = some (.int .u64 a) := blk_cell K2 2
  have hL := (Lot_both h).below HB0
  have HK := Lib.hid (And.intro K0 (And.intro K1 (And.intro K2 (And.intro K3 (And.intro K4 (And.intro HB0 hz))))))
  have HL := Lib.hid (And.intro h (And.intro hL (And.intro hl (And.intro hl2 hk))))
  clear K0 K1 K2 K3 K4 HB0 hz hL h hl hl2
  go_enter Try.func15, Try.ntmps15
  go_wp2_with fail
  · obtain ⟨P', e1, hpl, hcall⟩ := park_some hN id a HL.out.2.1 HL.out.2.2.1
    refine hcall.mono ?_
    rintro _ w1 ⟨A1, c1, B1, d1, rfl, hL1, hB1⟩
    clear hcall c00 c01 c20 c21 c22 hW0
    have HP := Lib.hid hpl
    obtain ⟨W2, hW2, K9, hB2⟩ : ∃ W2, w1.alloc (.cells #[.slice A1 P'.length c1, .slice B1 Q.length d1] 27) = W2 ∧ W2.heap[w1.heap.size]? = some (.cells #[.slice A1 P'.length c1, .slice B1 Q.length d1] 27 (0, 0)) ∧ Below w1.heap.size w1 W2 := ⟨_, rfl, heap_alloc_new _ _, bOne _⟩
    have hz1 := hB1.size
    have hL2 := hL1.below hB2
    have hB02 := bAfter hB1 hB2
    have c10 : W2.cell? ⟨W.heap.size + 1, 0, none⟩ = some (.slice none 0 0) := blk_cell (blk_below HK.out.2.1 hB02) 0
    have c11 : W2.cell? ⟨W.heap.size + 1, 1, none⟩ = some (.slice none 0 0) := blk_cell (blk_below HK.out.2.1 hB02) 1
    have c21 : W2.cell? ⟨W.heap.size + 1 + 1, 1, none⟩ = some (.int .i64 id) := blk_cell (blk_below HK.out.2.2.1 hB02) 1
    have c22 : W2.cell? ⟨W.heap.size + 1 + 1, 2, none⟩ = some (.int .u64 a) := blk_cell (blk_below HK.out.2.2.1 hB02) 2
    have HB2 := Lib.hid (And.intro hL2 (And.intro hB02 K9))
    clear hpl hL1 hB1 hB2 hL2 hB02 K9
    go_wp2_with fail
    refine (rpark_calls id a _).mono ?_
    rintro _ w3 ⟨A2, nA, c2, B2, m2, d2, r, rfl, hB3⟩
    obtain ⟨W4, hW4, K11, hB4⟩ : ∃ W4, w3.alloc (.cells #[.slice A2 nA c2, .slice B2 m2 d2] 46) = W4 ∧ W4.heap[w3.heap.size]? = some (.cells #[.slice A2 nA c2, .slice B2 m2 d2] 46 (0, 0)) ∧ Below w3.heap.size w3 W4 := ⟨_, rfl, heap_alloc_new _ _, bOne _⟩
    have hB24 := bAfter hB3 hB4
    have hL4 := HB2.out.1.below hB24
    have hB04 := bAfter HB2.out.2.1 hB24
    have K3 := blk_below HK.out.2.2.2.1 hB04
    have K4 := blk_below HK.out.2.2.2.2.1 hB04
    have K9 := blk_below HB2.out.2.2 hB24
    clear c10 c11 c21 c22 hW2
    have x0 : W4.cell? ⟨w1.heap.size, 0, none⟩ = some (.slice A1 P'.length c1) := blk_cell K9 0
    have x1 : W4.cell? ⟨w1.heap.size, 1, none⟩ = some (.slice B1 Q.length d1) := blk_cell K9 1
    have y0 : W4.cell? ⟨w3.heap.size, 0, none⟩ = some (.slice A2 nA c2) := blk_cell K11 0
    have y1 : W4.cell? ⟨w3.heap.size, 1, none⟩ = some (.slice B2 m2 d2) := blk_cell K11 1
    have p0 : W4.cell? ⟨W.heap.size + 1 + 1 + 1, 0, none⟩ = some (.slice none 0 0) := blk_cell K3 0
    have p1 : W4.cell? ⟨W.heap.size + 1 + 1 + 1, 1, none⟩ = some (.slice none 0 0) := blk_cell K3 1
    have q0 : W4.cell? ⟨W.heap.size + 1 + 1 + 1 + 1, 0, none⟩ = some (.slice none 0 0) := blk_cell K4 0
    have q1 : W4.cell? ⟨W.heap.size + 1 + 1 + 1 + 1, 1, none⟩ = some (.slice none 0 0) := blk_cell K4 1
    have fp0 := blk_frozen K3 0
    have fp1 := blk_frozen K3 1
    have fq0 := blk_frozen K4 0
    have fq1 := blk_frozen K4 1
    have hlt9 := blk_lt HB2.out.2.2
    have hw1 : W.heap.size + 5 ≤ w1.heap.size := by have := HK.out.2.2.2.2.2.2; omega
    have hw3 : W.heap.size + 5 ≤ w3.heap.size := by have := hB3.size; omega
    have ne1 : ¬ w1.heap.size = W.heap.size + 1 + 1 + 1 := by omega
    have ne2 : ¬ w1.heap.size = W.heap.size + 1 + 1 + 1 + 1 := by omega
    have ne3 : ¬ w3.heap.size = W.heap.size + 1 + 1 + 1 := by omega
    have ne4 : ¬ w3.heap.size = W.heap.size + 1 + 1 + 1 + 1 := by omega
    have HF := Lib.hid (And.intro hL4 (And.intro hB04 (And.intro K3 K4)))
    clear hB3 hB4 hB24 hL4 hB04 K3 K4 K9 K11 hlt9 hw1 hw3
    go_wp2_with fail
    go_region
    go_wp2_with fail
    refine bodyPost_ret (results_cct rfl _ _ (W.heap.size + 1 + 1 + 1) (W.heap.size + 1 + 1 + 1 + 1) 27 46 #[.slice A1 P'.length c1, .slice B1 Q.length d1] #[.slice A2 nA c2, .slice B2 m2 d2] (0, 0) (0, 0) _ _ rfl ?hr1 hu rfl (by kernel_rfl) rfl ?hr2 huR rfl (by kernel_rfl)) rfl ?_
    case hr1 =>
      refine blk_drew ?_; exact (Below.heap_setCell _ _ _ _ (by show W.heap.size + 1 + 1 + 1 ≠ W.heap.size + 1 + 1 + 1 + 1; omega)).trans ((Below.heap_setCell _ _ _ _ (by show W.heap.size + 1 + 1 + 1 ≠ W.heap.size + 1 + 1 + 1 + 1; omega)).trans (blk_put (blk_put HF.out.2.2.1 0 _ rfl) 1 _ rfl))
    case hr2 =>
      refine blk_drew ?_; exact blk_put (blk_put ((Below.heap_setCell _ _ _ _ (by show W.heap.size + 1 + 1 + 1 + 1 ≠ W.heap.size + 1 + 1 + 1; omega)).trans ((Below.heap_setCell _ _ _ _ (by show W.heap.size + 1 + 1 + 1 + 1 ≠ W.heap.size + 1 + 1 + 1; omega)).trans HF.out.2.2.2)) 0 _ rfl) 1 _ rfl
    have hz := HK.out.2.2.2.2.2.2
    have hL5 := HF.out.1.mono (ok' := fun k => k ≠ W.heap.size + 1 + 1 + 1 ∧ k ≠ W.heap.size + 1 + 1 + 1 + 1 ∧ (ok k ∨ W.heap.size ≤ k)) (fun k hk => by
      rcases hk with h | h
      · have := h.2
        exact ⟨by omega, by omega, .inl h.1⟩
      · exact ⟨by omega, by omega, .inr (by omega)⟩)
    have hLF := (((hL5.far (p := ⟨W.heap.size + 1 + 1 + 1, 0, none⟩) (fun k hk => hk.1) (.slice A1 P'.length c1)).far (p := ⟨W.heap.size + 1 + 1 + 1, 1, none⟩) (fun k hk => hk.1) (.slice B1 Q.length d1)).far (p := ⟨W.heap.size + 1 + 1 + 1 + 1, 0, none⟩) (fun k hk => hk.2.1) (.slice A2 nA c2)).far (p := ⟨W.heap.size + 1 + 1 + 1 + 1, 1, none⟩) (fun k hk => hk.2.1) (.slice B2 m2 d2)
    have hBF := ((((bAfter HK.out.2.2.2.2.2.1 HF.out.2.1).setCell (p := ⟨W.heap.size + 1 + 1 + 1, 0, none⟩) (by show _ ≤ W.heap.size + 1 + 1 + 1; omega) (.slice A1 P'.length c1)).setCell (p := ⟨W.heap.size + 1 + 1 + 1, 1, none⟩) (by show _ ≤ W.heap.size + 1 + 1 + 1; omega) (.slice B1 Q.length d1)).setCell (p := ⟨W.heap.size + 1 + 1 + 1 + 1, 0, none⟩) (by show _ ≤ W.heap.size + 1 + 1 + 1 + 1; omega) (.slice A2 nA c2)).setCell (p := ⟨W.heap.size + 1 + 1 + 1 + 1, 1, none⟩) (by show _ ≤ W.heap.size + 1 + 1 + 1 + 1; omega) (.slice B2 m2 d2)
    have hLF := hLF.below (below_drew (Below.refl _ _))
    have hBF := below_drew hBF
    obtain ⟨hl1, hl2⟩ : P'.length ≤ N + 1 ∧ Q.length ≤ N + 1 := ⟨HP.out, by have := HL.out.2.2.2.1; omega⟩
    exact ⟨A1, c1, P', B1, d1, Q, A2, nA, c2, B2, m2, d2, _, rfl, hLF.mono (fun k hk => hk.2.2), hl1, hl2, hBF⟩
  · obtain ⟨P', I, hpl, hcall⟩ := wake_some hN a HL.out.2.1 HL.out.2.2.1
    refine hcall.mono ?_
    rintro _ w1 ⟨A1, c1, B1, d1, D, nD, rfl, hL1, hI1, hB1⟩
    clear hcall c00 c01 c20 c21 c22 hW0
    have HP := Lib.hid hpl
    obtain ⟨W2, hW2, K9, hB2⟩ : ∃ W2, w1.alloc (.cells #[.slice A1 P'.length c1, .slice B1 Q.length d1] 27) = W2 ∧ W2.heap[w1.heap.size]? = some (.cells #[.slice A1 P'.length c1, .slice B1 Q.length d1] 27 (0, 0)) ∧ Below w1.heap.size w1 W2 := ⟨_, rfl, heap_alloc_new _ _, bOne _⟩
    have hz1 := hB1.size
    have hL2 := hL1.below hB2
    have hB02 := bAfter hB1 hB2
    have c10 : W2.cell? ⟨W.heap.size + 1, 0, none⟩ = some (.slice none 0 0) := blk_cell (blk_below HK.out.2.1 hB02) 0
    have c11 : W2.cell? ⟨W.heap.size + 1, 1, none⟩ = some (.slice none 0 0) := blk_cell (blk_below HK.out.2.1 hB02) 1
    have c21 : W2.cell? ⟨W.heap.size + 1 + 1, 1, none⟩ = some (.int .i64 id) := blk_cell (blk_below HK.out.2.2.1 hB02) 1
    have c22 : W2.cell? ⟨W.heap.size + 1 + 1, 2, none⟩ = some (.int .u64 a) := blk_cell (blk_below HK.out.2.2.1 hB02) 2
    have HI1 := Lib.hid (Kd.V_below hI1 hB2)
    have HB2 := Lib.hid (And.intro hL2 (And.intro hB02 K9))
    clear hpl hL1 hB1 hB2 hL2 hB02 K9 hI1
    go_wp2_with fail
    refine (rwake_calls a _).mono ?_
    rintro _ w3 ⟨A2, nA, c2, B2, m2, d2, D2, nD2, rfl, hC2, hB3⟩
    obtain ⟨W4, hW4, K11, hB4⟩ : ∃ W4, w3.alloc (.cells #[.slice A2 nA c2, .slice B2 m2 d2] 46) = W4 ∧ W4.heap[w3.heap.size]? = some (.cells #[.slice A2 nA c2, .slice B2 m2 d2] 46 (0, 0)) ∧ Below w3.heap.size w3 W4 := ⟨_, rfl, heap_alloc_new _ _, bOne _⟩
    have hB24 := bAfter hB3 hB4
    have HC2 := Lib.hid (Kd.C_below hC2 hB4)
    have HI4 := Lib.hid (Kd.V_below HI1.out hB24)
    clear hC2 HI1
    have hL4 := HB2.out.1.below hB24
    have hB04 := bAfter HB2.out.2.1 hB24
    have K3 := blk_below HK.out.2.2.2.1 hB04
    have K4 := blk_below HK.out.2.2.2.2.1 hB04
    have K9 := blk_below HB2.out.2.2 hB24
    clear c10 c11 c21 c22 hW2
    have x0 : W4.cell? ⟨w1.heap.size, 0, none⟩ = some (.slice A1 P'.length c1) := blk_cell K9 0
    have x1 : W4.cell? ⟨w1.heap.size, 1, none⟩ = some (.slice B1 Q.length d1) := blk_cell K9 1
    have y0 : W4.cell? ⟨w3.heap.size, 0, none⟩ = some (.slice A2 nA c2) := blk_cell K11 0
    have y1 : W4.cell? ⟨w3.heap.size, 1, none⟩ = some (.slice B2 m2 d2) := blk_cell K11 1
    have F0 := stays x0
    have F1 := stays x1
    have F2 := stays y0
    have F3 := stays y1
    have p0 : W4.cell? ⟨W.heap.size + 1 + 1 + 1, 0, none⟩ = some (.slice none 0 0) := blk_cell K3 0
    have p1 : W4.cell? ⟨W.heap.size + 1 + 1 + 1, 1, none⟩ = some (.slice none 0 0) := blk_cell K3 1
    have q0 : W4.cell? ⟨W.heap.size + 1 + 1 + 1 + 1, 0, none⟩ = some (.slice none 0 0) := blk_cell K4 0
    have q1 : W4.cell? ⟨W.heap.size + 1 + 1 + 1 + 1, 1, none⟩ = some (.slice none 0 0) := blk_cell K4 1
    have fp0 := blk_frozen K3 0
    have fp1 := blk_frozen K3 1
    have fq0 := blk_frozen K4 0
    have fq1 := blk_frozen K4 1
    have hlt9 := blk_lt HB2.out.2.2
    have hw1 : W.heap.size + 5 ≤ w1.heap.size := by have := HK.out.2.2.2.2.2.2; omega
    have hw3 : W.heap.size + 5 ≤ w3.heap.size := by have := hB3.size; omega
    have ne1 : ¬ w1.heap.size = W.heap.size + 1 + 1 + 1 := by omega
    have ne2 : ¬ w1.heap.size = W.heap.size + 1 + 1 + 1 + 1 := by omega
    have ne3 : ¬ w3.heap.size = W.heap.size + 1 + 1 + 1 := by omega
    have ne4 : ¬ w3.heap.size = W.heap.size + 1 + 1 + 1 + 1 := by omega
    have HG := Lib.hid (And.intro hL4 (And.intro hB04 (And.intro K3 (And.intro K4 (And.intro K9 K11)))))
    obtain ⟨rb, hrb⟩ := rsame_f I
    have C9 := Lib.hid fun V (hV : ∀ k, k < W4.heap.size → k ≠ W.heap.size + 1 + 1 + 1 → k ≠ W.heap.size + 1 + 1 + 1 + 1 → V.heap[k]? = W4.heap[k]?) => warpbeamref01_Same.calls 5 D nD I D2 nD2 [] rb V (Kd.V_reads' (Kd.V_step (Kd.V_mono (ok' := fun k => k ≠ W.heap.size + 1 + 1 + 1 ∧ k ≠ W.heap.size + 1 + 1 + 1 + 1) HI4.out (fun k hk => by have hz := HK.out.2.2.2.2.2.2; rcases hk with h | h; have := h.2; exact ⟨by omega, by omega⟩; exact ⟨by omega, by omega⟩)) (fun k hk hlt => hV k hlt hk.1 hk.2))).2.2 (Kd.V_reads' HI4.out).2.1 ⟨rfl, by decide, fun h => by cases h⟩ (Nat.zero_le _) hrb
    clear hB3 hB4 hB24 hL4 hB04 K9 K11 hlt9 hw1 hw3 hrb F0 F1 F2 F3 HC2 HI4
    go_wp2_with fail
    clear hW4
    go_region_with (go_at_call 31; refine (C9.out _ (by intro k h1 h2 h3; repeat first | rfl | exact Below.heap_setCell _ _ _ _ h2 | exact Below.heap_setCell _ _ _ _ h3 | refine (Below.heap_setCell _ _ _ _ h2).trans ?_ | refine (Below.heap_setCell _ _ _ _ h3).trans ?_)).mono ?_; rintro e w' ⟨rfl, hd⟩; obtain ⟨nd, rfl⟩ := hd)
    all_goals
      have HF := Lib.hid (And.intro (HG.out.1.below (pw_below_drewN (Below.refl _ W4) (1 + nd))) (And.intro (pw_below_drewN HG.out.2.1 (1 + nd)) (And.intro (blk_drewN HG.out.2.2.1 (1 + nd)) (blk_drewN HG.out.2.2.2.1 (1 + nd)))))
      go_wp2_with fail
      refine bodyPost_ret (results_cct rfl _ _ (W.heap.size + 1 + 1 + 1) (W.heap.size + 1 + 1 + 1 + 1) 27 46 #[.slice A1 P'.length c1, .slice B1 Q.length d1] #[.slice A2 nA c2, .slice B2 m2 d2] (0, 0) (0, 0) _ _ rfl ?hr1 hu rfl (by kernel_rfl) rfl ?hr2 huR rfl (by kernel_rfl)) rfl ?_
      case hr1 =>
        exact (Below.heap_setCell _ _ _ _ (by show W.heap.size + 1 + 1 + 1 ≠ W.heap.size + 1 + 1 + 1 + 1; omega)).trans ((Below.heap_setCell _ _ _ _ (by show W.heap.size + 1 + 1 + 1 ≠ W.heap.size + 1 + 1 + 1 + 1; omega)).trans (blk_put (blk_put HF.out.2.2.1 0 _ rfl) 1 _ rfl))
      case hr2 =>
        exact blk_put (blk_put ((Below.heap_setCell _ _ _ _ (by show W.heap.size + 1 + 1 + 1 + 1 ≠ W.heap.size + 1 + 1 + 1; omega)).trans ((Below.heap_setCell _ _ _ _ (by show W.heap.size + 1 + 1 + 1 + 1 ≠ W.heap.size + 1 + 1 + 1; omega)).trans HF.out.2.2.2)) 0 _ rfl) 1 _ rfl
      have hz := HK.out.2.2.2.2.2.2
      have hL5 := HF.out.1.mono (ok' := fun k => k ≠ W.heap.size + 1 + 1 + 1 ∧ k ≠ W.heap.size + 1 + 1 + 1 + 1 ∧ (ok k ∨ W.heap.size ≤ k)) (fun k hk => by
        rcases hk with h | h
        · have := h.2
          exact ⟨by omega, by omega, .inl h.1⟩
        · exact ⟨by omega, by omega, .inr (by omega)⟩)
      have hLF := (((hL5.far (p := ⟨W.heap.size + 1 + 1 + 1, 0, none⟩) (fun k hk => hk.1) (.slice A1 P'.length c1)).far (p := ⟨W.heap.size + 1 + 1 + 1, 1, none⟩) (fun k hk => hk.1) (.slice B1 Q.length d1)).far (p := ⟨W.heap.size + 1 + 1 + 1 + 1, 0, none⟩) (fun k hk => hk.2.1) (.slice A2 nA c2)).far (p := ⟨W.heap.size + 1 + 1 + 1 + 1, 1, none⟩) (fun k hk => hk.2.1) (.slice B2 m2 d2)
      have hBF := ((((bAfter HK.out.2.2.2.2.2.1 HF.out.2.1).setCell (p := ⟨W.heap.size + 1 + 1 + 1, 0, none⟩) (by show _ ≤ W.heap.size + 1 + 1 + 1; omega) (.slice A1 P'.length c1)).setCell (p := ⟨W.heap.size + 1 + 1 + 1, 1, none⟩) (by show _ ≤ W.heap.size + 1 + 1 + 1; omega) (.slice B1 Q.length d1)).setCell (p := ⟨W.heap.size + 1 + 1 + 1 + 1, 0, none⟩) (by show _ ≤ W.heap.size + 1 + 1 + 1 + 1; omega) (.slice A2 nA c2)).setCell (p := ⟨W.heap.size + 1 + 1 + 1 + 1, 1, none⟩) (by show _ ≤ W.heap.size + 1 + 1 + 1 + 1; omega) (.slice B2 m2 d2)
      obtain ⟨hl1, hl2⟩ : P'.length ≤ N + 1 ∧ Q.length ≤ N + 1 := ⟨HP.out, by have := HL.out.2.2.2.1; omega⟩
      exact ⟨A1, c1, P', B1, d1, Q, A2, nA, c2, B2, m2, d2, _, rfl, hLF.mono (fun k hk => hk.2.2), hl1, hl2, hBF⟩
  · obtain ⟨Q', e1, hpl, hcall⟩ := ask_some hN id HL.out.2.1 HL.out.2.2.2.1
    refine hcall.mono ?_
    rintro _ w1 ⟨A1, c1, B1, d1, rfl, hL1, hB1⟩
    clear hcall c00 c01 c20 c21 c22 hW0
    have HP := Lib.hid hpl
    obtain ⟨W2, hW2, K9, hB2⟩ : ∃ W2, w1.alloc (.cells #[.slice A1 P.length c1, .slice B1 Q'.length d1] 27) = W2 ∧ W2.heap[w1.heap.size]? = some (.cells #[.slice A1 P.length c1, .slice B1 Q'.length d1] 27 (0, 0)) ∧ Below w1.heap.size w1 W2 := ⟨_, rfl, heap_alloc_new _ _, bOne _⟩
    have hz1 := hB1.size
    have hL2 := hL1.below hB2
    have hB02 := bAfter hB1 hB2
    have c10 : W2.cell? ⟨W.heap.size + 1, 0, none⟩ = some (.slice none 0 0) := blk_cell (blk_below HK.out.2.1 hB02) 0
    have c11 : W2.cell? ⟨W.heap.size + 1, 1, none⟩ = some (.slice none 0 0) := blk_cell (blk_below HK.out.2.1 hB02) 1
    have c21 : W2.cell? ⟨W.heap.size + 1 + 1, 1, none⟩ = some (.int .i64 id) := blk_cell (blk_below HK.out.2.2.1 hB02) 1
    have c22 : W2.cell? ⟨W.heap.size + 1 + 1, 2, none⟩ = some (.int .u64 a) := blk_cell (blk_below HK.out.2.2.1 hB02) 2
    have HB2 := Lib.hid (And.intro hL2 (And.intro hB02 K9))
    clear hpl hL1 hB1 hB2 hL2 hB02 K9
    go_wp2_with fail
    refine (rask_calls id _).mono ?_
    rintro _ w3 ⟨A2, nA, c2, B2, m2, d2, r, rfl, hB3⟩
    obtain ⟨W4, hW4, K11, hB4⟩ : ∃ W4, w3.alloc (.cells #[.slice A2 nA c2, .slice B2 m2 d2] 46) = W4 ∧ W4.heap[w3.heap.size]? = some (.cells #[.slice A2 nA c2, .slice B2 m2 d2] 46 (0, 0)) ∧ Below w3.heap.size w3 W4 := ⟨_, rfl, heap_alloc_new _ _, bOne _⟩
    have hB24 := bAfter hB3 hB4
    have hL4 := HB2.out.1.below hB24
    have hB04 := bAfter HB2.out.2.1 hB24
    have K3 := blk_below HK.out.2.2.2.1 hB04
    have K4 := blk_below HK.out.2.2.2.2.1 hB04
    have K9 := blk_below HB2.out.2.2 hB24
    clear c10 c11 c21 c22 hW2
    have x0 : W4.cell? ⟨w1.heap.size, 0, none⟩ = some (.slice A1 P.length c1) := blk_cell K9 0
    have x1 : W4.cell? ⟨w1.heap.size, 1, none⟩ = some (.slice B1 Q'.length d1) := blk_cell K9 1
    have y0 : W4.cell? ⟨w3.heap.size, 0, none⟩ = some (.slice A2 nA c2) := blk_cell K11 0
    have y1 : W4.cell? ⟨w3.heap.size, 1, none⟩ = some (.slice B2 m2 d2) := blk_cell K11 1
    have p0 : W4.cell? ⟨W.heap.size + 1 + 1 + 1, 0, none⟩ = some (.slice none 0 0) := blk_cell K3 0
    have p1 : W4.cell? ⟨W.heap.size + 1 + 1 + 1, 1, none⟩ = some (.slice none 0 0) := blk_cell K3 1
    have q0 : W4.cell? ⟨W.heap.size + 1 + 1 + 1 + 1, 0, none⟩ = some (.slice none 0 0) := blk_cell K4 0
    have q1 : W4.cell? ⟨W.heap.size + 1 + 1 + 1 + 1, 1, none⟩ = some (.slice none 0 0) := blk_cell K4 1
    have fp0 := blk_frozen K3 0
    have fp1 := blk_frozen K3 1
    have fq0 := blk_frozen K4 0
    have fq1 := blk_frozen K4 1
    have hlt9 := blk_lt HB2.out.2.2
    have hw1 : W.heap.size + 5 ≤ w1.heap.size := by have := HK.out.2.2.2.2.2.2; omega
    have hw3 : W.heap.size + 5 ≤ w3.heap.size := by have := hB3.size; omega
    have ne1 : ¬ w1.heap.size = W.heap.size + 1 + 1 + 1 := by omega
    have ne2 : ¬ w1.heap.size = W.heap.size + 1 + 1 + 1 + 1 := by omega
    have ne3 : ¬ w3.heap.size = W.heap.size + 1 + 1 + 1 := by omega
    have ne4 : ¬ w3.heap.size = W.heap.size + 1 + 1 + 1 + 1 := by omega
    have HF := Lib.hid (And.intro hL4 (And.intro hB04 (And.intro K3 K4)))
    clear hB3 hB4 hB24 hL4 hB04 K3 K4 K9 K11 hlt9 hw1 hw3
    go_wp2_with fail
    go_region
    go_wp2_with fail
    refine bodyPost_ret (results_cct rfl _ _ (W.heap.size + 1 + 1 + 1) (W.heap.size + 1 + 1 + 1 + 1) 27 46 #[.slice A1 P.length c1, .slice B1 Q'.length d1] #[.slice A2 nA c2, .slice B2 m2 d2] (0, 0) (0, 0) _ _ rfl ?hr1 hu rfl (by kernel_rfl) rfl ?hr2 huR rfl (by kernel_rfl)) rfl ?_
    case hr1 =>
      refine blk_drew ?_; exact (Below.heap_setCell _ _ _ _ (by show W.heap.size + 1 + 1 + 1 ≠ W.heap.size + 1 + 1 + 1 + 1; omega)).trans ((Below.heap_setCell _ _ _ _ (by show W.heap.size + 1 + 1 + 1 ≠ W.heap.size + 1 + 1 + 1 + 1; omega)).trans (blk_put (blk_put HF.out.2.2.1 0 _ rfl) 1 _ rfl))
    case hr2 =>
      refine blk_drew ?_; exact blk_put (blk_put ((Below.heap_setCell _ _ _ _ (by show W.heap.size + 1 + 1 + 1 + 1 ≠ W.heap.size + 1 + 1 + 1; omega)).trans ((Below.heap_setCell _ _ _ _ (by show W.heap.size + 1 + 1 + 1 + 1 ≠ W.heap.size + 1 + 1 + 1; omega)).trans HF.out.2.2.2)) 0 _ rfl) 1 _ rfl
    have hz := HK.out.2.2.2.2.2.2
    have hL5 := HF.out.1.mono (ok' := fun k => k ≠ W.heap.size + 1 + 1 + 1 ∧ k ≠ W.heap.size + 1 + 1 + 1 + 1 ∧ (ok k ∨ W.heap.size ≤ k)) (fun k hk => by
      rcases hk with h | h
      · have := h.2
        exact ⟨by omega, by omega, .inl h.1⟩
      · exact ⟨by omega, by omega, .inr (by omega)⟩)
    have hLF := (((hL5.far (p := ⟨W.heap.size + 1 + 1 + 1, 0, none⟩) (fun k hk => hk.1) (.slice A1 P.length c1)).far (p := ⟨W.heap.size + 1 + 1 + 1, 1, none⟩) (fun k hk => hk.1) (.slice B1 Q'.length d1)).far (p := ⟨W.heap.size + 1 + 1 + 1 + 1, 0, none⟩) (fun k hk => hk.2.1) (.slice A2 nA c2)).far (p := ⟨W.heap.size + 1 + 1 + 1 + 1, 1, none⟩) (fun k hk => hk.2.1) (.slice B2 m2 d2)
    have hBF := ((((bAfter HK.out.2.2.2.2.2.1 HF.out.2.1).setCell (p := ⟨W.heap.size + 1 + 1 + 1, 0, none⟩) (by show _ ≤ W.heap.size + 1 + 1 + 1; omega) (.slice A1 P.length c1)).setCell (p := ⟨W.heap.size + 1 + 1 + 1, 1, none⟩) (by show _ ≤ W.heap.size + 1 + 1 + 1; omega) (.slice B1 Q'.length d1)).setCell (p := ⟨W.heap.size + 1 + 1 + 1 + 1, 0, none⟩) (by show _ ≤ W.heap.size + 1 + 1 + 1 + 1; omega) (.slice A2 nA c2)).setCell (p := ⟨W.heap.size + 1 + 1 + 1 + 1, 1, none⟩) (by show _ ≤ W.heap.size + 1 + 1 + 1 + 1; omega) (.slice B2 m2 d2)
    have hLF := hLF.below (below_drew (Below.refl _ _))
    have hBF := below_drew hBF
    obtain ⟨hl1, hl2⟩ : P.length ≤ N + 1 ∧ Q'.length ≤ N + 1 := ⟨by have := HL.out.2.2.1; omega, HP.out⟩
    exact ⟨A1, c1, P, B1, d1, Q', A2, nA, c2, B2, m2, d2, _, rfl, hLF.mono (fun k hk => hk.2.2), hl1, hl2, hBF⟩
  · obtain ⟨Q', e1, hpl, hcall⟩ := pass_some hN id HL.out.2.1 HL.out.2.2.2.1
    refine hcall.mono ?_
    rintro _ w1 ⟨A1, c1, B1, d1, rfl, hL1, hB1⟩
    clear hcall c00 c01 c20 c21 c22 hW0
    have HP := Lib.hid hpl
    obtain ⟨W2, hW2, K9, hB2⟩ : ∃ W2, w1.alloc (.cells #[.slice A1 P.length c1, .slice B1 Q'.length d1] 27) = W2 ∧ W2.heap[w1.heap.size]? = some (.cells #[.slice A1 P.length c1, .slice B1 Q'.length d1] 27 (0, 0)) ∧ Below w1.heap.size w1 W2 := ⟨_, rfl, heap_alloc_new _ _, bOne _⟩
    have hz1 := hB1.size
    have hL2 := hL1.below hB2
    have hB02 := bAfter hB1 hB2
    have c10 : W2.cell? ⟨W.heap.size + 1, 0, none⟩ = some (.slice none 0 0) := blk_cell (blk_below HK.out.2.1 hB02) 0
    have c11 : W2.cell? ⟨W.heap.size + 1, 1, none⟩ = some (.slice none 0 0) := blk_cell (blk_below HK.out.2.1 hB02) 1
    have c21 : W2.cell? ⟨W.heap.size + 1 + 1, 1, none⟩ = some (.int .i64 id) := blk_cell (blk_below HK.out.2.2.1 hB02) 1
    have c22 : W2.cell? ⟨W.heap.size + 1 + 1, 2, none⟩ = some (.int .u64 a) := blk_cell (blk_below HK.out.2.2.1 hB02) 2
    have HB2 := Lib.hid (And.intro hL2 (And.intro hB02 K9))
    clear hpl hL1 hB1 hB2 hL2 hB02 K9
    go_wp2_with fail
    refine (rpass_calls id _).mono ?_
    rintro _ w3 ⟨A2, nA, c2, B2, m2, d2, r, rfl, hB3⟩
    obtain ⟨W4, hW4, K11, hB4⟩ : ∃ W4, w3.alloc (.cells #[.slice A2 nA c2, .slice B2 m2 d2] 46) = W4 ∧ W4.heap[w3.heap.size]? = some (.cells #[.slice A2 nA c2, .slice B2 m2 d2] 46 (0, 0)) ∧ Below w3.heap.size w3 W4 := ⟨_, rfl, heap_alloc_new _ _, bOne _⟩
    have hB24 := bAfter hB3 hB4
    have hL4 := HB2.out.1.below hB24
    have hB04 := bAfter HB2.out.2.1 hB24
    have K3 := blk_below HK.out.2.2.2.1 hB04
    have K4 := blk_below HK.out.2.2.2.2.1 hB04
    have K9 := blk_below HB2.out.2.2 hB24
    clear c10 c11 c21 c22 hW2
    have x0 : W4.cell? ⟨w1.heap.size, 0, none⟩ = some (.slice A1 P.length c1) := blk_cell K9 0
    have x1 : W4.cell? ⟨w1.heap.size, 1, none⟩ = some (.slice B1 Q'.length d1) := blk_cell K9 1
    have y0 : W4.cell? ⟨w3.heap.size, 0, none⟩ = some (.slice A2 nA c2) := blk_cell K11 0
    have y1 : W4.cell? ⟨w3.heap.size, 1, none⟩ = some (.slice B2 m2 d2) := blk_cell K11 1
    have p0 : W4.cell? ⟨W.heap.size + 1 + 1 + 1, 0, none⟩ = some (.slice none 0 0) := blk_cell K3 0
    have p1 : W4.cell? ⟨W.heap.size + 1 + 1 + 1, 1, none⟩ = some (.slice none 0 0) := blk_cell K3 1
    have q0 : W4.cell? ⟨W.heap.size + 1 + 1 + 1 + 1, 0, none⟩ = some (.slice none 0 0) := blk_cell K4 0
    have q1 : W4.cell? ⟨W.heap.size + 1 + 1 + 1 + 1, 1, none⟩ = some (.slice none 0 0) := blk_cell K4 1
    have fp0 := blk_frozen K3 0
    have fp1 := blk_frozen K3 1
    have fq0 := blk_frozen K4 0
    have fq1 := blk_frozen K4 1
    have hlt9 := blk_lt HB2.out.2.2
    have hw1 : W.heap.size + 5 ≤ w1.heap.size := by have := HK.out.2.2.2.2.2.2; omega
    have hw3 : W.heap.size + 5 ≤ w3.heap.size := by have := hB3.size; omega
    have ne1 : ¬ w1.heap.size = W.heap.size + 1 + 1 + 1 := by omega
    have ne2 : ¬ w1.heap.size = W.heap.size + 1 + 1 + 1 + 1 := by omega
    have ne3 : ¬ w3.heap.size = W.heap.size + 1 + 1 + 1 := by omega
    have ne4 : ¬ w3.heap.size = W.heap.size + 1 + 1 + 1 + 1 := by omega
    have HF := Lib.hid (And.intro hL4 (And.intro hB04 (And.intro K3 K4)))
    clear hB3 hB4 hB24 hL4 hB04 K3 K4 K9 K11 hlt9 hw1 hw3
    go_wp2_with fail
    go_region
    go_wp2_with fail
    refine bodyPost_ret (results_cct rfl _ _ (W.heap.size + 1 + 1 + 1) (W.heap.size + 1 + 1 + 1 + 1) 27 46 #[.slice A1 P.length c1, .slice B1 Q'.length d1] #[.slice A2 nA c2, .slice B2 m2 d2] (0, 0) (0, 0) _ _ rfl ?hr1 hu rfl (by kernel_rfl) rfl ?hr2 huR rfl (by kernel_rfl)) rfl ?_
    case hr1 =>
      refine blk_drew ?_; exact (Below.heap_setCell _ _ _ _ (by show W.heap.size + 1 + 1 + 1 ≠ W.heap.size + 1 + 1 + 1 + 1; omega)).trans ((Below.heap_setCell _ _ _ _ (by show W.heap.size + 1 + 1 + 1 ≠ W.heap.size + 1 + 1 + 1 + 1; omega)).trans (blk_put (blk_put HF.out.2.2.1 0 _ rfl) 1 _ rfl))
    case hr2 =>
      refine blk_drew ?_; exact blk_put (blk_put ((Below.heap_setCell _ _ _ _ (by show W.heap.size + 1 + 1 + 1 + 1 ≠ W.heap.size + 1 + 1 + 1; omega)).trans ((Below.heap_setCell _ _ _ _ (by show W.heap.size + 1 + 1 + 1 + 1 ≠ W.heap.size + 1 + 1 + 1; omega)).trans HF.out.2.2.2)) 0 _ rfl) 1 _ rfl
    have hz := HK.out.2.2.2.2.2.2
    have hL5 := HF.out.1.mono (ok' := fun k => k ≠ W.heap.size + 1 + 1 + 1 ∧ k ≠ W.heap.size + 1 + 1 + 1 + 1 ∧ (ok k ∨ W.heap.size ≤ k)) (fun k hk => by
      rcases hk with h | h
      · have := h.2
        exact ⟨by omega, by omega, .inl h.1⟩
      · exact ⟨by omega, by omega, .inr (by omega)⟩)
    have hLF := (((hL5.far (p := ⟨W.heap.size + 1 + 1 + 1, 0, none⟩) (fun k hk => hk.1) (.slice A1 P.length c1)).far (p := ⟨W.heap.size + 1 + 1 + 1, 1, none⟩) (fun k hk => hk.1) (.slice B1 Q'.length d1)).far (p := ⟨W.heap.size + 1 + 1 + 1 + 1, 0, none⟩) (fun k hk => hk.2.1) (.slice A2 nA c2)).far (p := ⟨W.heap.size + 1 + 1 + 1 + 1, 1, none⟩) (fun k hk => hk.2.1) (.slice B2 m2 d2)
    have hBF := ((((bAfter HK.out.2.2.2.2.2.1 HF.out.2.1).setCell (p := ⟨W.heap.size + 1 + 1 + 1, 0, none⟩) (by show _ ≤ W.heap.size + 1 + 1 + 1; omega) (.slice A1 P.length c1)).setCell (p := ⟨W.heap.size + 1 + 1 + 1, 1, none⟩) (by show _ ≤ W.heap.size + 1 + 1 + 1; omega) (.slice B1 Q'.length d1)).setCell (p := ⟨W.heap.size + 1 + 1 + 1 + 1, 0, none⟩) (by show _ ≤ W.heap.size + 1 + 1 + 1 + 1; omega) (.slice A2 nA c2)).setCell (p := ⟨W.heap.size + 1 + 1 + 1 + 1, 1, none⟩) (by show _ ≤ W.heap.size + 1 + 1 + 1 + 1; omega) (.slice B2 m2 d2)
    have hLF := hLF.below (below_drew (Below.refl _ _))
    have hBF := below_drew hBF
    obtain ⟨hl1, hl2⟩ : P.length ≤ N + 1 ∧ Q'.length ≤ N + 1 := ⟨by have := HL.out.2.2.1; omega, HP.out⟩
    exact ⟨A1, c1, P, B1, d1, Q', A2, nA, c2, B2, m2, d2, _, rfl, hLF.mono (fun k hk => hk.2.2), hl1, hl2, hBF⟩

end Go.Proofs.Ytnegpjnjgdnmpaa
