/- A machine that no call made, by hand: what each method answers; the law's walk. -/
import Derived.Test.YtkecbdeekpbbjaaHAlive
namespace Go.Proofs.Ytkecbdeekpbbjaa.Q
open Go.RowKit Go.Lib Go.Proofs.Ytkecbdeekpbbjaa Go.Proofs.YtkecbdeekpbbjaaW.PrintWords Go.Proofs.YtkecbdeekpbbjaaW.PrintLast Go.Proofs.YtkecbdeekpbbjaaW.PrintMore
set_option linter.unusedVariables false
set_option linter.unusedSimpArgs false

/-- A pointer to no machine, or to one that is not made. -/
def Nobody (W : World) (p : Value) : Prop := p = .pointer none ∨ ∃ b, p = ptr b ∧ W.heap[b]? = some (.cells #[.bool false, .slice none 0 0, .slice none 0 0, .slice none 0 0] 60 (0, 0))
theorem Nobody.below {W W' : World} {p : Value} (h : Nobody W p) (hB : Below W.heap.size W W') : Nobody W' p := by
  rcases h with h | ⟨b, h1, h2⟩
  · exact .inl h
  · exact .inr ⟨b, h1, blk_below h2 hB⟩
theorem good_no {W : World} {p : Value} (h : Nobody W p) : Calls Try.prog 26 #[p] W fun e w' => e = .returned (.bool false) ∧ W = w' := by
  rcases h with rfl | ⟨b, rfl, h⟩
  · exact (good_nil W).mono fun e w' hh => ⟨hh.1, hh.2.symm⟩
  · exact (good_made W b false _ _ _ h).mono fun e w' hh => ⟨hh.1, hh.2.symm⟩
set_option maxRecDepth 100000 in
theorem find_no {W : World} {p : Value} (h : Nobody W p) (id : Int) : Calls Try.prog 32 #[p, .int .i64 id] W fun e w' => e = .returned (.tuple #[.pointer none, .int .i64 1]) ∧ W = w' := by
  have C := Lib.hid (good_no h)
  clear h
  go_enter Try.func32, Try.ntmps32
  go_wp2_with fail
  refine C.out.mono ?_
  rintro e w' ⟨rfl, rfl⟩
  go_wp2_with fail
  go_ret2
  exact ⟨rfl, rfl⟩
set_option maxRecDepth 100000 in
theorem start_no {W : World} {p : Value} (h : Nobody W p) : Calls Try.prog 24 #[p, .slice none 0 0] W fun e w' => e = .returned (.tuple #[.int .i64 0, .int .i64 1]) ∧ W = w' := by
  have C := Lib.hid (good_no h)
  clear h
  go_enter Try.func24, Try.ntmps24
  go_wp2_with fail
  refine C.out.mono ?_
  rintro e w' ⟨rfl, rfl⟩
  go_wp2_with fail
  go_ret2
  exact ⟨rfl, rfl⟩
set_option maxRecDepth 100000 in
theorem step_no {W : World} {p : Value} (h : Nobody W p) (id : Int) : Calls Try.prog 20 #[p, .int .i64 id] W fun e w' => e = .returned (.tuple #[.int .i64 0, .int .i64 1]) ∧ Below W.heap.size W w' := by
  obtain ⟨W1, hW1, K1, hB1⟩ : ∃ W1, W.alloc (.cells #[.int .i64 id] 3) = W1 ∧ W1.heap[W.heap.size]? = some (.cells #[.int .i64 id] 3 (0, 0)) ∧ Below W.heap.size W W1 := ⟨_, rfl, heap_alloc_new _ _, bOne _⟩
  have C := Lib.hid (find_no (h.below hB1) id)
  have q0 := blk_cell K1 0
  have HB := Lib.hid hB1
  clear h K1 hB1
  go_enter Try.func20, Try.ntmps20
  go_wp2_with fail
  refine C.out.mono ?_
  rintro e w' ⟨rfl, rfl⟩
  go_wp2_with fail
  go_ret2
  exact ⟨rfl, HB.out⟩
set_option maxRecDepth 100000 in
theorem state_no {W : World} {p : Value} (h : Nobody W p) (id : Int) : Calls Try.prog 22 #[p, .int .i64 id] W fun e w' => e = .returned (.tuple #[.int .i64 0, .int .i64 1]) ∧ W = w' := by
  have C := Lib.hid (find_no h id)
  clear h
  go_enter Try.func22, Try.ntmps22
  go_wp2_with fail
  refine C.out.mono ?_
  rintro e w' ⟨rfl, rfl⟩
  go_wp2_with fail
  go_ret2
  exact ⟨rfl, rfl⟩
set_option maxRecDepth 100000 in
theorem variable_no {W : World} {p : Value} (h : Nobody W p) (x : Int) : Calls Try.prog 31 #[p, .int .i64 x] W fun e w' => e = .returned (.tuple #[.agg #[.int .i64 0, .int .i64 0, .int .i64 0], .int .i64 1]) ∧ Below W.heap.size W w' := by
  have hu76 := Try.underlying76
  have hu44 := Try.underlying44
  obtain ⟨W1, hW1, K1, hB1⟩ : ∃ W1, W.alloc (.cells #[.int .i64 0, .int .i64 0, .int .i64 0] 76) = W1 ∧ W1.heap[W.heap.size]? = some (.cells #[.int .i64 0, .int .i64 0, .int .i64 0] 76 (0, 0)) ∧ Below W.heap.size W W1 := ⟨_, rfl, heap_alloc_new _ _, bOne _⟩
  have C := Lib.hid (good_no (h.below hB1))
  have f0 := blk_frozen K1 0
  have f1 := blk_frozen K1 1
  have f2 := blk_frozen K1 2
  have d0 := blk_cell K1 0
  have d1 := blk_cell K1 1
  have d2 := blk_cell K1 2
  have P := Lib.hid (put3 (.int .i64 0) (.int .i64 0) (.int .i64 0) K1 (Nat.le_refl _))
  have HB := Lib.hid hB1
  clear h K1 hB1
  go_enter Try.func31, Try.ntmps31
  go_wp2_with fail
  refine C.out.mono ?_
  rintro e w' ⟨rfl, rfl⟩
  go_wp2_with fail
  refine bodyPost_ret (results_ct rfl _ _ W.heap.size 76 #[.int .i64 0, .int .i64 0, .int .i64 0] (0, 0) _ rfl P.out.1 hu76 rfl (by kernel_rfl)) rfl ?_
  exact ⟨rfl, HB.out.trans P.out.2⟩
set_option maxRecDepth 100000 in
theorem lock_no {W : World} {p : Value} (h : Nobody W p) (x : Int) : Calls Try.prog 19 #[p, .int .i64 x] W fun e w' => e = .returned (.tuple #[.int .i64 0, .int .i64 1]) ∧ Below W.heap.size W w' := by
  have hu := Try.underlying76
  have C := Lib.hid (variable_no h x)
  clear h
  go_enter Try.func19, Try.ntmps19
  go_wp2_with fail
  refine C.out.mono ?_
  rintro e w1 ⟨rfl, hB⟩
  have HB := Lib.hid (bAfter hB (bOne (w := w1) (.cells #[.int .i64 0, .int .i64 0, .int .i64 0] 76)))
  clear hB
  go_wp2_with fail
  go_ret2
  exact ⟨rfl, HB.out⟩
set_option maxRecDepth 100000 in
theorem read_free (W : World) (p : Value) (x v0 v1 v2 er : Int) (hv : v2 = 0) (hC : ∀ W1, Below W.heap.size W W1 → Calls Try.prog 31 #[p, .int .i64 x] W1 fun e w' => e = .returned (.tuple #[.agg #[.int .i64 v0, .int .i64 v1, .int .i64 v2], .int .i64 er]) ∧ Below W1.heap.size W1 w') :
    Calls Try.prog 21 #[p, .int .i64 x] W fun e w' => e = .returned (.tuple #[.agg #[.int .i64 v0, .int .i64 v1], .int .i64 er]) ∧ Below W.heap.size W w' := by
  have hu := Try.underlying76
  have hu44 := Try.underlying44
  obtain ⟨W1, hW1, K1, hB1⟩ : ∃ W1, W.alloc (.cells #[.int .i64 0, .int .i64 0] 44) = W1 ∧ W1.heap[W.heap.size]? = some (.cells #[.int .i64 0, .int .i64 0] 44 (0, 0)) ∧ Below W.heap.size W W1 := ⟨_, rfl, heap_alloc_new _ _, bOne _⟩
  have C := Lib.hid (hC W1 hB1)
  have HK := Lib.hid (And.intro K1 hB1)
  clear K1 hB1 hC
  have hvb : (v2 != 0) = false := bne_eq_false_iff_eq.mpr hv
  clear hv
  go_enter Try.func21, Try.ntmps21
  go_wp2_with fail
  refine C.out.mono ?_
  rintro e w1 ⟨rfl, hB⟩
  clear hW1
  obtain ⟨W2, hW2, K2, K3, hB2⟩ : ∃ W2, w1.alloc (.cells #[.int .i64 v0, .int .i64 v1, .int .i64 v2] 76) = W2 ∧ W2.heap[w1.heap.size]? = some (.cells #[.int .i64 v0, .int .i64 v1, .int .i64 v2] 76 (0, 0)) ∧ W2.heap[W.heap.size]? = some (.cells #[.int .i64 0, .int .i64 0] 44 (0, 0)) ∧ Below W.heap.size W W2 := ⟨_, rfl, heap_alloc_new _ _, blk_alloc (blk_below HK.out.1 hB) _, (HK.out.2.trans (hB.mono HK.out.2.size)).alloc (HK.out.2.trans (hB.mono HK.out.2.size)).size _⟩
  have a0 := blk_cell K2 0
  have a1 := blk_cell K2 1
  have a2 := blk_cell K2 2
  have d0 := blk_cell K3 0
  have d1 := blk_cell K3 1
  have f0 := blk_frozen K3 0
  have f1 := blk_frozen K3 1
  have P := Lib.hid (And.intro (blk_put (blk_put K3 0 (.int .i64 v0) rfl) 1 (.int .i64 v1) rfl) ((hB2.setCell (p := ⟨W.heap.size, 0, none⟩) (Nat.le_refl _) (.int .i64 v0)).setCell (p := ⟨W.heap.size, 1, none⟩) (Nat.le_refl _) (.int .i64 v1)))
  clear hB K2 K3 hB2
  go_wp2_with fail
  refine bodyPost_ret (results_ct rfl _ _ W.heap.size 44 #[.int .i64 v0, .int .i64 v1] (0, 0) _ rfl P.out.1 hu44 rfl (by kernel_rfl)) rfl ?_
  exact ⟨rfl, P.out.2⟩
theorem read_no {W : World} {p : Value} (h : Nobody W p) (x : Int) : Calls Try.prog 21 #[p, .int .i64 x] W fun e w' => e = .returned (.tuple #[.agg #[.int .i64 0, .int .i64 0], .int .i64 1]) ∧ Below W.heap.size W w' :=
  read_free W p x 0 0 0 1 rfl fun W1 hB => variable_no (h.below hB) x
set_option maxRecDepth 100000 in
theorem values_no {W : World} {p : Value} (h : Nobody W p) : Calls Try.prog 17 #[p] W fun e w' => e = .returned (.slice none 0 0) ∧ W = w' := by
  have C := Lib.hid (good_no h)
  clear h
  go_enter Try.func17, Try.ntmps17
  go_wp2_with fail
  refine C.out.mono ?_
  rintro e w' ⟨rfl, rfl⟩
  go_wp2_with fail
  go_ret
  exact ⟨rfl, rfl⟩
set_option maxRecDepth 100000 in
theorem decided_no {W : World} {p : Value} (h : Nobody W p) : Calls Try.prog 13 #[p] W fun e w' => e = .returned (.slice none 0 0) ∧ W = w' := by
  have C := Lib.hid (good_no h)
  clear h
  go_enter Try.func13, Try.ntmps13
  go_wp2_with fail
  refine C.out.mono ?_
  rintro e w' ⟨rfl, rfl⟩
  go_wp2_with fail
  go_ret
  exact ⟨rfl, rfl⟩

set_option maxHeartbeats 2000000 in
set_option maxRecDepth 100000 in
theorem nobody_calls (id x : Int) (w : World) : Calls Try.prog 8 #[.int .i64 id, .int .i64 x] w fun e w' => e = .returned (.bool true) ∧ Below w.heap.size w w' := by
  have hu44 := Try.underlying44
  have HA := Lib.hid (alive_calls w)
  go_enter Try.func8, Try.ntmps8
  go_wp2_with fail
  refine HA.out.mono ?_
  rintro e w1 ⟨rfl, hB⟩
  obtain ⟨W2, hW2, K2, K3, hB2, hz2⟩ := two_named w1 (.cells #[.bool false, .slice none 0 0, .slice none 0 0, .slice none 0 0] 60) (.cells #[.pointer none, ptr w1.heap.size] 26)
  have H2 := Lib.hid (And.intro (bAfter hB hB2) (And.intro K2 K3))
  clear hB K2 K3 hB2 HA hz2
  go_wp2_with fail
  go_loopg [6, 7, 8, 9, 10, 11, 12, 13, 14, 15, 16, 23] 2 (fun kq _ _ _ _ _ _ _ _ _ _ _ v23 W => ∃ i : Nat, v23 = .int .i64 i ∧ Hid (kq + i = 2) ∧ Hid (Below W2.heap.size W2 W))
  case atStart => exact ⟨0, rfl, rfl, Lib.hid (Below.refl _ _)⟩
  case round =>
    obtain ⟨i, rfl, hk, hJ⟩ := hrel
    by_cases hi : i < 2
    · have hi2 : (i : Int) < 2 := by omega
      have hi0 : (0 : Int) ≤ i := by omega
      obtain ⟨p, hp, hN⟩ : ∃ p, (#[.pointer none, ptr w1.heap.size] : Array Value)[i]? = some p ∧ Nobody W2 p := by
        rcases i with _ | _ | i
        · exact ⟨_, rfl, .inl rfl⟩
        · exact ⟨_, rfl, .inr ⟨_, rfl, H2.out.2.1⟩⟩
        · omega
      have a0 : wr.cell? ⟨w1.heap.size + 1, i, none⟩ = some p := (blk_cell (blk_below H2.out.2.2 hJ.out) i).trans hp
      have HN := Lib.hid (hN.below hJ.out)
      clear hp hN
      go_wp2_with fail
      refine (start_no HN.out).mono ?_
      rintro e w3 ⟨rfl, rfl⟩
      go_wp2_with fail
      refine (step_no HN.out id).mono ?_
      rintro e w3 ⟨rfl, hB3⟩
      have H3 := Lib.hid (And.intro hB3 (HN.out.below hB3))
      clear hB3
      go_wp2_with fail
      refine (state_no H3.out.2 id).mono ?_
      rintro e w' ⟨rfl, rfl⟩
      go_wp2_with fail
      refine (lock_no H3.out.2 x).mono ?_
      rintro e w4 ⟨rfl, hB4⟩
      have H4 := Lib.hid (And.intro (bAfter H3.out.1 hB4) (H3.out.2.below hB4))
      clear hB4
      go_wp2_with fail
      refine (read_no H4.out.2 x).mono ?_
      rintro e w5 ⟨rfl, hB5⟩
      obtain ⟨W6, hW6, K6, hB6⟩ : ∃ W6, w5.alloc (.cells #[.int .i64 0, .int .i64 0] 44) = W6 ∧ W6.heap[w5.heap.size]? = some (.cells #[.int .i64 0, .int .i64 0] 44 (0, 0)) ∧ Below w5.heap.size w5 W6 := ⟨_, rfl, heap_alloc_new _ _, bOne _⟩
      obtain ⟨W7, hW7, hB7⟩ : ∃ W7, (W6.setCell ⟨w5.heap.size, 0, none⟩ (.int .i64 0)).setCell ⟨w5.heap.size, 1, none⟩ (.int .i64 0) = W7 ∧ Below w5.heap.size w5 W7 := ⟨_, rfl, (hB6.setCell (p := ⟨w5.heap.size, 0, none⟩) (Nat.le_refl _) _).setCell (p := ⟨w5.heap.size, 1, none⟩) (Nat.le_refl _) _⟩
      have d0 := blk_cell K6 0
      have d1 := blk_cell K6 1
      have f0 := blk_frozen K6 0
      have f1 := blk_frozen K6 1
      have H6 := Lib.hid (And.intro (bAfter (bAfter H4.out.1 hB5) hB7) ((H4.out.2.below hB5).below hB7))
      clear hB5 hB6 hB7 K6
      go_wp2_with fail
      refine (values_no H6.out.2).mono ?_
      rintro e w' ⟨rfl, rfl⟩
      go_wp2_with fail
      refine (decided_no H6.out.2).mono ?_
      rintro e w' ⟨rfl, rfl⟩
      go_wp2_with fail
      obtain ⟨k1, rfl⟩ : ∃ q, gk = q + 1 := ⟨gk - 1, by have := hk.out; omega⟩
      go_roundg k1
      case measure => omega
      case rel => exact ⟨i + 1, by first | rfl | (congr 1), Lib.hid (by have := hk.out; omega), Lib.hid (bAfter hJ.out H6.out.1)⟩
    · have hi2 : ¬ (i : Int) < 2 := by omega
      go_wp2_with fail
      go_ret
      exact ⟨rfl, bAfter H2.out.1 hJ.out⟩
end Go.Proofs.Ytkecbdeekpbbjaa.Q
namespace Go.Proofs.Ytkecbdeekpbbjaa
open Go.RowKit Go.ChangeShapes Go.WideShapes Go.Proofs.Ytkecbdeekpbbjaa.Q Go.Proofs.YtkecbdeekpbbjaaW.PrintWords Go.Proofs.YtkecbdeekpbbjaaW.PrintLast Go.Proofs.YtkecbdeekpbbjaaW.PrintMore
set_option maxRecDepth 100000 in
theorem walk_MicroNobody {H : Type} {enc : TypeId × Value → H} (W : World) (base : Nat) (v0 : Value) (d0 : DataW H) (p0 : List MemPlace) (o0 : Value.okWide Try.prog W .any base 3 v0) (h0 : DataW.Trod enc Try.prog W 0 (fun _ => true) true 3 v0 d0 p0) (v1 : Value) (d1 : DataW H) (p1 : List MemPlace) (o1 : Value.okWide Try.prog W .any base 3 v1) (h1 : DataW.Trod enc Try.prog W 0 (fun _ => true) true 3 v1 d1 p1) {P : Prop} (_hsz : P) :
    Calls Try.prog 8 #[v0, v1] W fun e w' => e = .returned (.bool true) ∧ Below W.heap.size W w' := by
  obtain ⟨a, rfl, _, _, _⟩ := open_int Try.underlying3 o0 h0
  obtain ⟨b, rfl, _, _, _⟩ := open_int Try.underlying3 o1 h1
  exact nobody_calls a b W
end Go.Proofs.Ytkecbdeekpbbjaa
