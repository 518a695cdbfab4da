/- Graphs as rows of bits: an edge more, by hand. -/
import Derived.Test.YtkijjgdcbgmglaaWhole
import Derived.Test.YtkijjgdcbgmglaaQ3
import Derived.Laws.BitsLemmas
import Derived.Laws.BitsAllLaws
namespace Go.Proofs.Ytkijjgdcbgmglaa.Q
open Go.RowKit Go.Lib Go.Proofs.Ytkijjgdcbgmglaa Go.Proofs.YtkijjgdcbgmglaaW.PrintWords Go.Proofs.YtkijjgdcbgmglaaW.PrintLast Go.Proofs.YtkijjgdcbgmglaaW.PrintMore
set_option linter.unusedVariables false
set_option linter.unusedSimpArgs false
theorem bit_pow_f : ∀ s : Fin 64, set_bit.f (s.val : Int) = some ((2 ^ s.val : Nat) : Int) := by decide +kernel
theorem bit_pow (s : Nat) (h : s < 64) : set_bit.f (s : Int) = some ((2 ^ s : Nat) : Int) := bit_pow_f ⟨s, h⟩
theorem wraps_u64 (n : Int) (h₀ : 0 ≤ n) (h₁ : n < 2 ^ 64) : IntKind.u64.wrap n = n := by
  simp only [IntKind.wrap, IntKind.bits, IntKind.signed]
  simp
  omega
theorem or_u64 (a b : Nat) (ha : a < 2 ^ 64) (hb : b < 2 ^ 64) : Go.bits .or .u64 (a : Int) (b : Int) = ((a ||| b : Nat) : Int) := (bits_nat .u64 64 (by decide) wraps_u64 a b ha hb).2
theorem and_u64 (a b : Nat) (ha : a < 2 ^ 64) (hb : b < 2 ^ 64) : Go.bits .and .u64 (a : Int) (b : Int) = ((a &&& b : Nat) : Int) := (bits_nat .u64 64 (by decide) wraps_u64 a b ha hb).1
theorem pow64 {s : Nat} (h : s < 64) : 2 ^ s < 2 ^ 64 := Nat.pow_lt_pow_right (by decide) h
theorem with_nat (x s : Nat) (hx : x < 2 ^ 64) (h : s < 64) : set_With.f (x : Int) (s : Int) = some ((x ||| 2 ^ s : Nat) : Int) := by
  unfold set_With.f
  rw [bit_pow s h]
  simp only [Option.bind_some]
  rw [or_u64 x (2 ^ s) hx (pow64 h)]
theorem and_pow (x s : Nat) : ((x &&& 2 ^ s) != 0) = x.testBit s := by
  cases hb : x.testBit s with
  | true =>
    rw [bne_iff_ne]
    intro h
    have : (x &&& 2 ^ s).testBit s = true := by rw [Nat.testBit_and, hb, Nat.testBit_two_pow_self]; rfl
    rw [h] at this
    simp at this
  | false =>
    have : x &&& 2 ^ s = 0 := by
      apply Nat.eq_of_testBit_eq
      intro j
      rw [Nat.testBit_and, Nat.zero_testBit]
      by_cases h : s = j
      · subst h
        rw [hb]
        rfl
      · rw [Nat.testBit_two_pow_of_ne h, Bool.and_false]
    rw [this]
    rfl
theorem has_nat (x s : Nat) (hx : x < 2 ^ 64) (h : s < 64) : set_Has.f (x : Int) (s : Int) = some (x.testBit s) := by
  unfold set_Has.f
  rw [bit_pow s h]
  simp only [Option.bind_some]
  rw [and_u64 x (2 ^ s) hx (pow64 h), ← and_pow]
  congr 1
  rw [Bool.eq_iff_iff, bne_iff_ne, bne_iff_ne]
  omega
theorem node_f : ∀ s : Fin 32, mat_node.f (s.val : Int) = some true := by decide +kernel
theorem node_yes (s : Nat) (h : s < 32) : mat_node.f (s : Int) = some true := node_f ⟨s, h⟩
/-- A graph, as a value. -/
def mc (m : List Nat) : Array Value := (m.map fun x => .int .u64 (x : Int)).toArray
theorem mc_size (m : List Nat) : (mc m).size = m.length := by simp [mc]
theorem mc_get {m : List Nat} {i : Nat} {x : Nat} (h : m[i]? = some x) : (mc m)[i]? = some (.int .u64 (x : Int)) := by simp [mc, h]
theorem mc_set (m : List Nat) (i x : Nat) : (mc m).setIfInBounds i (.int .u64 (x : Int)) = mc (m.set i x) := by simp [mc, List.map_set]
theorem mc_one (m : List Nat) : ∀ v ∈ (mc m).toList, v.oneCell' = true := by
  intro v hv
  simp [mc] at hv
  obtain ⟨x, -, rfl⟩ := hv
  rfl
theorem sz27 : (Try.prog.info? 27).map (·.size) = some 32 := by kernel_rfl
/-- An edge more. -/
def putN (m : List Nat) (a b : Nat) : List Nat := m.set a (m.getD a 0 ||| 2 ^ b)
/-- Words. -/
def Wd (m : List Nat) : Prop := m.length = 32 ∧ ∀ x ∈ m, x < 2 ^ 64
theorem Wd.at_ {m : List Nat} (h : Wd m) {i : Nat} (hi : i < 32) : m[i]? = some (m.getD i 0) ∧ m.getD i 0 < 2 ^ 64 := by
  have hi' : i < m.length := by rw [h.1]; exact hi
  have e : m[i]? = some (m[i]'hi') := List.getElem?_eq_getElem hi'
  rw [List.getD_eq_getElem?_getD, e]
  exact ⟨rfl, h.2 _ (List.mem_of_getElem? e)⟩
theorem Wd.put {m : List Nat} (h : Wd m) {a b : Nat} (ha : a < 32) (hb : b < 64) : Wd (putN m a b) := by
  refine ⟨by unfold putN; rw [List.length_set]; exact h.1, fun x hx => ?_⟩
  rcases List.mem_or_eq_of_mem_set hx with h1 | rfl
  · exact h.2 x h1
  · exact Nat.or_lt_two_pow (h.at_ ha).2 (pow64 hb)
set_option maxRecDepth 100000 in
set_option maxHeartbeats 1000000 in
theorem put_calls (m : List Nat) (a b : Nat) (W : World) (hm : Wd m) (ha : a < 32) (hb : b < 32) (hne : a ≠ b) :
    Calls Try.prog 32 #[.agg (mc m), .int .i64 a, .int .i64 b] W fun e w' => e = .returned (.tuple #[.agg (mc (putN m a b)), .bool true]) ∧ Below W.heap.size W w' := by
  have hu27 := Try.underlying27
  have hu26 := Try.underlying26
  have hN1 := fun V => mat_node.calls (a : Int) true V (node_yes a ha)
  have hN2 := fun V => mat_node.calls (b : Int) true V (node_yes b hb)
  obtain ⟨x, hx⟩ : ∃ x, m.getD a 0 = x := ⟨_, rfl⟩
  have hxa := hm.at_ ha
  rw [hx] at hxa
  have hW := fun V => set_With.calls (x : Int) (b : Int) ((x ||| 2 ^ b : Nat) : Int) V (with_nat x b hxa.2 (by omega))
  have hp : putN m a b = m.set a (x ||| 2 ^ b) := by unfold putN; rw [hx]
  rw [hp]
  obtain ⟨W1, hW1, K1, hB1⟩ : ∃ V, W.alloc (.cells (mc m) 27) = V ∧ V.heap[W.heap.size]? = some (.cells (mc m) 27 (0, 0)) ∧ Below W.heap.size W V := ⟨_, rfl, heap_alloc_new _ _, bOne _⟩
  have hne2 : ((a : Int) == (b : Int)) = false := beq_eq_false_iff_ne.2 (by omega)
  have ha0 : (0 : Int) ≤ a := by omega
  have ha1 : (a : Int) < 32 := by omega
  have HN1 := Lib.hid hN1
  have HN2 := Lib.hid hN2
  have HW := Lib.hid hW
  have HM := Lib.hid (And.intro hm hxa)
  obtain ⟨W2, hW2, K2, hB2⟩ : ∃ V, W1.alloc (.cells #[.int .u64 0, .int .u64 0, .int .u64 0, .int .u64 0, .int .u64 0, .int .u64 0, .int .u64 0, .int .u64 0, .int .u64 0, .int .u64 0, .int .u64 0, .int .u64 0, .int .u64 0, .int .u64 0, .int .u64 0, .int .u64 0, .int .u64 0, .int .u64 0, .int .u64 0, .int .u64 0, .int .u64 0, .int .u64 0, .int .u64 0, .int .u64 0, .int .u64 0, .int .u64 0, .int .u64 0, .int .u64 0, .int .u64 0, .int .u64 0, .int .u64 0, .int .u64 0] 27) = V ∧ V.heap[W1.heap.size]? = some (.cells #[.int .u64 0, .int .u64 0, .int .u64 0, .int .u64 0, .int .u64 0, .int .u64 0, .int .u64 0, .int .u64 0, .int .u64 0, .int .u64 0, .int .u64 0, .int .u64 0, .int .u64 0, .int .u64 0, .int .u64 0, .int .u64 0, .int .u64 0, .int .u64 0, .int .u64 0, .int .u64 0, .int .u64 0, .int .u64 0, .int .u64 0, .int .u64 0, .int .u64 0, .int .u64 0, .int .u64 0, .int .u64 0, .int .u64 0, .int .u64 0, .int .u64 0, .int .u64 0] 27 (0, 0)) ∧ Below W1.heap.size W1 V := ⟨_, rfl, heap_alloc_new _ _, bOne _⟩
  have l12 := blk_lt K1
  have HB := Lib.hid (And.intro (blk_below K1 hB2) (And.intro K2 (bAfter hB1 hB2)))
  have HL := Lib.hid l12
  clear hN1 hN2 hW hm hxa hx hp K1 hB1 hne K2 hB2 l12
  go_enter Try.func32, Try.ntmps32
  go_wp2_with fail
  refine (HN1.out W2).mono ?_
  rintro e w3 ⟨rfl, hD3⟩
  have HD3 := Lib.hid hD3.below
  clear hD3 HN1
  go_wp2_with fail
  refine (HN2.out w3).mono ?_
  rintro e w4 ⟨rfl, hD4⟩
  have HD4 := Lib.hid (bAfter HD3.out hD4.below)
  clear hD4 HN2
  have k4 := blk_below HB.out.1 HD4.out
  have c4 : w4.cell? ⟨W.heap.size, a, none⟩ = some (.int .u64 (x : Int)) := (blk_cell k4 a).trans (mc_get HM.out.2.1)
  have K4 := Lib.hid k4
  clear k4
  go_wp2_with fail
  refine (HW.out w4).mono ?_
  rintro e w5 ⟨rfl, hD5⟩
  have hB5 := bAfter HD4.out hD5.below
  have k5 := blk_below K4.out hD5.below
  have z5 := blk_below HB.out.2.1 hB5
  have c5 : w5.cell? ⟨W.heap.size, a, none⟩ = some (.int .u64 (x : Int)) := (blk_cell k5 a).trans (mc_get HM.out.2.1)
  have f5 := blk_frozen k5 a
  obtain ⟨W6, hW6⟩ : ∃ V, w5.setCell ⟨W.heap.size, a, none⟩ (.int .u64 ((x ||| 2 ^ b : Nat) : Int)) = V := ⟨_, rfl⟩
  have k6 : W6.heap[W.heap.size]? = some (.cells (mc (m.set a (x ||| 2 ^ b))) 27 (0, 0)) := by rw [← hW6, ← mc_set]; exact blk_set k5 a _
  have z6 : W6.heap[W1.heap.size]? = some (.cells #[.int .u64 0, .int .u64 0, .int .u64 0, .int .u64 0, .int .u64 0, .int .u64 0, .int .u64 0, .int .u64 0, .int .u64 0, .int .u64 0, .int .u64 0, .int .u64 0, .int .u64 0, .int .u64 0, .int .u64 0, .int .u64 0, .int .u64 0, .int .u64 0, .int .u64 0, .int .u64 0, .int .u64 0, .int .u64 0, .int .u64 0, .int .u64 0, .int .u64 0, .int .u64 0, .int .u64 0, .int .u64 0, .int .u64 0, .int .u64 0, .int .u64 0, .int .u64 0] 27 (0, 0)) := by rw [← hW6]; exact blk_far z5 (show W1.heap.size ≠ W.heap.size by have := HL.out; omega) _
  have hB6 : Below W.heap.size W W6 := by rw [← hW6]; exact (bAfter HB.out.2.2 hB5).setCell (p := ⟨W.heap.size, a, none⟩) (Nat.le_refl _) _
  have hs : (mc (m.set a (x ||| 2 ^ b))).size = 32 := by rw [mc_size, List.length_set]; exact HM.out.1.1
  have hL6 := ld_whole (P := Try.prog) (ty := 27) k6 hu27 rfl (by rw [sz27, hs])
  obtain ⟨W7, hS7, K7, hO7⟩ := st_whole (P := Try.prog) (ty := 27) (vs := (mc (m.set a (x ||| 2 ^ b))).toList) z6 (by simp only [Array.length_toList]; rw [hs]; rfl) (by simp only [Array.length_toList]; rw [sz27, hs]) (mc_one _)
  simp only [Array.toArray_toList] at hS7 K7
  have HR := Lib.hid (And.intro K7 (And.intro hs (hB6.trans (hO7.below (show W.heap.size ≤ W1.heap.size by have := HL.out; omega) hB6.size))))
  clear hD5 hB5 k5 z5 k6 z6 hB6 hs K7 hO7
  go_wp2_with (first | refine wpList_ld rfl rfl hL6 ?_ | refine wpList_st rfl rfl hS7 ?_)
  refine bodyPost_ret (results_ct rfl _ rfl HR.out.1 hu27 rfl (by rw [sz27, HR.out.2.1])) rfl ⟨rfl, HR.out.2.2⟩
end Go.Proofs.Ytkijjgdcbgmglaa.Q
