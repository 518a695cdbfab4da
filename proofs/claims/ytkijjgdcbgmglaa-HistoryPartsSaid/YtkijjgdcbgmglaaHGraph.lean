/- Graphs as rows of bits: an edge more, by hand. -/
import Derived.Test.YtkijjgdcbgmglaaWhole
import Derived.Test.YtkijjgdcbgmglaaQ3
import Derived.Laws.BitsLemmas
import Derived.Laws.BitsAllLaws
import Derived.Test.YtkijjgdcbgmglaaHRight
import Derived.Test.YtkijjgdcbgmglaaHAhead
/-! Graphs as rows of bits: an edge more, by hand. -/
namespace Go.Proofs.Ytkijjgdcbgmglaa.Q
open Go.RowKit Go.Lib Go.Proofs.Ytkijjgdcbgmglaa Go.Proofs.YtkijjgdcbgmglaaW.PrintWords Go.Proofs.YtkijjgdcbgmglaaW.PrintLast Go.Proofs.YtkijjgdcbgmglaaW.PrintMore
set_option linter.unusedVariables false
set_option linter.unusedSimpArgs false
theorem bit_pow_f : ∀ s : Fin 64, set_bit.f (s.val : Int) = some ((2 ^ s.val : Nat) : Int) := by decide +kernel
theorem bit_pow (s : Nat) (h : s < 64) : set_bit.f (s : Int) = some ((2 ^ s : Nat) : Int) := bit_pow_f ⟨s, h⟩
theorem wraps_u64 (n : Int) (h₀ : 0 ≤ n) (h₁ : n < 2 ^ 64) : IntKind.u64.wrap n = n := by
  simp only [IntKind.wrap, IntKind.bits, IntKind.signed]
  simp
  omega
theorem or_u64 (a b : Nat) (ha : a < 2 ^ 64) (hb : b < 2 ^ 64) : Go.bits .or .u64 (a : Int) (b : Int) = ((a ||| b : Nat) : Int) := (bits_nat .u64 64 (by decide) wraps_u64 a b ha hb).2
theorem and_u64 (a b : Nat) (ha : a < 2 ^ 64) (hb : b < 2 ^ 64) : Go.bits .and .u64 (a : Int) (b : Int) = ((a &&& b : Nat) : Int) := (bits_nat .u64 64 (by decide) wraps_u64 a b ha hb).1
theorem pow64 {s : Nat} (h : s < 64) : 2 ^ s < 2 ^ 64 := Nat.pow_lt_pow_right (by decide) h
theorem with_nat (x s : Nat) (hx : x < 2 ^ 64) (h : s < 64) : set_With.f (x : Int) (s : Int) = some ((x ||| 2 ^ s : Nat) : Int) := by
  unfold set_With.f
  rw [bit_pow s h]
  simp only [Option.bind_some]
  rw [or_u64 x (2 ^ s) hx (pow64 h)]
theorem and_pow (x s : Nat) : ((x &&& 2 ^ s) != 0) = x.testBit s := by
  cases hb : x.testBit s with
  | true =>
    rw [bne_iff_ne]
    intro h
    have : (x &&& 2 ^ s).testBit s = true := by rw [Nat.testBit_and, hb, Nat.testBit_two_pow_self]; rfl
    rw [h] at this
    simp at this
  | false =>
    have : x &&& 2 ^ s = 0 := by
      apply Nat.eq_of_testBit_eq
      intro j
      rw [Nat.testBit_and, Nat.zero_testBit]
      by_cases h : s = j
      · subst h
        rw [hb]
        rfl
      · rw [Nat.testBit_two_pow_of_ne h, Bool.and_false]
    rw [this]
    rfl
theorem has_nat (x s : Nat) (hx : x < 2 ^ 64) (h : s < 64) : set_Has.f (x : Int) (s : Int) = some (x.testBit s) := by
  unfold set_Has.f
  rw [bit_pow s h]
  simp only [Option.bind_some]
  rw [and_u64 x (2 ^ s) hx (pow64 h), ← and_pow]
  congr 1
  rw [Bool.eq_iff_iff, bne_iff_ne, bne_iff_ne]
  omega
theorem node_f : ∀ s : Fin 32, mat_node.f (s.val : Int) = some true := by decide +kernel
theorem node_yes (s : Nat) (h : s < 32) : mat_node.f (s : Int) = some true := node_f ⟨s, h⟩
/-- A graph, as a value. -/
def mc (m : List Nat) : Array Value := (m.map fun x => .int .u64 (x : Int)).toArray
theorem mc_size (m : List Nat) : (mc m).size = m.length := by simp [mc]
theorem mc_get {m : List Nat} {i : Nat} {x : Nat} (h : m[i]? = some x) : (mc m)[i]? = some (.int .u64 (x : Int)) := by simp [mc, h]
theorem mc_set (m : List Nat) (i x : Nat) : (mc m).setIfInBounds i (.int .u64 (x : Int)) = mc (m.set i x) := by simp [mc, List.map_set]
theorem mc_one (m : List Nat) : ∀ v ∈ (mc m).toList, v.oneCell' = true := by
  intro v hv
  simp [mc] at hv
  obtain ⟨x, -, rfl⟩ := hv
  rfl
theorem sz27 : (Try.prog.info? 27).map (·.size) = some 32 := by kernel_rfl
/-- An edge more. -/
def putN (m : List Nat) (a b : Nat) : List Nat := m.set a (m.getD a 0 ||| 2 ^ b)
/-- Words. -/
def Wd (m : List Nat) : Prop := m.length = 32 ∧ ∀ x ∈ m, x < 2 ^ 64
theorem Wd.at_ {m : List Nat} (h : Wd m) {i : Nat} (hi : i < 32) : m[i]? = some (m.getD i 0) ∧ m.getD i 0 < 2 ^ 64 := by
  have hi' : i < m.length := by rw [h.1]; exact hi
  have e : m[i]? = some (m[i]'hi') := List.getElem?_eq_getElem hi'
  rw [List.getD_eq_getElem?_getD, e]
  exact ⟨rfl, h.2 _ (List.mem_of_getElem? e)⟩
theorem Wd.put {m : List Nat} (h : Wd m) {a b : Nat} (ha : a < 32) (hb : b < 64) : Wd (putN m a b) := by
  refine ⟨by unfold putN; rw [List.length_set]; exact h.1, fun x hx => ?_⟩
  rcases List.mem_or_eq_of_mem_set hx with h1 | rfl
  · exact h.2 x h1
  · exact Nat.or_lt_two_pow (h.at_ ha).2 (pow64 hb)
set_option maxRecDepth 100000 in
set_option maxHeartbeats 1000000 in
theorem put_calls (m : List Nat) (a b : Nat) (W : World) (hm : Wd m) (ha : a < 32) (hb : b < 32) (hne : a ≠ b) :
    Calls Try.prog 32 #[.agg (mc m), .int .i64 a, .int .i64 b] W fun e w' => e = .returned (.tuple #[.agg (mc (putN m a b)), .bool true]) ∧ Below W.heap.size W w' := by
  have hu27 := Try.underlying27
  have hu26 := Try.underlying26
  have hN1 := fun V => mat_node.calls (a : Int) true V (node_yes a ha)
  have hN2 := fun V => mat_node.calls (b : Int) true V (node_yes b hb)
  obtain ⟨x, hx⟩ : ∃ x, m.getD a 0 = x := ⟨_, rfl⟩
  have hxa := hm.at_ ha
  rw [hx] at hxa
  have hW := fun V => set_With.calls (x : Int) (b : Int) ((x ||| 2 ^ b : Nat) : Int) V (with_nat x b hxa.2 (by omega))
  have hp : putN m a b = m.set a (x ||| 2 ^ b) := by unfold putN; rw [hx]
  rw [hp]
  obtain ⟨W1, hW1, K1, hB1⟩ : ∃ V, W.alloc (.cells (mc m) 27) = V ∧ V.heap[W.heap.size]? = some (.cells (mc m) 27 (0, 0)) ∧ Below W.heap.size W V := ⟨_, rfl, heap_alloc_new _ _, bOne _⟩
  have hne2 : ((a : Int) == (b : Int)) = false := beq_eq_false_iff_ne.2 (by omega)
  have ha0 : (0 : Int) ≤ a := by omega
  have ha1 : (a : Int) < 32 := by omega
  have HN1 := Lib.hid hN1
  have HN2 := Lib.hid hN2
  have HW := Lib.hid hW
  have HM := Lib.hid (And.intro hm hxa)
  obtain ⟨W2, hW2, K2, hB2⟩ : ∃ V, W1.alloc (.cells #[.int .u64 0, .int .u64 0, .int .u64 0, .int .u64 0, .int .u64 0, .int .u64 0, .int .u64 0, .int .u64 0, .int .u64 0, .int .u64 0, .int .u64 0, .int .u64 0, .int .u64 0, .int .u64 0, .int .u64 0, .int .u64 0, .int .u64 0, .int .u64 0, .int .u64 0, .int .u64 0, .int .u64 0, .int .u64 0, .int .u64 0, .int .u64 0, .int .u64 0, .int .u64 0, .int .u64 0, .int .u64 0, .int .u64 0, .int .u64 0, .int .u64 0, .int .u64 0] 27) = V ∧ V.heap[W1.heap.size]? = some (.cells #[.int .u64 0, .int .u64 0, .int .u64 0, .int .u64 0, .int .u64 0, .int .u64 0, .int .u64 0, .int .u64 0, .int .u64 0, .int .u64 0, .int .u64 0, .int .u64 0, .int .u64 0, .int .u64 0, .int .u64 0, .int .u64 0, .int .u64 0, .int .u64 0, .int .u64 0, .int .u64 0, .int .u64 0, .int .u64 0, .int .u64 0, .int .u64 0, .int .u64 0, .int .u64 0, .int .u64 0, .int .u64 0, .int .u64 0, .int .u64 0, .int .u64 0, .int .u64 0] 27 (0, 0)) ∧ Below W1.heap.size W1 V := ⟨_, rfl, heap_alloc_new _ _, bOne _⟩
  have l12 := blk_lt K1
  have HB := Lib.hid (And.intro (blk_below K1 hB2) (And.intro K2 (bAfter hB1 hB2)))
  have HL := Lib.hid l12
  clear hN1 hN2 hW hm hxa hx hp K1 hB1 hne K2 hB2 l12
  go_enter Try.func32, Try.ntmps32
  go_wp2_with fail
  refine (HN1.out W2).mono ?_
  rintro e w3 ⟨rfl, hD3⟩
  have HD3 := Lib.hid hD3.below
  clear hD3 HN1
  go_wp2_with fail
  refine (HN2.out w3).mono ?_
  rintro e w4 ⟨rfl, hD4⟩
  have HD4 := Lib.hid (bAfter HD3.out hD4.below)
  clear hD4 HN2
  have k4 := blk_below HB.out.1 HD4.out
  have c4 : w4.cell? ⟨W.heap.size, a, none⟩ = some (.int .u64 (x : Int)) := (blk_cell k4 a).trans (mc_get HM.out.2.1)
  have K4 := Lib.hid k4
  clear k4
  go_wp2_with fail
  refine (HW.out w4).mono ?_
  rintro e w5 ⟨rfl, hD5⟩
  have hB5 := bAfter HD4.out hD5.below
  have k5 := blk_below K4.out hD5.below
  have z5 := blk_below HB.out.2.1 hB5
  have c5 : w5.cell? ⟨W.heap.size, a, none⟩ = some (.int .u64 (x : Int)) := (blk_cell k5 a).trans (mc_get HM.out.2.1)
  have f5 := blk_frozen k5 a
  obtain ⟨W6, hW6⟩ : ∃ V, w5.setCell ⟨W.heap.size, a, none⟩ (.int .u64 ((x ||| 2 ^ b : Nat) : Int)) = V := ⟨_, rfl⟩
  have k6 : W6.heap[W.heap.size]? = some (.cells (mc (m.set a (x ||| 2 ^ b))) 27 (0, 0)) := by rw [← hW6, ← mc_set]; exact blk_set k5 a _
  have z6 : W6.heap[W1.heap.size]? = some (.cells #[.int .u64 0, .int .u64 0, .int .u64 0, .int .u64 0, .int .u64 0, .int .u64 0, .int .u64 0, .int .u64 0, .int .u64 0, .int .u64 0, .int .u64 0, .int .u64 0, .int .u64 0, .int .u64 0, .int .u64 0, .int .u64 0, .int .u64 0, .int .u64 0, .int .u64 0, .int .u64 0, .int .u64 0, .int .u64 0, .int .u64 0, .int .u64 0, .int .u64 0, .int .u64 0, .int .u64 0, .int .u64 0, .int .u64 0, .int .u64 0, .int .u64 0, .int .u64 0] 27 (0, 0)) := by rw [← hW6]; exact blk_far z5 (show W1.heap.size ≠ W.heap.size by have := HL.out; omega) _
  have hB6 : Below W.heap.size W W6 := by rw [← hW6]; exact (bAfter HB.out.2.2 hB5).setCell (p := ⟨W.heap.size, a, none⟩) (Nat.le_refl _) _
  have hs : (mc (m.set a (x ||| 2 ^ b))).size = 32 := by rw [mc_size, List.length_set]; exact HM.out.1.1
  have hL6 := ld_whole (P := Try.prog) (ty := 27) k6 hu27 rfl (by rw [sz27, hs])
  obtain ⟨W7, hS7, K7, hO7⟩ := st_whole (P := Try.prog) (ty := 27) (vs := (mc (m.set a (x ||| 2 ^ b))).toList) z6 (by simp only [Array.length_toList]; rw [hs]; rfl) (by simp only [Array.length_toList]; rw [sz27, hs]) (mc_one _)
  simp only [Array.toArray_toList] at hS7 K7
  have HR := Lib.hid (And.intro K7 (And.intro hs (hB6.trans (hO7.below (show W.heap.size ≤ W1.heap.size by have := HL.out; omega) hB6.size))))
  clear hD5 hB5 k5 z5 k6 z6 hB6 hs K7 hO7
  go_wp2_with (first | refine wpList_ld rfl rfl hL6 ?_ | refine wpList_st rfl rfl hS7 ?_)
  refine bodyPost_ret (results_ct rfl _ rfl HR.out.1 hu27 rfl (by rw [sz27, HR.out.2.1])) rfl ⟨rfl, HR.out.2.2⟩
end Go.Proofs.Ytkijjgdcbgmglaa.Q

/-! The graph of a row of events, by hand. -/
namespace Go.Proofs.Ytkijjgdcbgmglaa.Q
open Go.RowKit Go.Lib Go.Maps Go.Proofs.Ytkijjgdcbgmglaa Go.Proofs.YtkijjgdcbgmglaaW.PrintWords Go.Proofs.YtkijjgdcbgmglaaW.PrintLast Go.Proofs.YtkijjgdcbgmglaaW.PrintMore
set_option linter.unusedVariables false
set_option linter.unusedSimpArgs false
def graphIn (all : List Life) (i : Nat) (m : List Nat) (k : Nat) : List Nat := (List.range k).foldl (fun m j => if (decide (i ≠ j) && aheadL all i j) = true then putN m i j else m) m
def graphOut (all : List Life) (i : Nat) : List Nat := (List.range i).foldl (fun m i => graphIn all i m all.length) (List.replicate 32 0)
/-- Who has to stand ahead of whom, as rows of bits. -/
def graphL (all : List Life) : List Nat := graphOut all all.length
theorem graphIn_next (all : List Life) (i : Nat) (m : List Nat) (k : Nat) : graphIn all i m (k + 1) = if (decide (i ≠ k) && aheadL all i k) = true then putN (graphIn all i m k) i k else graphIn all i m k := by
  unfold graphIn
  rw [List.range_succ, List.foldl_append]
  rfl
theorem graphOut_next (all : List Life) (i : Nat) : graphOut all (i + 1) = graphIn all i (graphOut all i) all.length := by
  unfold graphOut
  rw [List.range_succ, List.foldl_append]
  rfl
theorem graphIn_wd (all : List Life) {i : Nat} (hi : i < 32) {m : List Nat} (hm : Wd m) : ∀ k, k ≤ 32 → Wd (graphIn all i m k)
  | 0, _ => hm
  | k + 1, h => by
    rw [graphIn_next]
    split
    · exact (graphIn_wd all hi hm k (by omega)).put hi (by omega)
    · exact graphIn_wd all hi hm k (by omega)
theorem zero_wd : Wd (List.replicate 32 0) := ⟨by simp, fun x hx => by simp at hx; subst hx; decide⟩
theorem graphOut_wd (all : List Life) (hl : all.length ≤ 32) : ∀ i, i ≤ 32 → Wd (graphOut all i)
  | 0, _ => zero_wd
  | i + 1, h => by
    rw [graphOut_next]
    exact graphIn_wd all (by omega) (graphOut_wd all hl i (by omega)) _ hl
/-- Blocks that lie ahead are turned. -/
theorem LivesV.off {base g : Nat} {W W' : World} {k : Nat} {v : Value} {bs : List (Nat × Nat × Nat)} {all : List Life} (h : LivesV base W k v bs all) (hO : ∀ q, q < W.heap.size → q ≠ g → W'.heap[q]? = W.heap[q]?) (hg : g < base) : LivesV base W' k v bs all := by
  refine ⟨⟨h.row.1, ?_⟩, h.at_.same fun q hq => hO q (h.at_.lt q hq) (by have := h.at_.lo q hq; omega)⟩
  rcases h.row.2 with ⟨e, h3⟩ | ⟨g', cap, cur, e, h3, h4, h5⟩
  · exact .inl ⟨e, h3⟩
  · exact .inr ⟨g', cap, cur, e, h3, (hO g' (blk_lt h4) (by omega)).trans h4, h5⟩
/-- What is kept. -/
def GRel (W : World) (mb base : Nat) (v : Value) (bs : List (Nat × Nat × Nat)) (all : List Life) (m : List Nat) (V : World) : Prop :=
  V.heap[mb]? = some (.cells (mc m) 27 (0, 0)) ∧ LivesV base V 2000 v bs all ∧ Below W.heap.size W V
set_option maxRecDepth 100000 in
set_option maxHeartbeats 2000000 in
theorem graph_calls (A0 : Option Addr) (c0 : Nat) (h : List S44) (W : World) (hC : Kd.C k44 W A0 h.length h) :
    Calls Try.prog 10 #[.slice A0 h.length c0] W fun e w' => e = .returned (.tuple #[.agg (mc (graphL (allL h))), .bool (livedL h).isSome]) ∧ Below W.heap.size W w' := by
  have hu27 := Try.underlying27
  have hu26 := Try.underlying26
  have hu69 := Try.underlying69
  obtain ⟨W1, hW1, K1, hB1⟩ : ∃ V, W.alloc (.cells #[.int .u64 0, .int .u64 0, .int .u64 0, .int .u64 0, .int .u64 0, .int .u64 0, .int .u64 0, .int .u64 0, .int .u64 0, .int .u64 0, .int .u64 0, .int .u64 0, .int .u64 0, .int .u64 0, .int .u64 0, .int .u64 0, .int .u64 0, .int .u64 0, .int .u64 0, .int .u64 0, .int .u64 0, .int .u64 0, .int .u64 0, .int .u64 0, .int .u64 0, .int .u64 0, .int .u64 0, .int .u64 0, .int .u64 0, .int .u64 0, .int .u64 0, .int .u64 0] 27) = V ∧ V.heap[W.heap.size]? = some (.cells #[.int .u64 0, .int .u64 0, .int .u64 0, .int .u64 0, .int .u64 0, .int .u64 0, .int .u64 0, .int .u64 0, .int .u64 0, .int .u64 0, .int .u64 0, .int .u64 0, .int .u64 0, .int .u64 0, .int .u64 0, .int .u64 0, .int .u64 0, .int .u64 0, .int .u64 0, .int .u64 0, .int .u64 0, .int .u64 0, .int .u64 0, .int .u64 0, .int .u64 0, .int .u64 0, .int .u64 0, .int .u64 0, .int .u64 0, .int .u64 0, .int .u64 0, .int .u64 0] 27 (0, 0)) ∧ Below W.heap.size W V := ⟨_, rfl, heap_alloc_new _ _, bOne _⟩
  have hZ : (#[.int .u64 0, .int .u64 0, .int .u64 0, .int .u64 0, .int .u64 0, .int .u64 0, .int .u64 0, .int .u64 0, .int .u64 0, .int .u64 0, .int .u64 0, .int .u64 0, .int .u64 0, .int .u64 0, .int .u64 0, .int .u64 0, .int .u64 0, .int .u64 0, .int .u64 0, .int .u64 0, .int .u64 0, .int .u64 0, .int .u64 0, .int .u64 0, .int .u64 0, .int .u64 0, .int .u64 0, .int .u64 0, .int .u64 0, .int .u64 0, .int .u64 0, .int .u64 0] : Array Value) = mc (List.replicate 32 0) := rfl
  rw [hZ] at K1
  have HLV := Lib.hid (lived_all A0 c0 h W1 (Kd.C_below hC hB1))
  have hok := allL_ok h
  have hempty : (livedL h).isSome = false → allL h = [] := by
    intro hs
    unfold allL
    cases hl : livedL h with
    | none => rfl
    | some x => rw [hl] at hs; cases hs
  generalize allL h = all at *
  generalize (livedL h).isSome = is at *
  have HE := Lib.hid hempty
  have HO := Lib.hid hok
  have HB := Lib.hid (And.intro K1 (And.intro hB1 (blk_lt K1)))
  clear hempty hok K1 hB1 hC hZ
  go_enter Try.func10, Try.ntmps10
  go_wp2_with fail
  refine HLV.out.mono ?_
  rintro e w2 ⟨A, c, bs, rfl, hL, hB2⟩
  have R0 := Lib.hid (show GRel W W.heap.size W1.heap.size (.slice A all.length c) bs all (List.replicate 32 0) w2 from ⟨blk_below HB.out.1 hB2, hL, bAfter HB.out.2.1 hB2⟩)
  clear hL hB2 HLV
  cases is with
  | false =>
    obtain rfl := HE.out rfl
    have hL2 := ld_whole (P := Try.prog) (ty := 27) R0.out.1 hu27 rfl (by rw [sz27]; rfl)
    obtain ⟨W7, hS7, K7, hO7⟩ := st_whole (P := Try.prog) (ty := 27) (vs := (mc (List.replicate 32 0)).toList) R0.out.1 (by simp only [Array.length_toList]) (by simp only [Array.length_toList]; rw [sz27]; rfl) (mc_one _)
    simp only [Array.toArray_toList] at hS7 K7
    have HR := Lib.hid (And.intro K7 (R0.out.2.2.trans (hO7.below (Nat.le_refl _) R0.out.2.2.size)))
    clear K7 hO7
    go_wp2_with (first | refine wpList_ld rfl rfl hL2 ?_ | refine wpList_st rfl rfl hS7 ?_)
    refine bodyPost_ret (results_ct rfl _ rfl HR.out.1 hu27 rfl (by rw [sz27]; rfl)) rfl ⟨rfl, HR.out.2⟩
  | true =>
    go_wp2_with fail
    go_loopg [17] all.length (fun kq v17 V => ∃ i : Nat, v17 = .int .i64 i ∧ Hid (kq + i = all.length) ∧ Hid (GRel W W.heap.size W1.heap.size (.slice A all.length c) bs all (graphOut all i) V))
    case atStart => exact ⟨0, rfl, by simp [Hid], R0⟩
    case round =>
      obtain ⟨i, rfl, hk, hJ⟩ := hrel
      clear R0
      have hi0 : (0 : Int) ≤ i := by omega
      by_cases hi : i < all.length
      · have hi2 : (i : Int) < all.length := by omega
        have HI := Lib.hid (And.intro hi hk.out)
        obtain ⟨g0, hg0⟩ : ∃ g, g = gk := ⟨_, rfl⟩
        subst hg0
        clear hi hk
        go_wp2_with fail
        go_loopg [22] all.length (fun kq v22 V => ∃ j : Nat, v22 = .int .i64 j ∧ Hid (kq + j = all.length) ∧ Hid (GRel W W.heap.size W1.heap.size (.slice A all.length c) bs all (graphIn all i (graphOut all i) j) V))
        case atStart => exact ⟨0, rfl, by simp [Hid], hJ⟩
        case round =>
          clear hJ
          obtain ⟨j, rfl, hk, hJ⟩ := hrel
          have hj0 : (0 : Int) ≤ j := by omega
          by_cases hj : j < all.length
          · have hj2 : (j : Int) < all.length := by omega
            have hnx := graphIn_next all i (graphOut all i) j
            have hwd := graphIn_wd all (i := i) (by have := HO.out.1; have := HI.out.1; omega) (graphOut_wd all HO.out.1 i (by have := HO.out.1; have := HI.out.1; omega)) j (by have := HO.out.1; omega)
            obtain ⟨m, hm⟩ : ∃ m, graphIn all i (graphOut all i) j = m := ⟨_, rfl⟩
            rw [hm] at hnx hwd hJ
            have HJ := Lib.hid (And.intro hj hk.out)
            have HA := fun (V : World) (hL : LivesV W1.heap.size V 2000 (.slice A all.length c) bs all) => ahead_calls V W1.heap.size 2000 A c bs all hL (by have := HO.out.1; omega) HO.out.2 i j HI.out.1 hj
            generalize aheadL all i j = ah at *
            have HA' := Lib.hid HA
            clear hj hk hm HA
            by_cases hij : i = j
            · have hne : ((i : Int) != (j : Int)) = false := by rw [hij]; simp
              have HN : Hid (GRel W W.heap.size W1.heap.size (.slice A all.length c) bs all (graphIn all i (graphOut all i) (j + 1)) wr) := Lib.hid (by rw [hnx, if_neg (by simp [hij])]; exact hJ.out)
              clear hnx hwd hJ hij
              go_wp2_with fail
              obtain ⟨k1, rfl⟩ : ∃ m, gk = m + 1 := ⟨gk - 1, by have := HJ.out; omega⟩
              go_roundg k1
              case measure => omega
              case rel => exact ⟨j + 1, by first | rfl | exact congrArg _ (wrap_next (by have := HO.out.1; have := HJ.out.1; omega)), by have := HJ.out.2; exact Lib.hid (by omega), HN⟩
            · have hne : ((i : Int) != (j : Int)) = true := by rw [bne_iff_ne]; omega
              have HW := Lib.hid (And.intro hwd (And.intro hij hnx))
              clear hnx hwd hij
              go_wp2_with fail
              refine (HA'.out wr hJ.out.2.1).mono ?_
              rintro e w5 ⟨rfl, hB5⟩
              have hG5 : GRel W W.heap.size W1.heap.size (.slice A all.length c) bs all m w5 := ⟨blk_below hJ.out.1 hB5, hJ.out.2.1.below hB5, bAfter hJ.out.2.2 hB5⟩
              have HG5 := Lib.hid hG5
              clear hB5 hG5 hJ
              cases ah with
              | false =>
                have HN : Hid (GRel W W.heap.size W1.heap.size (.slice A all.length c) bs all (graphIn all i (graphOut all i) (j + 1)) w5) := Lib.hid (by rw [HW.out.2.2, if_neg (by simp)]; exact HG5.out)
                go_wp2_with fail
                obtain ⟨k1, rfl⟩ : ∃ m, gk = m + 1 := ⟨gk - 1, by have := HJ.out; omega⟩
                go_roundg k1
                case measure => omega
                case rel => exact ⟨j + 1, by first | rfl | exact congrArg _ (wrap_next (by have := HO.out.1; have := HJ.out.1; omega)), by have := HJ.out.2; exact Lib.hid (by omega), HN⟩
              | true =>
                have hL5 := ld_whole (P := Try.prog) (ty := 27) HG5.out.1 hu27 rfl (by rw [sz27, mc_size, HW.out.1.1])
                have HP := Lib.hid (put_calls m i j w5 HW.out.1 (by have := HO.out.1; have := HI.out.1; omega) (by have := HO.out.1; have := HJ.out.1; omega) HW.out.2.1)
                go_wp2_with (refine wpList_ld rfl rfl hL5 ?_)
                refine HP.out.mono ?_
                rintro e w6 ⟨rfl, hB6⟩
                have hw2 := HW.out.1.put (a := i) (b := j) (by have := HO.out.1; have := HI.out.1; omega) (by have := HO.out.1; have := HJ.out.1; omega)
                have hK6 := blk_below HG5.out.1 hB6
                obtain ⟨W7, hS7, K7, hO7⟩ := st_whole (P := Try.prog) (ty := 27) (vs := (mc (putN m i j)).toList) hK6 (by simp only [Array.length_toList]; rw [mc_size, mc_size, HW.out.1.1, hw2.1]) (by simp only [Array.length_toList]; rw [sz27, mc_size, hw2.1]) (mc_one _)
                simp only [Array.toArray_toList] at hS7 K7
                have hB7 := bAfter HG5.out.2.2 hB6
                have HN : Hid (GRel W W.heap.size W1.heap.size (.slice A all.length c) bs all (graphIn all i (graphOut all i) (j + 1)) W7) := Lib.hid (by
                  rw [HW.out.2.2, if_pos (by simp [HW.out.2.1])]
                  exact ⟨K7, (HG5.out.2.1.below hB6).off hO7.block (by have := HB.out.2.2; exact this), hB7.trans (hO7.below (Nat.le_refl _) hB7.size)⟩)
                clear hB6 hw2 hK6 K7 hO7 hB7 HP hL5
                go_wp2_with (refine wpList_st rfl rfl hS7 ?_)
                obtain ⟨k1, rfl⟩ : ∃ m, gk = m + 1 := ⟨gk - 1, by have := HJ.out; omega⟩
                go_roundg k1
                case measure => omega
                case rel => exact ⟨j + 1, by first | rfl | exact congrArg _ (wrap_next (by have := HO.out.1; have := HJ.out.1; omega)), by have := HJ.out.2; exact Lib.hid (by omega), HN⟩
          · have hj2 : ¬ (j : Int) < all.length := by omega
            obtain rfl : j = all.length := by have := hk.out; omega
            have HN : Hid (GRel W W.heap.size W1.heap.size (.slice A all.length c) bs all (graphOut all (i + 1)) wr) := Lib.hid (by rw [graphOut_next]; exact hJ.out)
            clear hJ hk hj
            go_wp2_with fail
            obtain ⟨k1, rfl⟩ : ∃ m, g0 = m + 1 := ⟨g0 - 1, by have := HI.out; omega⟩
            go_roundg k1
            case measure => omega
            case rel => exact ⟨i + 1, by first | rfl | exact congrArg _ (wrap_next (by have := HO.out.1; have := HI.out.1; omega)), by have := HI.out.2; exact Lib.hid (by omega), HN⟩
      · have hi2 : ¬ (i : Int) < all.length := by omega
        obtain rfl : i = all.length := by have := hk.out; omega
        have hw2 := graphOut_wd all HO.out.1 all.length HO.out.1
        have hL2 := ld_whole (P := Try.prog) (ty := 27) hJ.out.1 hu27 rfl (by rw [sz27, mc_size, hw2.1])
        obtain ⟨W7, hS7, K7, hO7⟩ := st_whole (P := Try.prog) (ty := 27) (vs := (mc (graphOut all all.length)).toList) hJ.out.1 (by simp only [Array.length_toList]) (by simp only [Array.length_toList]; rw [sz27, mc_size, hw2.1]) (mc_one _)
        simp only [Array.toArray_toList] at hS7 K7
        have HR := Lib.hid (And.intro K7 (And.intro (hJ.out.2.2.trans (hO7.below (Nat.le_refl _) hJ.out.2.2.size)) hw2))
        clear K7 hO7 hw2 hk hi hJ
        go_wp2_with (first | refine wpList_ld rfl rfl hL2 ?_ | refine wpList_st rfl rfl hS7 ?_)
        refine bodyPost_ret (results_ct rfl _ rfl HR.out.1 hu27 rfl (by rw [sz27, mc_size, HR.out.2.2.1])) rfl ⟨rfl, HR.out.2.1⟩
end Go.Proofs.Ytkijjgdcbgmglaa.Q

/-! What the graph's bits are. -/
namespace Go.Proofs.Ytkijjgdcbgmglaa.Q
open Go.RowKit Go.Lib Go.Proofs.Ytkijjgdcbgmglaa
set_option linter.unusedVariables false
set_option linter.unusedSimpArgs false
theorem putN_get (m : List Nat) (a b c : Nat) (ha : a < m.length) : (putN m a b).getD c 0 = if c = a then m.getD a 0 ||| 2 ^ b else m.getD c 0 := by
  unfold putN
  rw [List.getD_eq_getElem?_getD, List.getElem?_set]
  by_cases h : c = a
  · subst h
    rw [if_pos rfl, if_pos rfl, if_pos ha]
    rfl
  · rw [if_neg (fun e => h e.symm), if_neg h, List.getD_eq_getElem?_getD]
theorem graphIn_len (all : List Life) (i : Nat) (m : List Nat) : ∀ k, (graphIn all i m k).length = m.length
  | 0 => rfl
  | k + 1 => by
    rw [graphIn_next]
    split
    · unfold putN; rw [List.length_set]; exact graphIn_len all i m k
    · exact graphIn_len all i m k
theorem graphIn_bit (all : List Life) (i : Nat) (m : List Nat) (hi : i < m.length) (a j : Nat) : ∀ k, ((graphIn all i m k).getD a 0).testBit j = if a = i then ((m.getD i 0).testBit j || (decide (j < k) && (decide (i ≠ j) && aheadL all i j))) else (m.getD a 0).testBit j
  | 0 => by
    have : graphIn all i m 0 = m := rfl
    rw [this]
    split
    · rename_i h; subst h; simp
    · rfl
  | k + 1 => by
    have ih := graphIn_bit all i m hi a j k
    rw [graphIn_next]
    by_cases hc : (decide (i ≠ k) && aheadL all i k) = true
    · rw [if_pos hc, putN_get _ _ _ _ (by rw [graphIn_len]; exact hi)]
      by_cases ha : a = i
      · subst ha
        rw [if_pos rfl] at ih ⊢
        rw [if_pos rfl, Nat.testBit_or, ih, Nat.testBit_two_pow]
        by_cases hk : k = j
        · subst hk
          rw [hc]
          simp
        · have h1 : decide (j < k + 1) = decide (j < k) := by
            rw [decide_eq_decide]
            omega
          rw [h1]
          simp [hk]
      · rw [if_neg ha] at ih ⊢
        rw [if_neg ha]
        exact ih
    · rw [if_neg hc, ih]
      by_cases ha : a = i
      · rw [if_pos ha, if_pos ha]
        by_cases hk : k = j
        · subst hk
          have : (decide (i ≠ k) && aheadL all i k) = false := by simpa using hc
          rw [this]
          simp
        · have h1 : decide (j < k + 1) = decide (j < k) := by
            rw [decide_eq_decide]
            omega
          rw [h1]
      · rw [if_neg ha, if_neg ha]
theorem graphOut_len (all : List Life) : ∀ i, (graphOut all i).length = 32
  | 0 => by simp [graphOut]
  | i + 1 => by rw [graphOut_next, graphIn_len]; exact graphOut_len all i
theorem graphOut_bit (all : List Life) (a j : Nat) : ∀ i, i ≤ 32 → ((graphOut all i).getD a 0).testBit j = (decide (a < i) && (decide (j < all.length) && (decide (a ≠ j) && aheadL all a j)))
  | 0, _ => by
    have : (graphOut all 0).getD a 0 = 0 := by
      unfold graphOut
      rw [List.getD_eq_getElem?_getD]
      simp only [List.range_zero, List.foldl_nil, List.getElem?_replicate]
      split <;> rfl
    rw [this]
    simp
  | i + 1, h => by
    have ih := graphOut_bit all a j i (by omega)
    rw [graphOut_next, graphIn_bit _ _ _ (by rw [graphOut_len]; omega)]
    by_cases ha : a = i
    · subst ha
      rw [if_pos rfl, ih]
      simp
    · rw [if_neg ha, ih]
      have h1 : decide (a < i + 1) = decide (a < i) := by
        rw [decide_eq_decide]
        omega
      rw [h1]
/-- Who has to stand ahead of whom, bit by bit. -/
theorem graphL_bit (all : List Life) (hl : all.length ≤ 32) (a j : Nat) : ((graphL all).getD a 0).testBit j = (decide (a < all.length) && (decide (j < all.length) && (decide (a ≠ j) && aheadL all a j))) := graphOut_bit all a j _ hl
theorem graphL_wd (all : List Life) (hl : all.length ≤ 32) : Wd (graphL all) := graphOut_wd all hl _ hl
end Go.Proofs.Ytkijjgdcbgmglaa.Q
