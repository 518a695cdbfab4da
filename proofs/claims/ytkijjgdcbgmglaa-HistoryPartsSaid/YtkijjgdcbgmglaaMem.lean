/- Small facts on memory that grows. Over any program. -/
import Derived.Below
import Derived.Lib.Hide
set_option linter.unusedVariables false
namespace Go.Proofs.Ytkijjgdcbgmglaa
open Go.RowKit

/-- All that lay there reads as before. -/
theorem bcell {W w1 : World} (hb : Below W.heap.size W w1) : (∀ b o, b < W.heap.size → w1.cell? ⟨b, o, none⟩ = W.cell? ⟨b, o, none⟩) ∧ (∀ b o, b < W.heap.size → w1.frozen? ⟨b, o, none⟩ = W.frozen? ⟨b, o, none⟩) :=
  ⟨fun b o h => hb.cell (p := ⟨b, o, none⟩) h, fun b o h => hb.frozen (p := ⟨b, o, none⟩) h⟩
theorem bblock {W w1 : World} (hb : Below W.heap.size W w1) : ∀ b, b < W.heap.size → w1.heap[b]? = W.heap[b]? := hb.block
theorem bOne {w : World} (o : Obj) : Below w.heap.size w (w.alloc o) := (Below.refl _ _).alloc (Nat.le_refl _) _
theorem bTwo {w : World} (o o' : Obj) : Below w.heap.size w ((w.alloc o).alloc o') := (bOne o).alloc (by simp) _
theorem bThree {w : World} (o o' o'' : Obj) : Below w.heap.size w (((w.alloc o).alloc o').alloc o'') := (bTwo o o').alloc (by simp; omega) _
theorem bAfter {w W w' : World} (h : Below w.heap.size w W) (k : Below W.heap.size W w') : Below w.heap.size w w' := h.trans (k.mono h.size)
/-- Three boxes, one behind the other, in every world that grew out of there. -/
theorem three_boxes {w W : World} {o1 o2 o3 : Obj} (h : Below (((w.alloc o1).alloc o2).alloc o3).heap.size (((w.alloc o1).alloc o2).alloc o3) W) :
    W.heap[w.heap.size]? = some o1 ∧ W.heap[w.heap.size + 1]? = some o2 ∧ W.heap[w.heap.size + 1 + 1]? = some o3 ∧ w.heap.size + 3 ≤ W.heap.size ∧ Below w.heap.size w W := by
  have e : (((w.alloc o1).alloc o2).alloc o3).heap.size = w.heap.size + 1 + 1 + 1 := by simp
  have hz := h.size
  have n1 := heap_alloc_new w o1
  have n2 := heap_alloc_new (w.alloc o1) o2
  have n3 := heap_alloc_new ((w.alloc o1).alloc o2) o3
  rw [World.size_alloc] at n2
  rw [World.size_alloc, World.size_alloc] at n3
  rw [e] at hz
  refine ⟨(h.block _ (by rw [e]; omega)).trans ?_, (h.block _ (by rw [e]; omega)).trans ?_, (h.block _ (by rw [e]; omega)).trans n3, by omega, (bThree _ _ _).trans (h.mono (by rw [e]; omega))⟩
  · rw [heap_alloc_old _ _ _ (by rw [World.size_alloc, World.size_alloc]; omega), heap_alloc_old _ _ _ (by rw [World.size_alloc]; omega)]
    exact n1
  · rw [heap_alloc_old _ _ _ (by rw [World.size_alloc, World.size_alloc]; omega)]
    exact n2
theorem one_box {w W : World} {o1 : Obj} (h : Below (w.alloc o1).heap.size (w.alloc o1) W) : W.heap[w.heap.size]? = some o1 ∧ w.heap.size + 1 ≤ W.heap.size ∧ Below w.heap.size w W := by
  have e : (w.alloc o1).heap.size = w.heap.size + 1 := by simp
  have hz := h.size
  rw [e] at hz
  exact ⟨(h.block _ (by rw [e]; omega)).trans (heap_alloc_new w o1), hz, (bOne _).trans (h.mono (by rw [e]; omega))⟩

/-- Two boxes, named: what is told of the world behind them. -/
theorem two_named (w : World) (o1 o2 : Obj) : ∃ W0, (w.alloc o1).alloc o2 = W0 ∧ W0.heap[w.heap.size]? = some o1 ∧ W0.heap[w.heap.size + 1]? = some o2 ∧ Below w.heap.size w W0 ∧ W0.heap.size = w.heap.size + 2 := by
  have n1 := heap_alloc_new w o1
  have n2 := heap_alloc_new (w.alloc o1) o2
  rw [World.size_alloc] at n2
  exact ⟨_, rfl, (heap_alloc_old _ _ _ (by rw [World.size_alloc]; omega)).trans n1, n2, bTwo _ _, by simp⟩
theorem three_named (w : World) (o1 o2 o3 : Obj) : ∃ W0, ((w.alloc o1).alloc o2).alloc o3 = W0 ∧ W0.heap[w.heap.size]? = some o1 ∧ W0.heap[w.heap.size + 1]? = some o2 ∧ W0.heap[w.heap.size + 1 + 1]? = some o3 ∧ Below w.heap.size w W0 ∧ W0.heap.size = w.heap.size + 3 := by
  obtain ⟨h1, h2, h3, -, h5⟩ := three_boxes (Below.refl _ (((w.alloc o1).alloc o2).alloc o3))
  exact ⟨_, rfl, h1, h2, h3, h5, by simp⟩

end Go.Proofs.Ytkijjgdcbgmglaa
