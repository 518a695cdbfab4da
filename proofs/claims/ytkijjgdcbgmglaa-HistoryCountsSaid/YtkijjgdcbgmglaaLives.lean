/- Lives in memory: pointers to structs that hold maps. -/
import Derived.Test.YtkijjgdcbgmglaaPure
import Derived.Test.YtkijjgdcbgmglaaWhole
import Derived.Maps.OwnSet
import Derived.Maps.OwnOps
namespace Go.Proofs.Ytkijjgdcbgmglaa.Q
open Go.RowKit Go.Lib Go.Maps Go.Proofs.Ytkijjgdcbgmglaa Go.Proofs.YtkijjgdcbgmglaaW.PrintWords Go.Proofs.YtkijjgdcbgmglaaW.PrintLast Go.Proofs.YtkijjgdcbgmglaaW.PrintMore
set_option linter.unusedVariables false
set_option linter.unusedSimpArgs false

/-- An event of a life, as a value. -/
abbrev v105 (t : Told) : Value := .agg #[.int .i64 t.at_, .int .i64 t.st.f0, .int .i64 t.st.f1.f0, .int .i64 t.st.f1.f1, .bool t.st.f2]
/-- How it reads in a map. -/
def r105 : Value → Option (DataW Told × List MemPlace)
  | .agg ⟨[.int .i64 a, .int .i64 b, .int .i64 c, .int .i64 d, .bool e]⟩ => some (.held ⟨a, ⟨b, ⟨c, d⟩, e⟩⟩, [])
  | _ => none
theorem r105_mk (t : Told) : r105 (v105 t) = some (.held t, []) := rfl
theorem r105_inv {v : Value} {y : DataW Told × List MemPlace} (h : r105 v = some y) : ∃ t, v = v105 t ∧ y = (.held t, []) := by
  unfold r105 at h
  split at h
  · rename_i a b c d e
    cases h
    exact ⟨⟨a, ⟨b, ⟨c, d⟩, e⟩⟩, rfl, rfl⟩
  · cases h
/-- A map reads as a function. -/
def IsT (D : DataW Told) (f : Int → Option Told) : Prop := IsMap D ∧ ∀ x, (∃ s, f x = some s ∧ ∀ z, D.atKey (.int .i64 x) z = .held s) ∨ (f x = none ∧ has D (.int .i64 x) = false)
theorem IsT.nil : IsT (.map []) (fun _ => none) := ⟨isMap_empty, fun x => .inr ⟨rfl, rfl⟩⟩
theorem IsT.put {D : DataW Told} {f : Int → Option Told} (h : IsT D f) (x : Int) (s : Told) : IsT (D.put (.int .i64 x) (.held s)) (put f x s) := by
  refine ⟨h.1.put _ _, fun y => ?_⟩
  unfold Q.put
  by_cases hy : y = x
  · subst hy
    exact .inl ⟨s, by simp, fun z => atKey_put_same h.1 (by simp [WideAt.IsKeyLit]) _ z⟩
  · have hne : (Lit.int .i64 y) ≠ .int .i64 x := fun e => hy (by injection e)
    rcases h.2 y with ⟨s', h1, h2⟩ | ⟨h1, h2⟩
    · exact .inl ⟨s', by simp [hy, h1], fun z => (atKey_put_other hne _ z).trans (h2 z)⟩
    · exact .inr ⟨by simp [hy, h1], (has_put_other hne _).trans h2⟩
/-- A map's block: at most so many were put. -/
def MapAt (W : World) (b k : Nat) (f : Int → Option Told) : Prop := ∃ n D, W.ownsMap Try.prog 3 r105 b n D ∧ IsT D f ∧ n ≤ k
theorem MapAt.lt {W : World} {b k : Nat} {f : Int → Option Told} (h : MapAt W b k f) : b < W.heap.size := by
  obtain ⟨n, D, h1, -⟩ := h
  exact h1.lt
theorem MapAt.same {W W' : World} {b k : Nat} {f : Int → Option Told} (h : MapAt W b k f) (he : W'.heap[b]? = W.heap[b]?) : MapAt W' b k f := by
  obtain ⟨n, D, ⟨es, clock, hb, F, hs, hD⟩, h2, h3⟩ := h
  exact ⟨n, D, ⟨es, clock, he.trans hb, F, hs, hD⟩, h2, h3⟩
theorem MapAt.more {W : World} {b k k' : Nat} {f : Int → Option Told} (h : MapAt W b k f) (hk : k ≤ k') : MapAt W b k' f := by
  obtain ⟨n, D, h1, h2, h3⟩ := h
  exact ⟨n, D, h1, h2, Nat.le_trans h3 hk⟩
theorem MapAt.not_cells {W : World} {b k : Nat} {f : Int → Option Told} (h : MapAt W b k f) {cs : Array Value} {t : TypeId} {fr : Nat × Nat} : W.heap[b]? ≠ some (.cells cs t fr) := by
  obtain ⟨n, D, ⟨es, clock, hb, -⟩, -⟩ := h
  intro e
  rw [hb] at e
  cases e
/-- A life's block, its two maps. -/
structure LifeAt (W : World) (b rb wb k : Nat) (l : Life) : Prop where
  hb : W.heap[b]? = some (.cells #[.int .i64 l.beg, .int .i64 l.fin, .bool l.com, .map (some rb), .map (some wb)] 86 (0, 0))
  hr : MapAt W rb k l.reads
  hw : MapAt W wb k l.writes
theorem LifeAt.same {W W' : World} {b rb wb k : Nat} {l : Life} (h : LifeAt W b rb wb k l) (h1 : W'.heap[b]? = W.heap[b]?) (h2 : W'.heap[rb]? = W.heap[rb]?) (h3 : W'.heap[wb]? = W.heap[wb]?) : LifeAt W' b rb wb k l :=
  ⟨h1.trans h.hb, h.hr.same h2, h.hw.same h3⟩
theorem LifeAt.below {W W' : World} {b rb wb k : Nat} {l : Life} (h : LifeAt W b rb wb k l) (hB : Below W.heap.size W W') : LifeAt W' b rb wb k l :=
  h.same (hB.block _ (blk_lt h.hb)) (hB.block _ h.hr.lt) (hB.block _ h.hw.lt)
theorem LifeAt.more {W : World} {b rb wb k k' : Nat} {l : Life} (h : LifeAt W b rb wb k l) (hk : k ≤ k') : LifeAt W b rb wb k' l := ⟨h.hb, h.hr.more hk, h.hw.more hk⟩
/-- The three blocks of each. -/
abbrev blocksOf (bs : List (Nat × Nat × Nat)) : List Nat := bs.flatMap fun b => [b.1, b.2.1, b.2.2]
/-- All lives, from one block on, each apart from each. -/
structure LivesAt (base : Nat) (W : World) (k : Nat) (bs : List (Nat × Nat × Nat)) (all : List Life) : Prop where
  len : bs.length = all.length
  nd : (blocksOf bs).Nodup
  lo : ∀ q ∈ blocksOf bs, base ≤ q
  at_ : ∀ (i b rb wb : Nat) (l : Life), bs[i]? = some (b, rb, wb) → all[i]? = some l → LifeAt W b rb wb k l
theorem LivesAt.nil (base : Nat) (W : World) (k : Nat) : LivesAt base W k [] [] := ⟨rfl, by simp [blocksOf], (fun q h => by cases h), (fun i b rb wb l h => by simp at h)⟩
theorem mem_blocks {bs : List (Nat × Nat × Nat)} {i b rb wb : Nat} (h : bs[i]? = some (b, rb, wb)) : b ∈ blocksOf bs ∧ rb ∈ blocksOf bs ∧ wb ∈ blocksOf bs := by
  have hm := List.mem_of_getElem? h
  exact ⟨List.mem_flatMap.2 ⟨_, hm, by simp⟩, List.mem_flatMap.2 ⟨_, hm, by simp⟩, List.mem_flatMap.2 ⟨_, hm, by simp⟩⟩
/-- Where none of their blocks was turned. -/
theorem LivesAt.same {base : Nat} {W W' : World} {k : Nat} {bs : List (Nat × Nat × Nat)} {all : List Life} (h : LivesAt base W k bs all) (he : ∀ q ∈ blocksOf bs, W'.heap[q]? = W.heap[q]?) : LivesAt base W' k bs all :=
  ⟨h.len, h.nd, h.lo, fun i b rb wb l hb hl => by
    obtain ⟨m1, m2, m3⟩ := mem_blocks hb
    exact (h.at_ i b rb wb l hb hl).same (he _ m1) (he _ m2) (he _ m3)⟩
theorem LivesAt.lt {base : Nat} {W : World} {k : Nat} {bs : List (Nat × Nat × Nat)} {all : List Life} (h : LivesAt base W k bs all) : ∀ q ∈ blocksOf bs, q < W.heap.size := by
  intro q hq
  obtain ⟨⟨b, rb, wb⟩, hm, hq⟩ := List.mem_flatMap.1 hq
  obtain ⟨i, hi⟩ := List.mem_iff_getElem?.1 hm
  have hlt : i < all.length := by have := (List.getElem?_eq_some_iff.1 hi).1; rw [← h.len]; exact this
  have hA := h.at_ i b rb wb _ hi (List.getElem?_eq_getElem hlt)
  simp only [List.mem_cons, List.not_mem_nil, or_false] at hq
  rcases hq with rfl | rfl | rfl
  · exact blk_lt hA.hb
  · exact hA.hr.lt
  · exact hA.hw.lt
theorem LivesAt.below {base : Nat} {W W' : World} {k : Nat} {bs : List (Nat × Nat × Nat)} {all : List Life} (h : LivesAt base W k bs all) (hB : Below W.heap.size W W') : LivesAt base W' k bs all :=
  h.same fun q hq => hB.block _ (h.lt q hq)
theorem LivesAt.more {base : Nat} {W : World} {k k' : Nat} {bs : List (Nat × Nat × Nat)} {all : List Life} (h : LivesAt base W k bs all) (hk : k ≤ k') : LivesAt base W k' bs all :=
  ⟨h.len, h.nd, h.lo, fun i b rb wb l hb hl => (h.at_ i b rb wb l hb hl).more hk⟩
/-- One of them was turned, and no other block. -/
theorem LivesAt.turn {base : Nat} {W W' : World} {k : Nat} {bs : List (Nat × Nat × Nat)} {all : List Life} (h : LivesAt base W k bs all) {i b rb wb : Nat} {l : Life} (hb : bs[i]? = some (b, rb, wb)) (hi : i < all.length)
    (hO : ∀ q ∈ blocksOf bs, q ≠ b → q ≠ rb → q ≠ wb → W'.heap[q]? = W.heap[q]?) (hl : LifeAt W' b rb wb k l) : LivesAt base W' k bs (all.set i l) := by
  refine ⟨by rw [List.length_set]; exact h.len, h.nd, h.lo, fun j b' rb' wb' l' hb' hl' => ?_⟩
  by_cases hj : i = j
  · subst hj
    rw [hb] at hb'
    injection hb' with hb'
    injection hb' with e1 e2
    injection e2 with e2 e3
    subst e1; subst e2; subst e3
    rw [List.getElem?_set_self hi] at hl'
    injection hl' with hl'
    subst hl'
    exact hl
  · rw [List.getElem?_set_ne hj] at hl'
    have hA := h.at_ j b' rb' wb' l' hb' hl'
    -- two places of a row without doubles
    have hd : ∀ q ∈ [b', rb', wb'], ∀ p ∈ [b, rb, wb], q ≠ p := by
      intro q hq p hp e
      have hnd := h.nd
      unfold blocksOf at hnd
      have hpw := (List.pairwise_flatMap.1 hnd).2
      rcases Nat.lt_or_ge i j with hlt | hge
      · have h1 := List.pairwise_iff_getElem.1 hpw i j (List.getElem?_eq_some_iff.1 hb).1 (List.getElem?_eq_some_iff.1 hb').1 hlt
        rw [(List.getElem?_eq_some_iff.1 hb).2, (List.getElem?_eq_some_iff.1 hb').2] at h1
        exact h1 p hp q hq e.symm
      · have h1 := List.pairwise_iff_getElem.1 hpw j i (List.getElem?_eq_some_iff.1 hb').1 (List.getElem?_eq_some_iff.1 hb).1 (by omega)
        rw [(List.getElem?_eq_some_iff.1 hb).2, (List.getElem?_eq_some_iff.1 hb').2] at h1
        exact h1 q hq p hp e
    obtain ⟨m1, m2, m3⟩ := mem_blocks hb'
    refine hA.same (hO _ m1 ?_ ?_ ?_) (hO _ m2 ?_ ?_ ?_) (hO _ m3 ?_ ?_ ?_) <;> exact hd _ (by simp) _ (by simp)
end Go.Proofs.Ytkijjgdcbgmglaa.Q
