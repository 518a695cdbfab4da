/- What happened, in plain words: lives, taken event by event; who has to stand ahead of whom. -/
import Derived.Test.YtkijjgdcbgmglaaQ0
import Derived.Test.YtkijjgdcbgmglaaWhole
import Derived.Maps.OwnSet
import Derived.Maps.OwnOps
/-! What happened, in plain words: lives, taken event by event; who has to stand ahead of whom. -/
namespace Go.Proofs.Ytkijjgdcbgmglaa.Q
open Go.RowKit Go.Lib Go.Proofs.Ytkijjgdcbgmglaa Go.Proofs.YtkijjgdcbgmglaaW.PrintWords Go.Proofs.YtkijjgdcbgmglaaW.PrintLast Go.Proofs.YtkijjgdcbgmglaaW.PrintMore
set_option linter.unusedVariables false
set_option linter.unusedSimpArgs false

/-- May a value be? -/
def valR (k n : Int) : Bool := if k = 0 then (n == 0) else if k = 1 then true else if k = 2 then (if n ≥ 0 then decide (n < 64) else false) else false
/-- An event of a life: its number, and its step. -/
structure Told where
  at_ : Int
  st : S103
/-- What is known of one that began: maps are functions. -/
structure Life where
  beg : Int
  fin : Int
  com : Bool
  reads : Int → Option Told
  writes : Int → Option Told
def put (f : Int → Option Told) (x : Int) (t : Told) : Int → Option Told := fun y => if y = x then some t else f y
def newLife (n : Int) : Life := ⟨n, -1, false, fun _ => none, fun _ => none⟩
/-- A step is taken (life.step). -/
def stepL (l : Life) (n : Int) (e : S44) : Life × Bool :=
  if e.f2 < 0 ∨ 64 ≤ e.f2 ∨ valR e.f3.f0 e.f3.f1 = false then (l, false)
  else if e.f0 = 2 then (⟨l.beg, l.fin, l.com, l.reads, put l.writes e.f2 ⟨n, ⟨e.f2, e.f3, true⟩⟩⟩, true)
  else if (l.reads e.f2).isNone = true ∧ (l.writes e.f2).isNone = true then (⟨l.beg, l.fin, l.com, put l.reads e.f2 ⟨n, ⟨e.f2, e.f3, false⟩⟩, l.writes⟩, true)
  else (l, true)
/-- Does an event bear nothing but its kind and its number? -/
def plainE (e : S44) : Bool := decide (e.f2 = 0 ∧ e.f3.f0 = 0 ∧ e.f3.f1 = 0)
/-- An event is taken (lives.take). -/
def takeL (all : List Life) (n : Int) (e : S44) : List Life × Bool :=
  if e.f0 = 0 then (all ++ [newLife n], plainE e && decide (e.f1 = (all.length : Int) + 1) && decide (e.f1 ≤ 32))
  else if e.f1 < 1 ∨ (all.length : Int) < e.f1 then (all, false)
  else match all[(e.f1 - 1).toNat]? with
    | none => (all, false)
    | some l =>
      if l.fin ≥ 0 then (all, false)
      else if e.f0 = 1 ∨ e.f0 = 2 then (all.set (e.f1 - 1).toNat (stepL l n e).1, (stepL l n e).2)
      else if e.f0 = 3 ∨ e.f0 = 4 then (all.set (e.f1 - 1).toNat ⟨l.beg, n, decide (e.f0 = 3), l.reads, l.writes⟩, plainE e)
      else (all, false)
/-- The events from one on, one by one. -/
def livesFrom : List S44 → Int → List Life → Option (List Life)
  | [], _, all => some all
  | e :: h, n, all => if (takeL all n e).2 = true then livesFrom h (n + 1) (takeL all n e).1 else none
/-- All of them; none: the row may not be (lived). -/
def livedL (h : List S44) : Option (List Life) := if 2000 < h.length then none else livesFrom h 0 []
/-- When it was committed; what is too late, if it was not. -/
def commitL (l : Life) : Int := if l.com = true then l.fin else 2000
def leavesL (l : Life) (x : Int) : Bool := (l.writes x).isSome && l.com
def afterL (l : Life) (n x : Int) : Bool := leavesL l x && decide (n < commitL l)
/-- The last one that was committed ahead of an event with a write of a variable (writer): the best so far, from one on. -/
def writerFrom (n x : Int) : List Life → Int → Int → Int → Int
  | [], _, best, _ => best
  | l :: all, i, best, bfin => if leavesL l x = true ∧ l.fin < n ∧ (best < 0 ∨ bfin < l.fin) then writerFrom n x all (i + 1) i l.fin else writerFrom n x all (i + 1) best bfin
def writerL (all : List Life) (n x : Int) : Int := writerFrom n x all 0 (-1) 0
/-- Has one to stand ahead of another one (ahead)? Variables are those from 0 to 63. -/
def aheadL (all : List Life) (i k : Nat) : Bool :=
  match all[i]?, all[k]? with
  | some a, some b =>
    decide (0 ≤ a.fin ∧ a.fin < b.beg)
    || (List.range 64).any (fun x => match b.reads x with | some r => decide (writerL all r.at_ x = i) | none => false)
    || (List.range 64).any (fun x => (a.writes x).isSome && leavesL a x && afterL b (commitL a) x)
    || (List.range 64).any (fun x => match a.reads x with | some r => afterL b r.at_ x | none => false)
  | _, _ => false
/-! ### What holds all the way -/
/-- Steps are of variables that there are. -/
structure LifeOK (l : Life) : Prop where
  r : ∀ x t, l.reads x = some t → 0 ≤ x ∧ x < 64 ∧ t.st.f0 = x ∧ t.st.f2 = false
  w : ∀ x t, l.writes x = some t → 0 ≤ x ∧ x < 64 ∧ t.st.f0 = x ∧ t.st.f2 = true
theorem newLife_ok (n : Int) : LifeOK (newLife n) := ⟨(fun x t h => by cases h), (fun x t h => by cases h)⟩
theorem stepL_ok {l : Life} {n : Int} {e : S44} (h : LifeOK l) : LifeOK (stepL l n e).1 := by
  unfold stepL
  split
  · exact h
  rename_i h0
  split
  · refine ⟨h.r, fun x t ht => ?_⟩
    unfold put at ht
    dsimp only at ht
    split at ht
    · rename_i hx
      injection ht with ht
      subst ht
      exact ⟨by omega, by omega, hx.symm, rfl⟩
    · exact h.w x t ht
  split
  · refine ⟨fun x t ht => ?_, h.w⟩
    unfold put at ht
    dsimp only at ht
    split at ht
    · rename_i hx
      injection ht with ht
      subst ht
      exact ⟨by omega, by omega, hx.symm, rfl⟩
    · exact h.r x t ht
  · exact h
theorem takeL_ok {all : List Life} {n : Int} {e : S44} (h : ∀ l ∈ all, LifeOK l) : ∀ l ∈ (takeL all n e).1, LifeOK l := by
  unfold takeL
  split
  · intro l hl
    rcases List.mem_append.1 hl with h1 | h1
    · exact h l h1
    · obtain rfl := List.mem_singleton.1 h1
      exact newLife_ok n
  split
  · exact h
  split
  · exact h
  rename_i l0 hl0
  have h0 := h l0 (List.mem_of_getElem? hl0)
  split
  · exact h
  split
  · intro l hl
    rcases List.mem_or_eq_of_mem_set hl with h1 | rfl
    · exact h l h1
    · exact stepL_ok h0
  split
  · intro l hl
    rcases List.mem_or_eq_of_mem_set hl with h1 | rfl
    · exact h l h1
    · exact ⟨h0.r, h0.w⟩
  · exact h
theorem takeL_len {all : List Life} {n : Int} {e : S44} : (takeL all n e).1.length ≤ all.length + 1 := by
  unfold takeL
  split
  · simp
  split
  · exact Nat.le_succ _
  split
  · exact Nat.le_succ _
  split
  · exact Nat.le_succ _
  split
  · simp
  split
  · simp
  · exact Nat.le_succ _
/-- There are never more than 32. -/
theorem takeL_most {all : List Life} {n : Int} {e : S44} (h : all.length ≤ 32) (hr : (takeL all n e).2 = true) : (takeL all n e).1.length ≤ 32 := by
  unfold takeL at hr ⊢
  split at hr
  · rename_i h0
    rw [if_pos h0]
    simp only [Bool.and_eq_true, decide_eq_true_eq] at hr
    simp only [List.length_append, List.length_singleton]
    omega
  rename_i h0
  rw [if_neg h0]
  split at hr
  · cases hr
  rename_i h1
  rw [if_neg h1]
  split at hr
  · cases hr
  rename_i l0 hl0
  split
  · exact h
  split
  · simpa using h
  split
  · simpa using h
  · exact h
theorem livesFrom_ok : ∀ (h : List S44) (n : Int) (all r : List Life), livesFrom h n all = some r → all.length ≤ 32 → (∀ l ∈ all, LifeOK l) → r.length ≤ 32 ∧ ∀ l ∈ r, LifeOK l
  | [], n, all, r, h, h1, h2 => by
    injection h with h
    subst h
    exact ⟨h1, h2⟩
  | e :: h, n, all, r, hr, h1, h2 => by
    unfold livesFrom at hr
    split at hr
    · rename_i ht
      exact livesFrom_ok h (n + 1) _ r hr (takeL_most h1 ht) (takeL_ok h2)
    · cases hr
end Go.Proofs.Ytkijjgdcbgmglaa.Q

/-! Lives in memory: pointers to structs that hold maps. -/
namespace Go.Proofs.Ytkijjgdcbgmglaa.Q
open Go.RowKit Go.Lib Go.Maps Go.Proofs.Ytkijjgdcbgmglaa Go.Proofs.YtkijjgdcbgmglaaW.PrintWords Go.Proofs.YtkijjgdcbgmglaaW.PrintLast Go.Proofs.YtkijjgdcbgmglaaW.PrintMore
set_option linter.unusedVariables false
set_option linter.unusedSimpArgs false

/-- An event of a life, as a value. -/
abbrev v105 (t : Told) : Value := .agg #[.int .i64 t.at_, .int .i64 t.st.f0, .int .i64 t.st.f1.f0, .int .i64 t.st.f1.f1, .bool t.st.f2]
/-- How it reads in a map. -/
def r105 : Value → Option (DataW Told × List MemPlace)
  | .agg ⟨[.int .i64 a, .int .i64 b, .int .i64 c, .int .i64 d, .bool e]⟩ => some (.held ⟨a, ⟨b, ⟨c, d⟩, e⟩⟩, [])
  | _ => none
theorem r105_mk (t : Told) : r105 (v105 t) = some (.held t, []) := rfl
theorem r105_inv {v : Value} {y : DataW Told × List MemPlace} (h : r105 v = some y) : ∃ t, v = v105 t ∧ y = (.held t, []) := by
  unfold r105 at h
  split at h
  · rename_i a b c d e
    cases h
    exact ⟨⟨a, ⟨b, ⟨c, d⟩, e⟩⟩, rfl, rfl⟩
  · cases h
/-- A map reads as a function. -/
def IsT (D : DataW Told) (f : Int → Option Told) : Prop := IsMap D ∧ ∀ x, (∃ s, f x = some s ∧ ∀ z, D.atKey (.int .i64 x) z = .held s) ∨ (f x = none ∧ has D (.int .i64 x) = false)
theorem IsT.nil : IsT (.map []) (fun _ => none) := ⟨isMap_empty, fun x => .inr ⟨rfl, rfl⟩⟩
theorem IsT.put {D : DataW Told} {f : Int → Option Told} (h : IsT D f) (x : Int) (s : Told) : IsT (D.put (.int .i64 x) (.held s)) (put f x s) := by
  refine ⟨h.1.put _ _, fun y => ?_⟩
  unfold Q.put
  by_cases hy : y = x
  · subst hy
    exact .inl ⟨s, by simp, fun z => atKey_put_same h.1 (by simp [WideAt.IsKeyLit]) _ z⟩
  · have hne : (Lit.int .i64 y) ≠ .int .i64 x := fun e => hy (by injection e)
    rcases h.2 y with ⟨s', h1, h2⟩ | ⟨h1, h2⟩
    · exact .inl ⟨s', by simp [hy, h1], fun z => (atKey_put_other hne _ z).trans (h2 z)⟩
    · exact .inr ⟨by simp [hy, h1], (has_put_other hne _).trans h2⟩
/-- A map's block: at most so many were put. -/
def MapAt (W : World) (b k : Nat) (f : Int → Option Told) : Prop := ∃ n D, W.ownsMap Try.prog 3 r105 b n D ∧ IsT D f ∧ n ≤ k
theorem MapAt.lt {W : World} {b k : Nat} {f : Int → Option Told} (h : MapAt W b k f) : b < W.heap.size := by
  obtain ⟨n, D, h1, -⟩ := h
  exact h1.lt
theorem MapAt.same {W W' : World} {b k : Nat} {f : Int → Option Told} (h : MapAt W b k f) (he : W'.heap[b]? = W.heap[b]?) : MapAt W' b k f := by
  obtain ⟨n, D, ⟨es, clock, hb, F, hs, hD⟩, h2, h3⟩ := h
  exact ⟨n, D, ⟨es, clock, he.trans hb, F, hs, hD⟩, h2, h3⟩
theorem MapAt.more {W : World} {b k k' : Nat} {f : Int → Option Told} (h : MapAt W b k f) (hk : k ≤ k') : MapAt W b k' f := by
  obtain ⟨n, D, h1, h2, h3⟩ := h
  exact ⟨n, D, h1, h2, Nat.le_trans h3 hk⟩
theorem MapAt.not_cells {W : World} {b k : Nat} {f : Int → Option Told} (h : MapAt W b k f) {cs : Array Value} {t : TypeId} {fr : Nat × Nat} : W.heap[b]? ≠ some (.cells cs t fr) := by
  obtain ⟨n, D, ⟨es, clock, hb, -⟩, -⟩ := h
  intro e
  rw [hb] at e
  cases e
/-- A life's block, its two maps. -/
structure LifeAt (W : World) (b rb wb k : Nat) (l : Life) : Prop where
  hb : W.heap[b]? = some (.cells #[.int .i64 l.beg, .int .i64 l.fin, .bool l.com, .map (some rb), .map (some wb)] 86 (0, 0))
  hr : MapAt W rb k l.reads
  hw : MapAt W wb k l.writes
theorem LifeAt.same {W W' : World} {b rb wb k : Nat} {l : Life} (h : LifeAt W b rb wb k l) (h1 : W'.heap[b]? = W.heap[b]?) (h2 : W'.heap[rb]? = W.heap[rb]?) (h3 : W'.heap[wb]? = W.heap[wb]?) : LifeAt W' b rb wb k l :=
  ⟨h1.trans h.hb, h.hr.same h2, h.hw.same h3⟩
theorem LifeAt.below {W W' : World} {b rb wb k : Nat} {l : Life} (h : LifeAt W b rb wb k l) (hB : Below W.heap.size W W') : LifeAt W' b rb wb k l :=
  h.same (hB.block _ (blk_lt h.hb)) (hB.block _ h.hr.lt) (hB.block _ h.hw.lt)
theorem LifeAt.more {W : World} {b rb wb k k' : Nat} {l : Life} (h : LifeAt W b rb wb k l) (hk : k ≤ k') : LifeAt W b rb wb k' l := ⟨h.hb, h.hr.more hk, h.hw.more hk⟩
/-- The three blocks of each. -/
abbrev blocksOf (bs : List (Nat × Nat × Nat)) : List Nat := bs.flatMap fun b => [b.1, b.2.1, b.2.2]
/-- All lives, from one block on, each apart from each. -/
structure LivesAt (base : Nat) (W : World) (k : Nat) (bs : List (Nat × Nat × Nat)) (all : List Life) : Prop where
  len : bs.length = all.length
  nd : (blocksOf bs).Nodup
  lo : ∀ q ∈ blocksOf bs, base ≤ q
  at_ : ∀ (i b rb wb : Nat) (l : Life), bs[i]? = some (b, rb, wb) → all[i]? = some l → LifeAt W b rb wb k l
theorem LivesAt.nil (base : Nat) (W : World) (k : Nat) : LivesAt base W k [] [] := ⟨rfl, by simp [blocksOf], (fun q h => by cases h), (fun i b rb wb l h => by simp at h)⟩
theorem mem_blocks {bs : List (Nat × Nat × Nat)} {i b rb wb : Nat} (h : bs[i]? = some (b, rb, wb)) : b ∈ blocksOf bs ∧ rb ∈ blocksOf bs ∧ wb ∈ blocksOf bs := by
  have hm := List.mem_of_getElem? h
  exact ⟨List.mem_flatMap.2 ⟨_, hm, by simp⟩, List.mem_flatMap.2 ⟨_, hm, by simp⟩, List.mem_flatMap.2 ⟨_, hm, by simp⟩⟩
/-- Where none of their blocks was turned. -/
theorem LivesAt.same {base : Nat} {W W' : World} {k : Nat} {bs : List (Nat × Nat × Nat)} {all : List Life} (h : LivesAt base W k bs all) (he : ∀ q ∈ blocksOf bs, W'.heap[q]? = W.heap[q]?) : LivesAt base W' k bs all :=
  ⟨h.len, h.nd, h.lo, fun i b rb wb l hb hl => by
    obtain ⟨m1, m2, m3⟩ := mem_blocks hb
    exact (h.at_ i b rb wb l hb hl).same (he _ m1) (he _ m2) (he _ m3)⟩
theorem LivesAt.lt {base : Nat} {W : World} {k : Nat} {bs : List (Nat × Nat × Nat)} {all : List Life} (h : LivesAt base W k bs all) : ∀ q ∈ blocksOf bs, q < W.heap.size := by
  intro q hq
  obtain ⟨⟨b, rb, wb⟩, hm, hq⟩ := List.mem_flatMap.1 hq
  obtain ⟨i, hi⟩ := List.mem_iff_getElem?.1 hm
  have hlt : i < all.length := by have := (List.getElem?_eq_some_iff.1 hi).1; rw [← h.len]; exact this
  have hA := h.at_ i b rb wb _ hi (List.getElem?_eq_getElem hlt)
  simp only [List.mem_cons, List.not_mem_nil, or_false] at hq
  rcases hq with rfl | rfl | rfl
  · exact blk_lt hA.hb
  · exact hA.hr.lt
  · exact hA.hw.lt
theorem LivesAt.below {base : Nat} {W W' : World} {k : Nat} {bs : List (Nat × Nat × Nat)} {all : List Life} (h : LivesAt base W k bs all) (hB : Below W.heap.size W W') : LivesAt base W' k bs all :=
  h.same fun q hq => hB.block _ (h.lt q hq)
theorem LivesAt.more {base : Nat} {W : World} {k k' : Nat} {bs : List (Nat × Nat × Nat)} {all : List Life} (h : LivesAt base W k bs all) (hk : k ≤ k') : LivesAt base W k' bs all :=
  ⟨h.len, h.nd, h.lo, fun i b rb wb l hb hl => (h.at_ i b rb wb l hb hl).more hk⟩
/-- One of them was turned, and no other block. -/
theorem LivesAt.turn {base : Nat} {W W' : World} {k : Nat} {bs : List (Nat × Nat × Nat)} {all : List Life} (h : LivesAt base W k bs all) {i b rb wb : Nat} {l : Life} (hb : bs[i]? = some (b, rb, wb)) (hi : i < all.length)
    (hO : ∀ q ∈ blocksOf bs, q ≠ b → q ≠ rb → q ≠ wb → W'.heap[q]? = W.heap[q]?) (hl : LifeAt W' b rb wb k l) : LivesAt base W' k bs (all.set i l) := by
  refine ⟨by rw [List.length_set]; exact h.len, h.nd, h.lo, fun j b' rb' wb' l' hb' hl' => ?_⟩
  by_cases hj : i = j
  · subst hj
    rw [hb] at hb'
    injection hb' with hb'
    injection hb' with e1 e2
    injection e2 with e2 e3
    subst e1; subst e2; subst e3
    rw [List.getElem?_set_self hi] at hl'
    injection hl' with hl'
    subst hl'
    exact hl
  · rw [List.getElem?_set_ne hj] at hl'
    have hA := h.at_ j b' rb' wb' l' hb' hl'
    -- two places of a row without doubles
    have hd : ∀ q ∈ [b', rb', wb'], ∀ p ∈ [b, rb, wb], q ≠ p := by
      intro q hq p hp e
      have hnd := h.nd
      unfold blocksOf at hnd
      have hpw := (List.pairwise_flatMap.1 hnd).2
      rcases Nat.lt_or_ge i j with hlt | hge
      · have h1 := List.pairwise_iff_getElem.1 hpw i j (List.getElem?_eq_some_iff.1 hb).1 (List.getElem?_eq_some_iff.1 hb').1 hlt
        rw [(List.getElem?_eq_some_iff.1 hb).2, (List.getElem?_eq_some_iff.1 hb').2] at h1
        exact h1 p hp q hq e.symm
      · have h1 := List.pairwise_iff_getElem.1 hpw j i (List.getElem?_eq_some_iff.1 hb').1 (List.getElem?_eq_some_iff.1 hb).1 (by omega)
        rw [(List.getElem?_eq_some_iff.1 hb).2, (List.getElem?_eq_some_iff.1 hb').2] at h1
        exact h1 q hq p hp e
    obtain ⟨m1, m2, m3⟩ := mem_blocks hb'
    refine hA.same (hO _ m1 ?_ ?_ ?_) (hO _ m2 ?_ ?_ ?_) (hO _ m3 ?_ ?_ ?_) <;> exact hd _ (by simp) _ (by simp)
end Go.Proofs.Ytkijjgdcbgmglaa.Q
