/- What happened, in plain words: lives, taken event by event; who has to stand ahead of whom. -/
import Derived.Test.YtkijjgdcbgmglaaQ0
namespace Go.Proofs.Ytkijjgdcbgmglaa.Q
open Go.RowKit Go.Lib Go.Proofs.Ytkijjgdcbgmglaa Go.Proofs.YtkijjgdcbgmglaaW.PrintWords Go.Proofs.YtkijjgdcbgmglaaW.PrintLast Go.Proofs.YtkijjgdcbgmglaaW.PrintMore
set_option linter.unusedVariables false
set_option linter.unusedSimpArgs false

/-- May a value be? -/
def valR (k n : Int) : Bool := if k = 0 then (n == 0) else if k = 1 then true else if k = 2 then (if n ≥ 0 then decide (n < 64) else false) else false
/-- An event of a life: its number, and its step. -/
structure Told where
  at_ : Int
  st : S103
/-- What is known of one that began: maps are functions. -/
structure Life where
  beg : Int
  fin : Int
  com : Bool
  reads : Int → Option Told
  writes : Int → Option Told
def put (f : Int → Option Told) (x : Int) (t : Told) : Int → Option Told := fun y => if y = x then some t else f y
def newLife (n : Int) : Life := ⟨n, -1, false, fun _ => none, fun _ => none⟩
/-- A step is taken (life.step). -/
def stepL (l : Life) (n : Int) (e : S44) : Life × Bool :=
  if e.f2 < 0 ∨ 64 ≤ e.f2 ∨ valR e.f3.f0 e.f3.f1 = false then (l, false)
  else if e.f0 = 2 then (⟨l.beg, l.fin, l.com, l.reads, put l.writes e.f2 ⟨n, ⟨e.f2, e.f3, true⟩⟩⟩, true)
  else if (l.reads e.f2).isNone = true ∧ (l.writes e.f2).isNone = true then (⟨l.beg, l.fin, l.com, put l.reads e.f2 ⟨n, ⟨e.f2, e.f3, false⟩⟩, l.writes⟩, true)
  else (l, true)
/-- Does an event bear nothing but its kind and its number? -/
def plainE (e : S44) : Bool := decide (e.f2 = 0 ∧ e.f3.f0 = 0 ∧ e.f3.f1 = 0)
/-- An event is taken (lives.take). -/
def takeL (all : List Life) (n : Int) (e : S44) : List Life × Bool :=
  if e.f0 = 0 then (all ++ [newLife n], plainE e && decide (e.f1 = (all.length : Int) + 1) && decide (e.f1 ≤ 32))
  else if e.f1 < 1 ∨ (all.length : Int) < e.f1 then (all, false)
  else match all[(e.f1 - 1).toNat]? with
    | none => (all, false)
    | some l =>
      if l.fin ≥ 0 then (all, false)
      else if e.f0 = 1 ∨ e.f0 = 2 then (all.set (e.f1 - 1).toNat (stepL l n e).1, (stepL l n e).2)
      else if e.f0 = 3 ∨ e.f0 = 4 then (all.set (e.f1 - 1).toNat ⟨l.beg, n, decide (e.f0 = 3), l.reads, l.writes⟩, plainE e)
      else (all, false)
/-- The events from one on, one by one. -/
def livesFrom : List S44 → Int → List Life → Option (List Life)
  | [], _, all => some all
  | e :: h, n, all => if (takeL all n e).2 = true then livesFrom h (n + 1) (takeL all n e).1 else none
/-- All of them; none: the row may not be (lived). -/
def livedL (h : List S44) : Option (List Life) := if 2000 < h.length then none else livesFrom h 0 []
/-- When it was committed; what is too late, if it was not. -/
def commitL (l : Life) : Int := if l.com = true then l.fin else 2000
def leavesL (l : Life) (x : Int) : Bool := (l.writes x).isSome && l.com
def afterL (l : Life) (n x : Int) : Bool := leavesL l x && decide (n < commitL l)
/-- The last one that was committed ahead of an event with a write of a variable (writer): the best so far, from one on. -/
def writerFrom (n x : Int) : List Life → Int → Int → Int → Int
  | [], _, best, _ => best
  | l :: all, i, best, bfin => if leavesL l x = true ∧ l.fin < n ∧ (best < 0 ∨ bfin < l.fin) then writerFrom n x all (i + 1) i l.fin else writerFrom n x all (i + 1) best bfin
def writerL (all : List Life) (n x : Int) : Int := writerFrom n x all 0 (-1) 0
/-- Has one to stand ahead of another one (ahead)? Variables are those from 0 to 63. -/
def aheadL (all : List Life) (i k : Nat) : Bool :=
  match all[i]?, all[k]? with
  | some a, some b =>
    decide (0 ≤ a.fin ∧ a.fin < b.beg)
    || (List.range 64).any (fun x => match b.reads x with | some r => decide (writerL all r.at_ x = i) | none => false)
    || (List.range 64).any (fun x => (a.writes x).isSome && leavesL a x && afterL b (commitL a) x)
    || (List.range 64).any (fun x => match a.reads x with | some r => afterL b r.at_ x | none => false)
  | _, _ => false
/-! ### What holds all the way -/
/-- Steps are of variables that there are. -/
structure LifeOK (l : Life) : Prop where
  r : ∀ x t, l.reads x = some t → 0 ≤ x ∧ x < 64 ∧ t.st.f0 = x ∧ t.st.f2 = false
  w : ∀ x t, l.writes x = some t → 0 ≤ x ∧ x < 64 ∧ t.st.f0 = x ∧ t.st.f2 = true
theorem newLife_ok (n : Int) : LifeOK (newLife n) := ⟨(fun x t h => by cases h), (fun x t h => by cases h)⟩
theorem stepL_ok {l : Life} {n : Int} {e : S44} (h : LifeOK l) : LifeOK (stepL l n e).1 := by
  unfold stepL
  split
  · exact h
  rename_i h0
  split
  · refine ⟨h.r, fun x t ht => ?_⟩
    unfold put at ht
    dsimp only at ht
    split at ht
    · rename_i hx
      injection ht with ht
      subst ht
      exact ⟨by omega, by omega, hx.symm, rfl⟩
    · exact h.w x t ht
  split
  · refine ⟨fun x t ht => ?_, h.w⟩
    unfold put at ht
    dsimp only at ht
    split at ht
    · rename_i hx
      injection ht with ht
      subst ht
      exact ⟨by omega, by omega, hx.symm, rfl⟩
    · exact h.r x t ht
  · exact h
theorem takeL_ok {all : List Life} {n : Int} {e : S44} (h : ∀ l ∈ all, LifeOK l) : ∀ l ∈ (takeL all n e).1, LifeOK l := by
  unfold takeL
  split
  · intro l hl
    rcases List.mem_append.1 hl with h1 | h1
    · exact h l h1
    · obtain rfl := List.mem_singleton.1 h1
      exact newLife_ok n
  split
  · exact h
  split
  · exact h
  rename_i l0 hl0
  have h0 := h l0 (List.mem_of_getElem? hl0)
  split
  · exact h
  split
  · intro l hl
    rcases List.mem_or_eq_of_mem_set hl with h1 | rfl
    · exact h l h1
    · exact stepL_ok h0
  split
  · intro l hl
    rcases List.mem_or_eq_of_mem_set hl with h1 | rfl
    · exact h l h1
    · exact ⟨h0.r, h0.w⟩
  · exact h
theorem takeL_len {all : List Life} {n : Int} {e : S44} : (takeL all n e).1.length ≤ all.length + 1 := by
  unfold takeL
  split
  · simp
  split
  · exact Nat.le_succ _
  split
  · exact Nat.le_succ _
  split
  · exact Nat.le_succ _
  split
  · simp
  split
  · simp
  · exact Nat.le_succ _
/-- There are never more than 32. -/
theorem takeL_most {all : List Life} {n : Int} {e : S44} (h : all.length ≤ 32) (hr : (takeL all n e).2 = true) : (takeL all n e).1.length ≤ 32 := by
  unfold takeL at hr ⊢
  split at hr
  · rename_i h0
    rw [if_pos h0]
    simp only [Bool.and_eq_true, decide_eq_true_eq] at hr
    simp only [List.length_append, List.length_singleton]
    omega
  rename_i h0
  rw [if_neg h0]
  split at hr
  · cases hr
  rename_i h1
  rw [if_neg h1]
  split at hr
  · cases hr
  rename_i l0 hl0
  split
  · exact h
  split
  · simpa using h
  split
  · simpa using h
  · exact h
theorem livesFrom_ok : ∀ (h : List S44) (n : Int) (all r : List Life), livesFrom h n all = some r → all.length ≤ 32 → (∀ l ∈ all, LifeOK l) → r.length ≤ 32 ∧ ∀ l ∈ r, LifeOK l
  | [], n, all, r, h, h1, h2 => by
    injection h with h
    subst h
    exact ⟨h1, h2⟩
  | e :: h, n, all, r, hr, h1, h2 => by
    unfold livesFrom at hr
    split at hr
    · rename_i ht
      exact livesFrom_ok h (n + 1) _ r hr (takeL_most h1 ht) (takeL_ok h2)
    · cases hr
end Go.Proofs.Ytkijjgdcbgmglaa.Q
