/- An event more takes no edge away: in plain words. -/
import Derived.Test.YtkijjgdcbgmglaaHGraph
import Derived.Test.YtkijjgdcbgmglaaHSpans
namespace Go.Proofs.Ytkijjgdcbgmglaa.Q
open Go.RowKit Go.Lib Go.Proofs.Ytkijjgdcbgmglaa
set_option linter.unusedVariables false
set_option linter.unusedSimpArgs false
def vis (n x : Int) (l : Life) : Bool := leavesL l x && decide (l.fin < n)
theorem writerFrom_cons (n x : Int) (l : Life) (all : List Life) (i best bfin : Int) : writerFrom n x (l :: all) i best bfin = if vis n x l = true ∧ (best < 0 ∨ bfin < l.fin) then writerFrom n x all (i + 1) i l.fin else writerFrom n x all (i + 1) best bfin := by
  show (if leavesL l x = true ∧ l.fin < n ∧ (best < 0 ∨ bfin < l.fin) then _ else _) = _
  by_cases h : leavesL l x = true ∧ l.fin < n ∧ (best < 0 ∨ bfin < l.fin)
  · rw [if_pos h, if_pos ⟨by unfold vis; simp [h.1, h.2.1], h.2.2⟩]
  · rw [if_neg h, if_neg (fun h2 => h (by unfold vis at h2; simp only [Bool.and_eq_true, decide_eq_true_eq] at h2; exact ⟨h2.1.1, h2.1.2, h2.2⟩))]
theorem writerFrom_same (n x : Int) : ∀ (all all' : List Life) (i best bfin : Int), all.length = all'.length → (∀ (k : Nat) (l l' : Life), all[k]? = some l → all'[k]? = some l' → l' = l ∨ (vis n x l = false ∧ vis n x l' = false)) →
    writerFrom n x all' i best bfin = writerFrom n x all i best bfin
  | [], [], i, best, bfin, _, _ => rfl
  | [], b :: all', i, best, bfin, h, _ => by simp at h
  | a :: all, [], i, best, bfin, h, _ => by simp at h
  | a :: all, b :: all', i, best, bfin, h, hv => by
    have hl : all.length = all'.length := by simpa using h
    have ih := fun i best bfin => writerFrom_same n x all all' i best bfin hl (fun k l l' h1 h2 => hv (k + 1) l l' (by simpa using h1) (by simpa using h2))
    rw [writerFrom_cons, writerFrom_cons]
    rcases hv 0 a b rfl rfl with rfl | ⟨h1, h2⟩
    · simp only [ih]
    · rw [h1, h2]
      simp only [Bool.false_eq_true, false_and, if_false]
      exact ih _ _ _
theorem writerFrom_snoc (n x : Int) (z : Life) (hz : vis n x z = false) : ∀ (all : List Life) (i best bfin : Int), writerFrom n x (all ++ [z]) i best bfin = writerFrom n x all i best bfin
  | [], i, best, bfin => by
    show writerFrom n x [z] i best bfin = best
    rw [writerFrom_cons, hz]
    simp [writerFrom]
  | a :: all, i, best, bfin => by
    rw [List.cons_append, writerFrom_cons, writerFrom_cons, writerFrom_snoc n x z hz all, writerFrom_snoc n x z hz all]
/-- What one may become when an event comes. -/
structure Ext (n : Int) (l l' : Life) : Prop where
  beg : l'.beg = l.beg
  reads : ∀ x t, l.reads x = some t → l'.reads x = some t
  over : l.com = true ∨ 0 ≤ l.fin → l' = l
  open_ : l.com = false → l'.com = false ∨ n ≤ l'.fin ∨ l' = l
theorem Ext.refl (n : Int) (l : Life) : Ext n l l := ⟨rfl, fun _ _ h => h, fun _ => rfl, fun _ => .inr (.inr rfl)⟩
/-- Numbers of steps lie ahead. -/
def Old (n : Int) (l : Life) : Prop := (∀ x t, l.reads x = some t → t.at_ < n) ∧ ∀ x t, l.writes x = some t → t.at_ < n
theorem ahead_more {n : Int} {all all' : List Life} {i j : Nat} {a b a' b' : Life} (ha : all[i]? = some a) (hb : all[j]? = some b) (ha' : all'[i]? = some a') (hb' : all'[j]? = some b') (ea : Ext n a a') (eb : Ext n b b') (ob : Old n b)
    (hw : ∀ m x, m < n → writerL all' m x = writerL all m x) (h : aheadL all i j = true) : aheadL all' i j = true := by
  rw [ahead_eq ha hb] at h
  rw [ahead_eq ha' hb']
  simp only [Bool.or_eq_true] at h ⊢
  rcases h with ((h | h) | h) | h
  · left; left; left
    simp only [decide_eq_true_eq] at h ⊢
    have := ea.over (.inr h.1)
    subst this
    rw [eb.beg]
    exact h
  · left; left; right
    unfold anyT at h ⊢
    rw [List.any_eq_true] at h ⊢
    obtain ⟨x, hx, hp⟩ := h
    refine ⟨x, hx, ?_⟩
    cases hr : b.reads (x : Int) with
    | none => rw [hr] at hp; cases hp
    | some t =>
      rw [hr] at hp
      rw [eb.reads _ _ hr]
      show decide (writerL all' t.at_ (x : Int) = i) = true
      rw [hw _ _ (ob.1 _ _ hr)]
      exact hp
  · left; right
    unfold anyT at h ⊢
    rw [List.any_eq_true] at h ⊢
    obtain ⟨x, hx, hp⟩ := h
    refine ⟨x, hx, ?_⟩
    cases hr : a.writes (x : Int) with
    | none => rw [hr] at hp; cases hp
    | some t =>
      rw [hr] at hp
      have hp' : (leavesL a (x : Int) && afterL b (commitL a) (x : Int)) = true := hp
      rw [Bool.and_eq_true] at hp'
      have h1 : a.com = true := by have := hp'.1; unfold leavesL at this; simp only [Bool.and_eq_true] at this; exact this.2
      have h2 : b.com = true := by have := hp'.2; unfold afterL leavesL at this; simp only [Bool.and_eq_true] at this; exact this.1.2
      have e1 := ea.over (.inl h1)
      have e2 := eb.over (.inl h2)
      subst e1; subst e2
      rw [hr]
      exact hp
  · right
    unfold anyT at h ⊢
    rw [List.any_eq_true] at h ⊢
    obtain ⟨x, hx, hp⟩ := h
    refine ⟨x, hx, ?_⟩
    cases hr : a.reads (x : Int) with
    | none => rw [hr] at hp; cases hp
    | some t =>
      rw [hr] at hp
      have hp' : afterL b t.at_ (x : Int) = true := hp
      have h2 : b.com = true := by unfold afterL leavesL at hp'; simp only [Bool.and_eq_true] at hp'; exact hp'.1.2
      have e2 := eb.over (.inl h2)
      subst e2
      rw [ea.reads _ _ hr]
      exact hp
/-- How all lives grow by an event. -/
structure More (n : Int) (all all' : List Life) : Prop where
  len : all.length ≤ all'.length
  ext : ∀ (i : Nat) (l l' : Life), all[i]? = some l → all'[i]? = some l' → Ext n l l'
  wr : ∀ m x, m ≤ n → writerL all' m x = writerL all m x
theorem stepL_ext (l : Life) (n : Int) (e : S44) (hf : l.fin < 0) (hc : l.com = false) : Ext n l (stepL l n e).1 := by
  have ho : ¬ (l.com = true ∨ 0 ≤ l.fin) := by rw [hc]; intro h; rcases h with h | h; cases h; omega
  unfold stepL
  split
  · exact Ext.refl _ _
  split
  · exact ⟨rfl, fun _ _ h => h, fun h => absurd h ho, fun _ => .inl hc⟩
  split
  · rename_i h3
    refine ⟨rfl, fun x t h => ?_, fun h => absurd h ho, fun _ => .inl hc⟩
    unfold put
    dsimp only
    split
    · rename_i hx
      subst hx
      have := h3.1
      rw [h] at this
      cases this
    · exact h
  · exact Ext.refl _ _
theorem more_set {n : Int} {all : List Life} {i : Nat} {l l' : Life} (hi : all[i]? = some l) (hE : Ext n l l') (hc : l.com = false) (hv : ∀ m x, m ≤ n → vis m x l' = false) : More n all (all.set i l') := by
  have hlt : i < all.length := (List.getElem?_eq_some_iff.1 hi).1
  refine ⟨by simp, fun k a b h1 h2 => ?_, fun m x hm => ?_⟩
  · by_cases hk : i = k
    · subst hk
      rw [List.getElem?_set_self hlt] at h2
      injection h2 with h2
      subst h2
      rw [hi] at h1
      injection h1 with h1
      subst h1
      exact hE
    · rw [List.getElem?_set_ne hk, h1] at h2
      injection h2 with h2
      subst h2
      exact Ext.refl _ _
  · unfold writerL
    refine writerFrom_same m x all _ 0 (-1) 0 (by simp) fun k a b h1 h2 => ?_
    by_cases hk : i = k
    · subst hk
      rw [List.getElem?_set_self hlt] at h2
      injection h2 with h2
      subst h2
      rw [hi] at h1
      injection h1 with h1
      subst h1
      exact .inr ⟨by unfold vis leavesL; simp [hc], hv m x hm⟩
    · rw [List.getElem?_set_ne hk, h1] at h2
      injection h2 with h2
      exact .inl h2.symm
theorem takeL_more {all : List Life} {n : Int} {e : S44} (h0 : 0 ≤ n) (h : ∀ l ∈ all, LifeT n l) (hr : (takeL all n e).2 = true) : More n all (takeL all n e).1 := by
  unfold takeL at hr ⊢
  split at hr
  · rename_i h1
    rw [if_pos h1]
    refine ⟨by simp, fun k a b h1 h2 => ?_, fun m x hm => ?_⟩
    · have hk := (List.getElem?_eq_some_iff.1 h1).1
      rw [List.getElem?_append_left hk, h1] at h2
      injection h2 with h2
      subst h2
      exact Ext.refl _ _
    · unfold writerL
      exact writerFrom_snoc m x _ (by unfold vis leavesL newLife; simp) all 0 (-1) 0
  rename_i h1
  rw [if_neg h1]
  split at hr
  · cases hr
  rename_i h2
  rw [if_neg h2]
  split at hr
  · cases hr
  rename_i l hl
  have ht := h l (List.mem_of_getElem? hl)
  try simp only [hl]
  split at hr
  · cases hr
  rename_i h3
  rw [if_neg h3]
  have hc : l.com = false := by rcases ht.e with h4 | h4; exact h4.2; (have := ht.b0; omega)
  split at hr
  · rename_i h4
    rw [if_pos h4]
    have hE := stepL_ext l n e (by omega) hc
    refine more_set hl hE hc (fun m x hm => ?_)
    have : (stepL l n e).1.com = false := by
      unfold stepL
      split
      · exact hc
      split
      · exact hc
      split <;> exact hc
    unfold vis leavesL
    simp [this]
  rename_i h4
  rw [if_neg h4]
  split at hr
  · rename_i h5
    rw [if_pos h5]
    refine more_set hl ⟨rfl, fun _ _ h => h, fun h => ?_, fun _ => .inr (.inl (Int.le_refl n))⟩ hc (fun m x hm => ?_)
    · rcases h with h | h
      · rw [hc] at h; cases h
      · omega
    · unfold vis
      have : decide (n < m) = false := by simp; omega
      show (_ && decide (n < m)) = false
      rw [this, Bool.and_false]
  · cases hr
end Go.Proofs.Ytkijjgdcbgmglaa.Q
