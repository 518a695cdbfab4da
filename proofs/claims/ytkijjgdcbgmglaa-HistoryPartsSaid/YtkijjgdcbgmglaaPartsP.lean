/- What is in a beginning stands as before, or is not over yet: in plain words. -/
import Derived.Test.YtkijjgdcbgmglaaHSpans
namespace Go.Proofs.Ytkijjgdcbgmglaa.Q
open Go.RowKit Go.Lib Go.Proofs.Ytkijjgdcbgmglaa
set_option linter.unusedVariables false
set_option linter.unusedSimpArgs false
theorem livesFrom_append : ∀ (h1 h2 : List S44) (n : Int) (all : List Life), livesFrom (h1 ++ h2) n all = (livesFrom h1 n all).bind fun r => livesFrom h2 (n + h1.length) r
  | [], h2, n, all => by simp [livesFrom]
  | a :: h1, h2, n, all => by
    rw [List.cons_append]
    rw [show livesFrom (a :: (h1 ++ h2)) n all = if (takeL all n a).2 = true then livesFrom (h1 ++ h2) (n + 1) (takeL all n a).1 else none from rfl, show livesFrom (a :: h1) n all = if (takeL all n a).2 = true then livesFrom h1 (n + 1) (takeL all n a).1 else none from rfl]
    by_cases hq : (takeL all n a).2 = true
    · have : n + 1 + (h1.length : Int) = n + ((a :: h1).length : Int) := by rw [List.length_cons]; push_cast; omega
      rw [if_pos hq, if_pos hq, livesFrom_append h1 h2 (n + 1), this]
    · rw [if_neg hq, if_neg hq]
      rfl
/-- How lives go on from one event on. -/
structure Cont (m : Int) (a b : List Life) : Prop where
  len : a.length ≤ b.length
  at_ : ∀ (i : Nat) (l l' : Life), a[i]? = some l → b[i]? = some l' → l'.beg = l.beg ∧ (0 ≤ l.fin → l'.fin = l.fin) ∧ (l.fin < 0 → l'.fin < 0 ∨ m ≤ l'.fin)
theorem Cont.refl (m : Int) (a : List Life) : Cont m a a := ⟨Nat.le_refl _, fun i l l' h1 h2 => by rw [h1] at h2; injection h2 with h2; subst h2; exact ⟨rfl, fun _ => rfl, fun h => .inl h⟩⟩
theorem Cont.trans {m m' : Int} {a b c : List Life} (h : Cont m a b) (k : Cont m' b c) (hm : m ≤ m') (h0 : 0 ≤ m) : Cont m a c := by
  refine ⟨Nat.le_trans h.len k.len, fun i l l'' h1 h3 => ?_⟩
  have hi : i < b.length := Nat.lt_of_lt_of_le (List.getElem?_eq_some_iff.1 h1).1 h.len
  have h2 : b[i]? = some b[i] := List.getElem?_eq_getElem hi
  obtain ⟨a1, a2, a3⟩ := h.at_ i l _ h1 h2
  obtain ⟨b1, b2, b3⟩ := k.at_ i _ l'' h2 h3
  refine ⟨b1.trans a1, fun h => ?_, fun h => ?_⟩
  · have := a2 h
    rw [b2 (by omega), this]
  · rcases a3 h with h4 | h4
    · rcases b3 h4 with h5 | h5
      · exact .inl h5
      · exact .inr (by omega)
    · exact .inr (by rw [b2 (by omega)]; exact h4)
theorem stepL_span (l : Life) (n : Int) (e : S44) : (stepL l n e).1.beg = l.beg ∧ (stepL l n e).1.fin = l.fin := by
  unfold stepL
  split
  · exact ⟨rfl, rfl⟩
  split
  · exact ⟨rfl, rfl⟩
  split <;> exact ⟨rfl, rfl⟩
theorem cont_set {m : Int} {all : List Life} {i : Nat} {l l' : Life} (hi : all[i]? = some l) (h : l'.beg = l.beg ∧ (0 ≤ l.fin → l'.fin = l.fin) ∧ (l.fin < 0 → l'.fin < 0 ∨ m ≤ l'.fin)) : Cont m all (all.set i l') := by
  have hlt : i < all.length := (List.getElem?_eq_some_iff.1 hi).1
  refine ⟨by simp, fun k a b h1 h2 => ?_⟩
  by_cases hk : i = k
  · subst hk
    rw [List.getElem?_set_self hlt] at h2
    injection h2 with h2
    subst h2
    rw [hi] at h1
    injection h1 with h1
    subst h1
    exact h
  · rw [List.getElem?_set_ne hk, h1] at h2
    injection h2 with h2
    subst h2
    exact ⟨rfl, fun _ => rfl, fun h => .inl h⟩
theorem takeL_cont {all : List Life} {n : Int} {e : S44} : Cont n all (takeL all n e).1 := by
  unfold takeL
  split
  · refine ⟨by simp, fun k a b h1 h2 => ?_⟩
    have hk := (List.getElem?_eq_some_iff.1 h1).1
    rw [List.getElem?_append_left hk, h1] at h2
    injection h2 with h2
    subst h2
    exact ⟨rfl, fun _ => rfl, fun h => .inl h⟩
  split
  · exact Cont.refl _ _
  split
  · exact Cont.refl _ _
  rename_i l hl
  split
  · exact Cont.refl _ _
  rename_i h3
  split
  · obtain ⟨s1, s2⟩ := stepL_span l n e
    exact cont_set hl ⟨s1, fun _ => s2, fun h => .inl (by rw [s2]; exact h)⟩
  split
  · exact cont_set hl ⟨rfl, fun h => absurd h h3, fun _ => .inr (Int.le_refl n)⟩
  · exact Cont.refl _ _
theorem livesFrom_cont : ∀ (h : List S44) (n : Int) (all r : List Life), 0 ≤ n → livesFrom h n all = some r → Cont n all r
  | [], n, all, r, _, h => by
    injection h with h
    subst h
    exact Cont.refl _ _
  | e :: h, n, all, r, h0, hr => by
    unfold livesFrom at hr
    split at hr
    · exact takeL_cont.trans (livesFrom_cont h (n + 1) _ r (by omega) hr) (by omega) h0
    · cases hr
/-- A beginning of a row that may be. -/
theorem parts_all {T : List S44} {k : Nat} (hl : T.length ≤ 1000) (hk : k ≤ T.length) (hs : (livedL T).isSome = true) :
    (livedL (T.take k)).isSome = true ∧ Cont (k : Int) (allL (T.take k)) (allL T) ∧ ∀ l ∈ allL (T.take k), LifeT k l := by
  have hl1 : ¬ 2000 < T.length := by omega
  have hlen : (T.take k).length = k := by rw [List.length_take]; omega
  have hl2 : ¬ 2000 < (T.take k).length := by omega
  have hsp : T = T.take k ++ T.drop k := (List.take_append_drop k T).symm
  have hT : livedL T = (livesFrom (T.take k) 0 []).bind fun r => livesFrom (T.drop k) (k : Int) r := by
    unfold livedL
    rw [if_neg hl1]
    conv => lhs; rw [hsp]
    rw [livesFrom_append, hlen, Int.zero_add]
  cases hr : livesFrom (T.take k) 0 [] with
  | none => rw [hT, hr] at hs; cases hs
  | some r =>
    have e1 : livedL (T.take k) = some r := by unfold livedL; rw [if_neg hl2]; exact hr
    rw [hr] at hT
    simp only [Option.bind_some] at hT
    have a1 : allL (T.take k) = r := by unfold allL; rw [e1]; rfl
    cases hq : livesFrom (T.drop k) (k : Int) r with
    | none => rw [hT, hq] at hs; cases hs
    | some q =>
      rw [hq] at hT
      have a2 : allL T = q := by unfold allL; rw [hT]; rfl
      have ht := livesFrom_t (T.take k) 0 [] r (by omega) hr (fun l hl => by simp at hl)
      rw [hlen, Int.zero_add] at ht
      rw [a1, a2]
      exact ⟨by rw [e1]; rfl, livesFrom_cont _ _ _ _ (by omega) hq, ht⟩
end Go.Proofs.Ytkijjgdcbgmglaa.Q
