/- The transactions that are started, as the law tells them: they are those that a machine takes. No walk. -/
import Derived.Test.YtkecbdeekpbbjaaLaw0
import Derived.Test.YtkecbdeekpbbjaaQ8
namespace Go.Proofs.Ytkecbdeekpbbjaa
open Go.RowKit Go.Lib Go.Proofs.Ytkecbdeekpbbjaa.Q Go.Proofs.YtkecbdeekpbbjaaW.PrintWords Go.Proofs.YtkecbdeekpbbjaaW.PrintLast Go.Proofs.YtkecbdeekpbbjaaW.PrintMore
set_option linter.unusedVariables false
set_option linter.unusedSimpArgs false

theorem rdT {l : List S69} {i : Nat} (h : i < l.length) : rd_T69 l (i : Int) = l[i] := by
  unfold rd_T69
  rw [Int.toNat_natCast, List.getD_eq_getElem?_getD, List.getElem?_eq_getElem h]
  rfl
theorem wnext {i : Nat} (h : i < 9223372036854775807) : wrap64 ((i : Int) + 1) = ((i + 1 : Nat) : Int) := by unfold wrap64; omega
/-- What a search has found so far. -/
def FI (l : List S69) (x : Int) (w : Bool) (i : Nat) (b : Int) : Prop := (b = -1 ∧ ∀ j s, j < i → l[j]? = some s → ¬ (s.f0 = x ∧ s.f2 = w)) ∨ ∃ (j : Nat) (s : S69), b = j ∧ l[j]? = some s ∧ s.f0 = x ∧ s.f2 = w
theorem FI.next {l : List S69} {x : Int} {w : Bool} {i : Nat} {b : Int} (h : FI l x w i b) (hi : i < l.length) (hn : ¬ (l[i].f0 = x ∧ l[i].f2 = w)) : FI l x w (i + 1) b := by
  rcases h with ⟨h1, h2⟩ | h
  · refine .inl ⟨h1, fun j s hj hs => ?_⟩
    rcases Nat.lt_or_ge j i with hl | hl
    · exact h2 j s hl hs
    · obtain rfl : j = i := by omega
      rw [List.getElem?_eq_getElem hi] at hs
      cases hs
      exact hn
  · exact .inr h
theorem find_from (l : List S69) (hl : l.length ≤ 1000000) (x : Int) (w la : Bool) : ∀ (d k i : Nat) (b : Int), i + d = l.length → d < k → FI l x w i b → ∃ r, warpbeamref08_Find.l0 k l x w la b (i : Int) = some r ∧ FI l x w l.length r := by
  intro d
  induction d with
  | zero =>
    intro k i b hi hk hF
    obtain ⟨k, rfl⟩ : ∃ m, k = m + 1 := ⟨k - 1, by omega⟩
    unfold warpbeamref08_Find.l0
    rw [if_neg (by omega)]
    obtain rfl : i = l.length := by omega
    exact ⟨b, rfl, hF⟩
  | succ d ih =>
    intro k i b hi hk hF
    obtain ⟨k, rfl⟩ : ∃ m, k = m + 1 := ⟨k - 1, by omega⟩
    unfold warpbeamref08_Find.l0
    have hlt : i < l.length := by omega
    rw [if_pos (by omega), if_pos (by omega), rdT hlt, wnext (by omega)]
    have hit : l[i].f0 = x → l[i].f2 = w → FI l x w (i + 1) (i : Int) := fun h1 h2 => .inr ⟨i, l[i], rfl, List.getElem?_eq_getElem hlt, h1, h2⟩
    by_cases h1 : l[i].f0 = x
    · rw [if_pos h1]
      by_cases h2 : (l[i].f2 == w) = true
      · rw [if_pos h2]
        have h2' : l[i].f2 = w := by simpa using h2
        by_cases h3 : b < 0
        · rw [if_pos h3]
          exact ih k (i + 1) _ (by omega) (by omega) (hit h1 h2')
        · rw [if_neg h3]
          cases la with
          | true =>
            rw [if_pos rfl]
            exact ih k (i + 1) _ (by omega) (by omega) (hit h1 h2')
          | false =>
            rw [if_neg (by decide)]
            refine ih k (i + 1) _ (by omega) (by omega) ?_
            rcases hF with ⟨hb, _⟩ | hF
            · omega
            · exact .inr hF
      · rw [if_neg h2]
        exact ih k (i + 1) _ (by omega) (by omega) (hF.next hlt fun h => h2 (by rw [h.2]; simp))
    · rw [if_neg h1]
      exact ih k (i + 1) _ (by omega) (by omega) (hF.next hlt fun h => h1 h.1)
theorem find_f (l : List S69) (hl : l.length ≤ 1000000) (x : Int) (w la : Bool) (k : Nat) (hk : l.length < k) : ∃ r, warpbeamref08_Find.f k l x w la = some r ∧ FI l x w l.length r := by
  unfold warpbeamref08_Find.f
  exact find_from l hl x w la l.length k 0 (-1) (by omega) hk (.inl ⟨rfl, fun j s hj => by omega⟩)

/-- A variable is among some steps. -/
def hasX (r : List S69) (x : Int) : Prop := ∃ s ∈ r, s.f0 = x
def inT (l : List S69) (w : Bool) (x : Int) : Prop := ∃ s ∈ l, s.f0 = x ∧ s.f2 = w
theorem each_from (l : List S69) (hl : l.length ≤ 1000000) (w : Bool) : ∀ (d k i : Nat) (out : List S69), i + d = 64 → d + l.length + 1 < k → out.length ≤ i → (∀ x : Int, hasX out x ↔ (0 ≤ x ∧ x < i ∧ inT l w x)) →
    ∃ r, warpbeamref08_Each.l0 k l w out (i : Int) = some r ∧ r.length ≤ 64 ∧ ∀ x : Int, hasX r x ↔ (0 ≤ x ∧ x < 64 ∧ inT l w x) := by
  intro d
  induction d with
  | zero =>
    intro k i out hi hk ho hI
    obtain ⟨k, rfl⟩ : ∃ m, k = m + 1 := ⟨k - 1, by omega⟩
    unfold warpbeamref08_Each.l0
    obtain rfl : i = 64 := by omega
    rw [if_neg (by omega)]
    exact ⟨out, rfl, ho, hI⟩
  | succ d ih =>
    intro k i out hi hk ho hI
    obtain ⟨k, rfl⟩ : ∃ m, k = m + 1 := ⟨k - 1, by omega⟩
    unfold warpbeamref08_Each.l0
    rw [if_pos (by omega)]
    obtain ⟨r, hr, hF⟩ := find_f l hl (i : Int) w w k (by omega)
    rw [hr, Option.bind_some, wnext (by omega)]
    rcases hF with ⟨rfl, hno⟩ | ⟨j, s, rfl, hs, h1, h2⟩
    · rw [if_neg (by decide)]
      refine ih k (i + 1) out (by omega) (by omega) (by omega) fun x => (hI x).trans ⟨fun ⟨a, b, c⟩ => ⟨a, by omega, c⟩, fun ⟨a, b, c⟩ => ⟨a, ?_, c⟩⟩
      apply Classical.byContradiction
      intro hx
      obtain rfl : x = i := by omega
      obtain ⟨s, hs, h1, h2⟩ := c
      obtain ⟨j, hj⟩ := List.getElem?_of_mem hs
      exact hno j s (List.getElem?_eq_some_iff.1 hj).1 hj ⟨h1, h2⟩
    · have hj := (List.getElem?_eq_some_iff.1 hs).1
      rw [if_pos (by omega), if_pos (by omega), if_pos (by omega), if_pos (by omega), rdT hj]
      have hsj : l[j] = s := by rw [List.getElem?_eq_getElem hj] at hs; exact Option.some.inj hs
      refine ih k (i + 1) _ (by omega) (by omega) (by simp; omega) fun x => ?_
      constructor
      · rintro ⟨t, ht, htx⟩
        rw [List.mem_append, List.mem_singleton] at ht
        rcases ht with ht | ht
        · obtain ⟨a, b, c⟩ := (hI x).1 ⟨t, ht, htx⟩
          exact ⟨a, by omega, c⟩
        · subst ht
          have hx : x = i := by rw [← htx, hsj]; exact h1
          subst hx
          exact ⟨by omega, by omega, s, List.mem_of_getElem? hs, h1, h2⟩
      · rintro ⟨a, b, c⟩
        by_cases hx : x = i
        · exact ⟨_, List.mem_append.2 (.inr (List.mem_singleton.2 rfl)), by rw [hsj, hx]; exact h1⟩
        · obtain ⟨t, ht, htx⟩ := (hI x).2 ⟨a, by omega, c⟩
          exact ⟨t, List.mem_append.2 (.inl ht), htx⟩
theorem each_f (l : List S69) (hl : l.length ≤ 1000000) (w : Bool) (k : Nat) (hk : l.length + 70 < k) : ∃ r, warpbeamref08_Each.f k l w = some r ∧ r.length ≤ 64 ∧ ∀ x : Int, hasX r x ↔ (0 ≤ x ∧ x < 64 ∧ inT l w x) := by
  unfold warpbeamref08_Each.f
  refine each_from l hl w 64 k 0 [] (by omega) (by omega) (by simp) fun x => ⟨?_, ?_⟩
  · rintro ⟨s, hs, _⟩; cases hs
  · rintro ⟨a, b, _⟩; omega
/-- The variables of a transaction that a machine looks at. -/
theorem writesL_has (t : List S54) (x : Int) : (∃ s ∈ writesL t, s.f0 = x) ↔ (0 ≤ x ∧ x < 64 ∧ ∃ s ∈ t, s.f0 = x ∧ s.f2 = true) := by
  constructor
  · rintro ⟨s, hs, rfl⟩
    obtain ⟨a, b, c, d⟩ := mem_writesL hs
    exact ⟨c, d, s, a, rfl, b⟩
  · rintro ⟨h0, h1, s, hs, hx, hw⟩
    have hsome : (writesF t x).isSome := by
      unfold writesF
      have : ∀ (l : List S54) (f : Int → Option S54), ((f x).isSome ∨ s ∈ l) → ((l.foldl putW f) x).isSome := by
        intro l
        induction l with
        | nil => intro f h; rcases h with h | h; exact h; cases h
        | cons a l ih =>
          intro f h
          refine ih _ ?_
          by_cases ha : s = a
          · left
            subst ha
            unfold putW
            rw [if_pos ⟨hw, by rw [hx]; exact h0, by rw [hx]; exact h1⟩]
            simp [hx]
          · rcases h with h | h
            · left
              unfold putW
              split
              · show (if x = a.f0 then some a else f x).isSome
                split
                · rfl
                · exact h
              · exact h
            · rcases List.mem_cons.1 h with h | h
              · exact absurd h ha
              · exact .inr h
      exact this t _ (.inr hs)
    obtain ⟨u, hu⟩ := Option.isSome_iff_exists.1 hsome
    have hg := good_writes t x u hu
    exact ⟨u, (mem_listOf (good_writes t)).2 (by rw [hg.1]; exact hu), hg.1⟩
theorem readsL_has (t : List S54) (x : Int) : (∃ s ∈ readsL t, s.f0 = x) ↔ (0 ≤ x ∧ x < 64 ∧ ∃ s ∈ t, s.f0 = x ∧ s.f2 = false) := by
  constructor
  · rintro ⟨s, hs, rfl⟩
    obtain ⟨a, b, c, d⟩ := mem_readsL hs
    exact ⟨c, d, s, a, rfl, b⟩
  · rintro ⟨h0, h1, s, hs, hx, hw⟩
    obtain ⟨p, hp, hps⟩ : ∃ p ∈ rz t, p.2 = s := by
      obtain ⟨i, hi⟩ := List.getElem?_of_mem hs
      have hl := (List.getElem?_eq_some_iff.1 hi).1
      unfold rz
      refine ⟨_, List.mem_map.2 ⟨t.length - 1 - i, List.mem_range.2 (by omega), rfl⟩, ?_⟩
      show t.getD (t.length - 1 - (t.length - 1 - i)) z54 = s
      rw [show t.length - 1 - (t.length - 1 - i) = i by omega, List.getD_eq_getElem?_getD, hi]
      rfl
    have hsome : (readsF (rz t) x).isSome := by
      unfold readsF
      have : ∀ (l : List (Nat × S54)) (f : Int → Option S54), ((f x).isSome ∨ p ∈ l) → ((l.foldl (fun f p => putR f p.2) f) x).isSome := by
        intro l
        induction l with
        | nil => intro f h; rcases h with h | h; exact h; cases h
        | cons a l ih =>
          intro f h
          refine ih _ ?_
          by_cases ha : p = a
          · left
            subst ha
            show (putR f p.2 x).isSome
            unfold putR
            rw [hps, if_pos ⟨hw, by rw [hx]; exact h0, by rw [hx]; exact h1⟩]
            simp [hx]
          · rcases h with h | h
            · left
              show (putR f a.2 x).isSome
              unfold putR
              split
              · show (if x = a.2.f0 then some a.2 else f x).isSome
                split
                · rfl
                · exact h
              · exact h
            · rcases List.mem_cons.1 h with h | h
              · exact absurd h ha
              · exact .inr h
      exact this (rz t) _ (.inr hp)
    obtain ⟨u, hu⟩ := Option.isSome_iff_exists.1 hsome
    have hg := good_reads (rz t) x u hu
    exact ⟨u, (mem_listOf (good_reads (rz t))).2 (by rw [hg.1]; exact hu), hg.1⟩
theorem inT_conv (l : List S69) (w : Bool) (x : Int) : inT l w x ↔ ∃ s ∈ l.map conv54, s.f0 = x ∧ s.f2 = w := by
  constructor
  · rintro ⟨s, hs, h1, h2⟩
    exact ⟨_, List.mem_map_of_mem hs, h1, h2⟩
  · rintro ⟨s, hs, h1, h2⟩
    obtain ⟨u, hu, rfl⟩ := List.mem_map.1 hs
    exact ⟨u, hu, h1, h2⟩
/-- The law's question is the machine's. -/
theorem far_same (n : Nat) (l : List S69) (a b : List S69) (ha : ∀ x : Int, hasX a x ↔ (0 ≤ x ∧ x < 64 ∧ inT l false x)) (hb : ∀ x : Int, hasX b x ↔ (0 ≤ x ∧ x < 64 ∧ inT l true x)) :
    ((a ++ b).any fun s => decide (s.f0 ≥ n)) = farT n (l.map conv54) := by
  unfold farT
  rw [Bool.eq_iff_iff, List.any_eq_true, List.any_eq_true]
  have e1 : ∀ x : Int, hasX a x ↔ ∃ s ∈ readsL (l.map conv54), s.f0 = x := fun x => by rw [ha, readsL_has, inT_conv]
  have e2 : ∀ x : Int, hasX b x ↔ ∃ s ∈ writesL (l.map conv54), s.f0 = x := fun x => by rw [hb, writesL_has, inT_conv]
  constructor
  · rintro ⟨s, hs, hd⟩
    rw [List.mem_append] at hs
    rcases hs with hs | hs
    · obtain ⟨u, hu, hux⟩ := (e1 s.f0).1 ⟨s, hs, rfl⟩
      exact ⟨u, List.mem_append.2 (.inl hu), by rw [hux]; exact hd⟩
    · obtain ⟨u, hu, hux⟩ := (e2 s.f0).1 ⟨s, hs, rfl⟩
      exact ⟨u, List.mem_append.2 (.inr hu), by rw [hux]; exact hd⟩
  · rintro ⟨s, hs, hd⟩
    rw [List.mem_append] at hs
    rcases hs with hs | hs
    · obtain ⟨u, hu, hux⟩ := (e1 s.f0).2 ⟨s, hs, rfl⟩
      exact ⟨u, List.mem_append.2 (.inl hu), by rw [hux]; exact hd⟩
    · obtain ⟨u, hu, hux⟩ := (e2 s.f0).2 ⟨s, hs, rfl⟩
      exact ⟨u, List.mem_append.2 (.inr hu), by rw [hux]; exact hd⟩

theorem begun_inner (n : Int) (out : List (List S54)) (t : List S69) (L : List (List S69)) (i : Nat) (y : List S69) (hy : y.length ≤ 128) (K : Nat) : ∀ (d k j : Nat) (f : Bool), j + d = y.length → d < k → K + d < k →
    ∃ k', K ≤ k' ∧ warpbeamlaw15_begun.l1 k n out t f L (L.length : Int) (i : Int) y (y.length : Int) (j : Int) = (if (f || (y.drop j).any fun s => decide (s.f0 ≥ n)) = true then warpbeamlaw15_begun.l0 k' n out L (L.length : Int) (wrap64 ((i : Int) + 1)) else ((warpbeamlaw08_Theirs.f t).bind fun u => if out.length < 5864062014805 then warpbeamlaw15_begun.l0 k' n (out ++ [u]) L (L.length : Int) (wrap64 ((i : Int) + 1)) else none)) := by
  intro d
  induction d with
  | zero =>
    intro k j f hj hk hK
    obtain ⟨k, rfl⟩ : ∃ m, k = m + 1 := ⟨k - 1, by omega⟩
    unfold warpbeamlaw15_begun.l1
    obtain rfl : j = y.length := by omega
    rw [if_neg (by omega), List.drop_length]
    refine ⟨k, by omega, ?_⟩
    simp
  | succ d ih =>
    intro k j f hj hk hK
    obtain ⟨k, rfl⟩ : ∃ m, k = m + 1 := ⟨k - 1, by omega⟩
    unfold warpbeamlaw15_begun.l1
    have hlt : j < y.length := by omega
    rw [if_pos (by omega), if_pos (by omega), if_pos (by omega), rdT hlt, wnext (by omega)]
    rw [List.drop_eq_getElem_cons hlt, List.any_cons]
    cases f with
    | true =>
      rw [if_pos rfl]
      obtain ⟨k', hk', he⟩ := ih k (j + 1) true (by omega) (by omega) (by omega)
      exact ⟨k', hk', by rw [he]; simp⟩
    | false =>
      rw [if_neg (by decide)]
      obtain ⟨k', hk', he⟩ := ih k (j + 1) (decide (y[j].f0 ≥ n)) (by omega) (by omega) (by omega)
      exact ⟨k', hk', by rw [he]; simp⟩
theorem begun_from (n : Nat) (L : List (List S69)) (hL : L.length ≤ 20) (ht : ∀ t ∈ L, t.length ≤ 30) : ∀ (d k i : Nat) (out : List (List S54)), i + d = L.length → 300 * (d + 1) < k → out.length ≤ i →
    warpbeamlaw15_begun.l0 k (n : Int) out L (L.length : Int) (i : Int) = some (out ++ begunL n (L.drop i)) := by
  intro d
  induction d with
  | zero =>
    intro k i out hi hk ho
    obtain ⟨k, rfl⟩ : ∃ m, k = m + 1 := ⟨k - 1, by omega⟩
    unfold warpbeamlaw15_begun.l0
    obtain rfl : i = L.length := by omega
    rw [if_neg (by omega), List.drop_length]
    simp [begunL]
  | succ d ih =>
    intro k i out hi hk ho
    obtain ⟨k, rfl⟩ : ∃ m, k = m + 1 := ⟨k - 1, by omega⟩
    unfold warpbeamlaw15_begun.l0
    have hlt : i < L.length := by omega
    have hti : L[i].length ≤ 30 := ht _ (List.getElem_mem hlt)
    have e1 : rd_L6 L (i : Int) = L[i] := by
      unfold rd_L6
      rw [Int.toNat_natCast, List.getD_eq_getElem?_getD, List.getElem?_eq_getElem hlt]
      rfl
    rw [if_pos (by omega), if_pos (by omega), if_pos (by omega), e1]
    obtain ⟨a, ha, hal, hax⟩ := each_f L[i] (by omega) false k (by omega)
    obtain ⟨b, hb, hbl, hbx⟩ := each_f L[i] (by omega) true k (by omega)
    rw [ha, Option.bind_some, hb, Option.bind_some, if_pos (by omega), Option.bind_some]
    obtain ⟨k', hk', he⟩ := begun_inner (n : Int) out L[i] L i (a ++ b) (by rw [List.length_append]; omega) (300 * (d + 1) + 1) (a ++ b).length k 0 false (by omega) (by rw [List.length_append]; omega) (by rw [List.length_append]; omega)
    have he' : warpbeamlaw15_begun.l1 k (n : Int) out L[i] false L (L.length : Int) (i : Int) (a ++ b) ((a ++ b).length : Int) 0 = _ := he
    rw [he', List.drop_zero, Bool.false_or, far_same n L[i] a b hax hbx, wnext (by omega)]
    have e2 : L.drop i = L[i] :: L.drop (i + 1) := List.drop_eq_getElem_cons hlt
    rw [e2]
    have e3 : begunL n (L[i] :: L.drop (i + 1)) = if farT n (L[i].map conv54) then begunL n (L.drop (i + 1)) else L[i].map conv54 :: begunL n (L.drop (i + 1)) := by
      unfold begunL
      rw [List.map_cons]
      cases hf : farT n (L[i].map conv54) with
      | true => rw [List.filter_cons_of_neg (by simp [hf])]; rfl
      | false => rw [List.filter_cons_of_pos (by simp [hf])]; rfl
    rw [e3]
    cases hf : farT n (L[i].map conv54) with
    | true =>
      rw [if_pos rfl, if_pos rfl]
      exact ih k' (i + 1) out (by omega) (by omega) (by omega)
    | false =>
      rw [if_neg (by decide), if_neg (by decide)]
      have e4 : warpbeamlaw08_Theirs.f L[i] = some (L[i].map conv54) := by unfold warpbeamlaw08_Theirs.f; rw [if_pos (by omega)]
      rw [e4, Option.bind_some, if_pos (by omega), ih k' (i + 1) _ (by omega) (by omega) (by simp; omega)]
      simp
theorem begun_f (v : Int) (hv : 0 ≤ v ∧ v ≤ 255) (L : List (List S69)) (hL : L.length ≤ 20) (ht : ∀ t ∈ L, t.length ≤ 30) : warpbeamlaw15_begun.f 10000 v L = some (begunL (varsN v) L) := by
  unfold warpbeamlaw15_begun.f
  have e : wrap64 (1 + Int.tmod (wrap64 v) 9) = ((varsN v : Nat) : Int) := by
    obtain ⟨a, rfl⟩ := Int.eq_ofNat_of_zero_le hv.1
    have e1 : wrap64 (a : Int) = a := by unfold wrap64; omega
    rw [e1, Int.tmod_eq_emod_of_nonneg (by omega)]
    unfold varsN wrap64
    rw [Int.toNat_natCast]
    omega
  rw [e]
  have := begun_from (varsN v) L hL ht L.length 10000 0 [] (by omega) (by omega) (by simp)
  rw [List.drop_zero, List.nil_append] at this
  exact this
end Go.Proofs.Ytkecbdeekpbbjaa
