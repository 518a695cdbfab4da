/- A map of values, as a function; what two rows of steps leave. -/
import Derived.Test.YtaagbiaddgohkaaHAlive
import Derived.Maps.OwnSet
namespace Go.Proofs.Ytaagbiaddgohkaa.Q
open Go.RowKit Go.Lib Go.Shelf Go.Maps Go.Proofs.Ytaagbiaddgohkaa Go.Proofs.YtaagbiaddgohkaaW.PrintWords Go.Proofs.YtaagbiaddgohkaaW.PrintLast Go.Proofs.YtaagbiaddgohkaaW.PrintMore
set_option linter.unusedVariables false
set_option linter.unusedSimpArgs false

abbrev v34 (s : S34) : Value := .agg #[.int .i64 s.f0, .int .i64 s.f1]
/-- How a value reads in a map. -/
def r34 : Value → Option (DataW S34 × List MemPlace)
  | .agg ⟨[.int .i64 a, .int .i64 b]⟩ => some (.held ⟨a, b⟩, [])
  | _ => none
theorem r34_inv {v : Value} {y : DataW S34 × List MemPlace} (h : r34 v = some y) : ∃ s, v = v34 s ∧ y = (.held s, []) := by
  unfold r34 at h
  split at h
  · rename_i a b
    cases h
    exact ⟨⟨a, b⟩, rfl, rfl⟩
  · cases h
/-- A map reads as a function. -/
def Is4 (D : DataW S34) (f : Int → Option S34) : Prop := IsMap D ∧ ∀ x, (∃ s, f x = some s ∧ ∀ z, D.atKey (.int .i64 x) z = .held s) ∨ (f x = none ∧ has D (.int .i64 x) = false)
theorem Is4.nil : Is4 (.map []) (fun _ => none) := ⟨isMap_empty, fun x => .inr ⟨rfl, rfl⟩⟩
theorem Is4.put {D : DataW S34} {f : Int → Option S34} (h : Is4 D f) (x : Int) (s : S34) : Is4 (D.put (.int .i64 x) (.held s)) (fun y => if y = x then some s else f y) := by
  refine ⟨h.1.put _ _, fun y => ?_⟩
  by_cases hy : y = x
  · subst hy
    exact .inl ⟨s, by simp, fun z => atKey_put_same h.1 (by simp [WideAt.IsKeyLit]) _ z⟩
  · have hne : (Lit.int .i64 y) ≠ .int .i64 x := fun e => hy (by injection e)
    rcases h.2 y with ⟨s', h1, h2⟩ | ⟨h1, h2⟩
    · exact .inl ⟨s', by simp [hy, h1], fun z => (atKey_put_other hne _ z).trans (h2 z)⟩
    · exact .inr ⟨by simp [hy, h1], (has_put_other hne _).trans h2⟩

theorem size4 {w : World} {b n : Nat} {D : DataW S34} {f : Int → Option S34} (hown : w.ownsMap Try.prog 3 r34 b n D) (hI : Is4 D f) (hS : ∀ x s, f x = some s → 0 ≤ x ∧ x < 64) :
    Maps.size D = ((List.range 64).filter fun i : Nat => (f (i : Int)).isSome).length := by
  obtain ⟨es, hD, hpw, -⟩ := hown.entries (int_keyed Try.underlying3)
  obtain ⟨es', hD', hko⟩ := hown.keysOf
  obtain rfl : es = es' := by rw [hD] at hD'; simpa using hD'
  subst hD
  have hnd : (es.map (·.1)).Nodup := List.pairwise_map.2 hpw
  have hnd2 : (((List.range 64).filter fun i : Nat => (f (i : Int)).isSome).map fun i : Nat => Lit.int .i64 (i : Int)).Nodup := by
    refine List.pairwise_map.2 ((List.nodup_range.filter _).imp fun {a b} h e => h ?_)
    injection e with _ e
    omega
  have hp : (es.map (·.1)).Perm (((List.range 64).filter fun i : Nat => (f (i : Int)).isSome).map fun i : Nat => Lit.int .i64 (i : Int)) := by
    refine (List.perm_ext_iff_of_nodup hnd hnd2).2 fun kl => ?_
    rw [List.mem_map, List.mem_map]
    constructor
    · rintro ⟨p, hp, rfl⟩
      obtain ⟨v, hv⟩ := hko p hp
      obtain ⟨x, -, hx, -⟩ := Maps.keyOf_int_inv Try.underlying3 hv
      have hh : has (.map es) (.int .i64 x) = true := by
        rw [has_eq, List.any_eq_true]
        exact ⟨p, hp, by rw [hx]; simp [Lit.sameKey]⟩
      rcases hI.2 x with ⟨s, h1, -⟩ | ⟨-, h1⟩
      · obtain ⟨h2, h3⟩ := hS x s h1
        exact ⟨x.toNat, List.mem_filter.2 ⟨List.mem_range.2 (by omega), by rw [Int.toNat_of_nonneg h2, h1]; rfl⟩, by rw [hx, Int.toNat_of_nonneg h2]⟩
      · rw [h1] at hh; cases hh
    · rintro ⟨i, hi, rfl⟩
      obtain ⟨-, h1⟩ := List.mem_filter.1 hi
      rcases hI.2 i with ⟨s, -, h2⟩ | ⟨h2, -⟩
      · have hh := has_true_of_atKey h2
        rw [has_eq, List.any_eq_true] at hh
        obtain ⟨p, hp, hs⟩ := hh
        exact ⟨p, hp, WideAt.sameKey_eq hs⟩
      · rw [h2] at h1; cases h1
  have := hp.length_eq
  rw [List.length_map, List.length_map] at this
  exact this

/-- What the values of a row of steps leave of a map. -/
def updL (l : List S39) (f : Int → Option S34) : Int → Option S34 := l.foldl (fun f s => fun y => if y = s.f0 then some s.f1 else f y) f
theorem updL_at (W : Int → Option S39) (x : Int) : ∀ (l : List S39) (f : Int → Option S34), (∀ s ∈ l, s.f0 = x → W x = some s) → updL l f x = if (∃ s ∈ l, s.f0 = x) then (W x).map (·.f1) else f x
  | [], f, _ => by rw [if_neg (by rintro ⟨s, h, _⟩; cases h)]; rfl
  | s :: l, f, h => by
    show updL l (fun y => if y = s.f0 then some s.f1 else f y) x = _
    rw [updL_at W x l _ (fun t ht => h t (List.mem_cons_of_mem _ ht))]
    by_cases h1 : ∃ t ∈ l, t.f0 = x
    · obtain ⟨t, ht, hx⟩ := h1
      have p1 : ∃ t ∈ l, t.f0 = x := ⟨t, ht, hx⟩
      have p2 : ∃ t ∈ s :: l, t.f0 = x := ⟨t, List.mem_cons_of_mem _ ht, hx⟩
      rw [if_pos p1, if_pos p2]
    · rw [if_neg h1]
      show (if x = s.f0 then some s.f1 else f x) = _
      by_cases h2 : x = s.f0
      · have p2 : ∃ t ∈ s :: l, t.f0 = x := ⟨s, List.mem_cons_self, h2.symm⟩
        rw [if_pos p2, if_pos h2, h s List.mem_cons_self h2.symm]
        rfl
      · have p2 : ¬ ∃ t ∈ s :: l, t.f0 = x := by
          rintro ⟨t, ht, hx⟩
          rcases List.mem_cons.1 ht with e | ht
          · subst e; exact h2 hx.symm
          · exact h1 ⟨t, ht, hx⟩
        rw [if_neg p2, if_neg h2]
theorem updL_writes (W : Int → Option S39) (hG : Good W) (f : Int → Option S34) (x : Int) : updL (listOf W) f x = ((W x).map (·.f1)).or (f x) := by
  rw [updL_at W x _ _ (fun s hs hx => by have := (mem_listOf hG).1 hs; rwa [hx] at this)]
  cases hW : W x with
  | none =>
    rw [if_neg]
    · rfl
    · rintro ⟨s, hs, hx⟩
      have := (mem_listOf hG).1 hs
      rw [hx, hW] at this
      cases this
  | some s =>
    rw [if_pos ⟨s, (mem_listOf hG).2 (by rw [(hG _ _ hW).1]; exact hW), (hG _ _ hW).1⟩]
    rfl
theorem putW_at (f : Int → Option S39) (s : S39) (x : Int) : putW f s x = (putW (fun _ => none) s x).or (f x) := by
  unfold putW
  split
  · by_cases h : x = s.f0 <;> simp [h]
  · simp
theorem fold_at (x : Int) : ∀ (l : List S39) (f : Int → Option S39), l.foldl putW f x = (l.foldl putW (fun _ => none) x).or (f x)
  | [], f => by simp
  | s :: l, f => by
    show l.foldl putW (putW f s) x = (l.foldl putW (putW (fun _ => none) s) x).or (f x)
    rw [fold_at x l (putW f s), fold_at x l (putW (fun _ => none) s), putW_at f s x, Option.or_assoc]
/-- The latter one's, and of all else the former one's. -/
theorem both_left (X Y : List S39) : updL (writesL Y) (updL (writesL X) (fun _ => none)) = fun x => (writesF (X ++ Y) x).map (·.f1) := by
  funext x
  unfold writesL
  rw [updL_writes _ (good_writes Y), updL_writes _ (good_writes X)]
  unfold writesF
  rw [List.foldl_append, fold_at x Y (X.foldl putW _)]
  cases Y.foldl putW (fun _ => none) x <;> simp
theorem len_listOf (f : Int → Option S39) : (listOf f).length = ((List.range 64).filter fun i : Nat => ((f (i : Int)).map (·.f1)).isSome).length := by
  unfold listOf
  generalize List.range 64 = l
  induction l with
  | nil => rfl
  | cons i l ih =>
    rw [List.filterMap_cons, List.filter_cons]
    cases f (i : Int) with
    | none => simpa using ih
    | some s => simpa using ih
theorem writes_len (l : List S39) : (writesL l).length ≤ 64 := by
  unfold writesL listOf
  refine Nat.le_trans (List.length_filterMap_le _ _) ?_
  simp
theorem updL_take (l : List S39) (f : Int → Option S34) {i : Nat} {s : S39} (h : l[i]? = some s) : updL (l.take (i + 1)) f = fun y => if y = s.f0 then some s.f1 else updL (l.take i) f y := by
  rw [List.take_add_one, h]
  simp [updL]
theorem C39_grown {W W1 : World} {A : Option Addr} {m b : Nat} {xs : List S39} {o : Obj} (h : Kd.C k39 W A m xs) (hb : W.heap[b]? = some o) (ho : o.isCells = false) (hg : W.grownBy W1 (some b)) : Kd.C k39 W1 A m xs := by
  obtain ⟨h1, h2, h3⟩ := h
  refine ⟨h1, h2, fun hm => ?_⟩
  obtain ⟨ad, e, hc⟩ := h3 hm
  refine ⟨ad, e, fun j p hp => ?_⟩
  obtain ⟨c, hl, hk, hcell⟩ := hc j p hp
  refine ⟨c, hl, ?_, fun i u hu => cell_kept (hcell i u hu) hg (fun r e => by injection e with e; subst e; exact ⟨_, hb, ho⟩)⟩
  rw [k39_open hk]
  exact k39_mk _ p
theorem map_obj {W : World} {b n : Nat} {D : DataW S34} (h : W.ownsMap Try.prog 3 r34 b n D) : ∃ o, W.heap[b]? = some o ∧ o.isCells = false := by
  obtain ⟨es, clock, hb, -⟩ := h
  exact ⟨_, hb, rfl⟩

end Go.Proofs.Ytaagbiaddgohkaa.Q
