/- A map of steps, as a function; its values in order. No program in sight. -/
import Derived.Test.YtaagbiaddgohkaaHCollect
namespace Go.Proofs.Ytaagbiaddgohkaa.Q
open Go.RowKit Go.Lib Go.Shelf Go.Maps Go.Proofs.Ytaagbiaddgohkaa Go.Proofs.YtaagbiaddgohkaaW.PrintWords Go.Proofs.YtaagbiaddgohkaaW.PrintLast Go.Proofs.YtaagbiaddgohkaaW.PrintMore
set_option linter.unusedVariables false
set_option linter.unusedSimpArgs false

/-- A map reads as a function. -/
def Is (D : DataW S39) (f : Int → Option S39) : Prop := IsMap D ∧ ∀ x, (∃ s, f x = some s ∧ ∀ z, D.atKey (.int .i64 x) z = .held s) ∨ (f x = none ∧ has D (.int .i64 x) = false)
theorem Is.nil : Is (.map []) (fun _ => none) := ⟨isMap_empty, fun x => .inr ⟨rfl, rfl⟩⟩
theorem Is.put {D : DataW S39} {f : Int → Option S39} (h : Is D f) (x : Int) (s : S39) : Is (D.put (.int .i64 x) (.held s)) (fun y => if y = x then some s else f y) := by
  refine ⟨h.1.put _ _, fun y => ?_⟩
  by_cases hy : y = x
  · subst hy
    exact .inl ⟨s, by simp, fun z => atKey_put_same h.1 (by simp [WideAt.IsKeyLit]) _ z⟩
  · have hne : (Lit.int .i64 y) ≠ .int .i64 x := fun e => hy (by injection e)
    rcases h.2 y with ⟨s', h1, h2⟩ | ⟨h1, h2⟩
    · exact .inl ⟨s', by simp [hy, h1], fun z => (atKey_put_other hne _ z).trans (h2 z)⟩
    · exact .inr ⟨by simp [hy, h1], (has_put_other hne _).trans h2⟩
/-- Only places there are; each holds its own. -/
def Good (f : Int → Option S39) : Prop := ∀ x s, f x = some s → s.f0 = x ∧ 0 ≤ x ∧ x < 64
theorem Good.nil : Good (fun _ => none) := fun x s h => by cases h
theorem Good.put {f : Int → Option S39} (h : Good f) (s : S39) (h0 : 0 ≤ s.f0) (h1 : s.f0 < 64) : Good (fun y => if y = s.f0 then some s else f y) := fun x t ht => by
  by_cases hx : x = s.f0
  · simp only [hx, if_true] at ht
    cases ht
    exact ⟨hx.symm, by omega, by omega⟩
  · simp only [if_neg hx] at ht
    exact h x t ht

/-- The values, by their places. -/
def listOf (f : Int → Option S39) : List S39 := (List.range 64).filterMap fun i : Nat => f (i : Int)
theorem mem_listOf {f : Int → Option S39} (hG : Good f) {s : S39} : s ∈ listOf f ↔ f s.f0 = some s := by
  unfold listOf
  rw [List.mem_filterMap]
  constructor
  · rintro ⟨i, _, hi⟩
    have := (hG _ _ hi).1
    rw [this]; exact hi
  · intro h
    obtain ⟨-, h1, h2⟩ := hG _ _ h
    exact ⟨s.f0.toNat, List.mem_range.2 (by omega), by rw [Int.toNat_of_nonneg h1]; exact h⟩
theorem sorted_listOf {f : Int → Option S39} (hG : Good f) : (listOf f).Pairwise fun a b => a.f0 < b.f0 := by
  unfold listOf
  refine List.Pairwise.filterMap _ (R := fun a b : Nat => a < b) (fun a a' h b hb b' hb' => ?_) List.pairwise_lt_range
  have h1 := (hG _ _ hb).1
  have h2 := (hG _ _ hb').1
  omega

theorem all_listed {D : DataW S39} {f : Int → Option S39} (hI : Is D f) (hG : Good f) {ys zs : List S39} (hA : AllOf D ys) (hP : zs.Perm ys) (hS : zs.Pairwise fun a b => a.f0 ≤ b.f0) : zs = listOf f := by
  obtain ⟨ps, rfl, hnd, hk, hat⟩ := hA
  have hv : ∀ p ∈ ps, f p.1 = some p.2 := fun p hp => by
    rcases hI.2 p.1 with ⟨s, h1, h2⟩ | ⟨-, h2⟩
    · have e := (h2 (.held s)).symm.trans (hat p hp (.held s))
      injection e with e
      rw [h1, e]
    · have := ((hk p.1).1 (List.mem_map.2 ⟨p, hp, rfl⟩)).1
      rw [h2] at this
      cases this
  have hf0 : ∀ p ∈ ps, p.2.f0 = p.1 := fun p hp => (hG _ _ (hv p hp)).1
  have hmem : ∀ s, s ∈ ps.map (·.2) ↔ f s.f0 = some s := fun s => by
    rw [List.mem_map]
    constructor
    · rintro ⟨p, hp, rfl⟩
      rw [hf0 p hp]; exact hv p hp
    · intro h
      rcases hI.2 s.f0 with ⟨t, h1, h2⟩ | ⟨h1, -⟩
      · have hh := has_true_of_atKey h2
        obtain ⟨p, hp, hpe⟩ := List.mem_map.1 ((hk s.f0).2 ⟨hh, rfl⟩)
        refine ⟨p, hp, ?_⟩
        have := hv p hp
        rw [hpe, h] at this
        exact (Option.some.inj this).symm
      · rw [h1] at h; cases h
  have hnd2 : (ps.map (·.2)).Nodup := by
    have e : ps.map (·.1) = (ps.map (·.2)).map S39.f0 := by
      rw [List.map_map]
      exact List.map_congr_left fun p hp => (hf0 p hp).symm
    rw [e] at hnd
    exact (List.pairwise_map.1 hnd).imp fun h e => h (by rw [e])
  have hnl : (listOf f).Nodup := (sorted_listOf hG).imp fun h e => by rw [e] at h; omega
  have hp2 : zs.Perm (listOf f) := hP.trans ((List.perm_ext_iff_of_nodup hnd2 hnl).2 fun s => (hmem s).trans (mem_listOf hG).symm)
  refine List.Perm.eq_of_pairwise (le := fun a b : S39 => a.f0 ≤ b.f0) (fun a b ha hb h1 h2 => ?_) hS ((sorted_listOf hG).imp fun h => by omega) hp2
  have e : a.f0 = b.f0 := by omega
  have ha' := (mem_listOf hG).1 (hp2.mem_iff.1 ha)
  have hb' := (mem_listOf hG).1 hb
  rw [e, hb'] at ha'
  exact (Option.some.inj ha').symm

/-- One step more, of those that are read; of those that are written. -/
def putR (f : Int → Option S39) (s : S39) : Int → Option S39 := if s.f2 = false ∧ 0 ≤ s.f0 ∧ s.f0 < 64 then (fun y => if y = s.f0 then some s else f y) else f
def putW (f : Int → Option S39) (s : S39) : Int → Option S39 := if s.f2 = true ∧ 0 ≤ s.f0 ∧ s.f0 < 64 then (fun y => if y = s.f0 then some s else f y) else f
theorem good_putR {f : Int → Option S39} (h : Good f) (s : S39) : Good (putR f s) := by
  unfold putR
  split
  · rename_i hc; exact h.put s hc.2.1 hc.2.2
  · exact h
theorem good_putW {f : Int → Option S39} (h : Good f) (s : S39) : Good (putW f s) := by
  unfold putW
  split
  · rename_i hc; exact h.put s hc.2.1 hc.2.2
  · exact h
def readsF (l : List (Nat × S39)) : Int → Option S39 := l.foldl (fun f p => putR f p.2) (fun _ => none)
def writesF (l : List S39) : Int → Option S39 := l.foldl putW (fun _ => none)
theorem good_foldR : ∀ (l : List (Nat × S39)) (f : Int → Option S39), Good f → Good (l.foldl (fun f p => putR f p.2) f)
  | [], _, h => h
  | p :: l, f, h => good_foldR l _ (good_putR h p.2)
theorem good_foldW : ∀ (l : List S39) (f : Int → Option S39), Good f → Good (l.foldl putW f)
  | [], _, h => h
  | p :: l, f, h => good_foldW l _ (good_putW h p)
theorem good_reads (l : List (Nat × S39)) : Good (readsF l) := good_foldR l _ Good.nil
theorem good_writes (l : List S39) : Good (writesF l) := good_foldW l _ Good.nil
theorem readsF_snoc (l : List (Nat × S39)) (p : Nat × S39) : readsF (l ++ [p]) = putR (readsF l) p.2 := by simp [readsF]
theorem writesF_snoc (l : List S39) (p : S39) : writesF (l ++ [p]) = putW (writesF l) p := by simp [writesF]
def readsL (l : List S39) : List S39 := listOf (readsF (rz l))
def writesL (l : List S39) : List S39 := listOf (writesF l)

end Go.Proofs.Ytaagbiaddgohkaa.Q
