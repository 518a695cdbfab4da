/- The values of a map of steps, by their places, by hand. -/
import Derived.Test.YtaagbiaddgohkaaHSort
import Derived.Shelf.SlSortCmp.NoneTotal
import Derived.Maps.OwnSet
namespace Go.Proofs.Ytaagbiaddgohkaa.Q
open Go.RowKit Go.Lib Go.Shelf Go.Maps Go.Sort Go.Proofs.Ytaagbiaddgohkaa Go.Proofs.YtaagbiaddgohkaaW.PrintWords Go.Proofs.YtaagbiaddgohkaaW.PrintLast Go.Proofs.YtaagbiaddgohkaaW.PrintMore
set_option linter.unusedVariables false
set_option linter.unusedSimpArgs false

theorem reps39_on (w : World) (base : Nat) (ok : Nat → Prop) : ∀ (zs pre : List S39), Reps (k39.M w base ok) 4 pre (pre.flatMap c39) → Reps (k39.M w base ok) 4 (pre ++ zs) ((pre ++ zs).flatMap c39)
  | [], pre, h => by rw [List.append_nil]; exact h
  | z :: zs, pre, h => by
    have := reps39_on w base ok zs (pre ++ [z]) (by rw [flat_snoc]; exact Reps.snoc h (k39_mkM w base ok z) rfl)
    rwa [List.append_assoc] at this
theorem reps39 (w : World) (base : Nat) (ok : Nat → Prop) (xs : List S39) : Reps (k39.M w base ok) 4 xs (xs.flatMap c39) := reps39_on w base ok xs [] (Reps.none _ _)
theorem C_of_own {w : World} {base : Nat} {A : Option Addr} {n c : Nat} {xs : List S39} (h : w.ownsRow base 39 4 (.slice A n c) xs.length (xs.flatMap c39)) : Kd.C k39 w A xs.length xs ∧ xs.length ≤ c ∧ n = xs.length := by
  have hR : Kd.R k39 39 w base (fun _ => True) (.slice A n c) xs := ⟨fun _ _ => trivial, _, h, reps39 _ _ _ _⟩
  have hr := Kd.R_reads' hR
  obtain ⟨h1, h2, h3⟩ := hr
  subst h1
  exact ⟨h3, h2, rfl⟩
theorem holds_of_own {w : World} {base g n c : Nat} {xs : List S39} (h : w.ownsRow base 39 4 (.slice (some ⟨g, 0, none⟩) n c) xs.length (xs.flatMap c39)) : HoldsK c39 4 w g 0 xs.toArray ∧ g < w.heap.size ∧ base ≤ g := by
  have hC := (C_of_own h).1
  rcases h.2 with ⟨h0, _⟩ | ⟨g', cap, cur, e, hb, hg, -⟩
  · cases h0
  · injection e with e1 e2 e3
    injection e1 with e1
    injection e1 with e1
    subst e1
    refine ⟨fun t ht => ?_, blk_lt hg, hb⟩
    rw [size_flatK] at ht
    have ht' : t < xs.length * 4 := by simpa using ht
    rw [get_flatK _ _ _ _ ht]
    refine ⟨?_, blk_frozen hg _⟩
    have h4 : t % 4 < 4 := Nat.mod_lt _ (by decide)
    have ht4 : t = t / 4 * 4 + t % 4 := by omega
    have hp : t / 4 < xs.length := by omega
    generalize t % 4 = q at *
    generalize t / 4 = p at *
    obtain ⟨ad, hA, a0, a1, a2, a3⟩ := at_T39 hC (p : Int) (by omega) (by omega)
    cases hA
    have hx : rd_T39 xs (p : Int) = xs.toArray[p]! := by
      unfold rd_T39
      simp [List.getD_eq_getElem?_getD, hp]
    rw [hx] at a0 a1 a2 a3
    simp only [Int.toNat_natCast, Addr.add_lit] at a0 a1 a2 a3
    generalize xs.toArray[p]! = x at *
    subst ht4
    rcases q with _ | _ | _ | _ | q
    · exact a0
    · exact a1
    · exact a2
    · exact a3
    · omega
theorem C_of_holds {w : World} {g : Nat} {xs : List S39} (h : HoldsK c39 4 w g 0 xs.toArray) (hl : xs.length ≤ 9223372036854775807) : Kd.C k39 w (some ⟨g, 0, none⟩) xs.length xs := by
  refine ⟨rfl, hl, fun _ => ⟨_, rfl, fun j p hp => ⟨c39 p, rfl, k39_mk w p, fun i u hu => ?_⟩⟩⟩
  have hj : j < xs.length := (List.getElem?_eq_some_iff.1 hp).1
  have hi : i < 4 := (List.getElem?_eq_some_iff.1 hu).1
  have := (h.cell (i := j) (c := i) (by simpa using hj) hi).1
  have hx : xs.toArray[j]! = p := by simp [hj, (List.getElem?_eq_some_iff.1 hp).2]
  rw [hx] at this
  have hu' : (c39 p)[i]! = u := by rw [List.getElem!_eq_getElem?_getD, hu]; rfl
  rw [hu'] at this
  rw [Addr.add_lit]
  rw [← this]
  congr 2
  show 0 + (j * 4 + i) = 0 + j * 4 + i
  omega
theorem below_sort {w : World} {base g n : Nat} {d : Array S39} {os : Array Obj} (hb : base ≤ g) (hg : base ≤ w.heap.size) : Below base w (sortWorldK c39 4 w g 0 n d os) := by
  refine ⟨rfl, rfl, rfl, ?_, fun k hk => ?_⟩
  · show w.heap.size ≤ ((w.heap.modify g _) ++ os).size
    rw [Array.size_append, Array.size_modify]
    omega
  · show ((w.heap.modify g _) ++ os)[k]? = _
    rw [Array.getElem?_append_left (by rw [Array.size_modify]; omega), Array.getElem?_modify, if_neg (by omega)]

theorem collect_calls (Bm b nn : Nat) (D : DataW S39) (w : World) (hm : w.heap[Bm]? = some (.cells #[.map (some b)] 53 (0, 0))) (hown : w.ownsMap Try.prog 3 r39 b nn D) (hn : nn ≤ 1000000) :
    Calls Try.prog 33 #[.func (.func 35) #[] #[.pointer (some ⟨Bm, 0, none⟩)]] w fun e w' => ∃ xs v, AllOf D xs ∧ xs.length ≤ 1000000 ∧ e = .returned v ∧ w'.ownsRow w.heap.size 39 4 v xs.length (xs.flatMap c39) ∧ RowKit.Below w.heap.size w w' := by
  have hs := hown.size_le
  refine callsIn_wide.1 ((collect_in 4 (Nat.le_refl _) _ _ (enters_of Try.func35 (by kernel_rfl) rfl) w (AllOf D) (Maps.size D) (by omega) (values_stops 2 (by decide) Bm b nn D w hm hown)).mono ?_)
  rintro e w' ⟨xs, v, h1, h2, h3, h4, h5⟩
  exact ⟨xs, v, h1, by omega, h3, h4, h5⟩

theorem sorted_pairwise {d' : Array S39} (h : SortedIn (ltOf fun x y : S39 => Lib.compareInt x.f0 y.f0) 0 d'.size d') : d'.toList.Pairwise fun a b => a.f0 ≤ b.f0 := by
  rw [List.pairwise_iff_getElem]
  intro i j hi hj hij
  have := h i j (Nat.zero_le _) hij (by simpa using hj)
  rw [ltX, getElem!_pos d' i (by simpa using hi), getElem!_pos d' j (by simpa using hj)] at this
  simp at this
  simpa using this

theorem sorting_calls (xs : List S39) (v : Value) (base : Nat) (w : World) (hr : w.ownsRow base 39 4 v xs.length (xs.flatMap c39)) (hb : base ≤ w.heap.size) (hl : xs.length ≤ 1000000) :
    Calls Try.prog 34 #[v, .func (.func 30) #[] #[]] w fun e w' => e = .returned (.tuple #[]) ∧ ∃ A c zs, v = .slice A zs.length c ∧ zs.length ≤ c ∧ zs.Perm xs ∧ zs.Pairwise (fun a b => a.f0 ≤ b.f0) ∧ Kd.C k39 w' A zs.length zs ∧ RowKit.Below base w w' := by
  by_cases h0 : xs.length = 0
  · obtain rfl := List.eq_nil_of_length_eq_zero h0
    obtain ⟨A, n, c, rfl⟩ : ∃ A n c, v = .slice A n c := by
      rcases hr.2 with ⟨rfl, _⟩ | ⟨g, cap, cur, rfl, -⟩
      · exact ⟨_, _, _, rfl⟩
      · exact ⟨_, _, _, rfl⟩
    obtain ⟨hC, hc, rfl⟩ := C_of_own hr
    refine (AnyF.slices_SortFunc_none { Try.sortStep with } A c _ w).mono ?_
    rintro e w' ⟨rfl, rfl⟩
    exact ⟨rfl, A, c, [], rfl, hc, List.Perm.refl _, List.Pairwise.nil, hC, RowKit.Below.refl _ _⟩
  · obtain ⟨g, cap, rfl⟩ : ∃ g cap, v = .slice (some ⟨g, 0, none⟩) xs.length cap := by
      rcases hr.2 with ⟨-, h⟩ | ⟨g, cap, cur, rfl, -⟩
      · exact absurd h h0
      · exact ⟨_, _, rfl⟩
    obtain ⟨hC, hc, -⟩ := C_of_own hr
    obtain ⟨hH, hg, hbg⟩ := holds_of_own hr
    have hcon := sortStep_calls g 0 cap xs.toArray w hH hg (by simp; omega)
    rw [List.size_toArray] at hcon
    refine hcon.mono ?_
    rintro e w' ⟨rfl, d', n, os, hp, hs, rfl⟩
    have hsz : d'.size = xs.length := by rw [hp.1]; simp
    have hz : d'.toList.length = xs.length := by rw [Array.length_toList]; exact hsz
    refine ⟨rfl, some ⟨g, 0, none⟩, cap, d'.toList, by rw [hz], by rw [hz]; exact hc, ?_, sorted_pairwise (by rw [hsz]; exact hs), ?_, below_sort hbg hb⟩
    · have := hp.2.2
      rw [← hsz, Array.extract_size] at this
      rw [hsz, show xs.length = xs.toArray.size by simp, Array.extract_size] at this
      exact this
    · refine C_of_holds ?_ (by rw [hz]; omega)
      rw [Array.toArray_toList]
      exact holdsK_grow c39 4 _ os g 0 d' (by simpa [putRowK, putRow, mapBlock, Sort.ahead] using hg) (holdsK_putRowK c39 4 _ g 0 xs.toArray d' (holdsK_ahead c39 4 _ _ _ _ _ hH) hp.1)

theorem sortedFunc_calls (Bm b nn : Nat) (D : DataW S39) (f : Int → Option S39) (w : World) (hm : w.heap[Bm]? = some (.cells #[.map (some b)] 53 (0, 0))) (hown : w.ownsMap Try.prog 3 r39 b nn D) (hI : Is D f) (hG : Good f) (hn : nn ≤ 1000000) :
    Calls Try.prog 28 #[.func (.func 35) #[] #[.pointer (some ⟨Bm, 0, none⟩)], .func (.func 30) #[] #[]] w fun e w' => ∃ A c, e = .returned (.slice A (listOf f).length c) ∧ Kd.C k39 w' A (listOf f).length (listOf f) ∧ (listOf f).length ≤ c ∧ RowKit.Below w.heap.size w w' := by
  have C1 := Lib.hid (collect_calls Bm b nn D w hm hown hn)
  have HI := Lib.hid (And.intro hI hG)
  clear hm hown hI hG
  go_enter Try.func28, Try.ntmps28
  go_wp2_with fail
  refine C1.out.mono ?_
  rintro e w1 ⟨xs, v, hA, hl, rfl, hr, hB⟩
  have C2 := Lib.hid (sorting_calls xs v w.heap.size w1 hr hB.size hl)
  have HA := Lib.hid (And.intro hA hB)
  clear hA hB hr C1
  go_wp2_with fail
  refine C2.out.mono ?_
  rintro e w2 ⟨rfl, A, c, zs, rfl, hc, hp, hs, hC, hB2⟩
  have e := all_listed HI.out.1 HI.out.2 HA.out.1 hp hs
  subst e
  have HC := Lib.hid (And.intro hC (And.intro hc (HA.out.2.trans hB2)))
  clear hC hc hB2 hp hs C2
  go_wp2_with fail
  go_ret
  exact ⟨A, c, rfl, HC.out.1, HC.out.2.1, HC.out.2.2⟩

theorem listed_calls (b nn : Nat) (D : DataW S39) (f : Int → Option S39) (w : World) (hown : w.ownsMap Try.prog 3 r39 b nn D) (hI : Is D f) (hG : Good f) (hn : nn ≤ 1000000) :
    Calls Try.prog 22 #[.map (some b)] w fun e w' => ∃ A c, e = .returned (.slice A (listOf f).length c) ∧ Kd.C k39 w' A (listOf f).length (listOf f) ∧ (listOf f).length ≤ c ∧ RowKit.Below w.heap.size w w' := by
  have C1 := Lib.hid (values_calls b w)
  have C2 := Lib.hid (sortedFunc_calls w.heap.size b nn D f (w.alloc (.cells #[.map (some b)] 53)) (heap_alloc_new _ _) (hown.alloc _) hI hG hn)
  clear hown hI hG
  go_enter Try.func22, Try.ntmps22
  go_wp2_with fail
  refine C1.out.mono ?_
  rintro e w1 ⟨rfl, rfl⟩
  clear C1
  go_wp2_with fail
  refine C2.out.mono ?_
  rintro e w2 ⟨A, c, rfl, hC, hc, hB⟩
  have HC := Lib.hid (And.intro hC (And.intro hc (bAfter (bOne _) hB)))
  clear hC hc hB C2
  go_wp2_with fail
  go_ret
  exact ⟨A, c, rfl, HC.out.1, HC.out.2.1, HC.out.2.2⟩

end Go.Proofs.Ytaagbiaddgohkaa.Q
