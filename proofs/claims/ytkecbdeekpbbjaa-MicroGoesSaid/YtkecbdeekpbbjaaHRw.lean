/- slices.SortFunc of steps, by hand: the shelf's contract, laid. -/
import Derived.Test.YtkecbdeekpbbjaaHIter
import Derived.Shelf.SlSortCmp.WholeK
import Derived.Shelf.SlicesG.Cmp
import Derived.Shelf.Lay
import Derived.Ground.SlsfProg
import Derived.Ground.SlgcProg
import Derived.Shelf.SlSortCmp.NoneTotal
import Derived.Maps.OwnSet
/-! slices.SortFunc of steps, by hand: the shelf's contract, laid. -/
namespace Go.Proofs
open Go.Shelf Go.RowKit Go.Lib Go.Sort
def Try.sortStep_ren : Go.Shelf.Ren := ⟨fun | 6 => 52 | 15 => 60 | 14 => 59 | 28 => 69 | 29 => 70 | 20 => 61 | 21 => 62 | 22 => 63 | 23 => 64 | 24 => 65 | 25 => 66 | 26 => 67 | 27 => 68 | 46 => 71 | 47 => 72 | 48 => 73 | 49 => 74 | 50 => 75 | 57 => 76 | n => n, fun | 22 => 34 | 24 => 54 | 25 => 99 | 3 => 3 | 39 => 101 | 0 => 0 | 53 => 108 | 55 => 111 | 4 => 4 | 46 => 119 | 45 => 118 | 50 => 123 | 5 => 5 | 9 => 9 | 66 => 127 | 70 => 131 | 76 => 133 | 77 => 134 | n => n, fun | n => n⟩
theorem Try.sortStep : Go.Proofs.SlLaysF0.n6 Try.prog Try.sortStep_ren := {
  mixed := by kernel_rfl
  f6 := ⟨Try.f52.name, by decide, Try.func52.trans (congrArg some (by kernel_rfl))⟩
  f14 := ⟨Try.f59.name, by decide, Try.func59.trans (congrArg some (by kernel_rfl))⟩
  f15 := Try.func60.trans (congrArg some (by kernel_rfl))
  f20 := ⟨Try.f61.name, by decide, Try.func61.trans (congrArg some (by kernel_rfl))⟩
  f21 := ⟨Try.f62.name, by decide, Try.func62.trans (congrArg some (by kernel_rfl))⟩
  f22 := ⟨Try.f63.name, by decide, Try.func63.trans (congrArg some (by kernel_rfl))⟩
  f23 := ⟨Try.f64.name, by decide, Try.func64.trans (congrArg some (by kernel_rfl))⟩
  f24 := ⟨Try.f65.name, by decide, Try.func65.trans (congrArg some (by kernel_rfl))⟩
  f25 := ⟨Try.f66.name, by decide, Try.func66.trans (congrArg some (by kernel_rfl))⟩
  f26 := ⟨Try.f67.name, by decide, Try.func67.trans (congrArg some (by kernel_rfl))⟩
  f27 := ⟨Try.f68.name, by decide, Try.func68.trans (congrArg some (by kernel_rfl))⟩
  f28 := Try.func69.trans (congrArg some (by kernel_rfl))
  f29 := Try.func70.trans (congrArg some (by kernel_rfl))
  f46 := ⟨Try.f71.name, by decide, Try.func71.trans (congrArg some (by kernel_rfl))⟩
  f47 := Try.func72.trans (congrArg some (by kernel_rfl))
  f48 := Try.func73.trans (congrArg some (by kernel_rfl))
  f49 := ⟨Try.f74.name, by decide, Try.func74.trans (congrArg some (by kernel_rfl))⟩
  f50 := ⟨Try.f75.name, by decide, Try.func75.trans (congrArg some (by kernel_rfl))⟩
  f57 := ⟨Try.f76.name, by decide, Try.func76.trans (congrArg some (by kernel_rfl))⟩
  t0 := Try.underlying0
  a0 := Try.isAgg0
  z0 := Try.sizeOf0
  v0 := Try.zeroValue0
  t3 := Try.underlying3
  a3 := Try.isAgg3
  z3 := Try.sizeOf3
  v3 := Try.zeroValue3
  t4 := Try.underlying4
  a4 := Try.isAgg4
  z4 := Try.sizeOf4
  v4 := Try.zeroValue4
  t5 := Try.underlying5
  a5 := Try.isAgg5
  z5 := Try.sizeOf5
  v5 := Try.zeroValue5
  t9 := Try.underlying9
  a9 := Try.isAgg9
  z9 := Try.sizeOf9
  v9 := Try.zeroValue9
  t22 := Try.underlying34
  a22 := Try.isAgg34
  z22 := Try.sizeOf34
  v22 := Try.zeroValue34
  t25 := Try.underlying99
  a25 := Try.isAgg99
  z25 := Try.sizeOf99
  v25 := Try.zeroValue99
  t39 := Try.underlying101
  a39 := Try.isAgg101
  z39 := Try.sizeOf101
  v39 := Try.zeroValue101
  t45 := Try.underlying118
  a45 := Try.isAgg118
  z45 := Try.sizeOf118
  v45 := Try.zeroValue118
  t46 := Try.underlying119
  a46 := Try.isAgg119
  z46 := Try.sizeOf119
  v46 := Try.zeroValue119
  t50 := Try.underlying123
  a50 := Try.isAgg123
  z50 := Try.sizeOf123
  v50 := Try.zeroValue123
  t53 := Try.underlying108
  a53 := Try.isAgg108
  z53 := Try.sizeOf108
  v53 := Try.zeroValue108
  t55 := Try.underlying111
  a55 := Try.isAgg111
  z55 := Try.sizeOf111
  v55 := Try.zeroValue111
  t66 := Try.underlying127
  a66 := Try.isAgg127
  z66 := Try.sizeOf127
  v66 := Try.zeroValue127
  t70 := Try.underlying131
  a70 := Try.isAgg131
  z70 := Try.sizeOf131
  v70 := Try.zeroValue131
  t76 := Try.underlying133
  a76 := Try.isAgg133
  z76 := Try.sizeOf133
  v76 := Try.zeroValue133
  t77 := Try.underlying134
  a77 := Try.isAgg134
  z77 := Try.sizeOf134
  v77 := Try.zeroValue134 }
def Try.cmpInt_ren : Go.Shelf.Ren := ⟨fun | 5 => 47 | 7 => 54 | n => n, fun | 22 => 3 | 3 => 3 | 4 => 4 | n => n, fun | n => n⟩
theorem Try.cmpInt : Go.Proofs.SlLaysC2.n5 Try.prog Try.cmpInt_ren := {
  mixed := by kernel_rfl
  f5 := ⟨Try.f47.name, by decide, Try.func47.trans (congrArg some (by kernel_rfl))⟩
  f7 := ⟨Try.f54.name, by decide, Try.func54.trans (congrArg some (by kernel_rfl))⟩
  t3 := Try.underlying3
  a3 := Try.isAgg3
  z3 := Try.sizeOf3
  v3 := Try.zeroValue3
  t4 := Try.underlying4
  a4 := Try.isAgg4
  z4 := Try.sizeOf4
  v4 := Try.zeroValue4
  t22 := Try.underlying3
  a22 := Try.isAgg3
  z22 := Try.sizeOf3
  v22 := Try.zeroValue3 }
end Go.Proofs
namespace Go.Proofs.Ytkecbdeekpbbjaa.Q
open Go.RowKit Go.Lib Go.Shelf Go.Maps Go.Sort Go.Proofs.Ytkecbdeekpbbjaa Go.Proofs.YtkecbdeekpbbjaaW.PrintWords Go.Proofs.YtkecbdeekpbbjaaW.PrintLast Go.Proofs.YtkecbdeekpbbjaaW.PrintMore
set_option linter.unusedVariables false
set_option linter.unusedSimpArgs false

instance : Inhabited S54 := ⟨z54⟩
theorem closure_listed (x y : S54) (W : World) : Calls Try.prog 46 #[v54 x, v54 y] W fun e w' => e = .returned (.int .i64 (Lib.compareInt x.f0 y.f0)) ∧ ∃ q os', w' = grow (W.drewN q) os' := by
  have hu := Try.underlying54
  have hcon := fun W' => AnyG.cmp_Compare_int Try.cmpInt x.f0 y.f0 W'
  change ∀ W', Calls Try.prog 47 _ _ _ at hcon
  generalize Lib.compareInt x.f0 y.f0 = r at hcon ⊢
  go_enter Try.func46, Try.ntmps46
  go_wp2_with (go_at_call 47; refine (hcon _).mono ?_; rintro e w' ⟨rfl, rfl⟩)
  go_ret
  exact ⟨rfl, 0, _, by rw [alloc_eq_grow, alloc_eq_grow, grow_grow]; rfl⟩
theorem cmpLays (blk off size : Nat) (w : World) : CmpLays Try.prog 46 #[] c54 4 (fun x y => Lib.compareInt x.f0 y.f0) blk off size w :=
  fun _ _ _ _ x y => closure_listed x y _
theorem ltX (x y : S54) : ltOf (fun x y : S54 => Lib.compareInt x.f0 y.f0) x y = decide (x.f0 < y.f0) := by
  unfold ltOf Lib.compareInt
  by_cases h1 : x.f0 < y.f0
  · simp [h1]
  · by_cases h2 : y.f0 < x.f0 <;> simp [h1, h2]
theorem swoX : SWO (ltOf fun x y : S54 => Lib.compareInt x.f0 y.f0) where
  irrefl x := by rw [ltX]; simp
  trans x y z h1 h2 := by rw [ltX] at *; simp at *; omega
  ntrans x y z h1 h2 := by rw [ltX] at *; simp at *; omega

theorem sortStep_calls (blk off cap : Nat) (d : Array S54) (w : World) (hH : HoldsK c54 4 w blk off d) (hblk : blk < w.heap.size) (hsz : d.size < 4611686018427387904) :
    Calls Try.prog 52 #[.slice (some ⟨blk, off, none⟩) d.size cap, .func (.func 46) #[] #[]] w fun e w' => e = .returned (.tuple #[]) ∧ ∃ d' n os, PermIn 0 d.size d d' ∧ SortedIn (ltOf fun x y : S54 => Lib.compareInt x.f0 y.f0) 0 d.size d' ∧ w' = sortWorldK c54 4 w blk off n d' os := by
  have eg : ∀ args w, (callFunc 46 args).run Try.prog w = .ok (.enter 46 args) w := enters_of Try.func46 (by kernel_rfl) rfl
  exact AnyQ.slices_SortFunc Try.sortStep 4 Try.isAgg54 Try.sizeOf54 c54 (fun _ => rfl) (fun x v hv => by simp [c54] at hv; rcases hv with rfl | rfl | rfl | rfl <;> rfl) (fun x y => Lib.compareInt x.f0 y.f0) swoX 46 #[] blk off cap d w eg (cmpLays blk off d.size w) hH hblk hsz

end Go.Proofs.Ytkecbdeekpbbjaa.Q

/-! The values of a map of steps, by their places, by hand. -/
namespace Go.Proofs.Ytkecbdeekpbbjaa.Q
open Go.RowKit Go.Lib Go.Shelf Go.Maps Go.Sort Go.Proofs.Ytkecbdeekpbbjaa Go.Proofs.YtkecbdeekpbbjaaW.PrintWords Go.Proofs.YtkecbdeekpbbjaaW.PrintLast Go.Proofs.YtkecbdeekpbbjaaW.PrintMore
set_option linter.unusedVariables false
set_option linter.unusedSimpArgs false

theorem reps54_on (w : World) (base : Nat) (ok : Nat → Prop) : ∀ (zs pre : List S54), Reps (k54.M w base ok) 4 pre (pre.flatMap c54) → Reps (k54.M w base ok) 4 (pre ++ zs) ((pre ++ zs).flatMap c54)
  | [], pre, h => by rw [List.append_nil]; exact h
  | z :: zs, pre, h => by
    have := reps54_on w base ok zs (pre ++ [z]) (by rw [flat_snoc]; exact Reps.snoc h (k54_mkM w base ok z) rfl)
    rwa [List.append_assoc] at this
theorem reps54 (w : World) (base : Nat) (ok : Nat → Prop) (xs : List S54) : Reps (k54.M w base ok) 4 xs (xs.flatMap c54) := reps54_on w base ok xs [] (Reps.none _ _)
theorem C_of_own {w : World} {base : Nat} {A : Option Addr} {n c : Nat} {xs : List S54} (h : w.ownsRow base 54 4 (.slice A n c) xs.length (xs.flatMap c54)) : Kd.C k54 w A xs.length xs ∧ xs.length ≤ c ∧ n = xs.length := by
  have hR : Kd.R k54 54 w base (fun _ => True) (.slice A n c) xs := ⟨fun _ _ => trivial, _, h, reps54 _ _ _ _⟩
  have hr := Kd.R_reads' hR
  obtain ⟨h1, h2, h3⟩ := hr
  subst h1
  exact ⟨h3, h2, rfl⟩
theorem holds_of_own {w : World} {base g n c : Nat} {xs : List S54} (h : w.ownsRow base 54 4 (.slice (some ⟨g, 0, none⟩) n c) xs.length (xs.flatMap c54)) : HoldsK c54 4 w g 0 xs.toArray ∧ g < w.heap.size ∧ base ≤ g := by
  have hC := (C_of_own h).1
  rcases h.2 with ⟨h0, _⟩ | ⟨g', cap, cur, e, hb, hg, -⟩
  · cases h0
  · injection e with e1 e2 e3
    injection e1 with e1
    injection e1 with e1
    subst e1
    refine ⟨fun t ht => ?_, blk_lt hg, hb⟩
    rw [size_flatK] at ht
    have ht' : t < xs.length * 4 := by simpa using ht
    rw [get_flatK _ _ _ _ ht]
    refine ⟨?_, blk_frozen hg _⟩
    have h4 : t % 4 < 4 := Nat.mod_lt _ (by decide)
    have ht4 : t = t / 4 * 4 + t % 4 := by omega
    have hp : t / 4 < xs.length := by omega
    generalize t % 4 = q at *
    generalize t / 4 = p at *
    obtain ⟨ad, hA, a0, a1, a2, a3⟩ := at_T54 hC (p : Int) (by omega) (by omega)
    cases hA
    have hx : rd_T54 xs (p : Int) = xs.toArray[p]! := by
      unfold rd_T54
      simp [List.getD_eq_getElem?_getD, hp]
    rw [hx] at a0 a1 a2 a3
    simp only [Int.toNat_natCast, Addr.add_lit] at a0 a1 a2 a3
    generalize xs.toArray[p]! = x at *
    subst ht4
    rcases q with _ | _ | _ | _ | q
    · exact a0
    · exact a1
    · exact a2
    · exact a3
    · omega
theorem C_of_holds {w : World} {g : Nat} {xs : List S54} (h : HoldsK c54 4 w g 0 xs.toArray) (hl : xs.length ≤ 9223372036854775807) : Kd.C k54 w (some ⟨g, 0, none⟩) xs.length xs := by
  refine ⟨rfl, hl, fun _ => ⟨_, rfl, fun j p hp => ⟨c54 p, rfl, k54_mk w p, fun i u hu => ?_⟩⟩⟩
  have hj : j < xs.length := (List.getElem?_eq_some_iff.1 hp).1
  have hi : i < 4 := (List.getElem?_eq_some_iff.1 hu).1
  have := (h.cell (i := j) (c := i) (by simpa using hj) hi).1
  have hx : xs.toArray[j]! = p := by simp [hj, (List.getElem?_eq_some_iff.1 hp).2]
  rw [hx] at this
  have hu' : (c54 p)[i]! = u := by rw [List.getElem!_eq_getElem?_getD, hu]; rfl
  rw [hu'] at this
  rw [Addr.add_lit]
  rw [← this]
  congr 2
  show 0 + (j * 4 + i) = 0 + j * 4 + i
  omega
theorem below_sort {w : World} {base g n : Nat} {d : Array S54} {os : Array Obj} (hb : base ≤ g) (hg : base ≤ w.heap.size) : Below base w (sortWorldK c54 4 w g 0 n d os) := by
  refine ⟨rfl, rfl, rfl, ?_, fun k hk => ?_⟩
  · show w.heap.size ≤ ((w.heap.modify g _) ++ os).size
    rw [Array.size_append, Array.size_modify]
    omega
  · show ((w.heap.modify g _) ++ os)[k]? = _
    rw [Array.getElem?_append_left (by rw [Array.size_modify]; omega), Array.getElem?_modify, if_neg (by omega)]

theorem collect_calls (Bm b nn : Nat) (D : DataW S54) (w : World) (hm : w.heap[Bm]? = some (.cells #[.map (some b)] 70 (0, 0))) (hown : w.ownsMap Try.prog 3 r54 b nn D) (hn : nn ≤ 1000000) :
    Calls Try.prog 51 #[.func (.func 53) #[] #[.pointer (some ⟨Bm, 0, none⟩)]] w fun e w' => ∃ xs v, AllOf D xs ∧ xs.length ≤ 1000000 ∧ e = .returned v ∧ w'.ownsRow w.heap.size 54 4 v xs.length (xs.flatMap c54) ∧ RowKit.Below w.heap.size w w' := by
  have hs := hown.size_le
  refine callsIn_wide.1 ((collect_in 4 (Nat.le_refl _) _ _ (enters_of Try.func53 (by kernel_rfl) rfl) w (AllOf D) (Maps.size D) (by omega) (values_stops 2 (by decide) Bm b nn D w hm hown)).mono ?_)
  rintro e w' ⟨xs, v, h1, h2, h3, h4, h5⟩
  exact ⟨xs, v, h1, by omega, h3, h4, h5⟩

theorem sorted_pairwise {d' : Array S54} (h : SortedIn (ltOf fun x y : S54 => Lib.compareInt x.f0 y.f0) 0 d'.size d') : d'.toList.Pairwise fun a b => a.f0 ≤ b.f0 := by
  rw [List.pairwise_iff_getElem]
  intro i j hi hj hij
  have := h i j (Nat.zero_le _) hij (by simpa using hj)
  rw [ltX, getElem!_pos d' i (by simpa using hi), getElem!_pos d' j (by simpa using hj)] at this
  simp at this
  simpa using this

theorem typed_sort {w : World} {g n : Nat} {cur : Array Value} {d : Array S54} {os : Array Obj} (h : w.heap[g]? = some (.cells cur 54 (0, 0))) : Typed (sortWorldK c54 4 w g 0 n d os) (some ⟨g, 0, none⟩) := fun ad e => by
  cases e
  have hg := blk_lt h
  show ∃ cs, ((w.heap.modify g _) ++ os)[g]? = _
  rw [Array.getElem?_append_left (by rw [Array.size_modify]; exact hg), Array.getElem?_modify, if_pos rfl, h]
  exact ⟨_, rfl⟩
theorem typed_own {w : World} {base n c m : Nat} {A : Option Addr} {xs : List Value} (h : w.ownsRow base 54 4 (.slice A n c) m xs) : Typed w A := fun ad e => by
  rcases h.2 with ⟨h1, _⟩ | ⟨g, cap, cur, h1, -, hg, -⟩
  · subst e; cases h1
  · subst e; cases h1; exact ⟨_, hg⟩

theorem sorting_calls (xs : List S54) (v : Value) (base : Nat) (w : World) (hr : w.ownsRow base 54 4 v xs.length (xs.flatMap c54)) (hb : base ≤ w.heap.size) (hl : xs.length ≤ 1000000) :
    Calls Try.prog 52 #[v, .func (.func 46) #[] #[]] w fun e w' => e = .returned (.tuple #[]) ∧ ∃ A c zs, v = .slice A zs.length c ∧ zs.length ≤ c ∧ zs.Perm xs ∧ zs.Pairwise (fun a b => a.f0 ≤ b.f0) ∧ Kd.C k54 w' A zs.length zs ∧ RowKit.Below base w w' ∧ Typed w' A := by
  by_cases h0 : xs.length = 0
  · obtain rfl := List.eq_nil_of_length_eq_zero h0
    obtain ⟨A, n, c, rfl⟩ : ∃ A n c, v = .slice A n c := by
      rcases hr.2 with ⟨rfl, _⟩ | ⟨g, cap, cur, rfl, -⟩
      · exact ⟨_, _, _, rfl⟩
      · exact ⟨_, _, _, rfl⟩
    obtain ⟨hC, hc, rfl⟩ := C_of_own hr
    refine (AnyF.slices_SortFunc_none { Try.sortStep with } A c _ w).mono ?_
    rintro e w' ⟨rfl, rfl⟩
    exact ⟨rfl, A, c, [], rfl, hc, List.Perm.refl _, List.Pairwise.nil, hC, RowKit.Below.refl _ _, typed_own hr⟩
  · obtain ⟨g, cap, rfl⟩ : ∃ g cap, v = .slice (some ⟨g, 0, none⟩) xs.length cap := by
      rcases hr.2 with ⟨-, h⟩ | ⟨g, cap, cur, rfl, -⟩
      · exact absurd h h0
      · exact ⟨_, _, rfl⟩
    obtain ⟨hC, hc, -⟩ := C_of_own hr
    obtain ⟨hH, hg, hbg⟩ := holds_of_own hr
    have hcon := sortStep_calls g 0 cap xs.toArray w hH hg (by simp; omega)
    rw [List.size_toArray] at hcon
    refine hcon.mono ?_
    rintro e w' ⟨rfl, d', n, os, hp, hs, rfl⟩
    have hsz : d'.size = xs.length := by rw [hp.1]; simp
    have hz : d'.toList.length = xs.length := by rw [Array.length_toList]; exact hsz
    refine ⟨rfl, some ⟨g, 0, none⟩, cap, d'.toList, by rw [hz], by rw [hz]; exact hc, ?_, sorted_pairwise (by rw [hsz]; exact hs), ?_, below_sort hbg hb, by obtain ⟨cs, h⟩ := typed_own hr _ rfl; exact typed_sort h⟩
    · have := hp.2.2
      rw [← hsz, Array.extract_size] at this
      rw [hsz, show xs.length = xs.toArray.size by simp, Array.extract_size] at this
      exact this
    · refine C_of_holds ?_ (by rw [hz]; omega)
      rw [Array.toArray_toList]
      exact holdsK_grow c54 4 _ os g 0 d' (by simpa [putRowK, putRow, mapBlock, Sort.ahead] using hg) (holdsK_putRowK c54 4 _ g 0 xs.toArray d' (holdsK_ahead c54 4 _ _ _ _ _ hH) hp.1)

theorem sortedFunc_calls (Bm b nn : Nat) (D : DataW S54) (f : Int → Option S54) (w : World) (hm : w.heap[Bm]? = some (.cells #[.map (some b)] 70 (0, 0))) (hown : w.ownsMap Try.prog 3 r54 b nn D) (hI : Is D f) (hG : Good f) (hn : nn ≤ 1000000) :
    Calls Try.prog 44 #[.func (.func 53) #[] #[.pointer (some ⟨Bm, 0, none⟩)], .func (.func 46) #[] #[]] w fun e w' => ∃ A c, e = .returned (.slice A (listOf f).length c) ∧ Kd.C k54 w' A (listOf f).length (listOf f) ∧ (listOf f).length ≤ c ∧ RowKit.Below w.heap.size w w' ∧ Typed w' A := by
  have C1 := Lib.hid (collect_calls Bm b nn D w hm hown hn)
  have HI := Lib.hid (And.intro hI hG)
  clear hm hown hI hG
  go_enter Try.func44, Try.ntmps44
  go_wp2_with fail
  refine C1.out.mono ?_
  rintro e w1 ⟨xs, v, hA, hl, rfl, hr, hB⟩
  have C2 := Lib.hid (sorting_calls xs v w.heap.size w1 hr hB.size hl)
  have HA := Lib.hid (And.intro hA hB)
  clear hA hB hr C1
  go_wp2_with fail
  refine C2.out.mono ?_
  rintro e w2 ⟨rfl, A, c, zs, rfl, hc, hp, hs, hC, hB2, hT⟩
  have e := all_listed HI.out.1 HI.out.2 HA.out.1 hp hs
  subst e
  have HC := Lib.hid (And.intro hC (And.intro hc (And.intro (HA.out.2.trans hB2) hT)))
  clear hC hc hB2 hp hs C2 hT
  go_wp2_with fail
  go_ret
  exact ⟨A, c, rfl, HC.out.1, HC.out.2.1, HC.out.2.2⟩

theorem listed_calls (b nn : Nat) (D : DataW S54) (f : Int → Option S54) (w : World) (hown : w.ownsMap Try.prog 3 r54 b nn D) (hI : Is D f) (hG : Good f) (hn : nn ≤ 1000000) :
    Calls Try.prog 30 #[.map (some b)] w fun e w' => ∃ A c, e = .returned (.slice A (listOf f).length c) ∧ Kd.C k54 w' A (listOf f).length (listOf f) ∧ (listOf f).length ≤ c ∧ RowKit.Below w.heap.size w w' ∧ Typed w' A := by
  have C1 := Lib.hid (values_calls b w)
  have C2 := Lib.hid (sortedFunc_calls w.heap.size b nn D f (w.alloc (.cells #[.map (some b)] 70)) (heap_alloc_new _ _) (hown.alloc _) hI hG hn)
  clear hown hI hG
  go_enter Try.func30, Try.ntmps30
  go_wp2_with fail
  refine C1.out.mono ?_
  rintro e w1 ⟨rfl, rfl⟩
  clear C1
  go_wp2_with fail
  refine C2.out.mono ?_
  rintro e w2 ⟨A, c, rfl, hC, hc, hB, hT⟩
  have HC := Lib.hid (And.intro hC (And.intro hc (And.intro (bAfter (bOne _) hB) hT)))
  clear hC hc hB C2 hT
  go_wp2_with fail
  go_ret
  exact ⟨A, c, rfl, HC.out.1, HC.out.2.1, HC.out.2.2⟩

end Go.Proofs.Ytkecbdeekpbbjaa.Q

/-! What a transaction has read, by hand. -/
namespace Go.Proofs.Ytkecbdeekpbbjaa.Q
open Go.RowKit Go.Lib Go.Shelf Go.Maps Go.Proofs.Ytkecbdeekpbbjaa Go.Proofs.YtkecbdeekpbbjaaW.PrintWords Go.Proofs.YtkecbdeekpbbjaaW.PrintLast Go.Proofs.YtkecbdeekpbbjaaW.PrintMore
set_option linter.unusedVariables false
set_option linter.unusedSimpArgs false
attribute [local go_sem] Oper.semAt_some

theorem C54_put {W : World} {A : Option Addr} {m : Nat} {xs : List S54} {D : Nat} {o : Obj} (h : Kd.C k54 W A m xs) (hD : W.heap[D]? = some o) (ho : o.isCells = false) (o' : Obj) : Kd.C k54 (W.putObj D o') A m xs := by
  obtain ⟨h1, h2, h3⟩ := h
  refine ⟨h1, h2, fun hm => ?_⟩
  obtain ⟨ad, e, hc⟩ := h3 hm
  refine ⟨ad, e, fun j p hp => ?_⟩
  obtain ⟨c, hl, hk, hcell⟩ := hc j p hp
  refine ⟨c, hl, ?_, fun i u hu => cell_kept (hcell i u hu) (grownBy_putObj' W D o') (fun r e => by injection e with e; subst e; exact ⟨_, hD, ho⟩)⟩
  rw [k54_open hk]
  exact k54_mk _ p
theorem wf_i64 {x : Int} (h0 : -9223372036854775808 ≤ x) (h1 : x ≤ 9223372036854775807) : (Lit.int .i64 x).wf = true := by
  simp [Lit.wf, IntKind.min, IntKind.max, IntKind.signed, IntKind.bits]
  omega

set_option maxRecDepth 100000 in
set_option maxHeartbeats 4000000 in
theorem reads_in (n : Nat) (hn : 3 ≤ n) (A : Option Addr) (c : Nat) (l : List S54) (w : World) (hC : Kd.C k54 w A l.length l) (hz : l.length ≤ 1000000) :
    CallsIn Fence.wide n Try.prog 15 #[.slice A l.length c] w fun e w' => ∃ A c, e = .returned (.slice A (readsL l).length c) ∧ Kd.C k54 w' A (readsL l).length (readsL l) ∧ (readsL l).length ≤ c ∧ Below w.heap.size w w' ∧ Typed w' A := by
  have hu := Try.underlying54
  have hu29 := Try.underlying35
  have hu53 := Try.underlying70
  have hk3 := int_keyed Try.underlying3
  have hmm := @run_makeMap Try.prog
  have h1 : 1 ≤ n := by omega
  refine callsIn_of_wp_marks Try.func15 rfl trivial ?_ rfl
  simp only [Try.ntmps15, List.size_toArray, List.length_cons, List.length_nil, Nat.reduceAdd, Nat.reduceSub, Array.replicate_succ, Array.replicate_zero, List.push_toArray, List.append_toArray, List.nil_append, List.cons_append]
  gi_wp2_with (refine ⟨trivial, ?_⟩; gi_at_call 29; refine (CallsIn.mono (callsIn_wide.2 (backward_calls A l.length c _)) ?_); rintro e w' ⟨rfl, rfl⟩)
  obtain ⟨W0, hW0, m0, b1, b2, hB0, hsz⟩ : ∃ W0, ((w.alloc (.map #[] 0)).alloc (.cells #[.map (some w.heap.size)] 70)).alloc (.cells #[.slice A l.length c] 35) = W0 ∧
      W0.ownsMap Try.prog 3 r54 w.heap.size 0 (.map []) ∧ W0.heap[w.heap.size + 1]? = some (.cells #[.map (some w.heap.size)] 70 (0, 0)) ∧ W0.heap[w.heap.size + 1 + 1]? = some (.cells #[.slice A l.length c] 35 (0, 0)) ∧ Below w.heap.size w W0 ∧ W0.heap.size = w.heap.size + 3 := by
    obtain ⟨V, rfl, h1, h2, h3, h4, h5⟩ := three_named w (.map #[] 0) (.cells #[.map (some w.heap.size)] 70) (.cells #[.slice A l.length c] 35)
    exact ⟨_, rfl, ((World.ownsMap_made w Try.prog 3 r54).alloc _).alloc _, h2, h3, h4, h5⟩
  rw [hW0]
  clear hW0 hmm
  refine wpIn_rangeFunc_ownH rfl h1 (gf := 43) (lb := #[.pointer (some ⟨w.heap.size + 1 + 1, 0, none⟩)]) rfl trivial (enters_of Try.func43 (by kernel_rfl) rfl)
    (backward_stops (n - 1) (by omega) (w.heap.size + 1 + 1) c A l w W0 hB0 hC b2 hz) KB.trans (fun W l o o' hl h hc hw => KB.put l o o' (by omega) (by omega) h hc hw) (Below.refl _ _) (fun _ => rfl)
    (fun pre W => ((∃ D, W.ownsMap Try.prog 3 r54 w.heap.size pre.length D ∧ Is D (readsF pre)) ∧ W.heap[w.heap.size + 1]? = some (.cells #[.map (some w.heap.size)] 70 (0, 0))) ∧ Below w.heap.size w W)
    (fun _ _ _ => False)
    (OwnFrom.and (OwnFrom.and (fun s X Y row hs hg hr => by
      obtain ⟨D, hD, hI⟩ := hs
      exact ⟨D, hD.kept hg (fun e => by have := (hr _ e.symm).1; omega), hI⟩) (own_cells _ _ (fun _ => .cells #[.map (some w.heap.size)] 70 (0, 0)) fun _ => rfl)) (ownFrom_below (Nat.le_refl _) (by omega)))
    (fun _ _ _ _ _ hs _ _ => hs)
    ⟨⟨⟨_, m0, Is.nil⟩, b1⟩, hB0⟩
    (fun y a' W => ∃ Bx, w.heap.size + 1 < Bx ∧ W.heap[Bx]? = some (stepC y.2) ∧ a' = { tmps := #[.slice A l.length c, undef, .slice none 0 0, .pointer (some ⟨w.heap.size + 1, 0, none⟩), undef, .pointer (some ⟨Bx, 0, none⟩), .map (some w.heap.size), .slice A l.length c, .func (.func 43) #[] #[.pointer (some ⟨w.heap.size + 1 + 1, 0, none⟩)], .int .i64 (y.1 : Int), v54 y.2, undef, undef, undef, undef, undef, undef, undef, undef, undef, undef, undef, undef, undef, undef, undef, undef, undef, undef, undef], defers := [] })
    (fun y a' _ X Y row hs hg hr => by obtain ⟨Bx, h1, h2, h3⟩ := hs; exact ⟨Bx, h1, own_cells W0.heap.size Bx (fun _ : Unit => stepC y.2) (fun _ => rfl) () X Y row h2 hg hr, h3⟩)
    ?assign ?body ?done ?stop
  case assign =>
    rintro ll pre y W K ⟨⟨⟨D, hD, hI⟩, bv⟩, hB⟩ hK
    have HK := Lib.hid hK
    clear hK
    gi_wp2
    refine HK.out _ _ ((KeepsOthers.alloc _ _).from _) ⟨(Below.refl _ W).alloc hB.size _, fun hb => heap_alloc_old _ _ hb⟩ ⟨⟨⟨D, hD.alloc _, hI⟩, blk_alloc bv _⟩, hB.alloc hB.size _⟩ ⟨W.heap.size, blk_lt bv, heap_alloc_new _ _, rfl⟩
  case body =>
    rintro ll pre y a' W hl ⟨r, hr⟩ ⟨⟨⟨D, hD, hI⟩, bv⟩, hB⟩ ⟨Bx, hBx, bX, rfl⟩ hlt
    have d1 := blk_cell bv 0
    have x0 := blk_cell bX 0
    have x1 := blk_cell bX 1
    have x2 := blk_cell bX 2
    have x3 := blk_cell bX 3
    have HB := Lib.hid (And.intro hB (And.intro bv hI))
    clear hB bv hI bX
    have HM := Lib.hid (fun W2 (hg : W.grownBy W2 (some w.heap.size)) => (show KeepsFrom W0.heap.size W W2 ∧ KB w.heap.size (w.heap.size + 1 + 1) W W2 from
      ⟨KeepsFrom.of_grownBy hg (fun j e => by injection e with e; omega), (Below.refl _ W).grown hg HB.out.1.size (fun k e => by injection e with e; omega), fun hb => hg.block _ hb (fun e => by injection e with e; omega)⟩))
    obtain ⟨i, s0, ⟨s1, s2⟩, s3⟩ := y
    dsimp only at x0 x1 x2 x3
    dsimp only [v54]
    by_cases c1 : s3 = false
    · subst c1
      by_cases c2 : 0 ≤ s0
      · by_cases c3 : s0 < 64
        · have hwf : (Lit.int .i64 s0).wf = true := wf_i64 (by omega) (by omega)
          have hst : readsF (pre ++ [(i, ⟨s0, ⟨s1, s2⟩, false⟩)]) = fun z => if z = s0 then some ⟨s0, ⟨s1, s2⟩, false⟩ else readsF pre z := by
            rw [readsF_snoc]; unfold putR; rw [if_pos ⟨rfl, c2, c3⟩]
          gi_wp2_with (gi_at_mapUpdate; refine wpListIn_mapUpdate_own _ rfl _ _ _ 70 rfl 3 54 hk3 hu53 r54 w.heap.size pre.length D rfl hD (by simp only [maxLen]; omega) _ _ _ rfl rfl (Maps.keyOf_int_mk Try.underlying3 hwf) (.held ⟨s0, ⟨s1, s2⟩, false⟩) [] rfl ?_; intro w1 hown1 hgrow1)
          obtain ⟨k1, k2⟩ := HM.out _ hgrow1
          exact ⟨k1, k2, ⟨⟨_, by rw [List.length_append]; exact hown1, by rw [hst]; exact HB.out.2.2.put s0 ⟨s0, ⟨s1, s2⟩, false⟩⟩, (hgrow1.block _ (blk_lt HB.out.2.1) (fun e => by injection e with e; omega)).trans HB.out.2.1⟩, HB.out.1.trans k2.1⟩
        · have hst : readsF (pre ++ [(i, ⟨s0, ⟨s1, s2⟩, false⟩)]) = readsF pre := by
            rw [readsF_snoc]; unfold putR; rw [if_neg (fun h => c3 h.2.2)]
          have HST := Lib.hid hst
          clear hst
          gi_wp2
          exact ⟨KeepsFrom.refl _ _, KB.refl _ _ _, ⟨⟨D, by rw [List.length_append]; exact hD.mono (by simp), by rw [HST.out]; exact HB.out.2.2⟩, HB.out.2.1⟩, HB.out.1⟩
      · have hst : readsF (pre ++ [(i, ⟨s0, ⟨s1, s2⟩, false⟩)]) = readsF pre := by
          rw [readsF_snoc]; unfold putR; rw [if_neg (fun h => c2 h.2.1)]
        have HST := Lib.hid hst
        clear hst
        gi_wp2
        exact ⟨KeepsFrom.refl _ _, KB.refl _ _ _, ⟨⟨D, by rw [List.length_append]; exact hD.mono (by simp), by rw [HST.out]; exact HB.out.2.2⟩, HB.out.2.1⟩, HB.out.1⟩
    · obtain rfl : s3 = true := by simpa using c1
      have hst : readsF (pre ++ [(i, ⟨s0, ⟨s1, s2⟩, true⟩)]) = readsF pre := by
        rw [readsF_snoc]; unfold putR; rw [if_neg (fun h => by cases h.1)]
      have HST := Lib.hid hst
      clear hst
      gi_wp2
      exact ⟨KeepsFrom.refl _ _, KB.refl _ _ _, ⟨⟨D, by rw [List.length_append]; exact hD.mono (by simp), by rw [HST.out]; exact HB.out.2.2⟩, HB.out.2.1⟩, HB.out.1⟩
  case done =>
    rintro D ys W hD rfl ⟨⟨⟨D', hD', hI⟩, bv⟩, hB⟩ hK
    have d1 := blk_cell bv 0
    gi_wp2_with (refine ⟨trivial, ?_⟩; gi_at_call 30; refine (CallsIn.mono (callsIn_wide.2 (listed_calls _ _ D' _ W hD' hI (good_reads _) (by rw [rz_len]; omega))) ?_); rintro e w' ⟨A', c', rfl, hC', hc', hb', hT'⟩)
    have hK2 := (hb'.block _ (blk_lt hK)).trans hK
    refine ⟨by simp, .inl ⟨_, _, rfl, run_takeDeferred hK2, ?_⟩⟩
    have hg := grownBy_putObj' w' D (.deferred none)
    refine ⟨_, results_tmp rfl _ _ _, A', c', rfl, ?_, hc', (hB.trans (hb'.mono hB.size)).trans ((Below.refl _ _).grown hg (by have := hB.size; have := hb'.size; omega) (fun k e => by injection e with e; omega)), ?_⟩
    · exact C54_put hC' hK2 rfl _
    · intro ad e
      obtain ⟨cs, h1⟩ := hT' ad e
      exact ⟨cs, blk_grown h1 hg (by intro h; injection h with h; rw [h, hK2] at h1; cases h1)⟩
  case stop =>
    rintro D cc pre W hD _ h _
    exact h.elim

theorem reads_calls (A : Option Addr) (c : Nat) (l : List S54) (w : World) (hC : Kd.C k54 w A l.length l) (hz : l.length ≤ 1000000) :
    Calls Try.prog 15 #[.slice A l.length c] w fun e w' => ∃ A c, e = .returned (.slice A (readsL l).length c) ∧ Kd.C k54 w' A (readsL l).length (readsL l) ∧ (readsL l).length ≤ c ∧ Below w.heap.size w w' ∧ Typed w' A :=
  callsIn_wide.1 (reads_in 3 (Nat.le_refl _) A c l w hC hz)

end Go.Proofs.Ytkecbdeekpbbjaa.Q

/-! What a transaction leaves, by hand. -/
namespace Go.Proofs.Ytkecbdeekpbbjaa.Q
open Go.RowKit Go.Lib Go.Shelf Go.Maps Go.Proofs.Ytkecbdeekpbbjaa Go.Proofs.YtkecbdeekpbbjaaW.PrintWords Go.Proofs.YtkecbdeekpbbjaaW.PrintLast Go.Proofs.YtkecbdeekpbbjaaW.PrintMore
set_option linter.unusedVariables false
set_option linter.unusedSimpArgs false

theorem writesF_take (l : List S54) {i : Nat} (hi : i < l.length) : writesF (l.take (i + 1)) = putW (writesF (l.take i)) (l.getD i z54) := by
  rw [List.take_add_one, show l[i]? = some (l.getD i z54) by simp [List.getD_eq_getElem?_getD, hi]]
  exact writesF_snoc _ _

set_option maxRecDepth 100000 in
set_option maxHeartbeats 4000000 in
theorem writes_calls (A : Option Addr) (c : Nat) (l : List S54) (w : World) (hC : Kd.C k54 w A l.length l) (hz : l.length ≤ 1000000) :
    Calls Try.prog 16 #[.slice A l.length c] w fun e w' => ∃ A c, e = .returned (.slice A (writesL l).length c) ∧ Kd.C k54 w' A (writesL l).length (writesL l) ∧ (writesL l).length ≤ c ∧ Below w.heap.size w w' ∧ Typed w' A := by
  have hu := Try.underlying54
  have hu29 := Try.underlying35
  have hu53 := Try.underlying70
  have hk3 := int_keyed Try.underlying3
  have hmm := @run_makeMap Try.prog
  have HC := Lib.hid (And.intro hC hz)
  clear hC hz
  go_enter Try.func16, Try.ntmps16
  go_wp2_with fail
  have m0 := World.ownsMap_made w Try.prog 3 r54
  have hB0 : Below w.heap.size w (w.alloc (.map #[] 0)) := bOne _
  have HM := Lib.hid (And.intro m0 hB0)
  clear m0 hB0 hmm
  generalize w.alloc (.map #[] 0) = W0 at *
  go_loopg [5, 9] l.length (fun kq _ v9 W => ∃ i : Nat, v9 = .int .i64 i ∧ Hid (kq + i = l.length) ∧ Hid ((∃ D, W.ownsMap Try.prog 3 r54 w.heap.size i D ∧ Is D (writesF (l.take i))) ∧ Below w.heap.size w W))
  case atStart => exact ⟨0, rfl, by simp [Hid], Lib.hid ⟨⟨_, HM.out.1, Is.nil⟩, HM.out.2⟩⟩
  case round =>
    obtain ⟨i, rfl, hk, hJ⟩ := hrel
    obtain ⟨⟨D, hD, hI⟩, hB⟩ := hJ.out
    clear HM hJ
    by_cases hi : i < l.length
    · have hi2 : (i : Int) < l.length := by omega
      have hi0 : (0 : Int) ≤ i := by omega
      obtain ⟨ad, rfl, a0, a1, a2, a3⟩ := at_T54 (Kd.C_below HC.out.1 hB) (i : Int) hi0 hi2
      have hx : writesF (l.take (i + 1)) = putW (writesF (l.take i)) (rd_T54 l i) := writesF_take l hi
      simp only [Int.toNat_natCast] at a0 a1 a2 a3
      generalize rd_T54 l (i : Int) = x at *
      obtain ⟨s0, ⟨s1, s2⟩, s3⟩ := x
      dsimp only at a0 a1 a2 a3
      have HX := Lib.hid hx
      clear hx
      obtain ⟨W3, hW3, B3, hB3⟩ : ∃ W3, wr.alloc (.cells #[.int .i64 s0, .int .i64 s1, .int .i64 s2, .bool s3] 54) = W3 ∧ W3.heap[wr.heap.size]? = some (.cells #[.int .i64 s0, .int .i64 s1, .int .i64 s2, .bool s3] 54 (0, 0)) ∧ Below wr.heap.size wr W3 := ⟨_, rfl, heap_alloc_new _ _, bOne _⟩
      have b0 := blk_cell B3 0
      have b1 := blk_cell B3 1
      have b2 := blk_cell B3 2
      have b3 := blk_cell B3 3
      have f0 := blk_frozen B3 0
      have f1 := blk_frozen B3 1
      have f2 := blk_frozen B3 2
      have f3 := blk_frozen B3 3
      have hD3 : W3.ownsMap Try.prog 3 r54 w.heap.size i D := by rw [← hW3]; exact hD.alloc _
      have HB := Lib.hid (And.intro (show Below w.heap.size w W3 from hB.trans (hB3.mono hB.size)) hI)
      have HK := Lib.hid (show i + 1 ≤ l.length from hi)
      have HLT := Lib.hid hD.lt
      clear hB B3 hB3 hI hD
      have fin : ∀ W4 D4, W4.ownsMap Try.prog 3 r54 w.heap.size (i + 1) D4 → Is D4 (putW (writesF (l.take i)) ⟨s0, ⟨s1, s2⟩, s3⟩) → Below w.heap.size w W4 → Hid ((∃ D, W4.ownsMap Try.prog 3 r54 w.heap.size (i + 1) D ∧ Is D (writesF (l.take (i + 1)))) ∧ Below w.heap.size w W4) := fun W4 D4 h1 h2 h3 => Lib.hid ⟨⟨D4, h1, by rw [HX.out]; exact h2⟩, h3⟩
      have HF := Lib.hid fin
      clear fin
      by_cases c1 : s3 = true
      · subst c1
        by_cases c2 : 0 ≤ s0
        · by_cases c3 : s0 < 64
          · have hwf : (Lit.int .i64 s0).wf = true := wf_i64 (by omega) (by omega)
            go_wp2_with (first | (at_mapUpdate; refine wpList_mapUpdate_own _ rfl _ _ _ 70 rfl 3 54 hk3 hu53 r54 w.heap.size i D rfl hD3 (by have := HC.out.2; simp only [maxLen]; omega) _ _ _ rfl rfl (Maps.keyOf_int_mk Try.underlying3 hwf) (.held ⟨s0, ⟨s1, s2⟩, true⟩) [] rfl ?_; intro w1 hown1 hgrow1) | fail)
            have hB4 := HB.out.1.grown hgrow1 HB.out.1.size (fun k e => by injection e with e; omega)
            have HN := Lib.hid (HF.out w1 _ hown1 (by have := HB.out.2.put s0 ⟨s0, ⟨s1, s2⟩, true⟩; unfold putW; rw [if_pos ⟨rfl, c2, c3⟩]; exact this) hB4)
            clear hown1 hB4 hgrow1
            go_wp2_with fail
            obtain ⟨k1, rfl⟩ : ∃ m, gk = m + 1 := ⟨gk - 1, by have := hk.out; omega⟩
            go_roundg k1
            case measure => omega
            case rel => exact ⟨i + 1, by first | rfl | exact congrArg _ (wrap_next (by have := HC.out.2; omega)), by have := hk.out; exact Lib.hid (by omega), HN.out⟩
          · have HN := Lib.hid (HF.out W3 D (hD3.mono (by omega)) (by unfold putW; rw [if_neg (fun h => c3 h.2.2)]; exact HB.out.2) HB.out.1)
            go_wp2_with fail
            obtain ⟨k1, rfl⟩ : ∃ m, gk = m + 1 := ⟨gk - 1, by have := hk.out; omega⟩
            go_roundg k1
            case measure => omega
            case rel => exact ⟨i + 1, by first | rfl | exact congrArg _ (wrap_next (by have := HC.out.2; omega)), by have := hk.out; exact Lib.hid (by omega), HN.out⟩
        · have HN := Lib.hid (HF.out W3 D (hD3.mono (by omega)) (by unfold putW; rw [if_neg (fun h => c2 h.2.1)]; exact HB.out.2) HB.out.1)
          go_wp2_with fail
          obtain ⟨k1, rfl⟩ : ∃ m, gk = m + 1 := ⟨gk - 1, by have := hk.out; omega⟩
          go_roundg k1
          case measure => omega
          case rel => exact ⟨i + 1, by first | rfl | exact congrArg _ (wrap_next (by have := HC.out.2; omega)), by have := hk.out; exact Lib.hid (by omega), HN.out⟩
      · obtain rfl : s3 = false := by simpa using c1
        clear c1
        have HN := Lib.hid (HF.out W3 D (hD3.mono (by omega)) (by unfold putW; rw [if_neg (fun h => by cases h.1)]; exact HB.out.2) HB.out.1)
        go_wp2_with fail
        obtain ⟨k1, rfl⟩ : ∃ m, gk = m + 1 := ⟨gk - 1, by have := hk.out; omega⟩
        go_roundg k1
        case measure => omega
        case rel => exact ⟨i + 1, by first | rfl | exact congrArg _ (wrap_next (by have := HC.out.2; omega)), by have := hk.out; exact Lib.hid (by omega), HF.out _ D ((hD3.mono (by omega)).setCell (by have := HLT.out; show w.heap.size ≠ wr.heap.size; omega) _) (by unfold putW; rw [if_neg (fun h => by cases h.1)]; exact HB.out.2) (HB.out.1.setCell (p := ⟨wr.heap.size, 3, none⟩) (by have := HLT.out; show w.heap.size ≤ wr.heap.size; omega) _)⟩
    · have hil : ¬ (i : Int) < l.length := by omega
      have hle : l.length ≤ i := by omega
      have HW := Lib.hid (listed_calls w.heap.size i D (writesF l) wr hD (by rw [List.take_of_length_le hle] at hI; exact hI) (good_writes l) (by have := HC.out.2; have := hk.out; omega))
      have HB := Lib.hid hB
      clear hD hI hB
      go_wp2_with fail
      refine HW.out.mono ?_
      rintro e w2 ⟨A2, c2, rfl, hC2, hc2, hB2, hT2⟩
      have HN := Lib.hid (And.intro hC2 (And.intro hc2 (And.intro (HB.out.trans (hB2.mono HB.out.size)) hT2)))
      clear hC2 hc2 hB2 HW hT2
      go_wp2_with fail
      go_ret
      exact ⟨A2, c2, rfl, HN.out.1, HN.out.2.1, HN.out.2.2⟩

end Go.Proofs.Ytkecbdeekpbbjaa.Q
