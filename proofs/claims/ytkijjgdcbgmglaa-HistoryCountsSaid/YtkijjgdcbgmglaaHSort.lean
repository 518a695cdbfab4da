/- The values of a map of told steps, in order: SortFunc, SortedFunc, by hand. -/
import Derived.Test.YtkijjgdcbgmglaaHVals
import Derived.RangeFuncNested
import Derived.RangeFuncBound
import Derived.RangeFuncCalls
import Derived.RangeFuncLeaves
import Derived.RangeFuncBox
import Derived.Shelf.Abstract
import Derived.Shelf.RegionOpen
import Derived.OwnWalkIn
import Derived.TacticsInMore
import Derived.LoopNIn
import Derived.LoopIn
import Derived.Maps.OwnIn
import Derived.RangeFuncMany
import Derived.Shelf.AbstractIn
import Derived.Sort.MapsRangeIn
import Derived.Sort.KeysCollected
import Derived.RegionIn
import Derived.Maps.AppendAt
import Derived.Shelf.SlSortCmp.WholeK
import Derived.Shelf.SlicesG.Cmp
import Derived.Shelf.Lay
import Derived.Ground.SlsfProg
import Derived.Ground.SlgcProg
import Derived.Shelf.SlSortCmp.NoneTotal
import Derived.Maps.OwnSet
namespace Go.Proofs
open Go.Shelf Go.RowKit Go.Lib Go.Sort
def Try.sortStep_ren : Go.Shelf.Ren := ⟨fun | 6 => 68 | 15 => 76 | 14 => 75 | 28 => 89 | 29 => 90 | 20 => 81 | 21 => 82 | 22 => 83 | 23 => 84 | 24 => 85 | 25 => 86 | 26 => 87 | 27 => 88 | 46 => 91 | 47 => 92 | 48 => 93 | 49 => 94 | 50 => 95 | 57 => 96 | n => n, fun | 22 => 111 | 24 => 105 | 25 => 116 | 3 => 3 | 39 => 131 | 0 => 0 | 53 => 144 | 55 => 24 | 4 => 4 | 46 => 137 | 45 => 136 | 50 => 141 | 5 => 5 | 9 => 9 | 66 => 146 | 70 => 150 | 76 => 152 | 77 => 153 | n => n, fun | n => n⟩
theorem Try.sortStep : SlLaysF0.n6 Try.prog Try.sortStep_ren := {
  mixed := by kernel_rfl
  f6 := ⟨Try.f68.name, by decide, Try.func68.trans (congrArg some (by kernel_rfl))⟩
  f14 := ⟨Try.f75.name, by decide, Try.func75.trans (congrArg some (by kernel_rfl))⟩
  f15 := Try.func76.trans (congrArg some (by kernel_rfl))
  f20 := ⟨Try.f81.name, by decide, Try.func81.trans (congrArg some (by kernel_rfl))⟩
  f21 := ⟨Try.f82.name, by decide, Try.func82.trans (congrArg some (by kernel_rfl))⟩
  f22 := ⟨Try.f83.name, by decide, Try.func83.trans (congrArg some (by kernel_rfl))⟩
  f23 := ⟨Try.f84.name, by decide, Try.func84.trans (congrArg some (by kernel_rfl))⟩
  f24 := ⟨Try.f85.name, by decide, Try.func85.trans (congrArg some (by kernel_rfl))⟩
  f25 := ⟨Try.f86.name, by decide, Try.func86.trans (congrArg some (by kernel_rfl))⟩
  f26 := ⟨Try.f87.name, by decide, Try.func87.trans (congrArg some (by kernel_rfl))⟩
  f27 := ⟨Try.f88.name, by decide, Try.func88.trans (congrArg some (by kernel_rfl))⟩
  f28 := Try.func89.trans (congrArg some (by kernel_rfl))
  f29 := Try.func90.trans (congrArg some (by kernel_rfl))
  f46 := ⟨Try.f91.name, by decide, Try.func91.trans (congrArg some (by kernel_rfl))⟩
  f47 := Try.func92.trans (congrArg some (by kernel_rfl))
  f48 := Try.func93.trans (congrArg some (by kernel_rfl))
  f49 := ⟨Try.f94.name, by decide, Try.func94.trans (congrArg some (by kernel_rfl))⟩
  f50 := ⟨Try.f95.name, by decide, Try.func95.trans (congrArg some (by kernel_rfl))⟩
  f57 := ⟨Try.f96.name, by decide, Try.func96.trans (congrArg some (by kernel_rfl))⟩
  t0 := Try.underlying0
  a0 := Try.isAgg0
  z0 := Try.sizeOf0
  v0 := Try.zeroValue0
  t3 := Try.underlying3
  a3 := Try.isAgg3
  z3 := Try.sizeOf3
  v3 := Try.zeroValue3
  t4 := Try.underlying4
  a4 := Try.isAgg4
  z4 := Try.sizeOf4
  v4 := Try.zeroValue4
  t5 := Try.underlying5
  a5 := Try.isAgg5
  z5 := Try.sizeOf5
  v5 := Try.zeroValue5
  t9 := Try.underlying9
  a9 := Try.isAgg9
  z9 := Try.sizeOf9
  v9 := Try.zeroValue9
  t22 := Try.underlying111
  a22 := Try.isAgg111
  z22 := Try.sizeOf111
  v22 := Try.zeroValue111
  t25 := Try.underlying116
  a25 := Try.isAgg116
  z25 := Try.sizeOf116
  v25 := Try.zeroValue116
  t39 := Try.underlying131
  a39 := Try.isAgg131
  z39 := Try.sizeOf131
  v39 := Try.zeroValue131
  t45 := Try.underlying136
  a45 := Try.isAgg136
  z45 := Try.sizeOf136
  v45 := Try.zeroValue136
  t46 := Try.underlying137
  a46 := Try.isAgg137
  z46 := Try.sizeOf137
  v46 := Try.zeroValue137
  t50 := Try.underlying141
  a50 := Try.isAgg141
  z50 := Try.sizeOf141
  v50 := Try.zeroValue141
  t53 := Try.underlying144
  a53 := Try.isAgg144
  z53 := Try.sizeOf144
  v53 := Try.zeroValue144
  t55 := Try.underlying24
  a55 := Try.isAgg24
  z55 := Try.sizeOf24
  v55 := Try.zeroValue24
  t66 := Try.underlying146
  a66 := Try.isAgg146
  z66 := Try.sizeOf146
  v66 := Try.zeroValue146
  t70 := Try.underlying150
  a70 := Try.isAgg150
  z70 := Try.sizeOf150
  v70 := Try.zeroValue150
  t76 := Try.underlying152
  a76 := Try.isAgg152
  z76 := Try.sizeOf152
  v76 := Try.zeroValue152
  t77 := Try.underlying153
  a77 := Try.isAgg153
  z77 := Try.sizeOf153
  v77 := Try.zeroValue153 }
def Try.cmpInt_ren : Go.Shelf.Ren := ⟨fun | 5 => 61 | 7 => 70 | n => n, fun | 22 => 3 | 3 => 3 | 4 => 4 | n => n, fun | n => n⟩
theorem Try.cmpInt : SlLaysC2.n5 Try.prog Try.cmpInt_ren := {
  mixed := by kernel_rfl
  f5 := ⟨Try.f61.name, by decide, Try.func61.trans (congrArg some (by kernel_rfl))⟩
  f7 := ⟨Try.f70.name, by decide, Try.func70.trans (congrArg some (by kernel_rfl))⟩
  t3 := Try.underlying3
  a3 := Try.isAgg3
  z3 := Try.sizeOf3
  v3 := Try.zeroValue3
  t4 := Try.underlying4
  a4 := Try.isAgg4
  z4 := Try.sizeOf4
  v4 := Try.zeroValue4
  t22 := Try.underlying3
  a22 := Try.isAgg3
  z22 := Try.sizeOf3
  v22 := Try.zeroValue3 }
end Go.Proofs
namespace Go.Proofs.Ytkijjgdcbgmglaa.Q
open Go.RowKit Go.Lib Go.Shelf Go.Maps Go.Sort Go.Proofs.Ytkijjgdcbgmglaa Go.Proofs.YtkijjgdcbgmglaaW.PrintWords Go.Proofs.YtkijjgdcbgmglaaW.PrintLast Go.Proofs.YtkijjgdcbgmglaaW.PrintMore
set_option linter.unusedVariables false
set_option maxRecDepth 100000
set_option linter.unusedSimpArgs false
instance : Inhabited Told := ⟨zTold⟩
theorem closure_listed (x y : Told) (W : World) : Calls Try.prog 60 #[v105 x, v105 y] W fun e w' => e = .returned (.int .i64 (Lib.compareInt x.st.f0 y.st.f0)) ∧ ∃ q os', w' = grow (W.drewN q) os' := by
  have hu := Try.underlying105
  have hcon := fun W' => AnyG.cmp_Compare_int Try.cmpInt x.st.f0 y.st.f0 W'
  change ∀ W', Calls Try.prog 61 _ _ _ at hcon
  generalize Lib.compareInt x.st.f0 y.st.f0 = r at hcon ⊢
  go_enter Try.func60, Try.ntmps60
  go_wp2_with (go_at_call 61; refine (hcon _).mono ?_; rintro e w' ⟨rfl, rfl⟩)
  go_ret
  exact ⟨rfl, 0, _, by rw [alloc_eq_grow, alloc_eq_grow, grow_grow]; rfl⟩
theorem cmpLays (blk off size : Nat) (w : World) : CmpLays Try.prog 60 #[] c105 5 (fun x y => Lib.compareInt x.st.f0 y.st.f0) blk off size w :=
  fun _ _ _ _ x y => closure_listed x y _
theorem ltX (x y : Told) : ltOf (fun x y : Told => Lib.compareInt x.st.f0 y.st.f0) x y = decide (x.st.f0 < y.st.f0) := by
  unfold ltOf Lib.compareInt
  by_cases h1 : x.st.f0 < y.st.f0
  · simp [h1]
  · by_cases h2 : y.st.f0 < x.st.f0 <;> simp [h1, h2]
theorem swoX : SWO (ltOf fun x y : Told => Lib.compareInt x.st.f0 y.st.f0) where
  irrefl x := by rw [ltX]; simp
  trans x y z h1 h2 := by rw [ltX] at *; simp at *; omega
  ntrans x y z h1 h2 := by rw [ltX] at *; simp at *; omega

theorem sortStep_calls (blk off cap : Nat) (d : Array Told) (w : World) (hH : HoldsK c105 5 w blk off d) (hblk : blk < w.heap.size) (hsz : d.size < 4611686018427387904) :
    Calls Try.prog 68 #[.slice (some ⟨blk, off, none⟩) d.size cap, .func (.func 60) #[] #[]] w fun e w' => e = .returned (.tuple #[]) ∧ ∃ d' n os, PermIn 0 d.size d d' ∧ SortedIn (ltOf fun x y : Told => Lib.compareInt x.st.f0 y.st.f0) 0 d.size d' ∧ w' = sortWorldK c105 5 w blk off n d' os := by
  have eg : ∀ args w, (callFunc 60 args).run Try.prog w = .ok (.enter 60 args) w := enters_of Try.func60 (by kernel_rfl) rfl
  exact AnyQ.slices_SortFunc Try.sortStep 5 Try.isAgg105 Try.sizeOf105 c105 (fun _ => rfl) (fun x v hv => by simp [c105] at hv; rcases hv with rfl | rfl | rfl | rfl | rfl <;> rfl) (fun x y => Lib.compareInt x.st.f0 y.st.f0) swoX 60 #[] blk off cap d w eg (cmpLays blk off d.size w) hH hblk hsz

theorem reps105_on (w : World) (base : Nat) (ok : Nat → Prop) : ∀ (zs pre : List Told), Reps (k105.M w base ok) 5 pre (pre.flatMap c105) → Reps (k105.M w base ok) 5 (pre ++ zs) ((pre ++ zs).flatMap c105)
  | [], pre, h => by rw [List.append_nil]; exact h
  | z :: zs, pre, h => by
    have := reps105_on w base ok zs (pre ++ [z]) (by rw [flat_snoc]; exact Reps.snoc h (k105_mkM w base ok z) rfl)
    rwa [List.append_assoc] at this
theorem reps105 (w : World) (base : Nat) (ok : Nat → Prop) (xs : List Told) : Reps (k105.M w base ok) 5 xs (xs.flatMap c105) := reps105_on w base ok xs [] (Reps.none _ _)
theorem C_of_own {w : World} {base : Nat} {A : Option Addr} {n c : Nat} {xs : List Told} (h : w.ownsRow base 105 5 (.slice A n c) xs.length (xs.flatMap c105)) : Kd.C k105 w A xs.length xs ∧ xs.length ≤ c ∧ n = xs.length := by
  have hR : Kd.R k105 105 w base (fun _ => True) (.slice A n c) xs := ⟨fun _ _ => trivial, _, h, reps105 _ _ _ _⟩
  have hr := Kd.R_reads' hR
  obtain ⟨h1, h2, h3⟩ := hr
  subst h1
  exact ⟨h3, h2, rfl⟩
theorem holds_of_own {w : World} {base g n c : Nat} {xs : List Told} (h : w.ownsRow base 105 5 (.slice (some ⟨g, 0, none⟩) n c) xs.length (xs.flatMap c105)) : HoldsK c105 5 w g 0 xs.toArray ∧ g < w.heap.size ∧ base ≤ g := by
  have hC := (C_of_own h).1
  rcases h.2 with ⟨h0, _⟩ | ⟨g', cap, cur, e, hb, hg, -⟩
  · cases h0
  · injection e with e1 e2 e3
    injection e1 with e1
    injection e1 with e1
    subst e1
    refine ⟨fun t ht => ?_, blk_lt hg, hb⟩
    rw [size_flatK] at ht
    have ht' : t < xs.length * 5 := by simpa using ht
    rw [get_flatK _ _ _ _ ht]
    refine ⟨?_, blk_frozen hg _⟩
    have h4 : t % 5 < 5 := Nat.mod_lt _ (by decide)
    have ht4 : t = t / 5 * 5 + t % 5 := by omega
    have hp : t / 5 < xs.length := by omega
    generalize t % 5 = q at *
    generalize t / 5 = p at *
    obtain ⟨ad, hA, a0, a1, a2, a3, a4⟩ := at_T105 hC (p : Int) (by omega) (by omega)
    cases hA
    have hx : rd_T105 xs (p : Int) = xs.toArray[p]! := by
      unfold rd_T105
      simp [List.getD_eq_getElem?_getD, hp]
    rw [hx] at a0 a1 a2 a3 a4
    simp only [Int.toNat_natCast, Addr.add_lit] at a0 a1 a2 a3 a4
    generalize xs.toArray[p]! = x at *
    subst ht4
    rcases q with _ | _ | _ | _ | _ | q
    · exact a0
    · exact a1
    · exact a2
    · exact a3
    · exact a4
    · omega
theorem C_of_holds {w : World} {g : Nat} {xs : List Told} (h : HoldsK c105 5 w g 0 xs.toArray) (hl : xs.length ≤ 9223372036854775807) : Kd.C k105 w (some ⟨g, 0, none⟩) xs.length xs := by
  refine ⟨rfl, hl, fun _ => ⟨_, rfl, fun j p hp => ⟨c105 p, rfl, k105_mk w p, fun i u hu => ?_⟩⟩⟩
  have hj : j < xs.length := (List.getElem?_eq_some_iff.1 hp).1
  have hi : i < 5 := (List.getElem?_eq_some_iff.1 hu).1
  have := (h.cell (i := j) (c := i) (by simpa using hj) hi).1
  have hx : xs.toArray[j]! = p := by simp [hj, (List.getElem?_eq_some_iff.1 hp).2]
  rw [hx] at this
  have hu' : (c105 p)[i]! = u := by rw [List.getElem!_eq_getElem?_getD, hu]; rfl
  rw [hu'] at this
  rw [Addr.add_lit]
  rw [← this]
  congr 2
  show 0 + (j * 5 + i) = 0 + j * 5 + i
  omega
theorem below_sort {w : World} {base g n : Nat} {d : Array Told} {os : Array Obj} (hb : base ≤ g) (hg : base ≤ w.heap.size) : Below base w (sortWorldK c105 5 w g 0 n d os) := by
  refine ⟨rfl, rfl, rfl, ?_, fun k hk => ?_⟩
  · show w.heap.size ≤ ((w.heap.modify g _) ++ os).size
    rw [Array.size_append, Array.size_modify]
    omega
  · show ((w.heap.modify g _) ++ os)[k]? = _
    rw [Array.getElem?_append_left (by rw [Array.size_modify]; omega), Array.getElem?_modify, if_neg (by omega)]

theorem collect_calls (Bm b nn : Nat) (D : DataW Told) (w : World) (hm : w.heap[Bm]? = some (.cells #[.map (some b)] 84 (0, 0))) (hown : w.ownsMap Try.prog 3 r105 b nn D) (hn : nn ≤ 1000000) :
    Calls Try.prog 67 #[.func (.func 69) #[] #[.pointer (some ⟨Bm, 0, none⟩)]] w fun e w' => ∃ xs v, AllOf D xs ∧ xs.length ≤ 1000000 ∧ e = .returned v ∧ w'.ownsRow w.heap.size 105 5 v xs.length (xs.flatMap c105) ∧ RowKit.Below w.heap.size w w' := by
  have hs := hown.size_le
  refine callsIn_wide.1 ((collect_in 4 (Nat.le_refl _) _ _ (enters_of Try.func69 (by kernel_rfl) rfl) w (AllOf D) (Maps.size D) (by omega) (values_stops 2 (by decide) Bm b nn D w hm hown)).mono ?_)
  rintro e w' ⟨xs, v, h1, h2, h3, h4, h5⟩
  exact ⟨xs, v, h1, by omega, h3, h4, h5⟩

theorem sorted_pairwise {d' : Array Told} (h : SortedIn (ltOf fun x y : Told => Lib.compareInt x.st.f0 y.st.f0) 0 d'.size d') : d'.toList.Pairwise fun a b => a.st.f0 ≤ b.st.f0 := by
  rw [List.pairwise_iff_getElem]
  intro i j hi hj hij
  have := h i j (Nat.zero_le _) hij (by simpa using hj)
  rw [ltX, getElem!_pos d' i (by simpa using hi), getElem!_pos d' j (by simpa using hj)] at this
  simp at this
  simpa using this

theorem sorting_calls (xs : List Told) (v : Value) (base : Nat) (w : World) (hr : w.ownsRow base 105 5 v xs.length (xs.flatMap c105)) (hb : base ≤ w.heap.size) (hl : xs.length ≤ 1000000) :
    Calls Try.prog 68 #[v, .func (.func 60) #[] #[]] w fun e w' => e = .returned (.tuple #[]) ∧ ∃ A c zs, v = .slice A zs.length c ∧ zs.length ≤ c ∧ zs.Perm xs ∧ zs.Pairwise (fun a b => a.st.f0 ≤ b.st.f0) ∧ Kd.C k105 w' A zs.length zs ∧ RowKit.Below base w w' := by
  by_cases h0 : xs.length = 0
  · obtain rfl := List.eq_nil_of_length_eq_zero h0
    obtain ⟨A, n, c, rfl⟩ : ∃ A n c, v = .slice A n c := by
      rcases hr.2 with ⟨rfl, _⟩ | ⟨g, cap, cur, rfl, -⟩
      · exact ⟨_, _, _, rfl⟩
      · exact ⟨_, _, _, rfl⟩
    obtain ⟨hC, hc, rfl⟩ := C_of_own hr
    refine (AnyF.slices_SortFunc_none { Try.sortStep with } A c _ w).mono ?_
    rintro e w' ⟨rfl, rfl⟩
    exact ⟨rfl, A, c, [], rfl, hc, List.Perm.refl _, List.Pairwise.nil, hC, RowKit.Below.refl _ _⟩
  · obtain ⟨g, cap, rfl⟩ : ∃ g cap, v = .slice (some ⟨g, 0, none⟩) xs.length cap := by
      rcases hr.2 with ⟨-, h⟩ | ⟨g, cap, cur, rfl, -⟩
      · exact absurd h h0
      · exact ⟨_, _, rfl⟩
    obtain ⟨hC, hc, -⟩ := C_of_own hr
    obtain ⟨hH, hg, hbg⟩ := holds_of_own hr
    have hcon := sortStep_calls g 0 cap xs.toArray w hH hg (by simp; omega)
    rw [List.size_toArray] at hcon
    refine hcon.mono ?_
    rintro e w' ⟨rfl, d', n, os, hp, hs, rfl⟩
    have hsz : d'.size = xs.length := by rw [hp.1]; simp
    have hz : d'.toList.length = xs.length := by rw [Array.length_toList]; exact hsz
    refine ⟨rfl, some ⟨g, 0, none⟩, cap, d'.toList, by rw [hz], by rw [hz]; exact hc, ?_, sorted_pairwise (by rw [hsz]; exact hs), ?_, below_sort hbg hb⟩
    · have := hp.2.2
      rw [← hsz, Array.extract_size] at this
      rw [hsz, show xs.length = xs.toArray.size by simp, Array.extract_size] at this
      exact this
    · refine C_of_holds ?_ (by rw [hz]; omega)
      rw [Array.toArray_toList]
      exact holdsK_grow c105 5 _ os g 0 d' (by simpa [putRowK, putRow, mapBlock, Sort.ahead] using hg) (holdsK_putRowK c105 5 _ g 0 xs.toArray d' (holdsK_ahead c105 5 _ _ _ _ _ hH) hp.1)

theorem sortedFunc_calls (Bm b nn : Nat) (D : DataW Told) (f : Int → Option Told) (w : World) (hm : w.heap[Bm]? = some (.cells #[.map (some b)] 84 (0, 0))) (hown : w.ownsMap Try.prog 3 r105 b nn D) (hI : IsT D f) (hG : Good f) (hn : nn ≤ 1000000) :
    Calls Try.prog 58 #[.func (.func 69) #[] #[.pointer (some ⟨Bm, 0, none⟩)], .func (.func 60) #[] #[]] w fun e w' => ∃ A c, e = .returned (.slice A (listOf f).length c) ∧ Kd.C k105 w' A (listOf f).length (listOf f) ∧ (listOf f).length ≤ c ∧ RowKit.Below w.heap.size w w' := by
  have C1 := Lib.hid (collect_calls Bm b nn D w hm hown hn)
  have HI := Lib.hid (And.intro hI hG)
  clear hm hown hI hG
  go_enter Try.func58, Try.ntmps58
  go_wp2_with fail
  refine C1.out.mono ?_
  rintro e w1 ⟨xs, v, hA, hl, rfl, hr, hB⟩
  have C2 := Lib.hid (sorting_calls xs v w.heap.size w1 hr hB.size hl)
  have HA := Lib.hid (And.intro hA hB)
  clear hA hB hr C1
  go_wp2_with fail
  refine C2.out.mono ?_
  rintro e w2 ⟨rfl, A, c, zs, rfl, hc, hp, hs, hC, hB2⟩
  have e := all_listed HI.out.1 HI.out.2 HA.out.1 hp hs
  subst e
  have HC := Lib.hid (And.intro hC (And.intro hc (HA.out.2.trans hB2)))
  clear hC hc hB2 hp hs C2
  go_wp2_with fail
  go_ret
  exact ⟨A, c, rfl, HC.out.1, HC.out.2.1, HC.out.2.2⟩

end Go.Proofs.Ytkijjgdcbgmglaa.Q
