/- slices.SortFunc of steps, by hand: the shelf's contract, laid. -/
import Derived.Test.YtaagbiaddgohkaaHMap
import Derived.Shelf.SlSortCmp.WholeK
import Derived.Shelf.SlicesG.Cmp
import Derived.Shelf.Lay
import Derived.Shelf.SlGeneric
import Derived.Ground.SlsfProg
import Derived.Ground.SlgcProg
namespace Go.Proofs
open Go.Shelf Go.RowKit Go.Lib Go.Sort
shelf_lay_g SlLaysF0.n6 Slsf 6 at Try 34 as Try.sortStep
shelf_lay_g SlLaysC2.n5 Slgc 5 at Try 31 as Try.cmpInt
end Go.Proofs
namespace Go.Proofs.Ytaagbiaddgohkaa.Q
open Go.RowKit Go.Lib Go.Shelf Go.Maps Go.Sort Go.Proofs.Ytaagbiaddgohkaa Go.Proofs.YtaagbiaddgohkaaW.PrintWords Go.Proofs.YtaagbiaddgohkaaW.PrintLast Go.Proofs.YtaagbiaddgohkaaW.PrintMore
set_option linter.unusedVariables false
set_option linter.unusedSimpArgs false

instance : Inhabited S39 := ⟨z39⟩
theorem closure_listed (x y : S39) (W : World) : Calls Try.prog 30 #[v39 x, v39 y] W fun e w' => e = .returned (.int .i64 (Lib.compareInt x.f0 y.f0)) ∧ ∃ q os', w' = grow (W.drewN q) os' := by
  have hu := Try.underlying39
  have hcon := fun W' => AnyG.cmp_Compare_int Try.cmpInt x.f0 y.f0 W'
  change ∀ W', Calls Try.prog 31 _ _ _ at hcon
  generalize Lib.compareInt x.f0 y.f0 = r at hcon ⊢
  go_enter Try.func30, Try.ntmps30
  go_wp2_with (go_at_call 31; refine (hcon _).mono ?_; rintro e w' ⟨rfl, rfl⟩)
  go_ret
  exact ⟨rfl, 0, _, by rw [alloc_eq_grow, alloc_eq_grow, grow_grow]; rfl⟩
theorem cmpLays (blk off size : Nat) (w : World) : CmpLays Try.prog 30 #[] c39 4 (fun x y => Lib.compareInt x.f0 y.f0) blk off size w :=
  fun _ _ _ _ x y => closure_listed x y _
theorem ltX (x y : S39) : ltOf (fun x y : S39 => Lib.compareInt x.f0 y.f0) x y = decide (x.f0 < y.f0) := by
  unfold ltOf Lib.compareInt
  by_cases h1 : x.f0 < y.f0
  · simp [h1]
  · by_cases h2 : y.f0 < x.f0 <;> simp [h1, h2]
theorem swoX : SWO (ltOf fun x y : S39 => Lib.compareInt x.f0 y.f0) where
  irrefl x := by rw [ltX]; simp
  trans x y z h1 h2 := by rw [ltX] at *; simp at *; omega
  ntrans x y z h1 h2 := by rw [ltX] at *; simp at *; omega

theorem sortStep_calls (blk off cap : Nat) (d : Array S39) (w : World) (hH : HoldsK c39 4 w blk off d) (hblk : blk < w.heap.size) (hsz : d.size < 4611686018427387904) :
    Calls Try.prog 34 #[.slice (some ⟨blk, off, none⟩) d.size cap, .func (.func 30) #[] #[]] w fun e w' => e = .returned (.tuple #[]) ∧ ∃ d' n os, PermIn 0 d.size d d' ∧ SortedIn (ltOf fun x y : S39 => Lib.compareInt x.f0 y.f0) 0 d.size d' ∧ w' = sortWorldK c39 4 w blk off n d' os := by
  have eg : ∀ args w, (callFunc 30 args).run Try.prog w = .ok (.enter 30 args) w := enters_of Try.func30 (by kernel_rfl) rfl
  exact AnyQ.slices_SortFunc Try.sortStep 4 Try.isAgg39 Try.sizeOf39 c39 (fun _ => rfl) (fun x v hv => by simp [c39] at hv; rcases hv with rfl | rfl | rfl | rfl <;> rfl) (fun x y => Lib.compareInt x.f0 y.f0) swoX 30 #[] blk off cap d w eg (cmpLays blk off d.size w) hH hblk hsz

end Go.Proofs.Ytaagbiaddgohkaa.Q
