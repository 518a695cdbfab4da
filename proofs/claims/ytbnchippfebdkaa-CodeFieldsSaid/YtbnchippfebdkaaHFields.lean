/- The fields of an operation, and whether it may be, by hand. -/
import Derived.Test.YtbnchippfebdkaaMem
import Derived.Test.YtbnchippfebdkaaLoops
import Derived.Test.YtbnchippfebdkaaQ2
import Derived.Deep.LoopGhost
import Derived.WalkKit
import Derived.RegionTactic
import Derived.ChangeAlike
import Derived.BigRegion
namespace Go.Proofs.Ytbnchippfebdkaa.Q
open Go.RowKit Go.Lib Go.Proofs.Ytbnchippfebdkaa Go.Proofs.YtbnchippfebdkaaW.PrintWords Go.Proofs.YtbnchippfebdkaaW.PrintLast Go.Proofs.YtbnchippfebdkaaW.PrintMore
set_option linter.unusedVariables false
set_option linter.unusedSimpArgs false

/-- One result alone, that lies in memory. -/
theorem results_c1 {P : Program} {fn : Func} {p : Tmp} {ty : TypeId} (h : fn.results = #[.cell p ty]) (tmps : Array Value) (w : World) (g : Nat) (t : TypeId) (cs : Array Value) (fr : Nat × Nat) (d : TypeDesc)
    (hp : tmps.getD p undef = .pointer (some ⟨g, 0, none⟩)) (hg : w.heap[g]? = some (.cells cs t fr))
    (hu : P.underlying ty = some d) (hd : (match d with | .struct _ | .array _ _ => true | _ => false) = true) (hi : (P.info? ty).map (·.size) = some cs.size) :
    (results fn tmps).run P w = .ok (.agg cs) w := by
  have hp' : tmps[p]?.getD undef = .pointer (some ⟨g, 0, none⟩) := by simpa using hp
  simp [results, h, hp', asAddr, run_loadVar_row w g t ty cs fr d hg hu hd hi]

/-- The value of a shape. -/
abbrev shapeV (s : S60) : Array Value := #[.string s.f0, .int .i64 s.f1, .int .i64 s.f2, .int .i64 s.f3, .bool s.f4, .bool s.f5]
/-- What the third field may be. -/
def third (s : S60) (many : Int) : Int := if s.f4 = true then many else s.f3
abbrev fieldsV (g : Nat) (s : S60) (many : Int) : Array Value := #[.pointer (some ⟨g, 1, none⟩), .int .i64 s.f1, .pointer (some ⟨g, 2, none⟩), .int .i64 s.f2, .pointer (some ⟨g, 3, none⟩), .int .i64 (third s many)]

set_option maxHeartbeats 2000000 in
theorem fields_calls (g : Nat) (s : S60) (many : Int) (w : World) :
    Calls Try.prog 28 #[.pointer (some ⟨g, 0, none⟩), .agg (shapeV s), .int .i64 many] w fun e w' => e = .returned (.agg (fieldsV g s many)) ∧ Below w.heap.size w w' := by
  have hu60 := Try.underlying60
  have hu46 := Try.underlying46
  obtain ⟨c, hc⟩ : ∃ c, third s many = c := ⟨_, rfl⟩
  unfold fieldsV
  rw [hc]
  cases hp : s.f4 with
  | true =>
    obtain rfl : many = c := by rw [← hc, third, hp]; rfl
    clear hc
    generalize s.f3 = s3
    go_enter Try.func28, Try.ntmps28
    go_wp2_with fail
    go_region
    go_wp2_with fail
    refine bodyPost_ret (results_c1 rfl _ _ (w.heap.size + 1) 65 _ (0, 0) _ rfl (by refine blk_drew ?_; have := heap_alloc_new (w.alloc (Obj.cells (shapeV s) 60)); rw [World.size_alloc] at this; exact this _) Try.underlying65 rfl (by kernel_rfl)) rfl ?_
    exact ⟨rfl, below_drew (bTwo _ _)⟩
  | false =>
    obtain rfl : s.f3 = c := by rw [← hc, third, hp]; rfl
    clear hc
    go_enter Try.func28, Try.ntmps28
    go_wp2_with fail
    go_region
    go_wp2_with fail
    refine bodyPost_ret (results_c1 rfl _ _ (w.heap.size + 1) 65 _ (0, 0) _ rfl (by refine blk_drew ?_; have := heap_alloc_new (w.alloc (Obj.cells (shapeV s) 60)); rw [World.size_alloc] at this; exact this _) Try.underlying65 rfl (by kernel_rfl)) rfl ?_
    exact ⟨rfl, below_drew (bTwo _ _)⟩

end Go.Proofs.Ytbnchippfebdkaa.Q
