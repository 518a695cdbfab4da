/- slices.Clone of a row of variables: the same cells, in memory of the call's own. -/
import Derived.Test.YtnamlnlhigdnkaaQ0
import Derived.Lib.SliceRun
import Derived.Lib.Walk
namespace Go.Proofs.Ytnamlnlhigdnkaa.Q
open Go.RowKit Go.Lib Go.Proofs.YtnamlnlhigdnkaaW.PrintWords Go.Proofs.YtnamlnlhigdnkaaW.PrintLast Go.Proofs.YtnamlnlhigdnkaaW.PrintMore
set_option linter.unusedVariables false
set_option linter.unusedSimpArgs false

theorem flat35 {w : World} {x : S35} {cs : List Value} (h : k35.K w x cs) (base : Nat) (ok : Nat → Prop) : k35.M w base ok x cs := by
  rw [k35_open h]
  exact k35_mkM w base ok x

theorem C_empty {α : Type} {d : Kd α} {w : World} {xs : List α} (h : d.C w none xs.length xs) : xs = [] := by
  rcases xs with _ | ⟨x, xs⟩
  · rfl
  · obtain ⟨ad, h2, _⟩ := h.2.2 (by simp)
    cases h2

set_option maxHeartbeats 2000000 in
theorem clone_calls (A0 : Option Addr) (c0 : Nat) (l0 : List S35) (w : World) (hr : Kd.C k35 w A0 l0.length l0) (hl : l0.length < 3518437208883) :
    Calls Try.prog 35 #[.slice A0 l0.length c0] w fun e w' => ∃ v, e = .returned v ∧ Kd.R k35 35 w' w.heap.size (fun _ => True) v l0 ∧ Below w.heap.size w w' := by
  have tS := Try.underlying29
  have qS : ∀ (W : World) (a : Option Addr) (n c n' c' : Nat), (binOp .eql 29 (.slice a n c) (.slice none n' c')).run Try.prog W = .ok (.bool a.isNone) W := fun W a n c n' c' => Lib.run_eql_slice_nil W _ _ a n c n' c' tS
  rcases A0 with _ | ad
  · obtain rfl := C_empty hr
    clear hr
    go_enter Try.func35, Try.ntmps35
    go_wp2
    go_ret
    exact ⟨_, rfl, Kd.R_nil _ _ _ _ _, Below.refl _ _⟩
  · have HR := Aside0.mk hr
    clear hr
    go_enter Try.func35, Try.ntmps35
    go_wp2_with (at_builtin; refine Kd.R_append_rows k35 (w0 := w) (Rr := k35.K w) w.heap.size rfl _ _ 29 35 _ _ rfl tS info35 rfl (by decide) (by decide) _ [] l0 (some ad) l0.length c0 (fun _ => True) (fun _ => False) rfl rfl ?HO ?HR ?hKM (fun _ h => h.elim) (fun _ _ => trivial) ?HB ?hbase ?hl ?_)
    case HO => exact ⟨fun _ _ => trivial, [], World.ownsRow_made w #[] 0 (Nat.le_refl _) (Nat.zero_le _) (by simp), Reps.none _ _⟩
    case HR => exact ReadsRow.imp_ HR.out (below_alloc (Below.refl _ _) _) (fun _ _ h => h)
    case hKM => exact fun x cs h => flat35 h w.heap.size (fun _ => False)
    case HB => exact below_alloc (Below.refl _ _) _
    case hbase => simp
    case hl => simp; omega
    intro v' w1 hR hB hg hv
    go_wp2
    go_ret
    exact ⟨_, rfl, by simpa using hR, hB⟩

end Go.Proofs.Ytnamlnlhigdnkaa.Q
