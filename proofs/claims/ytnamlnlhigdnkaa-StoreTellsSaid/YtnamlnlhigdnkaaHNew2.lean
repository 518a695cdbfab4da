/- New of a store, by hand. -/
import Derived.Test.YtnamlnlhigdnkaaHNew
namespace Go.Proofs.Ytnamlnlhigdnkaa.Q
open Go.RowKit Go.Lib Go.Proofs.Ytnamlnlhigdnkaa Go.Proofs.YtnamlnlhigdnkaaW.PrintWords Go.Proofs.YtnamlnlhigdnkaaW.PrintLast Go.Proofs.YtnamlnlhigdnkaaW.PrintMore
set_option linter.unusedVariables false
set_option linter.unusedSimpArgs false

def store_New.f (a0 : Int) : Option (List S35 × Bool) := if 0 ≤ a0 ∧ a0 ≤ 64 then some (List.replicate a0.toNat var0, true) else some ([], false)

set_option maxHeartbeats 1000000 in
theorem store_New.calls (a0 : Int) (r1 : List S35) (r2 : Bool) (w : World) (h : store_New.f a0 = some (r1, r2)) :
    Calls Try.prog 17 #[.int .i64 a0] w fun e w' => ∃ v0_ : Value, e = .returned (.tuple #[v0_, .bool r2]) ∧ Kd.R k35 35 w' w.heap.size (fun _ => True) v0_ r1 ∧ Below w.heap.size w w' := by
  have hu35 := Try.underlying35
  have hu31 := Try.underlying31
  unfold store_New.f at h
  by_cases hin : 0 ≤ a0 ∧ a0 ≤ 64
  · rw [if_pos hin] at h
    obtain ⟨rfl, rfl⟩ := Prod.mk.inj (Option.some.inj h)
    clear h
    obtain ⟨h0, h1⟩ := hin
    obtain ⟨n, rfl⟩ := Int.eq_ofNat_of_zero_le h0
    have hn : n ≤ 64 := by omega
    have C1 := Lib.hid fun W b hb => repeat_calls n b hn W hb
    have h2 : ¬ ((n : Int) < 0) := by omega
    have h3 : ¬ (64 < (n : Int)) := by omega
    go_enter Try.func17, Try.ntmps17
    go_wp2_with fail
    refine (C1.out _ _ ?qc).mono ?_
    case qc => exact heap_alloc_new w _
    rintro e w1 ⟨v, rfl, hR, hB⟩
    have HZ := Lib.hid (And.intro (Kd.R_lower hR (bOne (w := w) _).size) (bAfter (bOne (w := w) _) hB))
    clear hR hB C1
    go_wp2_with fail
    go_ret2
    exact ⟨_, rfl, by simpa using HZ.out⟩
  · rw [if_neg hin] at h
    obtain ⟨rfl, rfl⟩ := Prod.mk.inj (Option.some.inj h)
    clear h
    by_cases h2 : a0 < 0
    · go_enter Try.func17, Try.ntmps17
      go_wp2_with fail
      go_ret2
      exact ⟨_, rfl, Kd.R_nil _ _ _ _ _, Below.refl _ _⟩
    · have h3 : 64 < a0 := by omega
      go_enter Try.func17, Try.ntmps17
      go_wp2_with fail
      go_ret2
      exact ⟨_, rfl, Kd.R_nil _ _ _ _ _, Below.refl _ _⟩

end Go.Proofs.Ytnamlnlhigdnkaa.Q
