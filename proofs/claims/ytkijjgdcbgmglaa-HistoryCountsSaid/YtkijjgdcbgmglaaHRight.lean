/- May a row of events be; who is in it: by hand. -/
import Derived.Test.YtkijjgdcbgmglaaHLived
namespace Go.Proofs.Ytkijjgdcbgmglaa.Q
open Go.RowKit Go.Lib Go.Maps Go.Proofs.Ytkijjgdcbgmglaa Go.Proofs.YtkijjgdcbgmglaaW.PrintWords Go.Proofs.YtkijjgdcbgmglaaW.PrintLast Go.Proofs.YtkijjgdcbgmglaaW.PrintMore
set_option linter.unusedVariables false
set_option linter.unusedSimpArgs false
/-- All lives; none, if the row may not be. -/
def allL (h : List S44) : List Life := (livedL h).getD []
theorem allL_ok (h : List S44) : (allL h).length ≤ 32 ∧ ∀ l ∈ allL h, LifeOK l := by
  unfold allL livedL
  split
  · exact ⟨by simp, fun l hl => by simp at hl⟩
  · cases hr : livesFrom h 0 [] with
    | none => exact ⟨by simp, fun l hl => by simp at hl⟩
    | some r => exact livesFrom_ok h 0 [] r hr (by simp) (fun l hl => by simp at hl)
/-- All lives, in memory. -/
def LivedU (W : World) (all : List Life) (is : Bool) (x : Ending) (w' : World) : Prop :=
  ∃ A c bs, x = .returned (.tuple #[.slice A all.length c, .bool is]) ∧ LivesV W.heap.size w' 2000 (.slice A all.length c) bs all ∧ Below W.heap.size W w'
theorem lived_all (A : Option Addr) (c : Nat) (h : List S44) (W : World) (hC : Kd.C k44 W A h.length h) :
    Calls Try.prog 30 #[.slice A h.length c] W (LivedU W (allL h) (livedL h).isSome) := by
  refine (lived_calls A c h W hC).mono ?_
  unfold allL
  cases livedL h with
  | none =>
    rintro e w' ⟨hB, rfl⟩
    exact ⟨none, 0, [], rfl, LivesV.nil _ _ _, hB⟩
  | some all =>
    rintro e w' ⟨hB, v, bs, rfl, hL⟩
    obtain ⟨A2, c2, rfl⟩ := own_slice hL.row
    exact ⟨A2, c2, bs, rfl, hL, hB⟩
def history_Right.f (l0 : List (S44)) : Option (Bool) := some (livedL l0).isSome
theorem history_Right.calls (A0 : Option Addr) (c0 : Nat) (l0 : List (S44)) (r : Bool) (w : World) (hr0 : Kd.C k44 w A0 l0.length l0) (hc0 : l0.length ≤ c0) (h : history_Right.f l0 = some r) :
    Calls Try.prog 15 #[.slice A0 l0.length c0] w fun e w' => e = .returned (.bool r) ∧ Below w.heap.size w w' := by
  unfold history_Right.f at h
  injection h with h
  have HC := Lib.hid (lived_all A0 c0 l0 w hr0)
  rw [h] at HC
  clear hr0 hc0 h
  go_enter Try.func15, Try.ntmps15
  go_wp2_with fail
  refine HC.out.mono ?_
  rintro e w' ⟨A, c, bs, rfl, -, hB⟩
  have HB := Lib.hid hB
  clear hB
  go_wp2_with fail
  go_ret
  exact ⟨rfl, HB.out⟩
def idsOf (n : Nat) : List Int := (List.range n).map fun i : Nat => (i : Int) + 1
theorem idsOf_next (n : Nat) : idsOf (n + 1) = idsOf n ++ [(n : Int) + 1] := by simp [idsOf, List.range_succ]
def history_Ids.f (l0 : List (S44)) : Option (List Int) := some (idsOf (allL l0).length)
set_option maxRecDepth 100000 in
set_option maxHeartbeats 1000000 in
theorem history_Ids.calls (A0 : Option Addr) (c0 : Nat) (l0 : List (S44)) (r : List Int) (w : World) (hr0 : Kd.C k44 w A0 l0.length l0) (hc0 : l0.length ≤ c0) (h : history_Ids.f l0 = some r) :
    Calls Try.prog 21 #[.slice A0 l0.length c0] w fun e w' => ∃ v0_ : Value, e = .returned (v0_) ∧ Kd.R (Kd.int .i64) 3 w' w.heap.size (fun _ => True) v0_ r ∧ Below w.heap.size w w' := by
  unfold history_Ids.f at h
  injection h with h
  subst h
  have HC := Lib.hid (lived_all A0 c0 l0 w hr0)
  have HO := Lib.hid (allL_ok l0).1
  generalize allL l0 = all at *
  clear hr0 hc0
  go_enter Try.func21, Try.ntmps21
  go_wp2_with fail
  refine HC.out.mono ?_
  rintro e w1 ⟨A, c, bs, rfl, -, hB⟩
  have HB := Lib.hid hB
  clear hB HC
  go_wp2_with fail
  go_loopg [2, 13] all.length (fun kq v2 v13 V => ∃ i : Nat, v13 = .int .i64 i ∧ Hid (kq + i = all.length) ∧ Hid (Kd.R (Kd.int .i64) 3 V w.heap.size (fun _ => True) v2 (idsOf i) ∧ Below w.heap.size w V))
  case atStart => exact ⟨0, rfl, by simp [Hid], Lib.hid ⟨Kd.R_nil _ _ _ _ _, HB.out⟩⟩
  case round =>
    obtain ⟨i, rfl, hk, hJ⟩ := hrel
    clear HB
    have hi0 : (0 : Int) ≤ i := by omega
    by_cases hi : i < all.length
    · have hi2 : (i : Int) < all.length := by omega
      have hw : wrap64 ((i : Int) + 1) = (i : Int) + 1 := by have := HO.out; unfold wrap64; omega
      have HI := Lib.hid (And.intro hi hk.out)
      clear hi hk
      go_wp2_with (at_builtin; refine Kd.R_append (Kd.int .i64) (w0 := w) w.heap.size rfl (.tmp 16) (.tmp 19) 54 3 (.int .i64 0) 8 rfl Try.underlying54 info3 rfl (by decide) (by omega) u2 (idsOf i) ((i : Int) + 1) [.int .i64 ((i : Int) + 1)] (fun _ => True) (fun _ => False) rfl rfl rfl (fun _ hk => hk.elim) (fun _ _ => trivial) hJ.out.1 hJ.out.2 (hJ.out.2.size) ?aL ?_)
      case aL => have := HO.out; have := HI.out.1; simp [idsOf]; omega
      intro v9 w9 ho hb hg hat
      rw [← idsOf_next] at ho
      have HN := Lib.hid (And.intro ho hb)
      clear ho hb hg hat hJ
      go_wp2_with fail
      obtain ⟨k1, rfl⟩ : ∃ m, gk = m + 1 := ⟨gk - 1, by have := HI.out; omega⟩
      go_roundg k1
      case measure => omega
      case rel => exact ⟨i + 1, by first | rfl | exact congrArg _ (wrap_next (by have := HO.out; have := HI.out.1; omega)), by have := HI.out.2; exact Lib.hid (by omega), HN⟩
    · have hi2 : ¬ (i : Int) < all.length := by omega
      obtain rfl : i = all.length := by have := hk.out; omega
      clear hi hk
      go_wp2_with fail
      go_ret
      exact ⟨_, rfl, hJ.out⟩
end Go.Proofs.Ytkijjgdcbgmglaa.Q
