/- slices.IndexFunc of steps, by hand, whatever the function value does to the memory meanwhile. -/
import Derived.Test.YtkecbdeekpbbjaaHConv
import Derived.Test.YtkecbdeekpbbjaaGrow
import Derived.Test.YtkecbdeekpbbjaaClip
import Derived.RegionTactic
import Derived.BigRegion
import Derived.BigQuiet
import Derived.Lib.SliceRun
namespace Go.Proofs.Ytkecbdeekpbbjaa.Q
open Go.RowKit Go.Lib Go.Proofs.Ytkecbdeekpbbjaa Go.Proofs.YtkecbdeekpbbjaaW.PrintWords Go.Proofs.YtkecbdeekpbbjaaW.PrintLast Go.Proofs.YtkecbdeekpbbjaaW.PrintMore
set_option linter.unusedVariables false
set_option linter.unusedSimpArgs false

theorem flatK39 {w w' : World} {x : S54} {cs : List Value} (h : k54.K w x cs) : k54.K w' x cs := by
  rw [k54_open h]
  exact k54_mk w' x
/-- What a search comes to. -/
def Found {α : Type} (p : α → Bool) (I : List α → World → Prop) (l : List α) (r : Int) (W : World) : Prop :=
  (r = -1 ∧ (∀ x ∈ l, p x = false) ∧ I l W) ∨ ∃ i : Nat, r = i ∧ i < l.length ∧ (l.take i).all (fun x => !p x) = true ∧ (∃ x, l[i]? = some x ∧ p x = true) ∧ I (l.take (i + 1)) W

theorem take_next {α : Type} {l : List α} {i : Nat} {x : α} (h : l[i]? = some x) : l.take (i + 1) = l.take i ++ [x] := by
  rw [List.take_add_one, h]
  rfl

set_option maxHeartbeats 2000000 in
theorem indexFunc_step (g : Nat) (fa lb : Array Value) (p : S54 → Bool) (I : List S54 → World → Prop) (A : Option Addr) (c : Nat) (l : List S54) (w : World)
    (eg : ∀ args W, (callFunc g args).run Try.prog W = .ok (.enter g args) W) (hI : ∀ pre W, I pre W → Kd.C k54 W A l.length l)
    (hcall : ∀ pre x W, l[pre.length]? = some x → I pre W → Calls Try.prog g (fa ++ #[.agg #[.int .i64 x.f0, .int .i64 x.f1.f0, .int .i64 x.f1.f1, .bool x.f2]] ++ lb) W fun e w' => e = .returned (.bool (p x)) ∧ I (pre ++ [x]) w') (h0 : I [] w) (hl : l.length < 1000000000) :
    Calls Try.prog 50 #[.slice A l.length c, .func (.func g) fa lb] w fun e w' => ∃ r : Int, e = .returned (.int .i64 r) ∧ Found p I l r w' := by
  have hu := Try.underlying54
  have HI := Lib.hid hI
  have HC := Lib.hid hcall
  clear hI hcall
  go_enter Try.func50, Try.ntmps50
  go_wp2_with fail
  go_loopg [5, 8] l.length (fun kq _ v8 W => ∃ i : Nat, v8 = .int .i64 i ∧ Hid (kq + i = l.length) ∧ Hid (I (l.take i) W ∧ (l.take i).all (fun x => !p x) = true))
  case atStart => exact ⟨0, rfl, by simp [Hid], Lib.hid ⟨by simpa using h0, by simp⟩⟩
  case round =>
    obtain ⟨i, rfl, hk, hJ⟩ := hrel
    by_cases hi : i < l.length
    · have hi2 : (i : Int) < l.length := by omega
      have hi0 : (0 : Int) ≤ i := by omega
      obtain ⟨ad, rfl, a0, a1, a2, a3⟩ := at_T54 (HI.out _ _ hJ.out.1) (i : Int) hi0 hi2
      have hx : l[i]? = some (rd_T54 l i) := by
        unfold rd_T54
        simp [List.getD_eq_getElem?_getD, hi]
      have HX := Lib.hid hx
      clear hx
      generalize rd_T54 l i = x at *
      simp only [Int.toNat_natCast] at a0 a1 a2 a3
      have hc := HC.out _ x _ (by rw [List.length_take, Nat.min_eq_left (by omega)]; exact HX.out) hJ.out.1
      have HJ := hJ
      clear hJ
      cases hp : p x with
      | true =>
        rw [hp] at hc
        have hp := Lib.hid hp
        go_wp2_with fail
        refine hc.mono ?_
        rintro e w' ⟨rfl, hI1⟩
        have HI1 := Lib.hid hI1
        clear hI1 hc
        go_wp2_with fail
        go_ret
        exact ⟨_, rfl, .inr ⟨i, rfl, hi, HJ.out.2, ⟨x, HX.out, hp.out⟩, by rw [take_next HX.out]; exact HI1.out⟩⟩
      | false =>
        rw [hp] at hc
        have hp := Lib.hid hp
        go_wp2_with fail
        refine hc.mono ?_
        rintro e w' ⟨rfl, hI1⟩
        have HI1 := Lib.hid hI1
        clear hI1 hc
        go_wp2_with fail
        obtain ⟨k1, rfl⟩ : ∃ m, gk = m + 1 := ⟨gk - 1, by have := hk.out; omega⟩
        go_roundg k1
        case measure => omega
        case rel => exact ⟨i + 1, by first | rfl | rw [wrap_next (by omega)] | (unfold wrap64; congr 1; omega), Lib.hid (by have := hk.out; omega), Lib.hid ⟨by rw [take_next HX.out]; exact HI1.out, by rw [take_next HX.out, List.all_append, HJ.out.2]; simp [hp.out]⟩⟩
    · have hi2 : ¬ (i : Int) < l.length := by omega
      have hk0 : i = l.length := by have := hk.out; omega
      subst hk0
      go_wp2_with fail
      go_ret
      have h2 := hJ.out
      rw [List.take_length] at h2
      exact ⟨_, rfl, .inl ⟨rfl, fun x hx => by have := List.all_eq_true.1 h2.2 x hx; simpa using this, h2.1⟩⟩

theorem contains_calls (g : Nat) (fa lb : Array Value) (p : S54 → Bool) (A : Option Addr) (c : Nat) (l : List S54) (w : World)
    (eg : ∀ args W, (callFunc g args).run Try.prog W = .ok (.enter g args) W) (hC : Kd.C k54 w A l.length l) (hl : l.length ≤ 1000000)
    (hcall : ∀ x ∈ l, ∀ W, Below w.heap.size w W → Calls Try.prog g (fa ++ #[.agg #[.int .i64 x.f0, .int .i64 x.f1.f0, .int .i64 x.f1.f1, .bool x.f2]] ++ lb) W fun e w' => e = .returned (.bool (p x)) ∧ Below W.heap.size W w') :
    Calls Try.prog 40 #[.slice A l.length c, .func (.func g) fa lb] w fun e w' => e = .returned (.bool (l.any p)) ∧ Below w.heap.size w w' := by
  have C := Lib.hid (indexFunc_step g fa lb p (fun pre W => Below w.heap.size w W) A c l w eg (fun pre W h => Kd.C_below hC h)
    (fun pre x W hx hI => (hcall x (List.mem_of_getElem? hx) W hI).mono fun e w' h => ⟨h.1, hI.trans (h.2.mono hI.size)⟩) (Below.refl _ _) (by omega))
  clear hC hcall
  go_enter Try.func40, Try.ntmps40
  go_wp2_with fail
  refine C.out.mono ?_
  rintro e w' ⟨r, rfl, hF⟩
  have hr : decide (0 ≤ r) = l.any p ∧ Below w.heap.size w w' := by
    rcases hF with ⟨rfl, h1, h2⟩ | ⟨i, rfl, h1, h2, ⟨x, h3, h4⟩, h5⟩
    · refine ⟨?_, h2⟩
      symm
      rw [show decide ((0 : Int) ≤ -1) = false by decide, List.any_eq_false]
      exact fun x hx => by rw [h1 x hx]; simp
    · refine ⟨?_, h5⟩
      symm
      rw [decide_eq_true (by omega), List.any_eq_true]
      exact ⟨x, List.mem_of_getElem? h3, h4⟩
  have HR := Lib.hid hr
  clear hr hF
  go_wp2_with fail
  go_ret
  exact ⟨by rw [← HR.out.1]; rfl, HR.out.2⟩

end Go.Proofs.Ytkecbdeekpbbjaa.Q
