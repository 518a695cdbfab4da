/- Walks of what the statements of layer 2 share. -/
import Derived.Test.YtjdfkjmjjnadaaaRef
import Derived.Deep.QuietTactic
import Derived.BigQuiet
namespace Go.Proofs.Ytjdfkjmjjnadaaa
open Go.RowKit Ieee

theorem pw_drewN {B : Nat} {w W : World} (h : Below B w W) (n : Nat) : Below B w (W.drewN n) := ⟨h.os, h.tape, h.output, h.size, h.block⟩
theorem begin_q {p q : Nat} (c : CS (fo p) (fo q) (some (p, q))) (w : World) (n : Nat) :
    Calls Try.prog 22 #[.complex .f64 (fo p) (fo q)] (w.drewN n) fun e w' => e = .returned (.int .i64 p) ∧ w' = w.drewN n :=
  (begin_num _ _ _ _ c).mono fun _ _ hh => ⟨hh.1, hh.2.symm⟩
theorem end_q {p q : Nat} (c : CS (fo p) (fo q) (some (p, q))) (w : World) (n : Nat) :
    Calls Try.prog 23 #[.complex .f64 (fo p) (fo q)] (w.drewN n) fun e w' => e = .returned (.int .i64 q) ∧ w' = w.drewN n :=
  (end_num _ _ _ _ c).mono fun _ _ hh => ⟨hh.1, hh.2.symm⟩
theorem right_q {a b : Nat} {s : Sp} (c : CS a b s) (w : World) (n : Nat) :
    Calls Try.prog 21 #[.complex .f64 a b] (w.drewN n) fun e w' => e = .returned (.bool s.isSome) ∧ w' = w.drewN n :=
  (right_num _ _ _ c.right.1 c.right.2.1).mono fun _ _ hh => ⟨by rw [hh.1, c.right.2.2], hh.2.symm⟩

set_option maxHeartbeats 1000000 in
theorem same_num (s : Sp) (w : World) (h : OKS s) :
    Calls Try.prog 12 #[cS s, .bool s.isSome, rS s] w fun r w' => r = .returned (.bool true) ∧ Below w.heap.size w w' := by
  rcases s with _ | ⟨p, q⟩
  · have h0 : (FloatKind.f64.format.order 0 0 == some .eq) = true := by decide +kernel
    have h0' : FloatKind.f64.format.order 0 0 = some .eq := by decide +kernel
    unfold rS cS
    go_enter Try.func12, Try.ntmps12
    go_wp2
    go_ret
    exact ⟨rfl, (Below.refl _ _).alloc (Nat.le_refl _) _⟩
  · have h1 := h.1
    have h2 := h.2
    have c1 := h.cs
    have C1 := Lib.hid fun W n => begin_q c1 W n
    have C2 := Lib.hid fun W n => end_q c1 W n
    have C3 := Lib.hid fun W n => right_q c1 W n
    have e1 : FloatKind.f64.format.order (fo p) (fo p) = some .eq := by
      show double.order _ _ = _
      rw [fo_order p p (by omega) (by omega), Int.compare_eq_eq.2 rfl]
    have e2 : FloatKind.f64.format.order (fo q) (fo q) = some .eq := by
      show double.order _ _ = _
      rw [fo_order q q (by omega) (by omega), Int.compare_eq_eq.2 rfl]
    have f1 := ofInt_fo p
    have f2 := ofInt_fo q
    clear h h1 h2 c1
    unfold rS cS
    go_enter Try.func12, Try.ntmps12
    go_wp2_with fail
    go_quiet (first
      | (go_at_call 22; exact Calls.quiet_of_same (C1.out _ _))
      | (go_at_call 23; exact Calls.quiet_of_same (C2.out _ _))
      | (go_at_call 21; exact Calls.quiet_of_same (C3.out _ _)))
    go_wp2
    go_ret
    exact ⟨rfl, pw_drewN ((Below.refl _ _).alloc (Nat.le_refl _) _) _⟩

end Go.Proofs.Ytjdfkjmjjnadaaa
