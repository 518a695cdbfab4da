/- Walks of package span at any words whatever, no numbers too: a look at one that is no number may draw. -/
import Derived.Test.YtjdfkjmjjnadaaaAlive
import Derived.Deep.Draws
namespace Go.Proofs.Ytjdfkjmjjnadaaa
open Go.RowKit Ieee

theorem order_nan {x : Nat} (h : ¬ okF x) (y : Nat) : FloatKind.f64.format.order x y = none := by
  unfold okF at h
  unfold Format.order
  have hd : (FloatKind.f64.format.read x).isNaN = true := by
    cases hh : (FloatKind.f64.format.read x).isNaN with
    | true => rfl
    | false => exact absurd hh h
  cases he : FloatKind.f64.format.read x with
  | nan s t => cases FloatKind.f64.format.read y <;> rfl
  | number s m p => rw [he] at hd; cases hd
  | infinity s => rw [he] at hd; cases hd
theorem whole_nan {x : Nat} (h : ¬ okF x) (y : Nat) : (FloatKind.f64.format.order x y == some .eq) = wholeB x := by
  unfold wholeB
  rw [order_nan h, order_nan h]

theorem ext_nan (x : Nat) (h : ¬ okF x) : ∃ (k : Nat) (f : World → Nat), ∀ w : World, (Extern.MathFloor.toIntegral "math.archTrunc" .zero #[.float .f64 x]).run Try.prog w = .ok (.float .f64 (f w)) (w.drewN k) := by
  cases hd : FloatKind.f64.decode x with
  | number s m p => exact absurd (by unfold okF; rw [hd]; rfl) h
  | infinity s => exact absurd (by unfold okF; rw [hd]; rfl) h
  | nan s t =>
    have hm : ∀ w : World, (Extern.MathFloor.toIntegral "math.archTrunc" .zero #[.float .f64 x]).run Try.prog w = Sem.run Try.prog (if FloatKind.f64.format.quiet t = t then pure (Value.float .f64 x) else do
      let kept ← choose (.extern "math.Floor,Ceil,Trunc,RoundToEven.signallingNaN kept" 2)
      pure (Value.float .f64 (if kept == 1 then x else FloatKind.f64.encode (.nan s (FloatKind.f64.format.quiet t))))) w := fun w => by
      change Sem.run Try.prog (match FloatKind.f64.decode x with
        | .nan s t =>
          if FloatKind.f64.format.quiet t = t then pure (Value.float .f64 x) else do
          let kept ← choose (.extern "math.Floor,Ceil,Trunc,RoundToEven.signallingNaN kept" 2)
          pure (Value.float .f64 (if kept == 1 then x else FloatKind.f64.encode (.nan s (FloatKind.f64.format.quiet t))))
        | d => pure (Value.float .f64 (FloatKind.f64.encode (d.integral .zero)))) w = _
      rw [hd]
    by_cases hq : FloatKind.f64.format.quiet t = t
    · refine ⟨0, fun _ => x, fun w => ?_⟩
      rw [hm, if_pos hq]
      rfl
    · refine ⟨1, fun w => if (Question.cut (.extern "math.Floor,Ceil,Trunc,RoundToEven.signallingNaN kept" 2) (w.tape w.drawn (.extern "math.Floor,Ceil,Trunc,RoundToEven.signallingNaN kept" 2)) == 1) = true then x else FloatKind.f64.encode (.nan s (FloatKind.f64.format.quiet t)), fun w => ?_⟩
      rw [hm, if_neg hq]
      rfl

theorem trunc_any (x : Nat) (w : World) :
    Calls Try.prog 26 #[.float .f64 x] w fun e w' => ∃ y, e = .returned (.float .f64 y) ∧ (FloatKind.f64.format.order x y == some .eq) = wholeB x ∧ ∃ n, w' = w.drewN n := by
  by_cases h : okF x
  · refine (trunc_num x w h).mono ?_
    rintro e w' ⟨rfl, rfl⟩
    exact ⟨_, rfl, rfl, 0, rfl⟩
  · obtain ⟨k, f, hf⟩ := ext_nan x h
    have hw := Lib.hid (whole_nan h)
    have ht : ∀ W : World, (callFunc 27 #[.float .f64 x]).run Try.prog W = .ok (.value (.float .f64 (f W))) (W.drewN k) := fun W => by
      rw [run_callFunc_extern (e := Extern.MathFloor.toIntegral "math.archTrunc" .zero) (fn := Try.f27) rfl (by kernel_rfl) (by kernel_rfl) (by kernel_rfl) (by kernel_rfl), hf W]
      rfl
    clear h hf
    go_enter Try.func26, Try.ntmps26
    go_wp2
    go_ret
    exact ⟨_, rfl, hw.out _, k, rfl⟩

theorem whole_any (x : Nat) (w : World) :
    Calls Try.prog 25 #[.float .f64 x] w fun e w' => e = .returned (.bool (wholeB x)) ∧ ∃ n, w' = w.drewN n := by
  have C := Lib.hid (trunc_any x w)
  go_enter Try.func25, Try.ntmps25
  go_wp2_with fail
  refine C.out.mono ?_
  rintro e w' ⟨y, rfl, hy, n, rfl⟩
  have HY := Lib.hid hy
  clear hy C
  go_wp2_with fail
  go_ret
  exact ⟨congrArg (fun x => Ending.returned (Value.bool x)) HY.out, n, rfl⟩

theorem right_any (a b : Nat) (w : World) :
    Calls Try.prog 21 #[.complex .f64 a b] w fun e w' => e = .returned (.bool (rightB a b)) ∧ ∃ n, w' = w.drewN n := by
  have C1 := Lib.hid fun W => whole_any a W
  have C2 := Lib.hid fun W => whole_any b W
  go_enter Try.func21, Try.ntmps21
  go_wp2_with (go_at_call 25; (first | (with_reducible refine (C1.out _).mono ?_) | (with_reducible refine (C2.out _).mono ?_)); rintro e w' ⟨rfl, n, rfl⟩)
  all_goals (go_ret; exact ⟨congrArg (fun x => Ending.returned (Value.bool x)) (by simp [rightB, geqB, leqB, Bool.and_assoc, *]), by first | exact ⟨_, rfl⟩ | exact ⟨0, rfl⟩⟩)

theorem before_any (a b c d : Nat) (w : World) :
    Calls Try.prog 15 #[.complex .f64 a b, .complex .f64 c d] w fun e w' => e = .returned (.bool (rightB a b && (rightB c d && lssB b c))) ∧ ∃ n, w' = w.drewN n := by
  have C1 := Lib.hid fun W => right_any a b W
  have C2 := Lib.hid fun W => right_any c d W
  go_enter Try.func15, Try.ntmps15
  go_wp2_with (go_at_call 21; (first | (with_reducible refine (C1.out _).mono ?_) | (with_reducible refine (C2.out _).mono ?_)); rintro e w' ⟨rfl, n, rfl⟩)
  all_goals (go_ret; exact ⟨congrArg (fun x => Ending.returned (Value.bool x)) (by simp [lssB, *]), by first | exact ⟨_, rfl⟩ | exact ⟨0, rfl⟩⟩)

theorem meet_any (a b c d : Nat) (w : World) :
    Calls Try.prog 17 #[.complex .f64 a b, .complex .f64 c d] w fun e w' => e = .returned (.bool (rightB a b && (rightB c d && (!lssB b c && !lssB d a)))) ∧ ∃ n, w' = w.drewN n := by
  have C1 := Lib.hid fun W => right_any a b W
  have C2 := Lib.hid fun W => right_any c d W
  have C3 := Lib.hid fun W => before_any a b c d W
  have C4 := Lib.hid fun W => before_any c d a b W
  go_enter Try.func17, Try.ntmps17
  go_wp2_with (first | (go_at_call 21; (first | (with_reducible refine (C1.out _).mono ?_) | (with_reducible refine (C2.out _).mono ?_)); rintro e w' ⟨rfl, n, rfl⟩) | (go_at_call 15; (first | (with_reducible refine (C3.out _).mono ?_) | (with_reducible refine (C4.out _).mono ?_)); rintro e w' ⟨rfl, n, rfl⟩))
  all_goals (go_ret; exact ⟨congrArg (fun x => Ending.returned (Value.bool x)) (by simp [*]), by first | exact ⟨_, rfl⟩ | exact ⟨0, rfl⟩⟩)

theorem begin_no (a b : Nat) (w : World) (h : rightB a b = false) :
    Calls Try.prog 22 #[.complex .f64 a b] w fun e w' => e = .returned (.int .i64 0) ∧ ∃ n, w' = w.drewN n := by
  have C1 := right_any a b w
  rw [h] at C1
  have C1 := Lib.hid C1
  clear h
  go_enter Try.func22, Try.ntmps22
  go_wp2_with fail
  refine C1.out.mono ?_
  rintro e w' ⟨rfl, n, rfl⟩
  go_wp2_with fail
  go_ret
  exact ⟨rfl, n, rfl⟩
theorem end_no (a b : Nat) (w : World) (h : rightB a b = false) :
    Calls Try.prog 23 #[.complex .f64 a b] w fun e w' => e = .returned (.int .i64 0) ∧ ∃ n, w' = w.drewN n := by
  have C1 := right_any a b w
  rw [h] at C1
  have C1 := Lib.hid C1
  clear h
  go_enter Try.func23, Try.ntmps23
  go_wp2_with fail
  refine C1.out.mono ?_
  rintro e w' ⟨rfl, n, rfl⟩
  go_wp2_with fail
  go_ret
  exact ⟨rfl, n, rfl⟩
theorem join_no (a b c d : Nat) (w : World) (h : rightB a b = false) :
    Calls Try.prog 13 #[.complex .f64 a b, .complex .f64 c d] w fun e w' => e = .returned (.tuple #[.complex .f64 0 0, .bool false]) ∧ ∃ n, w' = w.drewN n := by
  have C1 := right_any a b w
  rw [h] at C1
  have C1 := Lib.hid C1
  clear h
  go_enter Try.func13, Try.ntmps13
  go_wp2_with fail
  refine C1.out.mono ?_
  rintro e w' ⟨rfl, n, rfl⟩
  go_wp2_with fail
  go_ret2
  exact ⟨rfl, n, rfl⟩
theorem move_no (a b : Nat) (by_ : Int) (w : World) (h : rightB a b = false) :
    Calls Try.prog 14 #[.complex .f64 a b, .int .i64 by_] w fun e w' => e = .returned (.tuple #[.complex .f64 0 0, .bool false]) ∧ ∃ n, w' = w.drewN n := by
  have C1 := right_any a b w
  rw [h] at C1
  have C1 := Lib.hid C1
  clear h
  go_enter Try.func14, Try.ntmps14
  go_wp2_with fail
  refine C1.out.mono ?_
  rintro e w' ⟨rfl, n, rfl⟩
  go_wp2_with fail
  go_ret2
  exact ⟨rfl, n, rfl⟩

end Go.Proofs.Ytjdfkjmjjnadaaa
