/- The walk of 'alive': the answers that the document fixes. -/
import Derived.Test.YtjdfkjmjjnadaaaLaw0
namespace Go.Proofs.Ytjdfkjmjjnadaaa
open Go.RowKit Ieee

theorem fo_1 : fo 1 = 4607182418800017408 := by decide +kernel
theorem fo_3 : fo 3 = 4613937818241073152 := by decide +kernel
theorem fo_4 : fo 4 = 4616189618054758400 := by decide +kernel
theorem fo_5 : fo 5 = 4617315517961601024 := by decide +kernel
theorem fo_9 : fo 9 = 4621256167635550208 := by decide +kernel
theorem c13 : CS 4607182418800017408 4613937818241073152 (some (1, 3)) := ⟨by decide, by decide, fo_1.symm, fo_3.symm⟩
theorem c49 : CS 4616189618054758400 4621256167635550208 (some (4, 9)) := ⟨by decide, by decide, fo_4.symm, fo_9.symm⟩
theorem c39 : CS 4613937818241073152 4621256167635550208 (some (3, 9)) := ⟨by decide, by decide, fo_3.symm, fo_9.symm⟩
theorem okF_of {x : Nat} (h : (FloatKind.f64.decode x).isNaN = false) : okF x := h
theorem c31 : CS 4613937818241073152 4607182418800017408 none := ⟨okF_of (by decide +kernel), okF_of (by decide +kernel), by decide +kernel⟩

theorem a_of (w : World) : Calls Try.prog 24 #[.int .i64 1, .int .i64 3] w fun e w' => e = .returned (.tuple #[.complex .f64 4607182418800017408 4613937818241073152, .bool true]) ∧ w = w' :=
  (of_num 1 3 w).mono fun e w' hh => ⟨by rw [hh.1, show mkSp 1 3 = some (1, 3) from by decide, cS, fo_1, fo_3]; rfl, hh.2⟩
theorem a_no (w : World) : Calls Try.prog 24 #[.int .i64 3, .int .i64 1] w fun e w' => e = .returned (.tuple #[.complex .f64 0 0, .bool false]) ∧ w = w' :=
  (of_num 3 1 w).mono fun e w' hh => ⟨by rw [hh.1, show mkSp 3 1 = none from by decide, cS]; rfl, hh.2⟩
theorem a_join (w : World) : Calls Try.prog 13 #[.complex .f64 4607182418800017408 4613937818241073152, .complex .f64 4616189618054758400 4621256167635550208] w fun e w' => e = .returned (.tuple #[.complex .f64 4607182418800017408 4621256167635550208, .bool true]) ∧ w = w' :=
  (join_num _ _ _ _ _ _ w c13 c49).mono fun e w' hh => ⟨by rw [hh.1, show joinS (some (1, 3)) (some (4, 9)) = some (1, 9) from by decide, cS, fo_1, fo_9]; rfl, hh.2⟩
theorem a_move (w : World) : Calls Try.prog 14 #[.complex .f64 4607182418800017408 4613937818241073152, .int .i64 2] w fun e w' => e = .returned (.tuple #[.complex .f64 4613937818241073152 4617315517961601024, .bool true]) ∧ w = w' :=
  (move_num _ _ _ 2 w c13).mono fun e w' hh => ⟨by rw [hh.1, show moveS (some (1, 3)) 2 = some (3, 5) from by decide, cS, fo_3, fo_5]; rfl, hh.2⟩
theorem a_right (w : World) : Calls Try.prog 21 #[.complex .f64 4607182418800017408 4613937818241073152] w fun e w' => e = .returned (.bool true) ∧ w = w' :=
  (right_num _ _ w c13.right.1 c13.right.2.1).mono fun e w' hh => ⟨by rw [hh.1, c13.right.2.2]; rfl, hh.2⟩
theorem a_wrong (w : World) : Calls Try.prog 21 #[.complex .f64 4613937818241073152 4607182418800017408] w fun e w' => e = .returned (.bool false) ∧ w = w' :=
  (right_num _ _ w c31.right.1 c31.right.2.1).mono fun e w' hh => ⟨by rw [hh.1, c31.right.2.2]; rfl, hh.2⟩
theorem a_begin (w : World) : Calls Try.prog 22 #[.complex .f64 4607182418800017408 4613937818241073152] w fun e w' => e = .returned (.int .i64 1) ∧ w = w' := begin_num _ _ _ w c13
theorem a_end (w : World) : Calls Try.prog 23 #[.complex .f64 4607182418800017408 4613937818241073152] w fun e w' => e = .returned (.int .i64 3) ∧ w = w' := end_num _ _ _ w c13
theorem a_before (w : World) : Calls Try.prog 15 #[.complex .f64 4607182418800017408 4613937818241073152, .complex .f64 4616189618054758400 4621256167635550208] w fun e w' => e = .returned (.bool true) ∧ w = w' :=
  (before_num _ _ _ _ _ _ w c13 c49).mono fun e w' hh => ⟨by rw [hh.1, show befo (some (1, 3)) (some (4, 9)) = true from by decide], hh.2⟩
theorem a_meet (w : World) : Calls Try.prog 17 #[.complex .f64 4607182418800017408 4613937818241073152, .complex .f64 4613937818241073152 4621256167635550208] w fun e w' => e = .returned (.bool true) ∧ w = w' :=
  (meet_num _ _ _ _ _ _ w c13 c39).mono fun e w' hh => ⟨by rw [hh.1, show meet (some (1, 3)) (some (3, 9)) = true from by decide], hh.2⟩

set_option maxHeartbeats 1000000 in
theorem alive_num (w : World) : Calls Try.prog 9 #[] w fun e w' => e = .returned (.bool true) ∧ w = w' := by
  have o1 : FloatKind.f64.format.order 4607182418800017408 4607182418800017408 = some .eq := by decide +kernel
  have o3 : FloatKind.f64.format.order 4613937818241073152 4613937818241073152 = some .eq := by decide +kernel
  have o5 : FloatKind.f64.format.order 4617315517961601024 4617315517961601024 = some .eq := by decide +kernel
  have o9 : FloatKind.f64.format.order 4621256167635550208 4621256167635550208 = some .eq := by decide +kernel
  go_enter Try.func9, Try.ntmps9
  go_wp2_with (first
    | (go_at_call 24; (first | (with_reducible refine (a_of _).mono ?_) | (with_reducible refine (a_no _).mono ?_)); rintro e w' ⟨rfl, rfl⟩)
    | (go_at_call 13; (with_reducible refine (a_join _).mono ?_); rintro e w' ⟨rfl, rfl⟩)
    | (go_at_call 14; (with_reducible refine (a_move _).mono ?_); rintro e w' ⟨rfl, rfl⟩)
    | (go_at_call 21; (first | (with_reducible refine (a_right _).mono ?_) | (with_reducible refine (a_wrong _).mono ?_)); rintro e w' ⟨rfl, rfl⟩)
    | (go_at_call 22; (with_reducible refine (a_begin _).mono ?_); rintro e w' ⟨rfl, rfl⟩)
    | (go_at_call 23; (with_reducible refine (a_end _).mono ?_); rintro e w' ⟨rfl, rfl⟩)
    | (go_at_call 15; (with_reducible refine (a_before _).mono ?_); rintro e w' ⟨rfl, rfl⟩)
    | (go_at_call 17; (with_reducible refine (a_meet _).mono ?_); rintro e w' ⟨rfl, rfl⟩))
  go_ret
  exact ⟨rfl, rfl⟩

theorem lof_num (b e : Int) (w : World) :
    Calls Try.prog 10 #[.agg #[.int .i64 b, .int .i64 e]] w fun r w' => r = .returned (.tuple #[cS (mkSp b e), .bool (mkSp b e).isSome]) ∧ Below w.heap.size w w' := by
  have C := Lib.hid fun W => of_num b e W
  generalize cS (mkSp b e) = x at *
  generalize (mkSp b e).isSome = y at *
  go_enter Try.func10, Try.ntmps10
  go_wp2_with (go_at_call 24; (with_reducible refine (C.out _).mono ?_); rintro e w' ⟨rfl, rfl⟩)
  go_ret2
  exact ⟨rfl, (Below.refl _ _).alloc (Nat.le_refl _) _⟩

end Go.Proofs.Ytjdfkjmjjnadaaa
