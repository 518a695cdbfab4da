/- SpanWrong: numbers whose parts are not whole, or too great, or no numbers, are no spans. -/
import Derived.Test.YtjdfkjmjjnadaaaWrong1
namespace Go.Proofs.Ytjdfkjmjjnadaaa
open Go.RowKit Ieee

theorem one_i : rightB 0 4607182418800017408 = true := by decide +kernel

theorem bDrewN (w : World) (n : Nat) : Below w.heap.size w (w.drewN n) := (Below.refl w.heap.size w).trans ⟨rfl, rfl, rfl, Nat.le_refl _, fun _ _ => rfl⟩

set_option maxHeartbeats 4000000 in
theorem wrong_0 (a b : Nat) (w : World) (h1 : geqB a 0 = false) :
    Calls Try.prog 4 #[.float .f64 a, .float .f64 b] w fun e w' => e = .returned (.bool true) ∧ Below w.heap.size w w' := by
  have hr : rightB a b = false := by
    unfold rightB
    rw [h1]
    simp
  unfold geqB at h1
  have C0 := Lib.hid fun W => alive_num W
  have C1 : Hid (∀ W, Calls Try.prog 21 #[.complex .f64 a b] W fun e w' => e = .returned (.bool false) ∧ ∃ n, w' = W.drewN n) := Lib.hid fun W => by have := right_any a b W; rwa [hr] at this
  have C2 := Lib.hid fun c d W => join_no a b c d W hr
  have C3 := Lib.hid fun W => move_no a b 0 W hr
  have C4 := Lib.hid fun W => begin_no a b W hr
  have C5 := Lib.hid fun W => end_no a b W hr
  have C6 : Hid (∀ c d W, Calls Try.prog 15 #[.complex .f64 a b, .complex .f64 c d] W fun e w' => e = .returned (.bool false) ∧ ∃ n, w' = W.drewN n) := Lib.hid fun c d W => by have := before_any a b c d W; rwa [hr, Bool.false_and] at this
  have C7 : Hid (∀ W, Calls Try.prog 15 #[.complex .f64 0 4607182418800017408, .complex .f64 a b] W fun e w' => e = .returned (.bool false) ∧ ∃ n, w' = W.drewN n) := Lib.hid fun W => by have := before_any 0 4607182418800017408 a b W; rwa [hr, Bool.false_and, Bool.and_false] at this
  have C8 : Hid (∀ c d W, Calls Try.prog 17 #[.complex .f64 a b, .complex .f64 c d] W fun e w' => e = .returned (.bool false) ∧ ∃ n, w' = W.drewN n) := Lib.hid fun c d W => by have := meet_any a b c d W; rwa [hr, Bool.false_and] at this
  have o0 : FloatKind.f64.format.order 0 0 = some .eq := by decide +kernel
  clear hr
  go_enter Try.func4, Try.ntmps4
  go_wp2_with fail
  refine (C0.out _).mono ?_
  rintro e w' ⟨rfl, rfl⟩
  go_wp2_with fail
  refine (C1.out _).mono ?_
  rintro e w' ⟨rfl, n, rfl⟩
  go_wp2_with (first
    | (go_at_call 13; (with_reducible refine (C2.out _ _ _).mono ?_); rintro e w' ⟨rfl, n, rfl⟩)
    | (go_at_call 14; (with_reducible refine (C3.out _).mono ?_); rintro e w' ⟨rfl, n, rfl⟩)
    | (go_at_call 22; (with_reducible refine (C4.out _).mono ?_); rintro e w' ⟨rfl, n, rfl⟩)
    | (go_at_call 23; (with_reducible refine (C5.out _).mono ?_); rintro e w' ⟨rfl, n, rfl⟩)
    | (go_at_call 15; (first | (with_reducible refine (C7.out _).mono ?_) | (with_reducible refine (C6.out _ _ _).mono ?_)); rintro e w' ⟨rfl, n, rfl⟩)
    | (go_at_call 17; (with_reducible refine (C8.out _ _ _).mono ?_); rintro e w' ⟨rfl, n, rfl⟩))
  go_ret
  exact ⟨rfl, bDrewN _ _⟩

set_option maxHeartbeats 4000000 in
theorem wrong_1 (a b : Nat) (w : World) (h1 : geqB a 0 = true) (h2 : geqB b a = false) :
    Calls Try.prog 4 #[.float .f64 a, .float .f64 b] w fun e w' => e = .returned (.bool true) ∧ Below w.heap.size w w' := by
  have hr : rightB a b = false := by
    unfold rightB
    rw [h2]
    simp
  unfold geqB at h1 h2
  have C0 := Lib.hid fun W => alive_num W
  have C1 : Hid (∀ W, Calls Try.prog 21 #[.complex .f64 a b] W fun e w' => e = .returned (.bool false) ∧ ∃ n, w' = W.drewN n) := Lib.hid fun W => by have := right_any a b W; rwa [hr] at this
  have C2 := Lib.hid fun c d W => join_no a b c d W hr
  have C3 := Lib.hid fun W => move_no a b 0 W hr
  have C4 := Lib.hid fun W => begin_no a b W hr
  have C5 := Lib.hid fun W => end_no a b W hr
  have C6 : Hid (∀ c d W, Calls Try.prog 15 #[.complex .f64 a b, .complex .f64 c d] W fun e w' => e = .returned (.bool false) ∧ ∃ n, w' = W.drewN n) := Lib.hid fun c d W => by have := before_any a b c d W; rwa [hr, Bool.false_and] at this
  have C7 : Hid (∀ W, Calls Try.prog 15 #[.complex .f64 0 4607182418800017408, .complex .f64 a b] W fun e w' => e = .returned (.bool false) ∧ ∃ n, w' = W.drewN n) := Lib.hid fun W => by have := before_any 0 4607182418800017408 a b W; rwa [hr, Bool.false_and, Bool.and_false] at this
  have C8 : Hid (∀ c d W, Calls Try.prog 17 #[.complex .f64 a b, .complex .f64 c d] W fun e w' => e = .returned (.bool false) ∧ ∃ n, w' = W.drewN n) := Lib.hid fun c d W => by have := meet_any a b c d W; rwa [hr, Bool.false_and] at this
  have o0 : FloatKind.f64.format.order 0 0 = some .eq := by decide +kernel
  clear hr
  go_enter Try.func4, Try.ntmps4
  go_wp2_with fail
  refine (C0.out _).mono ?_
  rintro e w' ⟨rfl, rfl⟩
  go_wp2_with fail
  refine (C1.out _).mono ?_
  rintro e w' ⟨rfl, n, rfl⟩
  go_wp2_with (first
    | (go_at_call 13; (with_reducible refine (C2.out _ _ _).mono ?_); rintro e w' ⟨rfl, n, rfl⟩)
    | (go_at_call 14; (with_reducible refine (C3.out _).mono ?_); rintro e w' ⟨rfl, n, rfl⟩)
    | (go_at_call 22; (with_reducible refine (C4.out _).mono ?_); rintro e w' ⟨rfl, n, rfl⟩)
    | (go_at_call 23; (with_reducible refine (C5.out _).mono ?_); rintro e w' ⟨rfl, n, rfl⟩)
    | (go_at_call 15; (first | (with_reducible refine (C7.out _).mono ?_) | (with_reducible refine (C6.out _ _ _).mono ?_)); rintro e w' ⟨rfl, n, rfl⟩)
    | (go_at_call 17; (with_reducible refine (C8.out _ _ _).mono ?_); rintro e w' ⟨rfl, n, rfl⟩))
  go_ret
  exact ⟨rfl, bDrewN _ _⟩

set_option maxHeartbeats 4000000 in
theorem wrong_2 (a b : Nat) (w : World) (h1 : geqB a 0 = true) (h2 : geqB b a = true) (h3 : leqB b 4845873199050653696 = false) :
    Calls Try.prog 4 #[.float .f64 a, .float .f64 b] w fun e w' => e = .returned (.bool true) ∧ Below w.heap.size w w' := by
  have hr : rightB a b = false := by
    unfold rightB
    rw [h3]
    simp
  unfold geqB at h1 h2
  unfold leqB at h3
  have C0 := Lib.hid fun W => alive_num W
  have C1 : Hid (∀ W, Calls Try.prog 21 #[.complex .f64 a b] W fun e w' => e = .returned (.bool false) ∧ ∃ n, w' = W.drewN n) := Lib.hid fun W => by have := right_any a b W; rwa [hr] at this
  have C2 := Lib.hid fun c d W => join_no a b c d W hr
  have C3 := Lib.hid fun W => move_no a b 0 W hr
  have C4 := Lib.hid fun W => begin_no a b W hr
  have C5 := Lib.hid fun W => end_no a b W hr
  have C6 : Hid (∀ c d W, Calls Try.prog 15 #[.complex .f64 a b, .complex .f64 c d] W fun e w' => e = .returned (.bool false) ∧ ∃ n, w' = W.drewN n) := Lib.hid fun c d W => by have := before_any a b c d W; rwa [hr, Bool.false_and] at this
  have C7 : Hid (∀ W, Calls Try.prog 15 #[.complex .f64 0 4607182418800017408, .complex .f64 a b] W fun e w' => e = .returned (.bool false) ∧ ∃ n, w' = W.drewN n) := Lib.hid fun W => by have := before_any 0 4607182418800017408 a b W; rwa [hr, Bool.false_and, Bool.and_false] at this
  have C8 : Hid (∀ c d W, Calls Try.prog 17 #[.complex .f64 a b, .complex .f64 c d] W fun e w' => e = .returned (.bool false) ∧ ∃ n, w' = W.drewN n) := Lib.hid fun c d W => by have := meet_any a b c d W; rwa [hr, Bool.false_and] at this
  have o0 : FloatKind.f64.format.order 0 0 = some .eq := by decide +kernel
  clear hr
  go_enter Try.func4, Try.ntmps4
  go_wp2_with fail
  refine (C0.out _).mono ?_
  rintro e w' ⟨rfl, rfl⟩
  go_wp2_with fail
  refine (C1.out _).mono ?_
  rintro e w' ⟨rfl, n, rfl⟩
  go_wp2_with (first
    | (go_at_call 13; (with_reducible refine (C2.out _ _ _).mono ?_); rintro e w' ⟨rfl, n, rfl⟩)
    | (go_at_call 14; (with_reducible refine (C3.out _).mono ?_); rintro e w' ⟨rfl, n, rfl⟩)
    | (go_at_call 22; (with_reducible refine (C4.out _).mono ?_); rintro e w' ⟨rfl, n, rfl⟩)
    | (go_at_call 23; (with_reducible refine (C5.out _).mono ?_); rintro e w' ⟨rfl, n, rfl⟩)
    | (go_at_call 15; (first | (with_reducible refine (C7.out _).mono ?_) | (with_reducible refine (C6.out _ _ _).mono ?_)); rintro e w' ⟨rfl, n, rfl⟩)
    | (go_at_call 17; (with_reducible refine (C8.out _ _ _).mono ?_); rintro e w' ⟨rfl, n, rfl⟩))
  go_ret
  exact ⟨rfl, bDrewN _ _⟩

set_option maxHeartbeats 4000000 in
theorem wrong_3 (a b : Nat) (w : World) (h1 : geqB a 0 = true) (h2 : geqB b a = true) (h3 : leqB b 4845873199050653696 = true) (h4 : wholeB a = false) :
    Calls Try.prog 4 #[.float .f64 a, .float .f64 b] w fun e w' => e = .returned (.bool true) ∧ Below w.heap.size w w' := by
  have hr : rightB a b = false := by
    unfold rightB
    rw [h4]
    simp
  obtain ⟨v, u, hv, hu, v0, vu, uT⟩ := guard_num h1 h2 h3
  obtain ⟨mx, mn, K, p1, p2, p3, p4⟩ := part_way hv v0 (Int.le_trans vu uT)
  obtain ⟨mx2, mn2, K2, r1, r2, r3, r4⟩ := part_way hu (Int.le_trans v0 vu) uT
  have hc := fun W => run_convert_float_int (P := Try.prog) W 39 2 .f64 .i64 mn K (by rw [Try.underlying39]; rfl) Try.underlying2 p3
  have hc2 := fun W => run_convert_float_int (P := Try.prog) W 39 2 .f64 .i64 mn2 K2 (by rw [Try.underlying39]; rfl) Try.underlying2 r3
  have c1 := ofInt_fo K
  have c2 := ofInt_fo K2
  clear hv hu v0 vu uT p3 r3 v u
  rw [h4] at p4
  clear r4 h4
  unfold geqB at h1 h2
  unfold leqB at h3
  have C0 := Lib.hid fun W => alive_num W
  have C1 : Hid (∀ W, Calls Try.prog 21 #[.complex .f64 a b] W fun e w' => e = .returned (.bool false) ∧ ∃ n, w' = W.drewN n) := Lib.hid fun W => by have := right_any a b W; rwa [hr] at this
  have C2 := Lib.hid fun c d W => join_no a b c d W hr
  have C3 := Lib.hid fun W => move_no a b 0 W hr
  have C4 := Lib.hid fun W => begin_no a b W hr
  have C5 := Lib.hid fun W => end_no a b W hr
  have C6 : Hid (∀ c d W, Calls Try.prog 15 #[.complex .f64 a b, .complex .f64 c d] W fun e w' => e = .returned (.bool false) ∧ ∃ n, w' = W.drewN n) := Lib.hid fun c d W => by have := before_any a b c d W; rwa [hr, Bool.false_and] at this
  have C7 : Hid (∀ W, Calls Try.prog 15 #[.complex .f64 0 4607182418800017408, .complex .f64 a b] W fun e w' => e = .returned (.bool false) ∧ ∃ n, w' = W.drewN n) := Lib.hid fun W => by have := before_any 0 4607182418800017408 a b W; rwa [hr, Bool.false_and, Bool.and_false] at this
  have C8 : Hid (∀ c d W, Calls Try.prog 17 #[.complex .f64 a b, .complex .f64 c d] W fun e w' => e = .returned (.bool false) ∧ ∃ n, w' = W.drewN n) := Lib.hid fun c d W => by have := meet_any a b c d W; rwa [hr, Bool.false_and] at this
  have o0 : FloatKind.f64.format.order 0 0 = some .eq := by decide +kernel
  clear hr
  go_enter Try.func4, Try.ntmps4
  go_wp2_with fail
  refine (C0.out _).mono ?_
  rintro e w' ⟨rfl, rfl⟩
  go_wp2_with fail
  refine (C1.out _).mono ?_
  rintro e w' ⟨rfl, n, rfl⟩
  go_wp2_with (first
    | (go_at_call 13; (with_reducible refine (C2.out _ _ _).mono ?_); rintro e w' ⟨rfl, n, rfl⟩)
    | (go_at_call 14; (with_reducible refine (C3.out _).mono ?_); rintro e w' ⟨rfl, n, rfl⟩)
    | (go_at_call 22; (with_reducible refine (C4.out _).mono ?_); rintro e w' ⟨rfl, n, rfl⟩)
    | (go_at_call 23; (with_reducible refine (C5.out _).mono ?_); rintro e w' ⟨rfl, n, rfl⟩)
    | (go_at_call 15; (first | (with_reducible refine (C7.out _).mono ?_) | (with_reducible refine (C6.out _ _ _).mono ?_)); rintro e w' ⟨rfl, n, rfl⟩)
    | (go_at_call 17; (with_reducible refine (C8.out _ _ _).mono ?_); rintro e w' ⟨rfl, n, rfl⟩))
  go_ret
  exact ⟨rfl, bDrewN _ _⟩

set_option maxHeartbeats 4000000 in
theorem wrong_4 (a b : Nat) (w : World) (h1 : geqB a 0 = true) (h2 : geqB b a = true) (h3 : leqB b 4845873199050653696 = true) (h4 : wholeB a = true) (h5 : wholeB b = false) :
    Calls Try.prog 4 #[.float .f64 a, .float .f64 b] w fun e w' => e = .returned (.bool true) ∧ Below w.heap.size w w' := by
  have hr : rightB a b = false := by
    unfold rightB
    rw [h5]
    simp
  obtain ⟨v, u, hv, hu, v0, vu, uT⟩ := guard_num h1 h2 h3
  obtain ⟨mx, mn, K, p1, p2, p3, p4⟩ := part_way hv v0 (Int.le_trans vu uT)
  obtain ⟨mx2, mn2, K2, r1, r2, r3, r4⟩ := part_way hu (Int.le_trans v0 vu) uT
  have hc := fun W => run_convert_float_int (P := Try.prog) W 39 2 .f64 .i64 mn K (by rw [Try.underlying39]; rfl) Try.underlying2 p3
  have hc2 := fun W => run_convert_float_int (P := Try.prog) W 39 2 .f64 .i64 mn2 K2 (by rw [Try.underlying39]; rfl) Try.underlying2 r3
  have c1 := ofInt_fo K
  have c2 := ofInt_fo K2
  clear hv hu v0 vu uT p3 r3 v u
  rw [h4] at p4
  rw [h5] at r4
  clear h4 h5
  unfold geqB at h1 h2
  unfold leqB at h3
  have C0 := Lib.hid fun W => alive_num W
  have C1 : Hid (∀ W, Calls Try.prog 21 #[.complex .f64 a b] W fun e w' => e = .returned (.bool false) ∧ ∃ n, w' = W.drewN n) := Lib.hid fun W => by have := right_any a b W; rwa [hr] at this
  have C2 := Lib.hid fun c d W => join_no a b c d W hr
  have C3 := Lib.hid fun W => move_no a b 0 W hr
  have C4 := Lib.hid fun W => begin_no a b W hr
  have C5 := Lib.hid fun W => end_no a b W hr
  have C6 : Hid (∀ c d W, Calls Try.prog 15 #[.complex .f64 a b, .complex .f64 c d] W fun e w' => e = .returned (.bool false) ∧ ∃ n, w' = W.drewN n) := Lib.hid fun c d W => by have := before_any a b c d W; rwa [hr, Bool.false_and] at this
  have C7 : Hid (∀ W, Calls Try.prog 15 #[.complex .f64 0 4607182418800017408, .complex .f64 a b] W fun e w' => e = .returned (.bool false) ∧ ∃ n, w' = W.drewN n) := Lib.hid fun W => by have := before_any 0 4607182418800017408 a b W; rwa [hr, Bool.false_and, Bool.and_false] at this
  have C8 : Hid (∀ c d W, Calls Try.prog 17 #[.complex .f64 a b, .complex .f64 c d] W fun e w' => e = .returned (.bool false) ∧ ∃ n, w' = W.drewN n) := Lib.hid fun c d W => by have := meet_any a b c d W; rwa [hr, Bool.false_and] at this
  have o0 : FloatKind.f64.format.order 0 0 = some .eq := by decide +kernel
  clear hr
  go_enter Try.func4, Try.ntmps4
  go_wp2_with fail
  refine (C0.out _).mono ?_
  rintro e w' ⟨rfl, rfl⟩
  go_wp2_with fail
  refine (C1.out _).mono ?_
  rintro e w' ⟨rfl, n, rfl⟩
  go_wp2_with (first
    | (go_at_call 13; (with_reducible refine (C2.out _ _ _).mono ?_); rintro e w' ⟨rfl, n, rfl⟩)
    | (go_at_call 14; (with_reducible refine (C3.out _).mono ?_); rintro e w' ⟨rfl, n, rfl⟩)
    | (go_at_call 22; (with_reducible refine (C4.out _).mono ?_); rintro e w' ⟨rfl, n, rfl⟩)
    | (go_at_call 23; (with_reducible refine (C5.out _).mono ?_); rintro e w' ⟨rfl, n, rfl⟩)
    | (go_at_call 15; (first | (with_reducible refine (C7.out _).mono ?_) | (with_reducible refine (C6.out _ _ _).mono ?_)); rintro e w' ⟨rfl, n, rfl⟩)
    | (go_at_call 17; (with_reducible refine (C8.out _ _ _).mono ?_); rintro e w' ⟨rfl, n, rfl⟩))
  go_ret
  exact ⟨rfl, bDrewN _ _⟩

set_option maxHeartbeats 4000000 in
theorem wrong_5 (a b : Nat) (w : World) (h1 : geqB a 0 = true) (h2 : geqB b a = true) (h3 : leqB b 4845873199050653696 = true) (h4 : wholeB a = true) (h5 : wholeB b = true) :
    Calls Try.prog 4 #[.float .f64 a, .float .f64 b] w fun e w' => e = .returned (.bool true) ∧ Below w.heap.size w w' := by
  have hr : rightB a b = true := by
    unfold rightB
    rw [h1, h2, h3, h4, h5]
    rfl
  have hl : lssB b a = false := by
    unfold geqB at h2
    unfold lssB
    revert h2
    cases FloatKind.f64.format.order b a with
    | none => intro h; cases h
    | some o => cases o <;> intro h <;> first | rfl | cases h
  obtain ⟨v, u, hv, hu, v0, vu, uT⟩ := guard_num h1 h2 h3
  obtain ⟨mx, mn, K, p1, p2, p3, p4⟩ := part_way hv v0 (Int.le_trans vu uT)
  obtain ⟨mx2, mn2, K2, r1, r2, r3, r4⟩ := part_way hu (Int.le_trans v0 vu) uT
  have hc := fun W => run_convert_float_int (P := Try.prog) W 39 2 .f64 .i64 mn K (by rw [Try.underlying39]; rfl) Try.underlying2 p3
  have hc2 := fun W => run_convert_float_int (P := Try.prog) W 39 2 .f64 .i64 mn2 K2 (by rw [Try.underlying39]; rfl) Try.underlying2 r3
  have c1 := ofInt_fo K
  have c2 := ofInt_fo K2
  clear hv hu v0 vu uT p3 r3 v u
  rw [h4] at p4
  rw [h5] at r4
  clear h4 h5
  unfold geqB at h1 h2
  unfold leqB at h3
  have C0 := Lib.hid fun W => alive_num W
  have C1 : Hid (∀ W, Calls Try.prog 21 #[.complex .f64 a b] W fun e w' => e = .returned (.bool true) ∧ ∃ n, w' = W.drewN n) := Lib.hid fun W => by have := right_any a b W; rwa [hr] at this
  have C6 : Hid (∀ W, Calls Try.prog 15 #[.complex .f64 a b, .complex .f64 a b] W fun e w' => e = .returned (.bool false) ∧ ∃ n, w' = W.drewN n) := Lib.hid fun W => by have := before_any a b a b W; rwa [hr, hl] at this
  have C8 : Hid (∀ W, Calls Try.prog 17 #[.complex .f64 a b, .complex .f64 a b] W fun e w' => e = .returned (.bool true) ∧ ∃ n, w' = W.drewN n) := Lib.hid fun W => by have := meet_any a b a b W; rwa [hr, hl] at this
  clear hr hl
  go_enter Try.func4, Try.ntmps4
  go_wp2_with fail
  refine (C0.out _).mono ?_
  rintro e w' ⟨rfl, rfl⟩
  go_wp2_with fail
  refine (C1.out _).mono ?_
  rintro e w' ⟨rfl, n, rfl⟩
  go_wp2_with fail
  refine (C8.out _).mono ?_
  rintro e w' ⟨rfl, n, rfl⟩
  go_wp2_with fail
  refine (C6.out _).mono ?_
  rintro e w' ⟨rfl, n, rfl⟩
  go_wp2_with fail
  go_ret
  exact ⟨rfl, bDrewN _ _⟩

theorem wrong_any (a b : Nat) (w : World) :
    Calls Try.prog 4 #[.float .f64 a, .float .f64 b] w fun e w' => e = .returned (.bool true) ∧ Below w.heap.size w w' := by
  cases h1 : geqB a 0 with
  | false => exact wrong_0 a b w h1
  | true =>
    cases h2 : geqB b a with
    | false => exact wrong_1 a b w h1 h2
    | true =>
      cases h3 : leqB b 4845873199050653696 with
      | false => exact wrong_2 a b w h1 h2 h3
      | true =>
        cases h4 : wholeB a with
        | false => exact wrong_3 a b w h1 h2 h3 h4
        | true =>
          cases h5 : wholeB b with
          | false => exact wrong_4 a b w h1 h2 h3 h4 h5
          | true => exact wrong_5 a b w h1 h2 h3 h4 h5

end Go.Proofs.Ytjdfkjmjjnadaaa
