/- Walks of package span, the second part: what makes spans. -/
import Derived.Test.YtjdfkjmjjnadaaaWalk
namespace Go.Proofs.Ytjdfkjmjjnadaaa
open Go.RowKit Ieee

theorem val_fo (n : Nat) (h : n ≤ Never) : floatToIntVal .f64 (fo n) .i64 = some (n : Int) := by
  unfold floatToIntVal
  have e : (FloatKind.f64.decode (fo n)).toInt .zero = some (n : Int) := by
    unfold Datum.toInt
    show (match (double.read (fo n)).integral .zero with | .number s m _ => some (signed s m 0) | _ => none) = _
    rw [stands_integral (fo_read n h)]
    simp [signed]
  rw [e]
  have hn : n ≤ 9007199254740992 := h
  have m1 : IntKind.i64.min = -9223372036854775808 := by decide
  have m2 : IntKind.i64.max = 9223372036854775807 := by decide
  exact if_pos ⟨by rw [m1]; omega, by rw [m2]; omega⟩
theorem ofInt_fo (n : Nat) : floatOfInt .f64 (n : Int) = fo n := by
  unfold floatOfInt FloatKind.nearest FloatKind.encode fo
  have h : decide ((n : Int) < 0) = false := by simp
  rw [h]
  rfl

def bOf : Sp → Nat
  | some (p, _) => p
  | none => 0
def eOf : Sp → Nat
  | some (_, q) => q
  | none => 0
/-- The number that is that span; 0 for none. -/
def cS : Sp → Value
  | some (p, q) => .complex .f64 (fo p) (fo q)
  | none => .complex .f64 0 0

theorem begin_num (a b : Nat) (s : Sp) (w : World) (h : CS a b s) :
    Calls Try.prog 22 #[.complex .f64 a b] w fun e w' => e = .returned (.int .i64 (bOf s)) ∧ w = w' := by
  have hr := h.right
  have C1 := Lib.hid fun W => right_num a b W hr.1 hr.2.1
  have H := Lib.hid hr.2.2
  rcases s with _ | ⟨p, q⟩
  · clear h hr
    go_enter Try.func22, Try.ntmps22
    go_wp2_with (go_at_call 21; (with_reducible refine (C1.out _).mono ?_); rintro e w' ⟨rfl, rfl⟩; rw [H.out, Option.isSome_none])
    go_ret
    exact ⟨rfl, rfl⟩
  · obtain ⟨h1, h2, rfl, rfl⟩ := h
    have hc := fun W => run_convert_float_int (P := Try.prog) W 39 2 .f64 .i64 (fo p) p (by rw [Try.underlying39]; rfl) Try.underlying2 (val_fo p (by omega))
    clear hr
    go_enter Try.func22, Try.ntmps22
    go_wp2_with (go_at_call 21; (with_reducible refine (C1.out _).mono ?_); rintro e w' ⟨rfl, rfl⟩; rw [H.out, Option.isSome_some])
    go_ret
    exact ⟨rfl, rfl⟩

theorem end_num (a b : Nat) (s : Sp) (w : World) (h : CS a b s) :
    Calls Try.prog 23 #[.complex .f64 a b] w fun e w' => e = .returned (.int .i64 (eOf s)) ∧ w = w' := by
  have hr := h.right
  have C1 := Lib.hid fun W => right_num a b W hr.1 hr.2.1
  have H := Lib.hid hr.2.2
  rcases s with _ | ⟨p, q⟩
  · clear h hr
    go_enter Try.func23, Try.ntmps23
    go_wp2_with (go_at_call 21; (with_reducible refine (C1.out _).mono ?_); rintro e w' ⟨rfl, rfl⟩; rw [H.out, Option.isSome_none])
    go_ret
    exact ⟨rfl, rfl⟩
  · obtain ⟨h1, h2, rfl, rfl⟩ := h
    have hc := fun W => run_convert_float_int (P := Try.prog) W 39 2 .f64 .i64 (fo q) q (by rw [Try.underlying39]; rfl) Try.underlying2 (val_fo q (by omega))
    clear hr
    go_enter Try.func23, Try.ntmps23
    go_wp2_with (go_at_call 21; (with_reducible refine (C1.out _).mono ?_); rintro e w' ⟨rfl, rfl⟩; rw [H.out, Option.isSome_some])
    go_ret
    exact ⟨rfl, rfl⟩

/-- The span of two whole numbers, if there is one. -/
def mkSp (b e : Int) : Sp := if 0 ≤ b ∧ b ≤ e ∧ e ≤ 9007199254740992 then some (b.toNat, e.toNat) else none
theorem mkSp_yes {b e : Int} (h : 0 ≤ b ∧ b ≤ e ∧ e ≤ 9007199254740992) : mkSp b e = some (b.toNat, e.toNat) := if_pos h
theorem mkSp_no {b e : Int} (h : ¬ (0 ≤ b ∧ b ≤ e ∧ e ≤ 9007199254740992)) : mkSp b e = none := if_neg h

theorem of_num (b e : Int) (w : World) :
    Calls Try.prog 24 #[.int .i64 b, .int .i64 e] w fun r w' => r = .returned (.tuple #[cS (mkSp b e), .bool (mkSp b e).isSome]) ∧ w = w' := by
  by_cases h : 0 ≤ b ∧ b ≤ e ∧ e ≤ 9007199254740992
  · rw [mkSp_yes h]
    obtain ⟨h1, h2, h3⟩ := h
    obtain ⟨p, rfl⟩ := Int.eq_ofNat_of_zero_le h1
    obtain ⟨q, rfl⟩ := Int.eq_ofNat_of_zero_le (Int.le_trans h1 h2)
    have c1 := ofInt_fo p
    have c2 := ofInt_fo q
    go_enter Try.func24, Try.ntmps24
    go_wp2
    go_ret2
    exact ⟨by simp [cS], rfl⟩
  · rw [mkSp_no h]
    go_enter Try.func24, Try.ntmps24
    go_wp2
    all_goals first | (go_ret2; exact ⟨by simp [cS], rfl⟩) | (exfalso; omega)

theorem CS.some {p q : Nat} (h : p ≤ q) (k : q ≤ Never) : CS (fo p) (fo q) (some (p, q)) := ⟨h, k, rfl, rfl⟩
theorem mkSp_le {b e : Int} {p q : Nat} (h : mkSp b e = some (p, q)) : p ≤ q ∧ q ≤ 9007199254740992 ∧ b = p ∧ e = q := by
  unfold mkSp at h
  split at h
  · injection h with h
    injection h with h1 h2
    omega
  · cases h

/-! ### min, max of two words -/
def minW (x y : Nat) : Nat := match FloatKind.f64.format.order x y with | some .lt => x | some .gt => y | _ => if (FloatKind.f64.decode x).neg then x else y
def maxW (x y : Nat) : Nat := match FloatKind.f64.format.order x y with | some .lt => y | some .gt => x | _ => if (FloatKind.f64.decode x).neg then y else x
theorem run_min_fo {P : Program} (ts : Array TypeId) (t : TypeId) (a b : Nat) (ha : a ≤ Never) (hb : b ≤ Never) (w : World) :
    (Builtin.min_ ts t #[.float .f64 (fo a), .float .f64 (fo b)]).run P w = .ok (.float .f64 (fo (min a b))) w := by
  change Sem.run P (List.foldlM Builtin.min2 (.float .f64 (fo a)) [.float .f64 (fo b)]) w = _
  have ho : FloatKind.f64.format.order (fo a) (fo b) = some (compare (a : Int) (b : Int)) := fo_order a b ha hb
  rcases Nat.lt_trichotomy a b with h | h | h
  · rw [Int.compare_eq_lt.2 (by omega)] at ho
    simp [Builtin.min2, ho, Nat.min_eq_left (Nat.le_of_lt h)]
  · subst h
    rw [Int.compare_eq_eq.2 (by omega)] at ho
    simp [Builtin.min2, ho]
  · rw [Int.compare_eq_gt.2 (by omega)] at ho
    simp [Builtin.min2, ho, Nat.min_eq_right (Nat.le_of_lt h)]
theorem run_max_fo {P : Program} (ts : Array TypeId) (t : TypeId) (a b : Nat) (ha : a ≤ Never) (hb : b ≤ Never) (w : World) :
    (Builtin.max_ ts t #[.float .f64 (fo a), .float .f64 (fo b)]).run P w = .ok (.float .f64 (fo (max a b))) w := by
  change Sem.run P (List.foldlM Builtin.max2 (.float .f64 (fo a)) [.float .f64 (fo b)]) w = _
  have ho : FloatKind.f64.format.order (fo a) (fo b) = some (compare (a : Int) (b : Int)) := fo_order a b ha hb
  rcases Nat.lt_trichotomy a b with h | h | h
  · rw [Int.compare_eq_lt.2 (by omega)] at ho
    simp [Builtin.max2, ho, Nat.max_eq_right (Nat.le_of_lt h)]
  · subst h
    rw [Int.compare_eq_eq.2 (by omega)] at ho
    simp [Builtin.max2, ho]
  · rw [Int.compare_eq_gt.2 (by omega)] at ho
    simp [Builtin.max2, ho, Nat.max_eq_left (Nat.le_of_lt h)]

/-- What two come to. -/
def joinS : Sp → Sp → Sp
  | some (p, q), some (r, u) => some (min p r, max q u)
  | _, _ => none
theorem join_num (a b c d : Nat) (s t : Sp) (w : World) (h : CS a b s) (k : CS c d t) :
    Calls Try.prog 13 #[.complex .f64 a b, .complex .f64 c d] w fun e w' => e = .returned (.tuple #[cS (joinS s t), .bool (joinS s t).isSome]) ∧ w = w' := by
  have C1 := Lib.hid fun W => right_num a b W h.right.1 h.right.2.1
  have C2 := Lib.hid fun W => right_num c d W k.right.1 k.right.2.1
  have H1 := Lib.hid h.right.2.2
  have H2 := Lib.hid k.right.2.2
  rcases s with _ | ⟨p, q⟩
  · clear h k
    go_enter Try.func13, Try.ntmps13
    go_wp2_with (go_at_call 21; (with_reducible refine (C1.out _).mono ?_); rintro e w' ⟨rfl, rfl⟩; rw [H1.out, Option.isSome_none])
    go_ret2
    exact ⟨rfl, rfl⟩
  · rcases t with _ | ⟨r, u⟩
    · clear h k
      go_enter Try.func13, Try.ntmps13
      go_wp2_with (go_at_call 21; (first | ((with_reducible refine (C1.out _).mono ?_); rintro e w' ⟨rfl, rfl⟩; rw [H1.out, Option.isSome_some]) | ((with_reducible refine (C2.out _).mono ?_); rintro e w' ⟨rfl, rfl⟩; rw [H2.out, Option.isSome_none])))
      go_ret2
      exact ⟨rfl, rfl⟩
    · obtain ⟨h1, h2, rfl, rfl⟩ := h
      obtain ⟨k1, k2, rfl, rfl⟩ := k
      have m1 := fun ts t W => run_min_fo (P := Try.prog) ts t p r (by omega) (by omega) W
      have m2 := fun ts t W => run_max_fo (P := Try.prog) ts t q u h2 k2 W
      clear h1 h2 k1 k2
      go_enter Try.func13, Try.ntmps13
      go_wp2_with (go_at_call 21; (first | ((with_reducible refine (C1.out _).mono ?_); rintro e w' ⟨rfl, rfl⟩; rw [H1.out, Option.isSome_some]) | ((with_reducible refine (C2.out _).mono ?_); rintro e w' ⟨rfl, rfl⟩; rw [H2.out, Option.isSome_some])))
      go_ret2
      exact ⟨rfl, rfl⟩

/-- A span, later. -/
def moveS (s : Sp) (by_ : Int) : Sp :=
  match s with
  | none => none
  | some (p, q) => if by_ > 9007199254740992 ∨ by_ < -9007199254740992 then none else mkSp (p + by_) (if q = 9007199254740992 then 9007199254740992 else q + by_)

theorem move_num (a b : Nat) (s : Sp) (y : Int) (w : World) (h : CS a b s) :
    Calls Try.prog 14 #[.complex .f64 a b, .int .i64 y] w fun e w' => e = .returned (.tuple #[cS (moveS s y), .bool (moveS s y).isSome]) ∧ w = w' := by
  have C1 := Lib.hid fun W => right_num a b W h.right.1 h.right.2.1
  have H1 := Lib.hid h.right.2.2
  have C2 := Lib.hid fun W => begin_num a b s W h
  have C3 := Lib.hid fun W => end_num a b s W h
  rcases s with _ | ⟨p, q⟩
  · clear h
    go_enter Try.func14, Try.ntmps14
    go_wp2_with (go_at_call 21; (with_reducible refine (C1.out _).mono ?_); rintro e w' ⟨rfl, rfl⟩; rw [H1.out, Option.isSome_none])
    go_ret2
    exact ⟨rfl, rfl⟩
  · obtain ⟨h1, h2, rfl, rfl⟩ := h
    have h2 : q ≤ 9007199254740992 := h2
    by_cases hy : y > 9007199254740992 ∨ y < -9007199254740992
    · have e : moveS (some (p, q)) y = none := if_pos hy
      have E := Lib.hid e
      clear e
      go_enter Try.func14, Try.ntmps14
      go_wp2_with (go_at_call 21; (with_reducible refine (C1.out _).mono ?_); rintro e w' ⟨rfl, rfl⟩; rw [H1.out, Option.isSome_some])
      all_goals first | (go_ret2; exact ⟨by rw [E.out]; rfl, rfl⟩) | (exfalso; omega)
    · have hy1 : y ≤ 9007199254740992 := by omega
      have hy2 : -9007199254740992 ≤ y := by omega
      by_cases hq : q = 9007199254740992
      · have e : moveS (some (p, q)) y = mkSp (p + y) 9007199254740992 := by
          show (if _ then _ else _) = _
          rw [if_neg hy, if_pos hq]
        have E := Lib.hid e
        have C4 := Lib.hid fun W => of_num (p + y) 9007199254740992 W
        clear e
        subst hq
        go_enter Try.func14, Try.ntmps14
        go_wp2_with (first
          | (go_at_call 21; (with_reducible refine (C1.out _).mono ?_); rintro e w' ⟨rfl, rfl⟩; rw [H1.out, Option.isSome_some])
          | (go_at_call 22; (with_reducible refine (C2.out _).mono ?_); rintro e w' ⟨rfl, rfl⟩; simp only [bOf])
          | (go_at_call 23; (with_reducible refine (C3.out _).mono ?_); rintro e w' ⟨rfl, rfl⟩; simp only [eOf])
          | (go_at_call 24; (with_reducible refine (C4.out _).mono ?_); rintro e w' ⟨rfl, rfl⟩))
        all_goals (go_ret2; exact ⟨by rw [E.out]; rfl, rfl⟩)
      · have e : moveS (some (p, q)) y = mkSp (p + y) (q + y) := by
          show (if _ then _ else _) = _
          rw [if_neg hy, if_neg hq]
        have E := Lib.hid e
        have C4 := Lib.hid fun W => of_num (p + y) (q + y) W
        have hq0 : ((q : Int) == 9007199254740992) = false := beq_eq_false_iff_ne.2 (by omega)
        clear e
        go_enter Try.func14, Try.ntmps14
        go_wp2_with (first
          | (go_at_call 21; (with_reducible refine (C1.out _).mono ?_); rintro e w' ⟨rfl, rfl⟩; rw [H1.out, Option.isSome_some])
          | (go_at_call 22; (with_reducible refine (C2.out _).mono ?_); rintro e w' ⟨rfl, rfl⟩; simp only [bOf])
          | (go_at_call 23; (with_reducible refine (C3.out _).mono ?_); rintro e w' ⟨rfl, rfl⟩; simp only [eOf])
          | (go_at_call 24; (with_reducible refine (C4.out _).mono ?_); rintro e w' ⟨rfl, rfl⟩))
        all_goals (go_ret2; exact ⟨by rw [E.out]; rfl, rfl⟩)

end Go.Proofs.Ytjdfkjmjjnadaaa
