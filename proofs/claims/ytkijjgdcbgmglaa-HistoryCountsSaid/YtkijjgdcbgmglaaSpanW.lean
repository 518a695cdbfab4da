/- Walks of package span: what each of its functions computes. -/
import Derived.Test.YtkijjgdcbgmglaaProg
import Derived.Test.YtkijjgdcbgmglaaFloat
import Derived.Laws.Externs
import Derived.WalkKit
import Derived.WalkLawsBesides
import Derived.Outline
import Derived.Lib.Hide
namespace Go.Proofs.Ytkijjgdcbgmglaa
open Go.RowKit Ieee

/-- The integral part of a word that is no NaN. -/
def truncW (x : Nat) : Nat := FloatKind.f64.encode ((FloatKind.f64.decode x).integral .zero)

/-- Is it no NaN? -/
def okF (x : Nat) : Prop := (FloatKind.f64.decode x).isNaN = false

theorem ext_trunc (x : Nat) (w : World) (h : okF x) : (Extern.MathFloor.toIntegral "math.archTrunc" .zero #[.float .f64 x]).run Try.prog w = .ok (.float .f64 (truncW x)) w := by
  unfold truncW
  unfold okF at h
  change Sem.run Try.prog (match FloatKind.f64.decode x with
    | .nan s t =>
      if FloatKind.f64.format.quiet t = t then pure (Value.float .f64 x) else do
      let kept ← choose (.extern "math.Floor,Ceil,Trunc,RoundToEven.signallingNaN kept" 2)
      pure (Value.float .f64 (if kept == 1 then x else FloatKind.f64.encode (.nan s (FloatKind.f64.format.quiet t))))
    | d => pure (Value.float .f64 (FloatKind.f64.encode (d.integral .zero)))) w = _
  cases hd : FloatKind.f64.decode x with
  | nan s t => rw [hd] at h; cases h
  | number s m p => rfl
  | infinity s => rfl

theorem run_archTrunc (x : Nat) (w : World) (h : okF x) : (callFunc 71 #[.float .f64 x]).run Try.prog w = .ok (.value (.float .f64 (truncW x))) w := by
  rw [run_callFunc_extern (e := Extern.MathFloor.toIntegral "math.archTrunc" .zero) (fn := Try.f71) rfl (by kernel_rfl) (by kernel_rfl) (by kernel_rfl) (by kernel_rfl), ext_trunc x w h]
  rfl

theorem trunc_num (x : Nat) (w : World) (h : okF x) :
    Calls Try.prog 63 #[.float .f64 x] w fun e w' => e = .returned (.float .f64 (truncW x)) ∧ w = w' := by
  have ht := fun W => run_archTrunc x W h
  clear h
  go_enter Try.func63, Try.ntmps63
  go_wp2
  go_ret
  exact ⟨rfl, rfl⟩

def wholeB (x : Nat) : Bool := FloatKind.f64.format.order x (truncW x) == some .eq

theorem whole_num (x : Nat) (w : World) (h : okF x) :
    Calls Try.prog 47 #[.float .f64 x] w fun e w' => e = .returned (.bool (wholeB x)) ∧ w = w' := by
  go_enter Try.func47, Try.ntmps47
  go_wp2_with (go_at_call 63; refine (trunc_num x _ h).mono ?_; rintro e w' ⟨rfl, rfl⟩)
  go_ret
  exact ⟨rfl, rfl⟩

def geqB (x y : Nat) : Bool := FloatKind.f64.format.order x y == some .gt || FloatKind.f64.format.order x y == some .eq
def leqB (x y : Nat) : Bool := FloatKind.f64.format.order x y == some .lt || FloatKind.f64.format.order x y == some .eq
def lssB (x y : Nat) : Bool := FloatKind.f64.format.order x y == some .lt

/-- Is it a span? -/
def rightB (a b : Nat) : Bool := wholeB a && (wholeB b && (geqB a 0 && (geqB b a && leqB b 4845873199050653696)))

theorem right_num (a b : Nat) (w : World) (ha : okF a) (hb : okF b) :
    Calls Try.prog 29 #[.complex .f64 a b] w fun e w' => e = .returned (.bool (rightB a b)) ∧ w = w' := by
  have C1 := Lib.hid fun W => whole_num a W ha
  have C2 := Lib.hid fun W => whole_num b W hb
  clear ha hb
  go_enter Try.func29, Try.ntmps29
  go_wp2_with (go_at_call 47; (first | (with_reducible refine (C1.out _).mono ?_) | (with_reducible refine (C2.out _).mono ?_)); rintro e w' ⟨rfl, rfl⟩)
  all_goals (go_ret; exact ⟨congrArg (fun x => Ending.returned (Value.bool x)) (by simp [rightB, geqB, leqB, Bool.and_assoc, *]), rfl⟩)

/-! ### Spans, as pairs of whole numbers -/
abbrev Never : Nat := 9007199254740992

/-- A pair, perhaps none. -/
abbrev Sp := Option (Nat × Nat)

/-- The two words of a number that is that span, or none. -/
def CS (a b : Nat) : Sp → Prop
  | some (p, q) => p ≤ q ∧ q ≤ Never ∧ a = fo p ∧ b = fo q
  | none => okF a ∧ okF b ∧ rightB a b = false

theorem okF_fo (n : Nat) (h : n ≤ Never) : okF (fo n) := stands_nan (fo_read n h)
theorem trunc_fo (n : Nat) (h : n ≤ Never) : truncW (fo n) = fo n := by
  unfold truncW FloatKind.encode FloatKind.decode
  show double.write ((double.read (fo n)).integral .zero) = _
  rw [stands_integral (fo_read n h)]
  rfl
theorem whole_fo (n : Nat) (h : n ≤ Never) : wholeB (fo n) = true := by
  unfold wholeB
  rw [trunc_fo n h]
  show (double.order (fo n) (fo n) == some .eq) = true
  rw [fo_order n n h h]
  simp
theorem fo_zero' : (0 : Nat) = fo 0 := fo_zero.symm
theorem geq_fo (a b : Nat) (ha : a ≤ Never) (hb : b ≤ Never) : geqB (fo a) (fo b) = decide (b ≤ a) := by
  unfold geqB
  show (double.order (fo a) (fo b) == some .gt || double.order (fo a) (fo b) == some .eq) = _
  rw [fo_order a b ha hb]
  rcases Nat.lt_trichotomy a b with h | h | h
  · rw [Int.compare_eq_lt.2 (by omega)]
    have : ¬ b ≤ a := by omega
    simp [this]
  · rw [Int.compare_eq_eq.2 (by omega)]
    have : b ≤ a := by omega
    simp [this]
  · rw [Int.compare_eq_gt.2 (by omega)]
    have : b ≤ a := by omega
    simp [this]
theorem leq_fo (a b : Nat) (ha : a ≤ Never) (hb : b ≤ Never) : leqB (fo a) (fo b) = decide (a ≤ b) := by
  unfold leqB
  show (double.order (fo a) (fo b) == some .lt || double.order (fo a) (fo b) == some .eq) = _
  rw [fo_order a b ha hb]
  rcases Nat.lt_trichotomy a b with h | h | h
  · rw [Int.compare_eq_lt.2 (by omega)]
    have : a ≤ b := by omega
    simp [this]
  · rw [Int.compare_eq_eq.2 (by omega)]
    have : a ≤ b := by omega
    simp [this]
  · rw [Int.compare_eq_gt.2 (by omega)]
    have : ¬ a ≤ b := by omega
    simp [this]
theorem lss_fo (a b : Nat) (ha : a ≤ Never) (hb : b ≤ Never) : lssB (fo a) (fo b) = decide (a < b) := by
  unfold lssB
  show (double.order (fo a) (fo b) == some .lt) = _
  rw [fo_order a b ha hb]
  rcases Nat.lt_trichotomy a b with h | h | h
  · rw [Int.compare_eq_lt.2 (by omega)]
    simp [h]
  · rw [Int.compare_eq_eq.2 (by omega)]
    have : ¬ a < b := by omega
    simp [this]
  · rw [Int.compare_eq_gt.2 (by omega)]
    have : ¬ a < b := by omega
    simp [this]
theorem eq_fo (a b : Nat) (ha : a ≤ Never) (hb : b ≤ Never) : (FloatKind.f64.format.order (fo a) (fo b) == some .eq) = decide (a = b) := by
  show (double.order (fo a) (fo b) == some .eq) = _
  rw [fo_order a b ha hb]
  rcases Nat.lt_trichotomy a b with h | h | h
  · rw [Int.compare_eq_lt.2 (by omega)]
    have : ¬ a = b := by omega
    simp [this]
  · rw [Int.compare_eq_eq.2 (by omega)]
    simp [h]
  · rw [Int.compare_eq_gt.2 (by omega)]
    have : ¬ a = b := by omega
    simp [this]
theorem right_fo (a b : Nat) (ha : a ≤ Never) (hb : b ≤ Never) : rightB (fo a) (fo b) = decide (a ≤ b) := by
  unfold rightB
  rw [whole_fo a ha, whole_fo b hb, geq_fo b a hb ha]
  have e1 : geqB (fo a) 0 = true := by
    have := geq_fo a 0 ha (by decide)
    rw [fo_zero] at this
    rw [this]; simp
  have e2 : leqB (fo b) 4845873199050653696 = true := by
    have := leq_fo b Never hb (by decide)
    rw [fo_top] at this
    rw [this]; simpa using hb
  rw [e1, e2]
  simp
theorem CS.right {a b : Nat} {s : Sp} (h : CS a b s) : okF a ∧ okF b ∧ rightB a b = s.isSome := by
  cases s with
  | none => exact ⟨h.1, h.2.1, h.2.2⟩
  | some x =>
    obtain ⟨p, q⟩ := x
    obtain ⟨h1, h2, rfl, rfl⟩ := h
    exact ⟨okF_fo p (by omega), okF_fo q h2, by rw [right_fo p q (by omega) h2]; simp [h1]⟩

/-- Is the one over ahead of the other one? -/
def befo : Sp → Sp → Bool
  | some (_, q), some (r, _) => decide (q < r)
  | _, _ => false
def meet (s t : Sp) : Bool := s.isSome && (t.isSome && (!befo s t && !befo t s))
theorem CS.befo {a b c d : Nat} {s t : Sp} (h : CS a b s) (k : CS c d t) : (rightB a b && (rightB c d && lssB b c)) = befo s t := by
  rw [h.right.2.2, k.right.2.2]
  rcases s with _ | ⟨p, q⟩
  · rfl
  · rcases t with _ | ⟨r, u⟩
    · rfl
    · obtain ⟨h1, h2, rfl, rfl⟩ := h
      obtain ⟨k1, k2, rfl, rfl⟩ := k
      rw [lss_fo q r h2 (by omega)]
      rfl

theorem before_num (a b c d : Nat) (s t : Sp) (w : World) (h : CS a b s) (k : CS c d t) :
    Calls Try.prog 17 #[.complex .f64 a b, .complex .f64 c d] w fun e w' => e = .returned (.bool (befo s t)) ∧ w = w' := by
  have C1 := Lib.hid fun W => right_num a b W h.right.1 h.right.2.1
  have C2 := Lib.hid fun W => right_num c d W k.right.1 k.right.2.1
  have H := Lib.hid (h.befo k)
  clear h k
  go_enter Try.func17, Try.ntmps17
  go_wp2_with (go_at_call 29; (first | (with_reducible refine (C1.out _).mono ?_) | (with_reducible refine (C2.out _).mono ?_)); rintro e w' ⟨rfl, rfl⟩)
  all_goals (go_ret; exact ⟨congrArg (fun x => Ending.returned (Value.bool x)) (by rw [← H.out]; simp [lssB, *]), rfl⟩)


theorem val_fo (n : Nat) (h : n ≤ Never) : floatToIntVal .f64 (fo n) .i64 = some (n : Int) := by
  unfold floatToIntVal
  have e : (FloatKind.f64.decode (fo n)).toInt .zero = some (n : Int) := by
    unfold Datum.toInt
    show (match (double.read (fo n)).integral .zero with | .number s m _ => some (signed s m 0) | _ => none) = _
    rw [stands_integral (fo_read n h)]
    simp [signed]
  rw [e]
  have hn : n ≤ 9007199254740992 := h
  have m1 : IntKind.i64.min = -9223372036854775808 := by decide
  have m2 : IntKind.i64.max = 9223372036854775807 := by decide
  exact if_pos ⟨by rw [m1]; omega, by rw [m2]; omega⟩
theorem ofInt_fo (n : Nat) : floatOfInt .f64 (n : Int) = fo n := by
  unfold floatOfInt FloatKind.nearest FloatKind.encode fo
  have h : decide ((n : Int) < 0) = false := by simp
  rw [h]
  rfl

def bOf : Sp → Nat
  | some (p, _) => p
  | none => 0
def eOf : Sp → Nat
  | some (_, q) => q
  | none => 0
/-- The number that is that span; 0 for none. -/
def cS : Sp → Value
  | some (p, q) => .complex .f64 (fo p) (fo q)
  | none => .complex .f64 0 0

theorem begin_num (a b : Nat) (s : Sp) (w : World) (h : CS a b s) :
    Calls Try.prog 27 #[.complex .f64 a b] w fun e w' => e = .returned (.int .i64 (bOf s)) ∧ w = w' := by
  have hr := h.right
  have C1 := Lib.hid fun W => right_num a b W hr.1 hr.2.1
  have H := Lib.hid hr.2.2
  rcases s with _ | ⟨p, q⟩
  · clear h hr
    go_enter Try.func27, Try.ntmps27
    go_wp2_with (go_at_call 29; (with_reducible refine (C1.out _).mono ?_); rintro e w' ⟨rfl, rfl⟩; rw [H.out, Option.isSome_none])
    go_ret
    exact ⟨rfl, rfl⟩
  · obtain ⟨h1, h2, rfl, rfl⟩ := h
    have hc := fun W => run_convert_float_int (P := Try.prog) W 88 2 .f64 .i64 (fo p) p (by rw [Try.underlying88]; rfl) Try.underlying2 (val_fo p (by omega))
    clear hr
    go_enter Try.func27, Try.ntmps27
    go_wp2_with (go_at_call 29; (with_reducible refine (C1.out _).mono ?_); rintro e w' ⟨rfl, rfl⟩; rw [H.out, Option.isSome_some])
    go_ret
    exact ⟨rfl, rfl⟩

theorem end_num (a b : Nat) (s : Sp) (w : World) (h : CS a b s) :
    Calls Try.prog 28 #[.complex .f64 a b] w fun e w' => e = .returned (.int .i64 (eOf s)) ∧ w = w' := by
  have hr := h.right
  have C1 := Lib.hid fun W => right_num a b W hr.1 hr.2.1
  have H := Lib.hid hr.2.2
  rcases s with _ | ⟨p, q⟩
  · clear h hr
    go_enter Try.func28, Try.ntmps28
    go_wp2_with (go_at_call 29; (with_reducible refine (C1.out _).mono ?_); rintro e w' ⟨rfl, rfl⟩; rw [H.out, Option.isSome_none])
    go_ret
    exact ⟨rfl, rfl⟩
  · obtain ⟨h1, h2, rfl, rfl⟩ := h
    have hc := fun W => run_convert_float_int (P := Try.prog) W 88 2 .f64 .i64 (fo q) q (by rw [Try.underlying88]; rfl) Try.underlying2 (val_fo q (by omega))
    clear hr
    go_enter Try.func28, Try.ntmps28
    go_wp2_with (go_at_call 29; (with_reducible refine (C1.out _).mono ?_); rintro e w' ⟨rfl, rfl⟩; rw [H.out, Option.isSome_some])
    go_ret
    exact ⟨rfl, rfl⟩

theorem CS.some {p q : Nat} (h : p ≤ q) (k : q ≤ Never) : CS (fo p) (fo q) (some (p, q)) := ⟨h, k, rfl, rfl⟩
end Go.Proofs.Ytkijjgdcbgmglaa
