/- Plain facts on double-precision words: the word of a whole number from 0 to 2^53; their order, their integral part. No program in sight. -/
import Derived.Laws.FloatArith
import Derived.Test.YtkijjgdcbgmglaaProg
import Derived.Laws.Externs
import Derived.WalkKit
import Derived.WalkLawsBesides
import Derived.Outline
import Derived.Lib.Hide
import Derived.Test.YtkijjgdcbgmglaaHRight
import Derived.Test.YtkijjgdcbgmglaaHAhead
import Derived.Laws.Cover2
/-! Plain facts on double-precision words: the word of a whole number from 0 to 2^53; their order, their integral part. No program in sight. -/
namespace Go.Proofs.Ytkijjgdcbgmglaa
open Ieee

/-- The word of a whole number. -/
def fo (n : Nat) : Nat := double.nearest false n 0

theorem dbl_least : double.leastPlace = -1074 := by decide
theorem dbl_binade : double.binade = 4503599627370496 := by decide
theorem dbl_inf : double.infRung = 9218868437227405312 := by decide
theorem dbl_sign : double.signWeight = 9223372036854775808 := by decide

theorem cut_zero_drop (way : Toward) (n : Nat) : way.cut false n 0 = n := by
  unfold Toward.cut
  simp
  cases way <;> simp [Nat.mod_one]

/-- The least place, as a natural number. -/
def lp : Nat := 1074
theorem lp_eq : (lp : Int) = 1074 := rfl

/-- What the word of a whole number stands for. -/
structure Stands (d : Datum) (n : Nat) : Prop where
  ex : ∃ m p, d = .number false m p ∧ (-1074 : Int) ≤ p ∧ m * 2 ^ p.toNat = n * 2 ^ (-p).toNat

theorem fo_small (n : Nat) (h0 : 0 < n) (h : n < 9007199254740992) :
    fo n = (n.log2 + 1022) * 4503599627370496 + n * 2 ^ (52 - n.log2) ∧ n.log2 ≤ 52 ∧ 4503599627370496 ≤ n * 2 ^ (52 - n.log2) ∧ n * 2 ^ (52 - n.log2) < 9007199254740992 := by
  have hl : n.log2 ≤ 52 := by
    have : n.log2 < 53 := (Nat.log2_lt (by omega)).2 (by simpa using h)
    omega
  have lo : 2 ^ n.log2 ≤ n := Nat.log2_self_le (by omega)
  have hi : n < 2 ^ (n.log2 + 1) := Nat.lt_log2_self
  have e1 : 2 ^ n.log2 * 2 ^ (52 - n.log2) = 4503599627370496 := by rw [← Nat.pow_add, show n.log2 + (52 - n.log2) = 52 from by omega]
  have e2 : 2 ^ (n.log2 + 1) * 2 ^ (52 - n.log2) = 9007199254740992 := by rw [← Nat.pow_add, show n.log2 + 1 + (52 - n.log2) = 53 from by omega]
  have b1 : 4503599627370496 ≤ n * 2 ^ (52 - n.log2) := by rw [← e1]; exact Nat.mul_le_mul_right _ lo
  have b2 : n * 2 ^ (52 - n.log2) < 9007199254740992 := by rw [← e2]; exact Nat.mul_lt_mul_of_pos_right hi (Nat.two_pow_pos _)
  refine ⟨?_, hl, b1, b2⟩
  unfold fo Format.nearest
  rw [if_neg (by omega)]
  have hlast : max ((0 : Int) + (n.log2 : Int) - (double.fractionBits : Int)) (-1074) = (n.log2 : Int) - 52 := by
    simp only [double]; omega
  simp only [dbl_least, dbl_binade, dbl_inf]
  rw [hlast]
  have t1 : ((0 : Int) - ((n.log2 : Int) - 52)).toNat = 52 - n.log2 := by omega
  have t2 : ((n.log2 : Int) - 52 - 0).toNat = 0 := by omega
  have t3 : ((n.log2 : Int) - 52 - (-1074)).toNat = n.log2 + 1022 := by omega
  rw [t1, t2, t3, cut_zero_drop, Nat.shiftLeft_eq]
  unfold Format.word
  simp only [Bool.false_eq_true, if_false]
  refine Nat.min_eq_left ?_
  have : (n.log2 + 1022) * 4503599627370496 ≤ 1074 * 4503599627370496 := Nat.mul_le_mul_right _ (by omega)
  exact Nat.le_trans (Nat.add_le_add this (Nat.le_of_lt b2)) (by decide)

theorem fo_top : fo 9007199254740992 = 4845873199050653696 := by decide +kernel
theorem fo_zero : fo 0 = 0 := by decide +kernel

theorem fo_read (n : Nat) (h : n ≤ 9007199254740992) : Stands (double.read (fo n)) n := by
  rcases Nat.eq_zero_or_pos n with rfl | h0
  · rw [fo_zero]
    exact ⟨0, -1074, by decide +kernel, by decide, by rw [Nat.zero_mul, Nat.zero_mul]⟩
  rcases Nat.lt_or_ge n 9007199254740992 with hlt | hge
  · obtain ⟨e, hl, b1, b2⟩ := fo_small n h0 hlt
    rw [e]
    have k1 : (n.log2 + 1022) * 4503599627370496 ≤ 1074 * 4503599627370496 := Nat.mul_le_mul_right _ (by omega)
    generalize hq : n * 2 ^ (52 - n.log2) = q at *
    have hd : ((n.log2 + 1022) * 4503599627370496 + q) / 4503599627370496 = n.log2 + 1023 := by omega
    have hm : ((n.log2 + 1022) * 4503599627370496 + q) % 4503599627370496 = q - 4503599627370496 := by omega
    refine ⟨q, (n.log2 : Int) - 52, ?_, by omega, ?_⟩
    · unfold Format.read
      simp only [dbl_least, dbl_binade, dbl_inf, dbl_sign]
      have m0 : ((n.log2 + 1022) * 4503599627370496 + q) % 9223372036854775808 = (n.log2 + 1022) * 4503599627370496 + q := Nat.mod_eq_of_lt (by omega)
      have m1 : ((n.log2 + 1022) * 4503599627370496 + q) / 9223372036854775808 = 0 := Nat.div_eq_of_lt (by omega)
      rw [m0, m1, if_neg (by omega), if_pos (by omega), hd, hm]
      have f1 : 4503599627370496 + (q - 4503599627370496) = q := by omega
      have f2 : (-1074 : Int) + ((n.log2 + 1023 - 1 : Nat) : Int) = (n.log2 : Int) - 52 := by omega
      rw [f1, f2]
      rfl
    · have g1 : ((n.log2 : Int) - 52).toNat = 0 := by omega
      have g2 : (-((n.log2 : Int) - 52)).toNat = 52 - n.log2 := by omega
      rw [g1, g2, hq, Nat.pow_zero, Nat.mul_one]
  · have : n = 9007199254740992 := by omega
    subst this
    rw [fo_top]
    exact ⟨4503599627370496, 1, by decide +kernel, by decide, by decide +kernel⟩

/-- The equation, at the least place. -/
theorem scaled {m a : Nat} {p : Int} (hp : (-1074 : Int) ≤ p) (h : m * 2 ^ p.toNat = a * 2 ^ (-p).toNat) : m * 2 ^ (p + (lp : Int)).toNat = a * 2 ^ lp := by
  have hl := lp_eq
  rcases Int.le_total 0 p with h0 | h0
  · have e1 : (p + (lp : Int)).toNat = p.toNat + lp := by omega
    have e2 : (-p).toNat = 0 := by omega
    rw [e2, Nat.pow_zero, Nat.mul_one] at h
    rw [e1, Nat.pow_add, ← Nat.mul_assoc, h]
  · have e1 : p.toNat = 0 := by omega
    have e2 : lp = (-p).toNat + (p + (lp : Int)).toNat := by omega
    rw [e1, Nat.pow_zero, Nat.mul_one] at h
    rw [h]
    conv => rhs; rw [e2]
    rw [Nat.pow_add, ← Nat.mul_assoc]

theorem compare_scale (a b c : Nat) (h : 0 < c) : compare ((a * c : Nat) : Int) ((b * c : Nat) : Int) = compare (a : Int) (b : Int) := by
  rcases Nat.lt_trichotomy a b with hl | rfl | hl
  · have : a * c < b * c := Nat.mul_lt_mul_of_pos_right hl h
    rw [Int.compare_eq_lt.2 (by omega), Int.compare_eq_lt.2 (by omega)]
  · rw [Int.compare_eq_eq.2 rfl, Int.compare_eq_eq.2 rfl]
  · have : b * c < a * c := Nat.mul_lt_mul_of_pos_right hl h
    rw [Int.compare_eq_gt.2 (by omega), Int.compare_eq_gt.2 (by omega)]

theorem stands_order {d e : Datum} {a b : Nat} (hd : Stands d a) (he : Stands e b) : d.order e = some (compare (a : Int) (b : Int)) := by
  obtain ⟨m, p, rfl, hp, hm⟩ := hd
  obtain ⟨k, q, rfl, hq, hk⟩ := he
  have hm := scaled hp hm
  have hk := scaled hq hk
  simp only [Datum.order, signed, Bool.false_eq_true, if_false, Nat.shiftLeft_eq]
  congr 1
  generalize hb : min p q = s
  have s1 : (-1074 : Int) ≤ s := by omega
  have x1 : m * 2 ^ (p - s).toNat * 2 ^ (s + (lp : Int)).toNat = a * 2 ^ lp := by
    rw [← hm, Nat.mul_assoc, ← Nat.pow_add]; congr 2; have := lp_eq; omega
  have x2 : k * 2 ^ (q - s).toNat * 2 ^ (s + (lp : Int)).toNat = b * 2 ^ lp := by
    rw [← hk, Nat.mul_assoc, ← Nat.pow_add]; congr 2; have := lp_eq; omega
  rw [← compare_scale (m * 2 ^ (p - s).toNat) (k * 2 ^ (q - s).toNat) (2 ^ (s + (lp : Int)).toNat) (Nat.two_pow_pos _), x1, x2, compare_scale _ _ _ (Nat.two_pow_pos _)]

theorem log2_shift (n k : Nat) (h : 0 < n) : k ≤ (n * 2 ^ k).log2 := by
  have hne : n * 2 ^ k ≠ 0 := by have := Nat.two_pow_pos k; exact Nat.mul_ne_zero (by omega) (by omega)
  rcases Nat.lt_or_ge (n * 2 ^ k).log2 k with hlt | hge
  · have h1 : n * 2 ^ k < 2 ^ ((n * 2 ^ k).log2 + 1) := Nat.lt_log2_self
    have h2 : 2 ^ ((n * 2 ^ k).log2 + 1) ≤ 2 ^ k := Nat.pow_le_pow_right (by decide) (by omega)
    have h3 : 1 * 2 ^ k ≤ n * 2 ^ k := Nat.mul_le_mul_right _ h
    omega
  · exact hge

theorem cut_zero_shift (n k : Nat) : Toward.zero.cut false (n * 2 ^ k) k = n := by
  unfold Toward.cut
  dsimp only
  simp only [Bool.toNat_false, Nat.add_zero, Nat.one_shiftLeft]
  rcases Nat.eq_zero_or_pos n with rfl | h
  · simp
  · have := log2_shift n k h
    rw [Nat.min_eq_left (by omega)]
    exact Nat.mul_div_cancel _ (Nat.two_pow_pos _)

theorem stands_integral {d : Datum} {n : Nat} (hd : Stands d n) : d.integral .zero = .number false n 0 := by
  obtain ⟨m, p, rfl, hp, hm⟩ := hd
  simp only [Datum.integral, Nat.shiftLeft_eq]
  rcases Int.le_total 0 p with h0 | h0
  · have e2 : (-p).toNat = 0 := by omega
    rw [e2, Nat.pow_zero, Nat.mul_one] at hm
    rw [e2, hm, cut_zero_drop]
  · have e1 : p.toNat = 0 := by omega
    rw [e1, Nat.pow_zero, Nat.mul_one] at hm
    rw [e1, hm, Nat.pow_zero, Nat.mul_one, cut_zero_shift]

theorem stands_nan {d : Datum} {n : Nat} (hd : Stands d n) : d.isNaN = false := by
  obtain ⟨m, p, rfl, _⟩ := hd
  rfl

theorem stands_neg {d : Datum} {n : Nat} (hd : Stands d n) : d.neg = false := by
  obtain ⟨m, p, rfl, _⟩ := hd
  rfl

theorem fo_order (a b : Nat) (ha : a ≤ 9007199254740992) (hb : b ≤ 9007199254740992) : double.order (fo a) (fo b) = some (compare (a : Int) (b : Int)) :=
  stands_order (fo_read a ha) (fo_read b hb)

end Go.Proofs.Ytkijjgdcbgmglaa

/-! Walks of package span: what each of its functions computes. -/
namespace Go.Proofs.Ytkijjgdcbgmglaa
open Go.RowKit Ieee

/-- The integral part of a word that is no NaN. -/
def truncW (x : Nat) : Nat := FloatKind.f64.encode ((FloatKind.f64.decode x).integral .zero)

/-- Is it no NaN? -/
def okF (x : Nat) : Prop := (FloatKind.f64.decode x).isNaN = false

theorem ext_trunc (x : Nat) (w : World) (h : okF x) : (Extern.MathFloor.toIntegral "math.archTrunc" .zero #[.float .f64 x]).run Try.prog w = .ok (.float .f64 (truncW x)) w := by
  unfold truncW
  unfold okF at h
  change Sem.run Try.prog (match FloatKind.f64.decode x with
    | .nan s t =>
      if FloatKind.f64.format.quiet t = t then pure (Value.float .f64 x) else do
      let kept ← choose (.extern "math.Floor,Ceil,Trunc,RoundToEven.signallingNaN kept" 2)
      pure (Value.float .f64 (if kept == 1 then x else FloatKind.f64.encode (.nan s (FloatKind.f64.format.quiet t))))
    | d => pure (Value.float .f64 (FloatKind.f64.encode (d.integral .zero)))) w = _
  cases hd : FloatKind.f64.decode x with
  | nan s t => rw [hd] at h; cases h
  | number s m p => rfl
  | infinity s => rfl

theorem run_archTrunc (x : Nat) (w : World) (h : okF x) : (callFunc 71 #[.float .f64 x]).run Try.prog w = .ok (.value (.float .f64 (truncW x))) w := by
  rw [run_callFunc_extern (e := Extern.MathFloor.toIntegral "math.archTrunc" .zero) (fn := Try.f71) rfl (by kernel_rfl) (by kernel_rfl) (by kernel_rfl) (by kernel_rfl), ext_trunc x w h]
  rfl

theorem trunc_num (x : Nat) (w : World) (h : okF x) :
    Calls Try.prog 63 #[.float .f64 x] w fun e w' => e = .returned (.float .f64 (truncW x)) ∧ w = w' := by
  have ht := fun W => run_archTrunc x W h
  clear h
  go_enter Try.func63, Try.ntmps63
  go_wp2
  go_ret
  exact ⟨rfl, rfl⟩

def wholeB (x : Nat) : Bool := FloatKind.f64.format.order x (truncW x) == some .eq

theorem whole_num (x : Nat) (w : World) (h : okF x) :
    Calls Try.prog 47 #[.float .f64 x] w fun e w' => e = .returned (.bool (wholeB x)) ∧ w = w' := by
  go_enter Try.func47, Try.ntmps47
  go_wp2_with (go_at_call 63; refine (trunc_num x _ h).mono ?_; rintro e w' ⟨rfl, rfl⟩)
  go_ret
  exact ⟨rfl, rfl⟩

def geqB (x y : Nat) : Bool := FloatKind.f64.format.order x y == some .gt || FloatKind.f64.format.order x y == some .eq
def leqB (x y : Nat) : Bool := FloatKind.f64.format.order x y == some .lt || FloatKind.f64.format.order x y == some .eq
def lssB (x y : Nat) : Bool := FloatKind.f64.format.order x y == some .lt

/-- Is it a span? -/
def rightB (a b : Nat) : Bool := wholeB a && (wholeB b && (geqB a 0 && (geqB b a && leqB b 4845873199050653696)))

theorem right_num (a b : Nat) (w : World) (ha : okF a) (hb : okF b) :
    Calls Try.prog 29 #[.complex .f64 a b] w fun e w' => e = .returned (.bool (rightB a b)) ∧ w = w' := by
  have C1 := Lib.hid fun W => whole_num a W ha
  have C2 := Lib.hid fun W => whole_num b W hb
  clear ha hb
  go_enter Try.func29, Try.ntmps29
  go_wp2_with (go_at_call 47; (first | (with_reducible refine (C1.out _).mono ?_) | (with_reducible refine (C2.out _).mono ?_)); rintro e w' ⟨rfl, rfl⟩)
  all_goals (go_ret; exact ⟨congrArg (fun x => Ending.returned (Value.bool x)) (by simp [rightB, geqB, leqB, Bool.and_assoc, *]), rfl⟩)

/-! ### Spans, as pairs of whole numbers -/
abbrev Never : Nat := 9007199254740992

/-- A pair, perhaps none. -/
abbrev Sp := Option (Nat × Nat)

/-- The two words of a number that is that span, or none. -/
def CS (a b : Nat) : Sp → Prop
  | some (p, q) => p ≤ q ∧ q ≤ Never ∧ a = fo p ∧ b = fo q
  | none => okF a ∧ okF b ∧ rightB a b = false

theorem okF_fo (n : Nat) (h : n ≤ Never) : okF (fo n) := stands_nan (fo_read n h)
theorem trunc_fo (n : Nat) (h : n ≤ Never) : truncW (fo n) = fo n := by
  unfold truncW FloatKind.encode FloatKind.decode
  show double.write ((double.read (fo n)).integral .zero) = _
  rw [stands_integral (fo_read n h)]
  rfl
theorem whole_fo (n : Nat) (h : n ≤ Never) : wholeB (fo n) = true := by
  unfold wholeB
  rw [trunc_fo n h]
  show (double.order (fo n) (fo n) == some .eq) = true
  rw [fo_order n n h h]
  simp
theorem fo_zero' : (0 : Nat) = fo 0 := fo_zero.symm
theorem geq_fo (a b : Nat) (ha : a ≤ Never) (hb : b ≤ Never) : geqB (fo a) (fo b) = decide (b ≤ a) := by
  unfold geqB
  show (double.order (fo a) (fo b) == some .gt || double.order (fo a) (fo b) == some .eq) = _
  rw [fo_order a b ha hb]
  rcases Nat.lt_trichotomy a b with h | h | h
  · rw [Int.compare_eq_lt.2 (by omega)]
    have : ¬ b ≤ a := by omega
    simp [this]
  · rw [Int.compare_eq_eq.2 (by omega)]
    have : b ≤ a := by omega
    simp [this]
  · rw [Int.compare_eq_gt.2 (by omega)]
    have : b ≤ a := by omega
    simp [this]
theorem leq_fo (a b : Nat) (ha : a ≤ Never) (hb : b ≤ Never) : leqB (fo a) (fo b) = decide (a ≤ b) := by
  unfold leqB
  show (double.order (fo a) (fo b) == some .lt || double.order (fo a) (fo b) == some .eq) = _
  rw [fo_order a b ha hb]
  rcases Nat.lt_trichotomy a b with h | h | h
  · rw [Int.compare_eq_lt.2 (by omega)]
    have : a ≤ b := by omega
    simp [this]
  · rw [Int.compare_eq_eq.2 (by omega)]
    have : a ≤ b := by omega
    simp [this]
  · rw [Int.compare_eq_gt.2 (by omega)]
    have : ¬ a ≤ b := by omega
    simp [this]
theorem lss_fo (a b : Nat) (ha : a ≤ Never) (hb : b ≤ Never) : lssB (fo a) (fo b) = decide (a < b) := by
  unfold lssB
  show (double.order (fo a) (fo b) == some .lt) = _
  rw [fo_order a b ha hb]
  rcases Nat.lt_trichotomy a b with h | h | h
  · rw [Int.compare_eq_lt.2 (by omega)]
    simp [h]
  · rw [Int.compare_eq_eq.2 (by omega)]
    have : ¬ a < b := by omega
    simp [this]
  · rw [Int.compare_eq_gt.2 (by omega)]
    have : ¬ a < b := by omega
    simp [this]
theorem eq_fo (a b : Nat) (ha : a ≤ Never) (hb : b ≤ Never) : (FloatKind.f64.format.order (fo a) (fo b) == some .eq) = decide (a = b) := by
  show (double.order (fo a) (fo b) == some .eq) = _
  rw [fo_order a b ha hb]
  rcases Nat.lt_trichotomy a b with h | h | h
  · rw [Int.compare_eq_lt.2 (by omega)]
    have : ¬ a = b := by omega
    simp [this]
  · rw [Int.compare_eq_eq.2 (by omega)]
    simp [h]
  · rw [Int.compare_eq_gt.2 (by omega)]
    have : ¬ a = b := by omega
    simp [this]
theorem right_fo (a b : Nat) (ha : a ≤ Never) (hb : b ≤ Never) : rightB (fo a) (fo b) = decide (a ≤ b) := by
  unfold rightB
  rw [whole_fo a ha, whole_fo b hb, geq_fo b a hb ha]
  have e1 : geqB (fo a) 0 = true := by
    have := geq_fo a 0 ha (by decide)
    rw [fo_zero] at this
    rw [this]; simp
  have e2 : leqB (fo b) 4845873199050653696 = true := by
    have := leq_fo b Never hb (by decide)
    rw [fo_top] at this
    rw [this]; simpa using hb
  rw [e1, e2]
  simp
theorem CS.right {a b : Nat} {s : Sp} (h : CS a b s) : okF a ∧ okF b ∧ rightB a b = s.isSome := by
  cases s with
  | none => exact ⟨h.1, h.2.1, h.2.2⟩
  | some x =>
    obtain ⟨p, q⟩ := x
    obtain ⟨h1, h2, rfl, rfl⟩ := h
    exact ⟨okF_fo p (by omega), okF_fo q h2, by rw [right_fo p q (by omega) h2]; simp [h1]⟩

/-- Is the one over ahead of the other one? -/
def befo : Sp → Sp → Bool
  | some (_, q), some (r, _) => decide (q < r)
  | _, _ => false
def meet (s t : Sp) : Bool := s.isSome && (t.isSome && (!befo s t && !befo t s))
theorem CS.befo {a b c d : Nat} {s t : Sp} (h : CS a b s) (k : CS c d t) : (rightB a b && (rightB c d && lssB b c)) = befo s t := by
  rw [h.right.2.2, k.right.2.2]
  rcases s with _ | ⟨p, q⟩
  · rfl
  · rcases t with _ | ⟨r, u⟩
    · rfl
    · obtain ⟨h1, h2, rfl, rfl⟩ := h
      obtain ⟨k1, k2, rfl, rfl⟩ := k
      rw [lss_fo q r h2 (by omega)]
      rfl

theorem before_num (a b c d : Nat) (s t : Sp) (w : World) (h : CS a b s) (k : CS c d t) :
    Calls Try.prog 17 #[.complex .f64 a b, .complex .f64 c d] w fun e w' => e = .returned (.bool (befo s t)) ∧ w = w' := by
  have C1 := Lib.hid fun W => right_num a b W h.right.1 h.right.2.1
  have C2 := Lib.hid fun W => right_num c d W k.right.1 k.right.2.1
  have H := Lib.hid (h.befo k)
  clear h k
  go_enter Try.func17, Try.ntmps17
  go_wp2_with (go_at_call 29; (first | (with_reducible refine (C1.out _).mono ?_) | (with_reducible refine (C2.out _).mono ?_)); rintro e w' ⟨rfl, rfl⟩)
  all_goals (go_ret; exact ⟨congrArg (fun x => Ending.returned (Value.bool x)) (by rw [← H.out]; simp [lssB, *]), rfl⟩)


theorem val_fo (n : Nat) (h : n ≤ Never) : floatToIntVal .f64 (fo n) .i64 = some (n : Int) := by
  unfold floatToIntVal
  have e : (FloatKind.f64.decode (fo n)).toInt .zero = some (n : Int) := by
    unfold Datum.toInt
    show (match (double.read (fo n)).integral .zero with | .number s m _ => some (signed s m 0) | _ => none) = _
    rw [stands_integral (fo_read n h)]
    simp [signed]
  rw [e]
  have hn : n ≤ 9007199254740992 := h
  have m1 : IntKind.i64.min = -9223372036854775808 := by decide
  have m2 : IntKind.i64.max = 9223372036854775807 := by decide
  exact if_pos ⟨by rw [m1]; omega, by rw [m2]; omega⟩
theorem ofInt_fo (n : Nat) : floatOfInt .f64 (n : Int) = fo n := by
  unfold floatOfInt FloatKind.nearest FloatKind.encode fo
  have h : decide ((n : Int) < 0) = false := by simp
  rw [h]
  rfl

def bOf : Sp → Nat
  | some (p, _) => p
  | none => 0
def eOf : Sp → Nat
  | some (_, q) => q
  | none => 0
/-- The number that is that span; 0 for none. -/
def cS : Sp → Value
  | some (p, q) => .complex .f64 (fo p) (fo q)
  | none => .complex .f64 0 0

theorem begin_num (a b : Nat) (s : Sp) (w : World) (h : CS a b s) :
    Calls Try.prog 27 #[.complex .f64 a b] w fun e w' => e = .returned (.int .i64 (bOf s)) ∧ w = w' := by
  have hr := h.right
  have C1 := Lib.hid fun W => right_num a b W hr.1 hr.2.1
  have H := Lib.hid hr.2.2
  rcases s with _ | ⟨p, q⟩
  · clear h hr
    go_enter Try.func27, Try.ntmps27
    go_wp2_with (go_at_call 29; (with_reducible refine (C1.out _).mono ?_); rintro e w' ⟨rfl, rfl⟩; rw [H.out, Option.isSome_none])
    go_ret
    exact ⟨rfl, rfl⟩
  · obtain ⟨h1, h2, rfl, rfl⟩ := h
    have hc := fun W => run_convert_float_int (P := Try.prog) W 88 2 .f64 .i64 (fo p) p (by rw [Try.underlying88]; rfl) Try.underlying2 (val_fo p (by omega))
    clear hr
    go_enter Try.func27, Try.ntmps27
    go_wp2_with (go_at_call 29; (with_reducible refine (C1.out _).mono ?_); rintro e w' ⟨rfl, rfl⟩; rw [H.out, Option.isSome_some])
    go_ret
    exact ⟨rfl, rfl⟩

theorem end_num (a b : Nat) (s : Sp) (w : World) (h : CS a b s) :
    Calls Try.prog 28 #[.complex .f64 a b] w fun e w' => e = .returned (.int .i64 (eOf s)) ∧ w = w' := by
  have hr := h.right
  have C1 := Lib.hid fun W => right_num a b W hr.1 hr.2.1
  have H := Lib.hid hr.2.2
  rcases s with _ | ⟨p, q⟩
  · clear h hr
    go_enter Try.func28, Try.ntmps28
    go_wp2_with (go_at_call 29; (with_reducible refine (C1.out _).mono ?_); rintro e w' ⟨rfl, rfl⟩; rw [H.out, Option.isSome_none])
    go_ret
    exact ⟨rfl, rfl⟩
  · obtain ⟨h1, h2, rfl, rfl⟩ := h
    have hc := fun W => run_convert_float_int (P := Try.prog) W 88 2 .f64 .i64 (fo q) q (by rw [Try.underlying88]; rfl) Try.underlying2 (val_fo q (by omega))
    clear hr
    go_enter Try.func28, Try.ntmps28
    go_wp2_with (go_at_call 29; (with_reducible refine (C1.out _).mono ?_); rintro e w' ⟨rfl, rfl⟩; rw [H.out, Option.isSome_some])
    go_ret
    exact ⟨rfl, rfl⟩

theorem CS.some {p q : Nat} (h : p ≤ q) (k : q ≤ Never) : CS (fo p) (fo q) (some (p, q)) := ⟨h, k, rfl, rfl⟩
end Go.Proofs.Ytkijjgdcbgmglaa

/-! From when to when each was, by hand. -/
namespace Go.Proofs.Ytkijjgdcbgmglaa.Q
open Go.RowKit Go.Lib Go.Maps Go.Proofs.Ytkijjgdcbgmglaa Go.Proofs.YtkijjgdcbgmglaaW.PrintWords Go.Proofs.YtkijjgdcbgmglaaW.PrintLast Go.Proofs.YtkijjgdcbgmglaaW.PrintMore
set_option linter.unusedVariables false
set_option linter.unusedSimpArgs false
/-- When it began, when it was over. -/
structure LifeT (n : Int) (l : Life) : Prop where
  b0 : 0 ≤ l.beg
  b1 : l.beg < n
  e : l.fin = -1 ∧ l.com = false ∨ l.beg < l.fin ∧ l.fin < n
theorem LifeT.more {n m : Int} {l : Life} (h : LifeT n l) (k : n ≤ m) : LifeT m l := ⟨h.b0, by have := h.b1; omega, by rcases h.e with h | h; exact .inl h; exact .inr ⟨h.1, by omega⟩⟩
theorem stepL_t {l : Life} {n m : Int} {e : S44} (h : LifeT m l) : LifeT m (stepL l n e).1 := by
  unfold stepL
  split
  · exact h
  split
  · exact ⟨h.b0, h.b1, h.e⟩
  split
  · exact ⟨h.b0, h.b1, h.e⟩
  · exact h
theorem takeL_t {all : List Life} {n : Int} {e : S44} (h0 : 0 ≤ n) (h : ∀ l ∈ all, LifeT n l) : ∀ l ∈ (takeL all n e).1, LifeT (n + 1) l := by
  have hm : ∀ l ∈ all, LifeT (n + 1) l := fun l hl => (h l hl).more (by omega)
  unfold takeL
  split
  · intro l hl
    rcases List.mem_append.1 hl with h1 | h1
    · exact hm l h1
    · obtain rfl := List.mem_singleton.1 h1
      exact ⟨h0, by show n < n + 1; omega, .inl ⟨rfl, rfl⟩⟩
  split
  · exact hm
  split
  · exact hm
  rename_i l0 hl0
  have h1 := h l0 (List.mem_of_getElem? hl0)
  have h2 := hm l0 (List.mem_of_getElem? hl0)
  split
  · exact hm
  split
  · intro l hl
    rcases List.mem_or_eq_of_mem_set hl with h1 | rfl
    · exact hm l h1
    · exact stepL_t h2
  split
  · intro l hl
    rcases List.mem_or_eq_of_mem_set hl with h3 | rfl
    · exact hm l h3
    · exact ⟨h1.b0, by have := h1.b1; show l0.beg < n + 1; omega, .inr ⟨h1.b1, by show n < n + 1; omega⟩⟩
  · exact hm
theorem livesFrom_t : ∀ (h : List S44) (n : Int) (all r : List Life), 0 ≤ n → livesFrom h n all = some r → (∀ l ∈ all, LifeT n l) → ∀ l ∈ r, LifeT (n + h.length) l
  | [], n, all, r, _, h, h1 => by
    injection h with h
    subst h
    simpa using h1
  | e :: h, n, all, r, h0, hr, h1 => by
    unfold livesFrom at hr
    split at hr
    · have := livesFrom_t h (n + 1) _ r (by omega) hr (takeL_t h0 h1)
      intro l hl
      have h2 := this l hl
      rw [List.length_cons]
      exact h2.more (by push_cast; omega)
    · cases hr
theorem allL_t (h : List S44) : ∀ l ∈ allL h, LifeT 2000 l := by
  unfold allL livedL
  split
  · intro l hl
    simp at hl
  · rename_i hlen
    cases hr : livesFrom h 0 [] with
    | none => intro l hl; simp at hl
    | some r =>
      intro l hl
      exact (livesFrom_t h 0 [] r (by omega) hr (fun l hl => by simp at hl) l hl).more (by omega)
/-- From when to when; what is not over ends never. -/
def spL (l : Life) : Nat × Nat := (l.beg.toNat, if l.fin < 0 then 9007199254740992 else l.fin.toNat)
def spC (l : Life) : Value := .complex .f64 (fo (spL l).1) (fo (spL l).2)
theorem spL_cs {l : Life} (h : LifeT 2000 l) : CS (fo (spL l).1) (fo (spL l).2) (some (spL l)) := by
  have h1 := h.b0
  have h2 := h.b1
  refine CS.some ?_ ?_
  · unfold spL
    dsimp only
    split
    · omega
    · rcases h.e with h | h <;> omega
  · unfold spL
    dsimp only
    split
    · exact Nat.le_refl _
    · rcases h.e with h | h <;> (show _ ≤ 9007199254740992; omega)
theorem info51 : (Try.prog.info? 51).map (fun i => (i.zero, i.size, i.bytes)) = some (some (.complex .f64 0 0), 1, 16) := by kernel_rfl
set_option maxRecDepth 100000 in
set_option maxHeartbeats 2000000 in
theorem spans_calls (A0 : Option Addr) (c0 : Nat) (h : List S44) (w : World) (hC : Kd.C k44 w A0 h.length h) :
    Calls Try.prog 16 #[.slice A0 h.length c0] w fun e w' => ∃ v : Value, e = .returned v ∧ w'.ownsRow w.heap.size 51 1 v (allL h).length ((allL h).map spC) ∧ Below w.heap.size w w' := by
  have hu86 := Try.underlying86
  have hu83 := Try.underlying83
  have hu69 := Try.underlying69
  have hu88 := Try.underlying88
  have HC := Lib.hid (lived_all A0 c0 h w hC)
  have HO := Lib.hid (And.intro (allL_ok h).1 (allL_t h))
  generalize allL h = all at *
  clear hC
  go_enter Try.func16, Try.ntmps16
  go_wp2_with fail
  refine HC.out.mono ?_
  rintro e w1 ⟨A, c, bs, rfl, hL, hB⟩
  have HB := Lib.hid (And.intro hL hB)
  clear hL hB HC
  go_wp2_with fail
  go_loopg [2, 15] all.length (fun kq v2 v15 V => ∃ i : Nat, v15 = .int .i64 i ∧ Hid (kq + i = all.length) ∧ Hid (V.ownsRow w.heap.size 51 1 v2 i ((all.map spC).take i) ∧ LivesV w.heap.size V 2000 (.slice A all.length c) bs all ∧ Below w.heap.size w V))
  case atStart => exact ⟨0, rfl, by simp [Hid], Lib.hid ⟨own_nil _ _ _ _, HB.out.1, HB.out.2⟩⟩
  case round =>
    obtain ⟨i, rfl, hk, hJ⟩ := hrel
    clear HB
    have hi0 : (0 : Int) ≤ i := by omega
    by_cases hi : i < all.length
    · have hi2 : (i : Int) < all.length := by omega
      obtain ⟨l, hli⟩ : ∃ l, all[i]? = some l := ⟨_, List.getElem?_eq_getElem hi⟩
      obtain ⟨g, b, rb, wb, rfl, hbi, a0, hA⟩ := hJ.out.2.1.at_row hli
      have hlt := HO.out.2 l (List.mem_of_getElem? hli)
      have HI := Lib.hid (And.intro hi (And.intro hk.out (And.intro hli hlt)))
      obtain ⟨p, hp⟩ : ∃ p : Nat, l.beg = p := ⟨l.beg.toNat, by have := hlt.b0; omega⟩
      have hfp := ofInt_fo p
      have n1 : ∀ W', Below wr.heap.size wr W' → W'.cell? ⟨b, 0, none⟩ = some (.int .i64 (p : Int)) := fun W' hB => by rw [← hp]; exact blk_cell (blk_below hA.hb hB) 0
      have n2 : ∀ W', Below wr.heap.size wr W' → W'.cell? ⟨b, 1, none⟩ = some (.int .i64 l.fin) := fun W' hB => blk_cell (blk_below hA.hb hB) 1
      by_cases hf : l.fin < 0
      · have hf' : decide (l.fin < 0) = true := by simpa using hf
        have hsp : spC l = .complex .f64 (fo p) 4845873199050653696 := by unfold spC spL; rw [if_pos hf, hp]; dsimp only; rw [fo_top]; rfl
        have HS := Lib.hid hsp
        have HX := Lib.hid hp
        obtain ⟨q, hq⟩ : ∃ q, floatOfInt .f64 l.fin = q := ⟨_, rfl⟩
        clear hsp hp hi hk hli hlt hA hbi hf
        go_wp2_with fail
        apply GR.wp_region_grow (R := RB) 12 (by kernel_rfl) (by kernel_rfl) (by kernel_rfl)
        · intro c a d v w h; cases d <;> exact h
        simp only [List.take_succ_cons, List.take_zero, List.drop_succ_cons, List.drop_zero]
        repeat (first
          | (apply GR.gw_skip (by rfl); simp only [Act.put, List.setIfInBounds_toArray, List.set_cons_zero, List.set_cons_succ])
          | (apply GR.gw_val (by rfl); · (intro W' hB hD; have zn1 := n1 W' hB; have zn2 := n2 W' hB; go_simp; first | done | rfl)
             simp only [Act.put, List.setIfInBounds_toArray, List.set_cons_zero, List.set_cons_succ]))
        apply GR.gw_nil
        intro Wz hBz hF hP
        have HZ := Lib.hid (And.intro hBz (And.intro (n2 Wz hBz) (And.intro (hJ.out.2.1.below hBz) (And.intro (pw_own_below hJ.out.1 hBz) (bAfter hJ.out.2.2 hBz)))))
        have z2 := n2 Wz hBz
        clear hF hP hBz n1 n2
        obtain ⟨i0, hi0', hz0, hz1, hz2⟩ := info_parts info51
        have hown := HZ.out.2.2.2.1
        go_wp2_with (at_builtin; refine wpList_append_own_at (w := Wz.alloc (.cells #[.complex .f64 (fo p) 4845873199050653696] 51)) rfl _ _ 48 rfl w.heap.size 51 i0 _ 1 16 Try.underlying48 hi0' hz0 hz1 hz2 rfl (by decide) u2 i _ rfl (hown.alloc _) ⟨Wz.heap.size, 0, none⟩ 1 1 [.complex .f64 (fo p) 4845873199050653696] rfl rfl (World.news_of_block (cs := #[.complex .f64 (fo p) 4845873199050653696]) (t := 51) (fr := (0, 0)) (heap_alloc_new _ _)) (by simp [Value.oneCell']) ?h63 ?hby ?hba ?_)
        case h63 => have := HO.out.1; have := HI.out.1; simp only [maxLen]; omega
        case hby => have := HO.out.1; have := HI.out.1; omega
        case hba => have := HZ.out.2.2.2.2.size; simp; omega
        intro v9 w9 hown9 hg9 _ hat9
        have hal := bOne (w := Wz) (.cells #[.complex .f64 (fo p) 4845873199050653696] 51)
        have hL9 : LivesV w.heap.size w9 2000 (.slice (some ⟨g, 0, none⟩) all.length c) bs all := by
          have h1 := HZ.out.2.2.1.below hal
          have hty := own_typed (hown.alloc (.cells #[.complex .f64 (fo p) 4845873199050653696] 51))
          exact ⟨h1.row.kept hg9 (own_type_ne h1.row (hown.alloc _) (by decide)), h1.at_.grown hg9 (fun g hg => by obtain ⟨cs, hc⟩ := hty g hg; exact ⟨cs, 51, hc, by decide⟩)⟩
        have hB9 : Below w.heap.size w w9 := ((HZ.out.2.2.2.2.alloc HZ.out.2.2.2.2.size _).grown hg9 (by have := HZ.out.2.2.2.2.size; simp; omega) (fun k hk => own_base hown k hk))
        have hrow : (all.map spC).take (i + 1) = (all.map spC).take i ++ [.complex .f64 (fo p) 4845873199050653696] := by
          rw [List.take_add_one, List.getElem?_map, HI.out.2.2.1, ← HS.out]
          rfl
        rw [← hrow] at hown9
        have HN := Lib.hid (And.intro hown9 (And.intro hL9 hB9))
        clear hown9 hg9 hat9 hL9 hB9 hrow hal hown hi0' hz0 hz1 hz2 z2 a0
        go_wp2_with fail
        obtain ⟨k1, rfl⟩ : ∃ m, gk = m + 1 := ⟨gk - 1, by have := HI.out.1; have := HI.out.2.1; omega⟩
        go_roundg k1
        case measure => omega
        case rel => exact ⟨i + 1, by first | rfl | exact congrArg _ (wrap_next (by have := HO.out.1; have := HI.out.1; omega)), by have := HI.out.2.1; exact Lib.hid (by omega), HN⟩
      · have hf' : decide (l.fin < 0) = false := by simp; omega
        obtain ⟨q, hq⟩ : ∃ q : Nat, l.fin = q := ⟨l.fin.toNat, by omega⟩
        have hfq := ofInt_fo q
        have hsp : spC l = .complex .f64 (fo p) (fo q) := by unfold spC spL; rw [if_neg hf, hp, hq]; rfl
        have HS := Lib.hid hsp
        have HX := Lib.hid hp
        rw [hq] at hf' n2
        clear hsp hp hi hk hli hlt hA hbi hf hq
        go_wp2_with fail
        apply GR.wp_region_grow (R := RB) 12 (by kernel_rfl) (by kernel_rfl) (by kernel_rfl)
        · intro c a d v w h; cases d <;> exact h
        simp only [List.take_succ_cons, List.take_zero, List.drop_succ_cons, List.drop_zero]
        repeat (first
          | (apply GR.gw_skip (by rfl); simp only [Act.put, List.setIfInBounds_toArray, List.set_cons_zero, List.set_cons_succ])
          | (apply GR.gw_val (by rfl); · (intro W' hB hD; have zn1 := n1 W' hB; have zn2 := n2 W' hB; go_simp; first | done | rfl)
             simp only [Act.put, List.setIfInBounds_toArray, List.set_cons_zero, List.set_cons_succ]))
        apply GR.gw_nil
        intro Wz hBz hF hP
        have HZ := Lib.hid (And.intro hBz (And.intro (n2 Wz hBz) (And.intro (hJ.out.2.1.below hBz) (And.intro (pw_own_below hJ.out.1 hBz) (bAfter hJ.out.2.2 hBz)))))
        have z2 := n2 Wz hBz
        clear hF hP hBz n1 n2
        obtain ⟨i0, hi0', hz0, hz1, hz2⟩ := info_parts info51
        have hown := HZ.out.2.2.2.1
        go_wp2_with (at_builtin; refine wpList_append_own_at (w := Wz.alloc (.cells #[.complex .f64 (fo p) (fo q)] 51)) rfl _ _ 48 rfl w.heap.size 51 i0 _ 1 16 Try.underlying48 hi0' hz0 hz1 hz2 rfl (by decide) u2 i _ rfl (hown.alloc _) ⟨Wz.heap.size, 0, none⟩ 1 1 [.complex .f64 (fo p) (fo q)] rfl rfl (World.news_of_block (cs := #[.complex .f64 (fo p) (fo q)]) (t := 51) (fr := (0, 0)) (heap_alloc_new _ _)) (by simp [Value.oneCell']) ?h63 ?hby ?hba ?_)
        case h63 => have := HO.out.1; have := HI.out.1; simp only [maxLen]; omega
        case hby => have := HO.out.1; have := HI.out.1; omega
        case hba => have := HZ.out.2.2.2.2.size; simp; omega
        intro v9 w9 hown9 hg9 _ hat9
        have hal := bOne (w := Wz) (.cells #[.complex .f64 (fo p) (fo q)] 51)
        have hL9 : LivesV w.heap.size w9 2000 (.slice (some ⟨g, 0, none⟩) all.length c) bs all := by
          have h1 := HZ.out.2.2.1.below hal
          have hty := own_typed (hown.alloc (.cells #[.complex .f64 (fo p) (fo q)] 51))
          exact ⟨h1.row.kept hg9 (own_type_ne h1.row (hown.alloc _) (by decide)), h1.at_.grown hg9 (fun g hg => by obtain ⟨cs, hc⟩ := hty g hg; exact ⟨cs, 51, hc, by decide⟩)⟩
        have hB9 : Below w.heap.size w w9 := ((HZ.out.2.2.2.2.alloc HZ.out.2.2.2.2.size _).grown hg9 (by have := HZ.out.2.2.2.2.size; simp; omega) (fun k hk => own_base hown k hk))
        have hrow : (all.map spC).take (i + 1) = (all.map spC).take i ++ [.complex .f64 (fo p) (fo q)] := by
          rw [List.take_add_one, List.getElem?_map, HI.out.2.2.1, ← HS.out]
          rfl
        rw [← hrow] at hown9
        have HN := Lib.hid (And.intro hown9 (And.intro hL9 hB9))
        clear hown9 hg9 hat9 hL9 hB9 hrow hal hown hi0' hz0 hz1 hz2 z2 a0
        go_wp2_with fail
        obtain ⟨k1, rfl⟩ : ∃ m, gk = m + 1 := ⟨gk - 1, by have := HI.out.1; have := HI.out.2.1; omega⟩
        go_roundg k1
        case measure => omega
        case rel => exact ⟨i + 1, by first | rfl | exact congrArg _ (wrap_next (by have := HO.out.1; have := HI.out.1; omega)), by have := HI.out.2.1; exact Lib.hid (by omega), HN⟩
    · have hi2 : ¬ (i : Int) < all.length := by omega
      obtain rfl : i = all.length := by have := hk.out; omega
      have HF : Hid (wr.ownsRow w.heap.size 51 1 u2 all.length (all.map spC) ∧ Below w.heap.size w wr) := Lib.hid ⟨by have := hJ.out.1; rwa [List.take_of_length_le (by simp)] at this, hJ.out.2.2⟩
      clear hi hk hJ
      go_wp2_with fail
      go_ret
      exact ⟨_, rfl, HF.out⟩
end Go.Proofs.Ytkijjgdcbgmglaa.Q
