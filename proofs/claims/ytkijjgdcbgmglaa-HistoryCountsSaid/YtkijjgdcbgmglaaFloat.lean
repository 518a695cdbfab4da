/- Plain facts on double-precision words: the word of a whole number from 0 to 2^53; their order, their integral part. No program in sight. -/
import Derived.Laws.FloatArith
namespace Go.Proofs.Ytkijjgdcbgmglaa
open Ieee

/-- The word of a whole number. -/
def fo (n : Nat) : Nat := double.nearest false n 0

theorem dbl_least : double.leastPlace = -1074 := by decide
theorem dbl_binade : double.binade = 4503599627370496 := by decide
theorem dbl_inf : double.infRung = 9218868437227405312 := by decide
theorem dbl_sign : double.signWeight = 9223372036854775808 := by decide

theorem cut_zero_drop (way : Toward) (n : Nat) : way.cut false n 0 = n := by
  unfold Toward.cut
  simp
  cases way <;> simp [Nat.mod_one]

/-- The least place, as a natural number. -/
def lp : Nat := 1074
theorem lp_eq : (lp : Int) = 1074 := rfl

/-- What the word of a whole number stands for. -/
structure Stands (d : Datum) (n : Nat) : Prop where
  ex : ∃ m p, d = .number false m p ∧ (-1074 : Int) ≤ p ∧ m * 2 ^ p.toNat = n * 2 ^ (-p).toNat

theorem fo_small (n : Nat) (h0 : 0 < n) (h : n < 9007199254740992) :
    fo n = (n.log2 + 1022) * 4503599627370496 + n * 2 ^ (52 - n.log2) ∧ n.log2 ≤ 52 ∧ 4503599627370496 ≤ n * 2 ^ (52 - n.log2) ∧ n * 2 ^ (52 - n.log2) < 9007199254740992 := by
  have hl : n.log2 ≤ 52 := by
    have : n.log2 < 53 := (Nat.log2_lt (by omega)).2 (by simpa using h)
    omega
  have lo : 2 ^ n.log2 ≤ n := Nat.log2_self_le (by omega)
  have hi : n < 2 ^ (n.log2 + 1) := Nat.lt_log2_self
  have e1 : 2 ^ n.log2 * 2 ^ (52 - n.log2) = 4503599627370496 := by rw [← Nat.pow_add, show n.log2 + (52 - n.log2) = 52 from by omega]
  have e2 : 2 ^ (n.log2 + 1) * 2 ^ (52 - n.log2) = 9007199254740992 := by rw [← Nat.pow_add, show n.log2 + 1 + (52 - n.log2) = 53 from by omega]
  have b1 : 4503599627370496 ≤ n * 2 ^ (52 - n.log2) := by rw [← e1]; exact Nat.mul_le_mul_right _ lo
  have b2 : n * 2 ^ (52 - n.log2) < 9007199254740992 := by rw [← e2]; exact Nat.mul_lt_mul_of_pos_right hi (Nat.two_pow_pos _)
  refine ⟨?_, hl, b1, b2⟩
  unfold fo Format.nearest
  rw [if_neg (by omega)]
  have hlast : max ((0 : Int) + (n.log2 : Int) - (double.fractionBits : Int)) (-1074) = (n.log2 : Int) - 52 := by
    simp only [double]; omega
  simp only [dbl_least, dbl_binade, dbl_inf]
  rw [hlast]
  have t1 : ((0 : Int) - ((n.log2 : Int) - 52)).toNat = 52 - n.log2 := by omega
  have t2 : ((n.log2 : Int) - 52 - 0).toNat = 0 := by omega
  have t3 : ((n.log2 : Int) - 52 - (-1074)).toNat = n.log2 + 1022 := by omega
  rw [t1, t2, t3, cut_zero_drop, Nat.shiftLeft_eq]
  unfold Format.word
  simp only [Bool.false_eq_true, if_false]
  refine Nat.min_eq_left ?_
  have : (n.log2 + 1022) * 4503599627370496 ≤ 1074 * 4503599627370496 := Nat.mul_le_mul_right _ (by omega)
  exact Nat.le_trans (Nat.add_le_add this (Nat.le_of_lt b2)) (by decide)

theorem fo_top : fo 9007199254740992 = 4845873199050653696 := by decide +kernel
theorem fo_zero : fo 0 = 0 := by decide +kernel

theorem fo_read (n : Nat) (h : n ≤ 9007199254740992) : Stands (double.read (fo n)) n := by
  rcases Nat.eq_zero_or_pos n with rfl | h0
  · rw [fo_zero]
    exact ⟨0, -1074, by decide +kernel, by decide, by rw [Nat.zero_mul, Nat.zero_mul]⟩
  rcases Nat.lt_or_ge n 9007199254740992 with hlt | hge
  · obtain ⟨e, hl, b1, b2⟩ := fo_small n h0 hlt
    rw [e]
    have k1 : (n.log2 + 1022) * 4503599627370496 ≤ 1074 * 4503599627370496 := Nat.mul_le_mul_right _ (by omega)
    generalize hq : n * 2 ^ (52 - n.log2) = q at *
    have hd : ((n.log2 + 1022) * 4503599627370496 + q) / 4503599627370496 = n.log2 + 1023 := by omega
    have hm : ((n.log2 + 1022) * 4503599627370496 + q) % 4503599627370496 = q - 4503599627370496 := by omega
    refine ⟨q, (n.log2 : Int) - 52, ?_, by omega, ?_⟩
    · unfold Format.read
      simp only [dbl_least, dbl_binade, dbl_inf, dbl_sign]
      have m0 : ((n.log2 + 1022) * 4503599627370496 + q) % 9223372036854775808 = (n.log2 + 1022) * 4503599627370496 + q := Nat.mod_eq_of_lt (by omega)
      have m1 : ((n.log2 + 1022) * 4503599627370496 + q) / 9223372036854775808 = 0 := Nat.div_eq_of_lt (by omega)
      rw [m0, m1, if_neg (by omega), if_pos (by omega), hd, hm]
      have f1 : 4503599627370496 + (q - 4503599627370496) = q := by omega
      have f2 : (-1074 : Int) + ((n.log2 + 1023 - 1 : Nat) : Int) = (n.log2 : Int) - 52 := by omega
      rw [f1, f2]
      rfl
    · have g1 : ((n.log2 : Int) - 52).toNat = 0 := by omega
      have g2 : (-((n.log2 : Int) - 52)).toNat = 52 - n.log2 := by omega
      rw [g1, g2, hq, Nat.pow_zero, Nat.mul_one]
  · have : n = 9007199254740992 := by omega
    subst this
    rw [fo_top]
    exact ⟨4503599627370496, 1, by decide +kernel, by decide, by decide +kernel⟩

/-- The equation, at the least place. -/
theorem scaled {m a : Nat} {p : Int} (hp : (-1074 : Int) ≤ p) (h : m * 2 ^ p.toNat = a * 2 ^ (-p).toNat) : m * 2 ^ (p + (lp : Int)).toNat = a * 2 ^ lp := by
  have hl := lp_eq
  rcases Int.le_total 0 p with h0 | h0
  · have e1 : (p + (lp : Int)).toNat = p.toNat + lp := by omega
    have e2 : (-p).toNat = 0 := by omega
    rw [e2, Nat.pow_zero, Nat.mul_one] at h
    rw [e1, Nat.pow_add, ← Nat.mul_assoc, h]
  · have e1 : p.toNat = 0 := by omega
    have e2 : lp = (-p).toNat + (p + (lp : Int)).toNat := by omega
    rw [e1, Nat.pow_zero, Nat.mul_one] at h
    rw [h]
    conv => rhs; rw [e2]
    rw [Nat.pow_add, ← Nat.mul_assoc]

theorem compare_scale (a b c : Nat) (h : 0 < c) : compare ((a * c : Nat) : Int) ((b * c : Nat) : Int) = compare (a : Int) (b : Int) := by
  rcases Nat.lt_trichotomy a b with hl | rfl | hl
  · have : a * c < b * c := Nat.mul_lt_mul_of_pos_right hl h
    rw [Int.compare_eq_lt.2 (by omega), Int.compare_eq_lt.2 (by omega)]
  · rw [Int.compare_eq_eq.2 rfl, Int.compare_eq_eq.2 rfl]
  · have : b * c < a * c := Nat.mul_lt_mul_of_pos_right hl h
    rw [Int.compare_eq_gt.2 (by omega), Int.compare_eq_gt.2 (by omega)]

theorem stands_order {d e : Datum} {a b : Nat} (hd : Stands d a) (he : Stands e b) : d.order e = some (compare (a : Int) (b : Int)) := by
  obtain ⟨m, p, rfl, hp, hm⟩ := hd
  obtain ⟨k, q, rfl, hq, hk⟩ := he
  have hm := scaled hp hm
  have hk := scaled hq hk
  simp only [Datum.order, signed, Bool.false_eq_true, if_false, Nat.shiftLeft_eq]
  congr 1
  generalize hb : min p q = s
  have s1 : (-1074 : Int) ≤ s := by omega
  have x1 : m * 2 ^ (p - s).toNat * 2 ^ (s + (lp : Int)).toNat = a * 2 ^ lp := by
    rw [← hm, Nat.mul_assoc, ← Nat.pow_add]; congr 2; have := lp_eq; omega
  have x2 : k * 2 ^ (q - s).toNat * 2 ^ (s + (lp : Int)).toNat = b * 2 ^ lp := by
    rw [← hk, Nat.mul_assoc, ← Nat.pow_add]; congr 2; have := lp_eq; omega
  rw [← compare_scale (m * 2 ^ (p - s).toNat) (k * 2 ^ (q - s).toNat) (2 ^ (s + (lp : Int)).toNat) (Nat.two_pow_pos _), x1, x2, compare_scale _ _ _ (Nat.two_pow_pos _)]

theorem log2_shift (n k : Nat) (h : 0 < n) : k ≤ (n * 2 ^ k).log2 := by
  have hne : n * 2 ^ k ≠ 0 := by have := Nat.two_pow_pos k; exact Nat.mul_ne_zero (by omega) (by omega)
  rcases Nat.lt_or_ge (n * 2 ^ k).log2 k with hlt | hge
  · have h1 : n * 2 ^ k < 2 ^ ((n * 2 ^ k).log2 + 1) := Nat.lt_log2_self
    have h2 : 2 ^ ((n * 2 ^ k).log2 + 1) ≤ 2 ^ k := Nat.pow_le_pow_right (by decide) (by omega)
    have h3 : 1 * 2 ^ k ≤ n * 2 ^ k := Nat.mul_le_mul_right _ h
    omega
  · exact hge

theorem cut_zero_shift (n k : Nat) : Toward.zero.cut false (n * 2 ^ k) k = n := by
  unfold Toward.cut
  dsimp only
  simp only [Bool.toNat_false, Nat.add_zero, Nat.one_shiftLeft]
  rcases Nat.eq_zero_or_pos n with rfl | h
  · simp
  · have := log2_shift n k h
    rw [Nat.min_eq_left (by omega)]
    exact Nat.mul_div_cancel _ (Nat.two_pow_pos _)

theorem stands_integral {d : Datum} {n : Nat} (hd : Stands d n) : d.integral .zero = .number false n 0 := by
  obtain ⟨m, p, rfl, hp, hm⟩ := hd
  simp only [Datum.integral, Nat.shiftLeft_eq]
  rcases Int.le_total 0 p with h0 | h0
  · have e2 : (-p).toNat = 0 := by omega
    rw [e2, Nat.pow_zero, Nat.mul_one] at hm
    rw [e2, hm, cut_zero_drop]
  · have e1 : p.toNat = 0 := by omega
    rw [e1, Nat.pow_zero, Nat.mul_one] at hm
    rw [e1, hm, Nat.pow_zero, Nat.mul_one, cut_zero_shift]

theorem stands_nan {d : Datum} {n : Nat} (hd : Stands d n) : d.isNaN = false := by
  obtain ⟨m, p, rfl, _⟩ := hd
  rfl

theorem stands_neg {d : Datum} {n : Nat} (hd : Stands d n) : d.neg = false := by
  obtain ⟨m, p, rfl, _⟩ := hd
  rfl

theorem fo_order (a b : Nat) (ha : a ≤ 9007199254740992) (hb : b ≤ 9007199254740992) : double.order (fo a) (fo b) = some (compare (a : Int) (b : Int)) :=
  stands_order (fo_read a ha) (fo_read b hb)

end Go.Proofs.Ytkijjgdcbgmglaa
