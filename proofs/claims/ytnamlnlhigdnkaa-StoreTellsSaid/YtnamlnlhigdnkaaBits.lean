/- Sets of small numbers, as words: what has, with and less come to, bit by bit. -/
import Derived.Test.YtnamlnlhigdnkaaHDrop
import Derived.Laws.BitsLemmas
import Derived.Laws.BitsAllLaws
namespace Go.Proofs.Ytnamlnlhigdnkaa
open Go.RowKit Go.Proofs.Ytnamlnlhigdnkaa.Q

theorem bit_pow_f : ∀ s : Fin 64, bitI (s.val : Int) = ((2 ^ s.val : Nat) : Int) := by decide +kernel
theorem bit_pow (s : Nat) (h : s < 64) : bitI (s : Int) = ((2 ^ s : Nat) : Int) := bit_pow_f ⟨s, h⟩
theorem wraps_u64 (n : Int) (h₀ : 0 ≤ n) (h₁ : n < 2 ^ 64) : IntKind.u64.wrap n = n := by
  simp only [IntKind.wrap, IntKind.bits, IntKind.signed]
  simp
  omega
theorem or_u64 (a b : Nat) (ha : a < 2 ^ 64) (hb : b < 2 ^ 64) : Go.bits .or .u64 (a : Int) (b : Int) = ((a ||| b : Nat) : Int) := (bits_nat .u64 64 (by decide) wraps_u64 a b ha hb).2
theorem and_u64 (a b : Nat) (ha : a < 2 ^ 64) (hb : b < 2 ^ 64) : Go.bits .and .u64 (a : Int) (b : Int) = ((a &&& b : Nat) : Int) := (bits_nat .u64 64 (by decide) wraps_u64 a b ha hb).1
theorem nat_of {m : Int} (h : 0 ≤ m ∧ m < 2 ^ 64) : ∃ n : Nat, m = n ∧ n < 2 ^ 64 := ⟨m.toNat, by omega, by omega⟩
theorem has_after (m s : Int) (hm : 0 ≤ m ∧ m < 2 ^ 64) (hs : 0 ≤ s ∧ s < 64) : set_Has.f (Go.bits .or .u64 m (bitI s)) s = some true := by
  obtain ⟨n, rfl, hn⟩ := nat_of hm
  obtain ⟨q, rfl⟩ := Int.eq_ofNat_of_zero_le hs.1
  have hq : q < 64 := by omega
  have hp : (2 : Nat) ^ q < 2 ^ 64 := Nat.pow_lt_pow_right (by decide) hq
  unfold set_Has.f
  rw [bitI_f, Option.bind_some, bit_pow q hq, or_u64 n _ hn hp, and_u64 _ _ (Nat.or_lt_two_pow hn hp) hp]
  have h0 : ((n ||| 2 ^ q) &&& 2 ^ q) ≠ 0 := by
    intro h
    have := congrArg (fun z => z.testBit q) h
    simp [Nat.testBit_and, Nat.testBit_or, Nat.testBit_two_pow_self] at this
  simp only [Option.some.injEq, bne_iff_ne, ne_eq]
  exact fun h => h0 (by exact_mod_cast h)

theorem less_has_nat (n q : Nat) : (n &&& (18446744073709551615 - 2 ^ q)) &&& 2 ^ q = 0 ∨ ¬ q < 64 := by
  rcases Nat.lt_or_ge q 64 with hq | hq
  · left
    have hp : (2 : Nat) ^ q < 2 ^ 64 := Nat.pow_lt_pow_right (by decide) hq
    have e : 18446744073709551615 - 2 ^ q = 2 ^ 64 - (2 ^ q + 1) := by omega
    apply Nat.eq_of_testBit_eq
    intro i
    rw [e, Nat.testBit_and, Nat.testBit_and, Nat.testBit_two_pow_sub_succ hp, Nat.zero_testBit, Nat.testBit_two_pow]
    by_cases h : q = i <;> simp [h]
  · right; omega
theorem less_with_nat (n q : Nat) (hn : n < 2 ^ 64) (hq : q < 64) : (n &&& (18446744073709551615 - 2 ^ q)) ||| 2 ^ q = n ||| 2 ^ q := by
  have hp : (2 : Nat) ^ q < 2 ^ 64 := Nat.pow_lt_pow_right (by decide) hq
  have e : 18446744073709551615 - 2 ^ q = 2 ^ 64 - (2 ^ q + 1) := by omega
  apply Nat.eq_of_testBit_eq
  intro i
  rw [e, Nat.testBit_or, Nat.testBit_or, Nat.testBit_and, Nat.testBit_two_pow_sub_succ hp, Nat.testBit_two_pow]
  by_cases h : q = i
  · simp [h]
  · rcases Nat.lt_or_ge i 64 with hi | hi
    · simp [h, hi]
    · have : n.testBit i = false := Nat.testBit_lt_two_pow (Nat.lt_of_lt_of_le hn (Nat.pow_le_pow_right (by decide) hi))
      simp [h, this]
theorem less_word (m s : Int) (hm : 0 ≤ m ∧ m < 2 ^ 64) (hs : 0 ≤ s ∧ s < 64) : ∃ n q : Nat, m = n ∧ n < 2 ^ 64 ∧ s = q ∧ q < 64 ∧ Go.bits .andNot .u64 m (bitI s) = ((n &&& (18446744073709551615 - 2 ^ q) : Nat) : Int) := by
  obtain ⟨n, rfl, hn⟩ := nat_of hm
  obtain ⟨q, rfl⟩ := Int.eq_ofNat_of_zero_le hs.1
  have hq : q < 64 := by omega
  have hp : (2 : Nat) ^ q < 2 ^ 64 := Nat.pow_lt_pow_right (by decide) hq
  refine ⟨n, q, rfl, hn, rfl, hq, ?_⟩
  rw [bit_pow q hq, u64_andNot_nat n _ hn hp]
theorem mask_lt (n q : Nat) : (n &&& (18446744073709551615 - 2 ^ q)) < 2 ^ 64 := Nat.and_lt_two_pow _ (Nat.lt_of_le_of_lt (Nat.sub_le _ _) (by decide))
theorem has_less (m s : Int) (hm : 0 ≤ m ∧ m < 2 ^ 64) (hs : 0 ≤ s ∧ s < 64) : set_Has.f (Go.bits .andNot .u64 m (bitI s)) s = some false := by
  obtain ⟨n, q, rfl, hn, rfl, hq, e⟩ := less_word m s hm hs
  have hp : (2 : Nat) ^ q < 2 ^ 64 := Nat.pow_lt_pow_right (by decide) hq
  unfold set_Has.f
  rw [e, bitI_f, Option.bind_some, bit_pow q hq, and_u64 _ _ (mask_lt n q) hp, (less_has_nat n q).resolve_right (by omega)]
  rfl
theorem with_less (m s : Int) (hm : 0 ≤ m ∧ m < 2 ^ 64) (hs : 0 ≤ s ∧ s < 64) : set_With.f (Go.bits .andNot .u64 m (bitI s)) s = some (Go.bits .or .u64 m (bitI s)) := by
  obtain ⟨n, q, rfl, hn, rfl, hq, e⟩ := less_word m s hm hs
  have hp : (2 : Nat) ^ q < 2 ^ 64 := Nat.pow_lt_pow_right (by decide) hq
  rw [with_f, e, bit_pow q hq, or_u64 _ _ (mask_lt n q) hp, or_u64 _ _ hn hp, less_with_nat n q hn hq]

end Go.Proofs.Ytnamlnlhigdnkaa
