/- Sets of small numbers, by the document's arithmetic: with and less come to the same words. -/
import Derived.Test.YtnamlnlhigdnkaaBits
import Derived.Test.YtnamlnlhigdnkaaQ5
import Derived.Test.YtnamlnlhigdnkaaQ5
namespace Go.Proofs.Ytnamlnlhigdnkaa
open Go.RowKit Go.Proofs.Ytnamlnlhigdnkaa.Q

theorem rpow_fin : ∀ a : Fin 64, warpbeamref01_power.f 200 (a.val : Int) = some ((2 ^ a.val : Nat) : Int) := by decide +kernel
theorem rpow_f (a : Nat) (h : a < 64) : warpbeamref01_power.f 200 (a : Int) = some ((2 ^ a : Nat) : Int) := rpow_fin ⟨a, h⟩
theorem rhas_f (n q : Nat) (hn : n < 2 ^ 64) (hq : q < 64) : warpbeamref01_Has.f 200 (n : Int) (q : Int) = some (n.testBit q) := by
  unfold warpbeamref01_Has.f
  have hp : 0 < 2 ^ q := Nat.two_pow_pos q
  have e1 : Int.tdiv (n : Int) ((2 ^ q : Nat) : Int) = ((n / 2 ^ q : Nat) : Int) := rfl
  have e2 : Int.tmod ((n / 2 ^ q : Nat) : Int) 2 = ((n / 2 ^ q % 2 : Nat) : Int) := rfl
  have hle : n / 2 ^ q ≤ n := Nat.div_le_self _ _
  have hlt : ((n / 2 ^ q : Nat) : Int) < 2 ^ 64 := by
    generalize n / 2 ^ q = z at *
    omega
  rw [if_pos (by omega), if_pos (by omega), rpow_f q hq, Option.bind_some, if_neg (by omega), e1, wraps_u64 _ (Int.natCast_nonneg _) hlt, e2, Nat.testBit_eq_decide_div_mod_eq]
  congr 1
  have : n / 2 ^ q % 2 < 2 := Nat.mod_lt _ (by decide)
  by_cases h : n / 2 ^ q % 2 = 1
  · rw [h]; rfl
  · rw [decide_eq_false h, beq_eq_false_iff_ne]
    omega
theorem rhas_out (m q : Int) (h : q < 0 ∨ q > 63) : warpbeamref01_Has.f 200 m q = some false := by
  unfold warpbeamref01_Has.f
  by_cases h0 : q ≥ 0
  · rw [if_pos h0, if_neg (by omega)]
  · rw [if_neg h0]
theorem wrap_mod (n : Nat) : IntKind.u64.wrap (n : Int) = ((n % 2 ^ 64 : Nat) : Int) := by
  simp only [IntKind.wrap, IntKind.bits, IntKind.signed]
  simp
theorem add_or (n q : Nat) (hn : n < 2 ^ 64) (hq : q < 64) (h : n &&& 2 ^ q = 0) : (n + 2 ^ q) % 2 ^ 64 = n ||| 2 ^ q := by
  have hp : (2 : Nat) ^ q < 2 ^ 64 := Nat.pow_lt_pow_right (by decide) hq
  have h1 := BitVec.add_eq_or_of_and_eq_zero (BitVec.ofNat 64 n) (BitVec.ofNat 64 (2 ^ q)) (by
    apply BitVec.eq_of_toNat_eq
    rw [BitVec.toNat_and, BitVec.toNat_ofNat, BitVec.toNat_ofNat, Nat.mod_eq_of_lt hn, Nat.mod_eq_of_lt hp, h]
    rfl)
  have h2 := congrArg BitVec.toNat h1
  rw [BitVec.toNat_add, BitVec.toNat_or, BitVec.toNat_ofNat, BitVec.toNat_ofNat, Nat.mod_eq_of_lt hn, Nat.mod_eq_of_lt hp] at h2
  exact h2
theorem and_zero (n q : Nat) (h : n.testBit q = false) : n &&& 2 ^ q = 0 := by
  apply Nat.eq_of_testBit_eq
  intro i
  rw [Nat.testBit_and, Nat.testBit_two_pow, Nat.zero_testBit]
  by_cases hi : q = i
  · subst hi; simp [h]
  · simp [hi]
theorem or_same (n q : Nat) (h : n.testBit q = true) : n ||| 2 ^ q = n := by
  apply Nat.eq_of_testBit_eq
  intro i
  rw [Nat.testBit_or, Nat.testBit_two_pow]
  by_cases hi : q = i
  · subst hi; simp [h]
  · simp [hi]
theorem rwith_f (m s : Int) (hm : 0 ≤ m ∧ m < 2 ^ 64) (hs : 0 ≤ s ∧ s < 64) : warpbeamref01_With.f 200 m s = some (Go.bits .or .u64 m (bitI s)) := by
  obtain ⟨n, rfl, hn⟩ := nat_of hm
  obtain ⟨q, rfl⟩ := Int.eq_ofNat_of_zero_le hs.1
  have hq : q < 64 := by omega
  have hp : (2 : Nat) ^ q < 2 ^ 64 := Nat.pow_lt_pow_right (by decide) hq
  unfold warpbeamref01_With.f
  rw [if_neg (by omega), if_neg (by omega), rhas_f n q hn hq, Option.bind_some, bit_pow q hq, or_u64 n _ hn hp]
  cases h : n.testBit q with
  | true => rw [if_pos rfl, or_same n q h]
  | false =>
    rw [if_neg (by decide), rpow_f q hq, Option.bind_some]
    have e : ((n : Int) + ((2 ^ q : Nat) : Int)) = ((n + 2 ^ q : Nat) : Int) := by omega
    rw [e, wrap_mod, add_or n q hn hq (and_zero n q h)]
theorem rless_f (m s : Int) (hm : 0 ≤ m ∧ m < 2 ^ 64) : warpbeamref01_Less.f 200 m s = some (Go.bits .andNot .u64 m (bitI s)) := by
  unfold warpbeamref01_Less.f
  by_cases hs : 0 ≤ s ∧ s < 64
  · obtain ⟨n, q, rfl, hn, rfl, hq, e⟩ := less_word m s hm hs
    have hp : (2 : Nat) ^ q < 2 ^ 64 := Nat.pow_lt_pow_right (by decide) hq
    rw [rhas_f n q hn hq, Option.bind_some, e]
    cases h : n.testBit q with
    | true =>
      rw [if_pos rfl, rpow_f q hq, Option.bind_some]
      have h1 := add_or (n &&& (18446744073709551615 - 2 ^ q)) q (mask_lt n q) hq ((less_has_nat n q).resolve_right (by omega))
      rw [less_with_nat n q hn hq, or_same n q h] at h1
      have hle : n &&& (18446744073709551615 - 2 ^ q) ≤ n := Nat.and_le_left
      have hlt := mask_lt n q
      have heq : n &&& (18446744073709551615 - 2 ^ q) = n - 2 ^ q ∧ 2 ^ q ≤ n := by
        generalize n &&& (18446744073709551615 - 2 ^ q) = x at *
        generalize 2 ^ q = y at *
        omega
      have e2 : ((n : Int) - ((2 ^ q : Nat) : Int)) = ((n - 2 ^ q : Nat) : Int) := by have := heq.2; omega
      rw [e2, wrap_mod, heq.1, Nat.mod_eq_of_lt (by omega)]
    | false =>
      rw [if_neg (by decide)]
      have : n &&& (18446744073709551615 - 2 ^ q) = n := by
        have e3 : 18446744073709551615 - 2 ^ q = 2 ^ 64 - (2 ^ q + 1) := by omega
        apply Nat.eq_of_testBit_eq
        intro i
        rw [e3, Nat.testBit_and, Nat.testBit_two_pow_sub_succ hp, Nat.testBit_two_pow]
        by_cases hi : q = i
        · subst hi; simp [h]
        · rcases Nat.lt_or_ge i 64 with h64 | h64
          · simp [hi, h64]
          · have : n.testBit i = false := Nat.testBit_lt_two_pow (Nat.lt_of_lt_of_le hn (Nat.pow_le_pow_right (by decide) h64))
            simp [this]
      rw [this]
  · rw [rhas_out m s (by omega), Option.bind_some, if_neg (by decide)]
    obtain ⟨n, rfl, hn⟩ := nat_of hm
    have hb : bitI s = 0 := by
      unfold bitI
      by_cases h0 : s < 0
      · rw [if_pos h0]
      · rw [if_neg h0, if_pos (by omega)]
    have := u64_andNot_nat n 0 hn (by decide)
    rw [hb]
    have e4 : ((0 : Nat) : Int) = 0 := rfl
    rw [e4] at this
    rw [this]
    have : n &&& (18446744073709551615 - 0) = n := by
      have := Nat.and_two_pow_sub_one_eq_mod n 64
      rw [show (18446744073709551615 - 0 : Nat) = 2 ^ 64 - 1 from rfl, this, Nat.mod_eq_of_lt hn]
    rw [this]

end Go.Proofs.Ytnamlnlhigdnkaa
