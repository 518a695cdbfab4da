/- Sets of small numbers, as words: what has, with and less come to, bit by bit. -/
import Derived.Test.YtnamlnlhigdnkaaHDrop
import Derived.Laws.BitsLemmas
namespace Go.Proofs.Ytnamlnlhigdnkaa
open Go.RowKit Go.Proofs.Ytnamlnlhigdnkaa.Q

theorem bit_pow_f : ∀ s : Fin 64, bitI (s.val : Int) = ((2 ^ s.val : Nat) : Int) := by decide +kernel
theorem bit_pow (s : Nat) (h : s < 64) : bitI (s : Int) = ((2 ^ s : Nat) : Int) := bit_pow_f ⟨s, h⟩
theorem wraps_u64 (n : Int) (h₀ : 0 ≤ n) (h₁ : n < 2 ^ 64) : IntKind.u64.wrap n = n := by
  simp only [IntKind.wrap, IntKind.bits, IntKind.signed]
  simp
  omega
theorem or_u64 (a b : Nat) (ha : a < 2 ^ 64) (hb : b < 2 ^ 64) : Go.bits .or .u64 (a : Int) (b : Int) = ((a ||| b : Nat) : Int) := (bits_nat .u64 64 (by decide) wraps_u64 a b ha hb).2
theorem and_u64 (a b : Nat) (ha : a < 2 ^ 64) (hb : b < 2 ^ 64) : Go.bits .and .u64 (a : Int) (b : Int) = ((a &&& b : Nat) : Int) := (bits_nat .u64 64 (by decide) wraps_u64 a b ha hb).1
theorem nat_of {m : Int} (h : 0 ≤ m ∧ m < 2 ^ 64) : ∃ n : Nat, m = n ∧ n < 2 ^ 64 := ⟨m.toNat, by omega, by omega⟩
theorem has_after (m s : Int) (hm : 0 ≤ m ∧ m < 2 ^ 64) (hs : 0 ≤ s ∧ s < 64) : set_Has.f (Go.bits .or .u64 m (bitI s)) s = some true := by
  obtain ⟨n, rfl, hn⟩ := nat_of hm
  obtain ⟨q, rfl⟩ := Int.eq_ofNat_of_zero_le hs.1
  have hq : q < 64 := by omega
  have hp : (2 : Nat) ^ q < 2 ^ 64 := Nat.pow_lt_pow_right (by decide) hq
  unfold set_Has.f
  rw [bitI_f, Option.bind_some, bit_pow q hq, or_u64 n _ hn hp, and_u64 _ _ (Nat.or_lt_two_pow hn hp) hp]
  have h0 : ((n ||| 2 ^ q) &&& 2 ^ q) ≠ 0 := by
    intro h
    have := congrArg (fun z => z.testBit q) h
    simp [Nat.testBit_and, Nat.testBit_or, Nat.testBit_two_pow_self] at this
  simp only [Option.some.injEq, bne_iff_ne, ne_eq]
  exact fun h => h0 (by exact_mod_cast h)

end Go.Proofs.Ytnamlnlhigdnkaa
