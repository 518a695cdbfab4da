/- Numbers as bytes, and operations from bytes: in plain words. -/
import Derived.Test.YtbnchippfebdkaaPureB
import Derived.Laws.Bits64
import Derived.IntWalk
namespace Go.Proofs.Ytbnchippfebdkaa
open Go.RowKit Go.Proofs.Ytbnchippfebdkaa.Q Go.Proofs.YtbnchippfebdkaaW.PrintWords Go.Proofs.YtbnchippfebdkaaW.PrintLast Go.Proofs.YtbnchippfebdkaaW.PrintMore
set_option linter.unusedVariables false
set_option linter.unusedSimpArgs false

def Bytes (l : List Int) : Prop := ∀ y ∈ l, 0 ≤ y ∧ y < 256
theorem Bytes.drop {l : List Int} (h : Bytes l) (n : Nat) : Bytes (l.drop n) := fun y hy => h y (List.mem_of_mem_drop hy)
theorem Bytes.take {l : List Int} (h : Bytes l) (n : Nat) : Bytes (l.take n) := fun y hy => h y (List.mem_of_mem_take hy)
theorem Bytes.rd {l : List Int} (h : Bytes l) {i : Nat} (hi : i < l.length) : 0 ≤ rd l i ∧ rd l i < 256 := h _ (rd_mem hi)

/-! ### Numbers -/
/-- A number of bytes, the least first. -/
def lev : List Int → Int
  | [] => 0
  | y :: r => y + 256 * lev r
theorem lev_bound : ∀ {l : List Int}, Bytes l → 0 ≤ lev l ∧ lev l < 256 ^ l.length
  | [], _ => by decide
  | y :: r, h => by
    have h1 := h y List.mem_cons_self
    have h2 := lev_bound (l := r) fun z hz => h z (List.mem_cons_of_mem _ hz)
    rw [List.length_cons, Int.pow_succ]
    unfold lev
    omega
theorem lev_append : ∀ (a b : List Int), lev (a ++ b) = lev a + 256 ^ a.length * lev b
  | [], b => by simp [lev]
  | y :: a, b => by
    rw [List.cons_append, lev, lev, lev_append a b, List.length_cons, Int.pow_succ, Int.mul_add, Int.mul_comm (256 ^ a.length) 256, Int.mul_assoc]
    omega
theorem pow256 (j : Nat) : (2 : Int) ^ (8 * j) = 256 ^ j := by
  rw [Int.pow_mul]
  rfl
theorem pow256N (j : Nat) : (2 : Nat) ^ (8 * j) = 256 ^ j := by
  rw [Nat.pow_mul]

theorem cast256 (j : Nat) : ((256 ^ j : Nat) : Int) = (256 : Int) ^ j := by
  rw [Int.natCast_pow]
  rfl
theorem bits_or_i64 (x y : Int) : Go.bits .or .i64 x y = wrap64 (((BitVec.ofInt 64 x) ||| (BitVec.ofInt 64 y)).toNat : Int) := by
  unfold Go.bits
  exact Go.IntWalk.i64_left _
theorem toNat64 (a : Nat) (ha : a < 2 ^ 64) : (BitVec.ofInt 64 (a : Int)).toNat = a := by
  rw [BitVec.ofInt_natCast, BitVec.toNat_ofNat, Nat.mod_eq_of_lt ha]
theorem ofInt_wrap (b : Int) : BitVec.ofInt 64 (wrap64 b) = BitVec.ofInt 64 b := by
  apply BitVec.eq_of_toNat_eq
  rw [BitVec.toNat_ofInt, BitVec.toNat_ofInt]
  have : wrap64 b % ((2 ^ 64 : Nat) : Int) = b % ((2 ^ 64 : Nat) : Int) := by
    unfold wrap64
    omega
  rw [this]
theorem or_word (a b : Nat) (ha : a < 2 ^ 64) (hb : b < 2 ^ 64) : Go.bits .or .i64 (a : Int) (wrap64 (b : Int)) = wrap64 ((a ||| b : Nat) : Int) := by
  rw [bits_or_i64, ofInt_wrap, BitVec.toNat_or, toNat64 a ha, toNat64 b hb]
theorem or_byte (a y : Int) (j : Nat) (hj : j < 8) (ha : 0 ≤ a ∧ a < 256 ^ j) (hy : 0 ≤ y ∧ y < 256) : Go.bits .or .i64 a (wrap64 (y * 2 ^ (8 * j))) = wrap64 (a + 256 ^ j * y) := by
  obtain ⟨a, rfl⟩ : ∃ n : Nat, a = n := ⟨a.toNat, by omega⟩
  obtain ⟨y, rfl⟩ : ∃ n : Nat, y = n := ⟨y.toNat, by omega⟩
  have h1 : a < 256 ^ j := by
    have := ha.2
    rw [← cast256] at this
    omega
  have hy2 : y < 256 := by omega
  have h256 : 256 ^ j ≤ 256 ^ 7 := Nat.pow_le_pow_right (by decide) (by omega)
  have h2 : 256 ^ j * y < 2 ^ 64 := by
    have : 256 ^ j * y ≤ 256 ^ 7 * 255 := Nat.mul_le_mul h256 (by omega)
    have e : (256 : Nat) ^ 7 * 255 < 2 ^ 64 := by decide
    omega
  have h3 : a < 2 ^ 64 := by
    have e : (256 : Nat) ^ 7 < 2 ^ 64 := by decide
    omega
  rw [show ((y : Int) * 2 ^ (8 * j)) = ((256 ^ j * y : Nat) : Int) by rw [pow256, Int.mul_comm, Int.natCast_mul, cast256], or_word a _ h3 h2]
  have h4 : a ||| 256 ^ j * y = a + 256 ^ j * y := by
    rw [← pow256N j, Nat.or_comm, ← Nat.two_pow_add_eq_or_of_lt (by rw [pow256N]; exact h1)]
    omega
  rw [h4, Int.natCast_add, Int.natCast_mul, cast256]

theorem rd_take {l : List Int} {i n : Nat} (h : i < n) (hl : n ≤ l.length) : rd (l.take n) (i : Int) = rd l i := by
  rw [rd_eq (by rw [List.length_take]; omega), rd_eq (by omega), List.getElem_take]
theorem take_rd {l : List Int} {j : Nat} (hj : j < l.length) : l.take (j + 1) = l.take j ++ [rd l j] := by
  rw [List.take_add_one, rd_eq hj, List.getElem?_eq_getElem hj]
  rfl
theorem pow_small {j : Nat} (hj : j ≤ 7) : (256 : Int) ^ j ≤ 72057594037927936 := by
  have h : (256 : Nat) ^ j ≤ 256 ^ 7 := Nat.pow_le_pow_right (by decide) hj
  have e : (256 : Nat) ^ 7 = 72057594037927936 := by decide
  rw [← cast256]
  omega
theorem numT_lev {r : List Int} (hb : Bytes r) : ∀ j, j ≤ 8 → j ≤ r.length → numT r j = wrap64 (lev (r.take j))
  | 0, _, _ => by simp [numT, lev, wrap64]
  | j + 1, h8, hl => by
    have h0 := numT_lev hb j (by omega) (by omega)
    have hbd := lev_bound (hb.take j)
    rw [List.length_take, Nat.min_eq_left (by omega)] at hbd
    have hp := pow_small (j := j) (by omega)
    unfold numT
    rw [h0, show wrap64 (lev (r.take j)) = lev (r.take j) from by unfold wrap64; omega, or_byte _ _ j (by omega) hbd (hb.rd (by omega)), take_rd (by omega), lev_append, List.length_take, Nat.min_eq_left (by omega)]
    simp [lev]

theorem byteAt_cong {n m : Int} (h : n % 18446744073709551616 = m % 18446744073709551616) {i : Nat} (hi : i < 8) : byteAt n i = byteAt m i := by
  have e (x : Int) : byteAt x i = byteAt (x % 18446744073709551616) i := by
    unfold byteAt
    rcases i with _ | _ | _ | _ | _ | _ | _ | _ | i
    all_goals first
      | (exfalso; omega)
      | (simp only [Nat.zero_add, Nat.mul_zero, Nat.reduceAdd, Nat.reduceMul, Int.reducePow, Int.pow_zero, Int.ediv_one]; omega)
  rw [e n, e m, h]
theorem lev_byte : ∀ {l : List Int}, Bytes l → ∀ {i : Nat}, i < l.length → byteAt (lev l) i = rd l i
  | [], _, i, h => by simp at h
  | y :: r, hb, 0, h => by
    have h1 := hb y List.mem_cons_self
    unfold byteAt lev
    rw [Nat.mul_zero, Int.pow_zero, Int.ediv_one]
    show _ = y
    omega
  | y :: r, hb, i + 1, h => by
    have h1 := hb y List.mem_cons_self
    have h2 := lev_byte (l := r) (fun z hz => hb z (List.mem_cons_of_mem _ hz)) (i := i) (by simpa using h)
    have e : rd (y :: r) ((i + 1 : Nat) : Int) = rd r i := by
      rw [rd_eq h, rd_eq (by simpa using h)]
      rfl
    rw [e, ← h2, show lev (y :: r) = y + 256 * lev r from rfl]
    unfold byteAt
    rw [pow256, pow256, Int.pow_succ, Int.mul_comm (256 ^ i) 256, ← Int.ediv_ediv_of_nonneg (by decide), show (y + 256 * lev r) / 256 = lev r by omega]
theorem bytes_of_num {r : List Int} (hb : Bytes r) (h8 : 8 ≤ r.length) : (List.range 8).map (byteAt (numT r 8)) = r.take 8 := by
  rw [numT_lev hb 8 (Nat.le_refl _) h8]
  have hlen : (r.take 8).length = 8 := by rw [List.length_take]; omega
  apply List.ext_getElem
  · rw [List.length_map, List.length_range, hlen]
  · intro i h1 h2
    have hi : i < 8 := by simpa using h1
    rw [List.getElem_map, List.getElem_range, byteAt_cong (m := lev (r.take 8)) (by unfold wrap64; omega) hi, lev_byte (hb.take 8) (by omega), rd_eq (by omega)]
theorem lev_bytes : ∀ (j : Nat) (n : Int), lev ((List.range j).map (byteAt n)) = n % 256 ^ j
  | 0, n => by simp [lev]
  | j + 1, n => by
    have e : (List.range (j + 1)).map (byteAt n) = (n % 256) :: (List.range j).map (byteAt (n / 256)) := by
      rw [List.range_succ_eq_map, List.map_cons, List.map_map]
      congr 1
      · unfold byteAt
        simp
      · apply List.map_congr_left
        intro i _
        show byteAt n (i + 1) = byteAt (n / 256) i
        unfold byteAt
        rw [pow256, pow256, Int.pow_succ, Int.mul_comm (256 ^ i) 256, ← Int.ediv_ediv_of_nonneg (by decide)]
    rw [e, lev, lev_bytes j (n / 256), Int.pow_succ]
    have hp : (0 : Int) < 256 ^ j := Int.pow_pos (by decide)
    generalize (256 : Int) ^ j = m at *
    have h1 := Int.emod_nonneg (n / 256) (b := m) (by omega)
    have h2 := Int.emod_lt_of_pos (n / 256) hp
    have h3 := Int.mul_ediv_add_emod (n / 256) m
    have h4 : n = n % 256 + 256 * (n / 256) := by omega
    generalize (n / 256) % m = s at *
    generalize (n / 256) / m = t at *
    have h5 : n = (n % 256 + 256 * s) + m * 256 * t := by
      have : m * 256 * t = 256 * (m * t) := by rw [Int.mul_comm m 256, Int.mul_assoc]
      omega
    have h6 : (n % 256 + 256 * s) % (m * 256) = n % 256 + 256 * s := Int.emod_eq_of_lt (by omega) (by omega)
    conv => rhs; rw [h5]
    rw [Int.add_mul_emod_self_left, h6]
theorem num_of_bytes (n : Int) (hn : -9223372036854775808 ≤ n ∧ n ≤ 9223372036854775807) (R : List Int) (hR : Bytes R) : numT ((List.range 8).map (byteAt n) ++ R) 8 = n := by
  have hb : Bytes ((List.range 8).map (byteAt n) ++ R) := by
    intro y hy
    rcases List.mem_append.1 hy with h | h
    · obtain ⟨i, -, rfl⟩ := List.mem_map.1 h
      unfold byteAt
      omega
    · exact hR y h
  rw [numT_lev hb 8 (Nat.le_refl _) (by simp), List.take_left' (by simp), lev_bytes]
  show wrap64 (n % 18446744073709551616) = n
  unfold wrap64
  omega

/-! ### Operations from bytes -/
def adv (b : Int) : Nat := if b = 0 then 0 else 1
def val (X : List Int) (p : Nat) (b : Int) : Int := if b = 0 then 0 else rd X p
theorem fieldT_at (X : List Int) (p : Nat) (b : Int) (hp : p ≤ X.length) : fieldT b (X.drop p) = if p + adv b ≤ X.length then some (val X p b, X.drop (p + adv b)) else none := by
  unfold adv val
  by_cases hb : b = 0
  · rw [hb, fieldT_zero, if_pos rfl, if_pos rfl, if_pos (by omega)]
    rfl
  · rw [if_neg hb, if_neg hb]
    by_cases h : p + 1 ≤ X.length
    · rw [if_pos h, List.drop_eq_getElem_cons (by omega), fieldT_cons hb, rd_eq (by omega)]
    · rw [if_neg h, List.drop_eq_nil_of_le (by omega), fieldT_nil hb]
def q1 (c : Int) : Nat := 1 + adv (sh c).f1
def q2 (c : Int) : Nat := q1 c + adv (sh c).f2
def q3 (c : Int) : Nat := q2 c + adv (third (sh c) 200)
/-- How many bytes an operation has. -/
def sz (c : Int) : Nat := q3 c + (if (sh c).f5 = true then 8 else 0)
/-- The operation of bytes. -/
def opOf (X : List Int) (c : Int) : S46 := ⟨c, val X 1 (sh c).f1, val X (q1 c) (sh c).f2, val X (q2 c) (third (sh c) 200), if (sh c).f5 = true then numT (X.drop (q3 c)) 8 else 0⟩
theorem take_at (x : Int) (l : List Int) : takeOp (x :: l) = if isCode x = true ∧ sz x ≤ (x :: l).length then some (opOf (x :: l) x, (x :: l).drop (sz x)) else none := by
  show takeR x (sh x).f1 (sh x).f2 (third (sh x) 200) (sh x).f5 (isCode x) l = _
  unfold takeR
  cases hc : isCode x with
  | false => rw [if_pos rfl, if_neg (by simp)]
  | true =>
    rw [if_neg (by decide)]
    have h1 : (1 : Nat) ≤ (x :: l).length := by simp
    have e : l = (x :: l).drop 1 := rfl
    rw [show fieldT (sh x).f1 l = _ from fieldT_at (x :: l) 1 (sh x).f1 h1]
    generalize hX : (x :: l) = X at *
    have s1 : 1 + adv (sh x).f1 = q1 x := rfl
    have s2 : q1 x + adv (sh x).f2 = q2 x := rfl
    have s3 : q2 x + adv (third (sh x) 200) = q3 x := rfl
    have s4 : q3 x ≤ sz x := by unfold sz; omega
    rw [s1]
    by_cases c1 : q1 x ≤ X.length
    · rw [if_pos c1, Option.bind_some]
      show (fieldT (sh x).f2 (X.drop (q1 x))).bind _ = _
      rw [fieldT_at X (q1 x) _ c1, s2]
      by_cases c2 : q2 x ≤ X.length
      · rw [if_pos c2, Option.bind_some]
        show (fieldT (third (sh x) 200) (X.drop (q2 x))).bind _ = _
        rw [fieldT_at X (q2 x) _ c2, s3]
        by_cases c3 : q3 x ≤ X.length
        · rw [if_pos c3, Option.bind_some]
          cases hn : (sh x).f5 with
          | false =>
            have s5 : sz x = q3 x := by unfold sz; rw [hn]; rfl
            rw [if_pos rfl, s5, if_pos ⟨rfl, c3⟩]
            unfold opOf
            rw [hn]
            rfl
          | true =>
            have s5 : sz x = q3 x + 8 := by unfold sz; rw [hn]; rfl
            rw [if_neg (by decide), List.length_drop]
            by_cases c4 : X.length - q3 x < 8
            · rw [if_pos c4, if_neg (by omega)]
            · rw [if_neg c4, if_pos ⟨rfl, by omega⟩, List.drop_drop, s5]
              unfold opOf
              rw [hn]
              rfl
        · rw [if_neg c3, if_neg (by omega)]
          rfl
      · rw [if_neg c2, if_neg (by omega)]
        rfl
    · rw [if_neg c1, if_neg (by omega)]
      rfl

end Go.Proofs.Ytbnchippfebdkaa
