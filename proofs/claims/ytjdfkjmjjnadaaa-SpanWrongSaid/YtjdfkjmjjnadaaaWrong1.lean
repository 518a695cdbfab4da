/- Any words as numbers: their order, their whole part, what max, min and the ways to a whole number and back make of them. -/
import Derived.Test.YtjdfkjmjjnadaaaWrong0
namespace Go.Proofs.Ytjdfkjmjjnadaaa
open Go.RowKit Ieee

/-- A word that is a number, at the least place. -/
def Num (x : Nat) (v : Int) : Prop := ∃ s m, ∃ i : Int, double.read x = .number s m i ∧ (-1074 : Int) ≤ i ∧ v = signed s m (i + (lp : Int)).toNat
theorem signed_mul (s : Bool) (m a b : Nat) : signed s m (a + b) = signed s m a * ((2 ^ b : Nat) : Int) := by
  unfold signed
  simp only [Nat.shiftLeft_eq, Nat.pow_add]
  cases s
  · simp only [Bool.false_eq_true, if_false]
    rw [← Int.natCast_mul, Nat.mul_assoc]
  · simp only [if_true]
    rw [Int.neg_mul, ← Int.natCast_mul, Nat.mul_assoc]
theorem compare_mul (a b : Int) (c : Nat) (h : 0 < c) : compare (a * (c : Int)) (b * (c : Int)) = compare a b := by
  have hc : (0 : Int) < c := by omega
  rcases Int.lt_trichotomy a b with hl | rfl | hl
  · rw [Int.compare_eq_lt.2 hl, Int.compare_eq_lt.2 (Int.mul_lt_mul_of_pos_right hl hc)]
  · rw [Int.compare_eq_eq.2 rfl, Int.compare_eq_eq.2 rfl]
  · rw [Int.compare_eq_gt.2 hl, Int.compare_eq_gt.2 (Int.mul_lt_mul_of_pos_right hl hc)]
theorem num_order {x y : Nat} {v u : Int} (hx : Num x v) (hy : Num y u) : FloatKind.f64.format.order x y = some (compare v u) := by
  obtain ⟨s, m, i, hx, hi, rfl⟩ := hx
  obtain ⟨t, n, j, hy, hj, rfl⟩ := hy
  show (double.read x).order (double.read y) = _
  rw [hx, hy]
  show some (compare (signed s m (i - min i j).toNat) (signed t n (j - min i j).toNat)) = _
  have hl := lp_eq
  generalize hb : min i j = b
  have e1 : (i + (lp : Int)).toNat = (i - b).toNat + (b + (lp : Int)).toNat := by omega
  have e2 : (j + (lp : Int)).toNat = (j - b).toNat + (b + (lp : Int)).toNat := by omega
  rw [e1, e2, signed_mul, signed_mul, compare_mul _ _ _ (Nat.two_pow_pos _)]

theorem read_form (x : Nat) : (∃ v, Num x v) ∨ (∃ s, double.read x = .infinity s) ∨ (∃ s t, double.read x = .nan s t) := by
  have h : ∃ r : Nat, ∃ neg : Bool, double.read x = (if r < 4503599627370496 then .number neg r (-1074) else if r < 9218868437227405312 then .number neg (4503599627370496 + r % 4503599627370496) (-1074 + ((r / 4503599627370496 - 1 : Nat) : Int)) else if r = 9218868437227405312 then .infinity neg else .nan neg (r - 9218868437227405312)) := by
    refine ⟨x % 9223372036854775808, (x / 9223372036854775808 % 2 == 1), ?_⟩
    unfold Format.read
    simp only [dbl_least, dbl_binade, dbl_inf, dbl_sign]
  obtain ⟨r, neg, h⟩ := h
  by_cases h1 : r < 4503599627370496
  · rw [if_pos h1] at h
    exact .inl ⟨_, neg, r, -1074, h, Int.le_refl _, rfl⟩
  · rw [if_neg h1] at h
    by_cases h2 : r < 9218868437227405312
    · rw [if_pos h2] at h
      exact .inl ⟨_, neg, _, _, h, by omega, rfl⟩
    · rw [if_neg h2] at h
      by_cases h3 : r = 9218868437227405312
      · rw [if_pos h3] at h
        exact .inr (.inl ⟨neg, h⟩)
      · rw [if_neg h3] at h
        exact .inr (.inr ⟨neg, _, h⟩)

theorem num_zero : Num 0 0 := ⟨false, 0, -1074, by decide +kernel, by decide, by simp [signed]⟩
theorem num_minus : Num 9223372036854775808 0 := ⟨true, 0, -1074, by decide +kernel, by decide, by simp [signed]⟩
theorem num_fo {n : Nat} (h : n ≤ 9007199254740992) : Num (fo n) (((n * 2 ^ lp : Nat)) : Int) := by
  obtain ⟨m, p, hd, hp, hm⟩ := fo_read n h
  refine ⟨false, m, p, hd, hp, ?_⟩
  rw [← scaled hp hm]
  simp [signed, Nat.shiftLeft_eq]
theorem num_top : Num 4845873199050653696 (((9007199254740992 * 2 ^ lp : Nat)) : Int) := by
  have := num_fo (n := 9007199254740992) (Nat.le_refl _)
  rwa [fo_top] at this

/-- What lies between nought and the greatest end is a number. -/
theorem guard_num {a b : Nat} (h0 : geqB a 0 = true) (h1 : geqB b a = true) (h2 : leqB b 4845873199050653696 = true) : ∃ v u : Int, Num a v ∧ Num b u ∧ 0 ≤ v ∧ v ≤ u ∧ u ≤ ((9007199254740992 * 2 ^ lp : Nat) : Int) := by
  obtain ⟨s0, m0, i0, z0, -, -⟩ := num_zero
  obtain ⟨s1, m1, i1, z1, -, -⟩ := num_top
  have hA : ∃ v, Num a v := by
    rcases read_form a with h | ⟨s, h⟩ | ⟨s, t, h⟩
    · exact h
    · exfalso
      have g0 : ((double.read a).order (double.read 0) == some .gt || (double.read a).order (double.read 0) == some .eq) = true := h0
      have g1 : ((double.read b).order (double.read a) == some .gt || (double.read b).order (double.read a) == some .eq) = true := h1
      have g2 : ((double.read b).order (double.read 4845873199050653696) == some .lt || (double.read b).order (double.read 4845873199050653696) == some .eq) = true := h2
      rw [h] at g0 g1
      rw [z0] at g0
      rw [z1] at g2
      cases s with
      | true => cases g0
      | false =>
        rcases read_form b with ⟨u, s', m', i', hb, -⟩ | ⟨s', hb⟩ | ⟨s', t', hb⟩
        · rw [hb] at g1; cases g1
        · rw [hb] at g1 g2
          cases s' with
          | true => cases g1
          | false => cases g2
        · rw [hb] at g1; cases g1
    · exfalso
      have g0 : ((double.read a).order (double.read 0) == some .gt || (double.read a).order (double.read 0) == some .eq) = true := h0
      rw [h] at g0
      cases g0
  obtain ⟨v, hv⟩ := hA
  have hB : ∃ u, Num b u := by
    obtain ⟨s, m, i, ha, -, -⟩ := hv
    have g1 : ((double.read b).order (double.read a) == some .gt || (double.read b).order (double.read a) == some .eq) = true := h1
    have g2 : ((double.read b).order (double.read 4845873199050653696) == some .lt || (double.read b).order (double.read 4845873199050653696) == some .eq) = true := h2
    rw [ha] at g1
    rw [z1] at g2
    rcases read_form b with h | ⟨s', h⟩ | ⟨s', t', h⟩
    · exact h
    · exfalso
      rw [h] at g1 g2
      cases s' with
      | true => cases g1
      | false => cases g2
    · exfalso
      rw [h] at g1
      cases g1
  obtain ⟨u, hu⟩ := hB
  refine ⟨v, u, hv, hu, ?_, ?_, ?_⟩
  · unfold geqB at h0
    rw [num_order hv num_zero] at h0
    rcases Int.lt_trichotomy v 0 with h | h | h
    · rw [Int.compare_eq_lt.2 h] at h0; cases h0
    · omega
    · omega
  · unfold geqB at h1
    rw [num_order hu hv] at h1
    rcases Int.lt_trichotomy u v with h | h | h
    · rw [Int.compare_eq_lt.2 h] at h1; cases h1
    · omega
    · omega
  · unfold leqB at h2
    rw [num_order hu num_top] at h2
    generalize ((9007199254740992 * 2 ^ lp : Nat) : Int) = T at *
    rcases Int.lt_trichotomy u T with h | h | h
    · omega
    · omega
    · rw [Int.compare_eq_gt.2 h] at h2; cases h2

/-! ### The whole part -/
theorem cut_zero (s : Bool) (n drop : Nat) : Toward.zero.cut s n drop * 2 ^ drop ≤ n ∧ n < (Toward.zero.cut s n drop + 1) * 2 ^ drop := by
  have e : Toward.zero.cut s n drop = n / (1 <<< min drop (n.log2 + 2)) := by
    unfold Toward.cut
    simp
  rw [e, Nat.shiftLeft_eq, Nat.one_mul]
  rcases Nat.le_total drop (n.log2 + 2) with h | h
  · rw [Nat.min_eq_left h]
    have hp : 0 < 2 ^ drop := Nat.two_pow_pos _
    exact ⟨Nat.div_mul_le_self _ _, by rw [Nat.add_mul, Nat.one_mul, Nat.mul_comm]; exact Nat.lt_mul_div_succ n hp |> fun h => by rw [Nat.mul_add, Nat.mul_one] at h; exact h⟩
  · rw [Nat.min_eq_right h]
    have h1 : n < 2 ^ (n.log2 + 2) := Nat.lt_trans Nat.lt_log2_self (Nat.pow_lt_pow_right (by decide) (by omega))
    rw [Nat.div_eq_of_lt h1]
    have h2 : 2 ^ (n.log2 + 2) ≤ 2 ^ drop := Nat.pow_le_pow_right (by decide) h
    exact ⟨by omega, by omega⟩

/-- A number that is not below nought: its sign and whole part. -/
theorem num_whole {x : Nat} {v : Int} (hx : Num x v) (h0 : 0 ≤ v) (hT : v ≤ ((9007199254740992 * 2 ^ lp : Nat) : Int)) :
    ((FloatKind.f64.decode x).neg = false ∧ ∃ K : Nat, K ≤ 9007199254740992 ∧ ((K * 2 ^ lp : Nat) : Int) ≤ v ∧ v < (((K + 1) * 2 ^ lp : Nat) : Int) ∧ truncW x = fo K ∧ floatToIntVal .f64 x .i64 = some (K : Int)) ∨
      (v = 0 ∧ (FloatKind.f64.decode x).neg = true ∧ truncW x = 9223372036854775808) := by
  obtain ⟨s, m, i, hr, hi, rfl⟩ := hx
  have hd : FloatKind.f64.decode x = .number s m i := hr
  have hl := lp_eq
  cases s with
  | false =>
    refine .inl ⟨by rw [hd]; rfl, Toward.zero.cut false (m <<< i.toNat) (-i).toNat, ?_⟩
    have hv : signed false m (i + (lp : Int)).toNat = ((m * 2 ^ (i + (lp : Int)).toNat : Nat) : Int) := by simp [signed, Nat.shiftLeft_eq]
    rw [hv] at h0 hT ⊢
    have hc := cut_zero false (m <<< i.toNat) (-i).toNat
    have hW : truncW x = fo (Toward.zero.cut false (m <<< i.toNat) (-i).toNat) := by
      unfold truncW
      rw [hd]
      rfl
    have hI : (FloatKind.f64.decode x).toInt .zero = some ((Toward.zero.cut false (m <<< i.toNat) (-i).toNat : Nat) : Int) := by
      rw [hd]
      unfold Datum.toInt Datum.integral
      simp [signed]
    generalize Toward.zero.cut false (m <<< i.toNat) (-i).toNat = K at *
    rw [Nat.shiftLeft_eq] at hc
    have hp : 0 < 2 ^ lp := Nat.two_pow_pos _
    have key : K * 2 ^ lp ≤ m * 2 ^ (i + (lp : Int)).toNat ∧ m * 2 ^ (i + (lp : Int)).toNat < (K + 1) * 2 ^ lp := by
      rcases Int.le_total 0 i with h | h
      · have e1 : (-i).toNat = 0 := by omega
        have e2 : (i + (lp : Int)).toNat = i.toNat + lp := by omega
        rw [e1, Nat.pow_zero, Nat.mul_one, Nat.mul_one] at hc
        rw [e2, Nat.pow_add, ← Nat.mul_assoc]
        exact ⟨Nat.mul_le_mul_right _ hc.1, Nat.mul_lt_mul_of_pos_right hc.2 hp⟩
      · have e1 : i.toNat = 0 := by omega
        have e2 : lp = (-i).toNat + (i + (lp : Int)).toNat := by omega
        rw [e1, Nat.pow_zero, Nat.mul_one] at hc
        have hq : 0 < 2 ^ (i + (lp : Int)).toNat := Nat.two_pow_pos _
        have x1 : K * 2 ^ lp = K * 2 ^ (-i).toNat * 2 ^ (i + (lp : Int)).toNat := by
          conv => lhs; rw [e2]
          rw [Nat.pow_add, Nat.mul_assoc]
        have x2 : (K + 1) * 2 ^ lp = (K + 1) * 2 ^ (-i).toNat * 2 ^ (i + (lp : Int)).toNat := by
          conv => lhs; rw [e2]
          rw [Nat.pow_add, Nat.mul_assoc]
        rw [x1, x2]
        exact ⟨Nat.mul_le_mul_right _ hc.1, Nat.mul_lt_mul_of_pos_right hc.2 hq⟩
    have hK : K ≤ 9007199254740992 := by
      have h1 : K * 2 ^ lp ≤ 9007199254740992 * 2 ^ lp := Nat.le_trans key.1 (Int.ofNat_le.1 hT)
      exact Nat.le_of_mul_le_mul_right h1 hp
    refine ⟨hK, Int.ofNat_le.2 key.1, Int.ofNat_lt.2 key.2, hW, ?_⟩
    unfold floatToIntVal
    rw [hI]
    have m1 : IntKind.i64.min = -9223372036854775808 := by decide
    have m2 : IntKind.i64.max = 9223372036854775807 := by decide
    exact if_pos ⟨by rw [m1]; omega, by rw [m2]; omega⟩
  | true =>
    have hv : signed true m (i + (lp : Int)).toNat = -((m * 2 ^ (i + (lp : Int)).toNat : Nat) : Int) := by simp [signed, Nat.shiftLeft_eq]
    rw [hv] at h0 ⊢
    have h1 : m * 2 ^ (i + (lp : Int)).toNat = 0 := by omega
    have hm : m = 0 := by
      rcases Nat.mul_eq_zero.1 h1 with h | h
      · exact h
      · exact absurd h (Nat.ne_of_gt (Nat.two_pow_pos _))
    subst hm
    refine .inr ⟨by omega, by rw [hd]; rfl, ?_⟩
    unfold truncW
    rw [hd]
    have : Toward.zero.cut true (0 <<< i.toNat) (-i).toNat = 0 := by
      have := (cut_zero true (0 <<< i.toNat) (-i).toNat).1
      rw [Nat.zero_shiftLeft] at this ⊢
      rcases Nat.mul_eq_zero.1 (Nat.le_zero.1 this) with h | h
      · exact h
      · exact absurd h (Nat.ne_of_gt (Nat.two_pow_pos _))
    show double.write (.number true (Toward.zero.cut true (0 <<< i.toNat) (-i).toNat) 0) = _
    rw [this]
    decide +kernel

/-- What a law makes of a part: to a whole number between, and back. -/
theorem part_way {x : Nat} {v : Int} (hx : Num x v) (h0 : 0 ≤ v) (hT : v ≤ ((9007199254740992 * 2 ^ lp : Nat) : Int)) :
    ∃ mx mn K : Nat, (∀ (ts : Array TypeId) (t : TypeId) (w : World), (Builtin.max_ ts t #[.float .f64 x, .float .f64 0]).run Try.prog w = .ok (.float .f64 mx) w) ∧
      (∀ (ts : Array TypeId) (t : TypeId) (w : World), (Builtin.min_ ts t #[.float .f64 mx, .float .f64 4845873199050653696]).run Try.prog w = .ok (.float .f64 mn) w) ∧
      floatToIntVal .f64 mn .i64 = some (K : Int) ∧ (FloatKind.f64.format.order (fo K) x == some .eq) = wholeB x := by
  have ho := num_order hx num_zero
  have ht := num_order hx num_top
  have hmax : ∀ mx, (∀ w : World, (Builtin.max2 (.float .f64 x) (.float .f64 0)).run Try.prog w = .ok (.float .f64 mx) w) → ∀ (ts : Array TypeId) (t : TypeId) (w : World), (Builtin.max_ ts t #[.float .f64 x, .float .f64 0]).run Try.prog w = .ok (.float .f64 mx) w := fun mx h ts t w => by
    change Sem.run Try.prog (List.foldlM Builtin.max2 (.float .f64 x) [.float .f64 0]) w = _
    have := h w
    simp [this]
  have hmin : ∀ mx mn, (∀ w : World, (Builtin.min2 (.float .f64 mx) (.float .f64 4845873199050653696)).run Try.prog w = .ok (.float .f64 mn) w) → ∀ (ts : Array TypeId) (t : TypeId) (w : World), (Builtin.min_ ts t #[.float .f64 mx, .float .f64 4845873199050653696]).run Try.prog w = .ok (.float .f64 mn) w := fun mx mn h ts t w => by
    change Sem.run Try.prog (List.foldlM Builtin.min2 (.float .f64 mx) [.float .f64 4845873199050653696]) w = _
    have := h w
    simp [this]
  rcases num_whole hx h0 hT with ⟨hneg, K, hK, k1, k2, hW, hI⟩ | ⟨hv, hneg, hW⟩
  · have hmx : ∀ w : World, (Builtin.max2 (.float .f64 x) (.float .f64 0)).run Try.prog w = .ok (.float .f64 x) w := fun w => by
      rcases Int.lt_trichotomy v 0 with h | h | h
      · omega
      · rw [Int.compare_eq_eq.2 h] at ho
        simp [Builtin.max2, ho, hneg]
      · rw [Int.compare_eq_gt.2 h] at ho
        simp [Builtin.max2, ho]
    have hwx : wholeB x = (some (compare v ((K * 2 ^ lp : Nat) : Int)) == some .eq) := by
      unfold wholeB
      rw [hW, num_order hx (num_fo hK)]
    generalize hTT : ((9007199254740992 * 2 ^ lp : Nat) : Int) = T at *
    rcases Int.lt_trichotomy v T with h | h | h
    · refine ⟨x, x, K, hmax _ hmx, hmin _ _ (fun w => ?_), hI, ?_⟩
      · rw [Int.compare_eq_lt.2 h] at ht
        simp [Builtin.min2, ht]
      · rw [num_order (num_fo hK) hx, hwx]
        generalize ((K * 2 ^ lp : Nat) : Int) = u at *
        rcases Int.lt_trichotomy u v with h | h | h
        · rw [Int.compare_eq_lt.2 h, Int.compare_eq_gt.2 h]; rfl
        · rw [Int.compare_eq_eq.2 h, Int.compare_eq_eq.2 h.symm]
        · rw [Int.compare_eq_gt.2 h, Int.compare_eq_lt.2 h]; rfl
    · have hKe : K = 9007199254740992 := by
        have hp : 0 < 2 ^ lp := Nat.two_pow_pos _
        have h3 : 9007199254740992 * 2 ^ lp < (K + 1) * 2 ^ lp := by
          apply Int.ofNat_lt.1
          rw [hTT, ← h]
          exact k2
        have := Nat.lt_of_mul_lt_mul_right h3
        omega
      refine ⟨x, 4845873199050653696, 9007199254740992, hmax _ hmx, hmin _ _ (fun w => ?_), ?_, ?_⟩
      · rw [Int.compare_eq_eq.2 h] at ht
        simp [Builtin.min2, ht, hneg]
      · have := val_fo 9007199254740992 (Nat.le_refl _)
        rw [fo_top] at this
        exact this
      · rw [hwx, hKe, hTT, num_order (num_fo (Nat.le_refl _)) hx, hTT, h]
    · omega
  · have hmx : ∀ w : World, (Builtin.max2 (.float .f64 x) (.float .f64 0)).run Try.prog w = .ok (.float .f64 0) w := fun w => by
      rw [Int.compare_eq_eq.2 hv] at ho
      simp [Builtin.max2, ho, hneg]
    refine ⟨0, 0, 0, hmax _ hmx, hmin _ _ (fun w => ?_), ?_, ?_⟩
    · have h0t : FloatKind.f64.format.order 0 4845873199050653696 = some .lt := by decide +kernel
      simp [Builtin.min2, h0t]
    · have := val_fo 0 (by decide)
      rw [fo_zero] at this
      exact this
    · have hz : Num (fo 0) 0 := by rw [fo_zero]; exact num_zero
      unfold wholeB
      rw [hW, num_order hz hx, num_order hx num_minus, hv]

end Go.Proofs.Ytjdfkjmjjnadaaa
