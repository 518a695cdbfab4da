/- Whether a block may be, and its bytes: the program's and the document's, in plain words. No program in sight. -/
import Derived.Test.YtbnchippfebdkaaHDecode
import Derived.Test.YtbnchippfebdkaaLoops
import Derived.Test.YtbnchippfebdkaaQ4
import Derived.Test.YtbnchippfebdkaaQ3
import Derived.Test.YtbnchippfebdkaaQ2
namespace Go.Proofs.Ytbnchippfebdkaa
open Go.RowKit Go.Proofs.Ytbnchippfebdkaa.Q Go.Proofs.YtbnchippfebdkaaW.PrintWords Go.Proofs.YtbnchippfebdkaaW.PrintLast Go.Proofs.YtbnchippfebdkaaW.PrintMore
set_option linter.unusedVariables false
set_option linter.unusedSimpArgs false

/-! ### The table -/
/-- How many there may be, by the document's letter. -/
def bel (s many : Int) : Int := if s = 114 then 8 else if s = 118 then 64 else if s = 112 then many else 0
def sym (s : Int) : Prop := s = 114 ∨ s = 118 ∨ s = 112 ∨ s = 45
instance (s : Int) : Decidable (sym s) := by unfold sym; infer_instance

theorem table (c : Int) (h : 0 ≤ c ∧ c < 17) : ∃ F, warpbeamref16_Fields.f c = some F ∧ F.size = 4 ∧ F.toList ≠ [] ∧ (∀ many, bel (bt F 0) many = (sh c).f1) ∧ (∀ many, bel (bt F 1) many = (sh c).f2) ∧ (∀ many, bel (bt F 2) many = third (sh c) many) ∧ ((bt F 3 = 110 ∧ (sh c).f5 = true) ∨ (bt F 3 = 45 ∧ (sh c).f5 = false)) ∧ sym (bt F 0) ∧ sym (bt F 1) ∧ sym (bt F 2) := by
  obtain ⟨n, rfl⟩ : ∃ n : Nat, c = n := ⟨c.toNat, by omega⟩
  have hn : n < 17 := by omega
  rcases n with _ | _ | _ | _ | _ | _ | _ | _ | _ | _ | _ | _ | _ | _ | _ | _ | _ | n
  all_goals first
    | (exfalso; omega)
    | exact ⟨_, rfl, rfl, by rw [ByteArray.toList_eq]; decide, fun _ => rfl, fun _ => rfl, fun _ => rfl, .inl ⟨by decide, by decide⟩, by decide, by decide, by decide⟩
    | exact ⟨_, rfl, rfl, by rw [ByteArray.toList_eq]; decide, fun _ => rfl, fun _ => rfl, fun _ => rfl, .inr ⟨by decide, by decide⟩, by decide, by decide, by decide⟩
theorem no_table (c : Int) (h : ¬ (0 ≤ c ∧ c < 17)) : warpbeamref16_Fields.f c = some ⟨#[]⟩ ∧ isCode c = false := by
  unfold warpbeamref16_Fields.f isCode
  by_cases h0 : c < 0
  · rw [if_pos h0, decide_eq_false (by omega)]
    exact ⟨rfl, rfl⟩
  · rw [if_neg h0, if_pos (by omega), decide_eq_false (p := c < 17) (by omega), Bool.and_false]
    exact ⟨rfl, rfl⟩
theorem is_code {c : Int} (h : 0 ≤ c ∧ c < 17) : isCode c = true := by unfold isCode; simp [h.1, h.2]
theorem of_code {c : Int} (h : isCode c = true) : 0 ≤ c ∧ c < 17 := by
  unfold isCode at h
  simp only [Bool.and_eq_true, decide_eq_true_eq] at h
  exact h

theorem field_f {s n many : Int} (hs : sym s) (hm : 1 ≤ many) : warpbeamref16_field.f s n many = some (fits n (bel s many)) := by
  unfold warpbeamref16_field.f fits bel least1
  rcases hs with rfl | rfl | rfl | rfl
  · by_cases h : n ≥ 0
    · simp [h]
    · simp [h]
  · by_cases h : n ≥ 0
    · simp [h]
    · simp [h]
  · by_cases h : n ≥ 0
    · simp [h, show ¬ many < 1 from by omega]
    · simp [h]
  · by_cases h : n ≥ 0
    · simp [h]
    · simp [h]

/-! ### May a block be -/
def lens (n : Nat) : Bool := decide ((1 : Int) ≤ n) && decide ((n : Int) ≤ 200)
theorem right_end (l : List S51) (k : Nat) : warpbeamref16_Right.l0 (k + 1) l (l.length : Int) = some (lens l.length) := by
  rw [warpbeamref16_Right.l0, if_neg (by omega)]
  unfold lens
  by_cases h : (l.length : Int) ≥ 1
  · rw [if_pos h, decide_eq_true (p := (1 : Int) ≤ l.length) h, Bool.true_and]
  · rw [if_neg h, decide_eq_false (p := (1 : Int) ≤ l.length) h, Bool.false_and]
theorem rd51_eq {l : List S51} {i : Nat} (hi : i < l.length) : rd_T51 l (i : Int) = l[i] := by
  unfold rd_T51
  simp [List.getD_eq_getElem?_getD, hi]
theorem j1_true (l : List S51) (k : Nat) (i : Int) (F : ByteArray) : warpbeamref16_Right.j1 (k + 1) l i F true = some false := by
  rw [warpbeamref16_Right.j1, if_pos rfl]
theorem right_step (l : List S51) (k i : Nat) (hi : i < l.length) (hl : l.length ≤ 1000000) :
    warpbeamref16_Right.l0 (k + 2) l (i : Int) = if opRight (conv46 l[i]) l.length = true then warpbeamref16_Right.l0 k l ((i + 1 : Nat) : Int) else some false := by
  rw [warpbeamref16_Right.l0, if_pos (by omega), if_pos (by omega)]
  have hrd := rd51_eq hi
  generalize l[i] = o at *
  rw [hrd]
  by_cases hc : 0 ≤ o.f0 ∧ o.f0 < 17
  · obtain ⟨F, hF, hs, hne, h0, h1, h2, h3, q0, q1, q2⟩ := table o.f0 hc
    have hm : (1 : Int) ≤ l.length := by omega
    rw [hF, Option.bind_some, if_neg hne, hs, if_pos (by decide), field_f q0 hm, Option.bind_some, h0]
    have hop : opRight (conv46 o) l.length = ((o.f4 == 0 || (sh o.f0).f5) && (fits o.f1 (sh o.f0).f1 && (fits o.f2 (sh o.f0).f2 && fits o.f3 (third (sh o.f0) l.length)))) := by
      unfold opRight
      show (isCode o.f0 && _ && _) = _
      rw [is_code hc, Bool.true_and]
      rfl
    rw [hop]
    cases e1 : fits o.f1 (sh o.f0).f1 with
    | false => rw [if_neg (by decide), j1_true]; simp
    | true =>
      rw [if_pos rfl, if_pos (by decide), field_f q1 hm, Option.bind_some, h1]
      cases e2 : fits o.f2 (sh o.f0).f2 with
      | false => rw [if_neg (by decide), j1_true]; simp
      | true =>
        rw [if_pos rfl, if_pos (by decide), field_f q2 hm, Option.bind_some, h2]
        cases e3 : fits o.f3 (third (sh o.f0) l.length) with
        | false => show warpbeamref16_Right.j1 (k + 1) l i F true = _; rw [j1_true]; simp
        | true =>
          show warpbeamref16_Right.j1 (k + 1) l i F false = _
          rw [warpbeamref16_Right.j1, if_neg (by decide), hs, if_pos (by decide)]
          rcases h3 with ⟨h3, h5⟩ | ⟨h3, h5⟩
          · rw [h3, if_neg (by decide), h5, wrap_next (by omega)]
            simp
          · rw [h3, if_pos rfl, if_pos (by omega), if_pos (by omega), hrd, h5, wrap_next (by omega)]
            by_cases h4 : o.f4 = 0
            · rw [if_pos h4, h4]; rfl
            · rw [if_neg h4, show (o.f4 == 0) = false from by simpa using h4]; rfl
  · obtain ⟨hF, hi2⟩ := no_table o.f0 hc
    rw [hF, Option.bind_some, if_pos (by rw [ByteArray.toList_eq]), j1_true]
    unfold opRight
    show _ = if (isCode o.f0 && _ && _) = true then _ else _
    rw [hi2]
    simp

theorem right_loop (l : List S51) (hl : l.length ≤ 1000000) : ∀ d i k, i + d = l.length → 2 * d < k → warpbeamref16_Right.l0 k l (i : Int) = some ((l.drop i).all (fun o => opRight (conv46 o) l.length) && lens l.length)
  | 0, i, k, hd, hk => by
    obtain ⟨k, rfl⟩ : ∃ m, k = m + 1 := ⟨k - 1, by omega⟩
    obtain rfl : i = l.length := by omega
    rw [right_end]
    simp
  | d + 1, i, k, hd, hk => by
    obtain ⟨k, rfl⟩ : ∃ m, k = m + 2 := ⟨k - 2, by omega⟩
    have hi : i < l.length := by omega
    rw [right_step l k i hi hl, List.drop_eq_getElem_cons hi, List.all_cons]
    cases h : opRight (conv46 l[i]) l.length with
    | true => rw [if_pos rfl, right_loop l hl d (i + 1) k (by omega) (by omega), Bool.true_and]
    | false => rw [if_neg (by decide), Bool.false_and, Bool.false_and]

theorem rightB_map (l : List S51) : rightB (l.map conv46) = (l.all (fun o => opRight (conv46 o) l.length) && lens l.length) := by
  unfold rightB lens
  rw [List.length_map, List.all_map, Bool.and_comm]
  rfl
/-- May a block be: the document's answer is the program's. -/
theorem ref_right (l : List S51) (hl : l.length ≤ 1000000) (k : Nat) (hk : 2 * l.length < k) : warpbeamref16_Right.f k l = some (rightB (l.map conv46)) := by
  unfold warpbeamref16_Right.f
  have := right_loop l hl l.length 0 k (by omega) hk
  rw [rightB_map]
  simpa using this

/-! ### The bytes of an operation -/
theorem bel_pos {s many : Int} (hs : sym s) (hm : 1 ≤ many) : (0 < bel s many) = (s ≠ 45) := by
  unfold bel
  rcases hs with rfl | rfl | rfl | rfl <;> simp <;> omega
theorem bytes_step (F : ByteArray) (k i : Nat) (acc : List Int) (n1 n2 n3 : Int) (y0 y1 y2 y3 y4 many : Int) (hi : i < 3) (hF : F.size = 4) (hs : sym (bt F i)) (hm : 1 ≤ many) (ha : acc.length < 100) :
    warpbeamref16_bytes.l0 (k + 1) F acc [n1, n2, n3] (i : Int) y0 y1 y2 y3 y4 = warpbeamref16_bytes.l0 k F (acc ++ encOne (rd [n1, n2, n3] i) (bel (bt F i) many)) [n1, n2, n3] ((i + 1 : Nat) : Int) y0 y1 y2 y3 y4 := by
  rw [warpbeamref16_bytes.l0, if_pos (by omega), if_pos (by omega), hF, if_pos (by omega), wrap_next (by omega)]
  unfold encOne
  have hb := bel_pos hs hm
  by_cases h : bt F i = 45
  · rw [if_pos h, if_neg (by rw [hb]; exact fun h2 => h2 h), List.append_nil]
  · rw [if_neg h, if_pos (by show (i : Int) < 3; omega), if_pos (by omega), if_pos (by rw [hb]; exact h)]
/-- A byte of a word, and what is left. -/
theorem word_byte (n : Int) (i : Nat) (hi : i < 8) : (Int.tmod ((n % 18446744073709551616) / 2 ^ (8 * i)) 256) % 256 = byteAt n i ∧ IntKind.u64.wrap (Int.tdiv ((n % 18446744073709551616) / 2 ^ (8 * i)) 256) = (n % 18446744073709551616) / 2 ^ (8 * (i + 1)) := by
  have h0 : 0 ≤ n % 18446744073709551616 := by omega
  have h1 : 0 ≤ (n % 18446744073709551616) / 2 ^ (8 * i) := Int.ediv_nonneg h0 (Int.pow_nonneg (by decide))
  rw [Int.tmod_eq_emod_of_nonneg h1, Int.tdiv_eq_ediv_of_nonneg h1]
  unfold byteAt
  show _ ∧ (((n % 18446744073709551616) / 2 ^ (8 * i)) / 256) % 18446744073709551616 = _
  rcases i with _ | _ | _ | _ | _ | _ | _ | _ | i
  all_goals first
    | (exfalso; omega)
    | (simp only [Nat.zero_add, Nat.mul_zero, Nat.reduceAdd, Nat.reduceMul, Int.reducePow, Int.pow_zero, Int.ediv_one]; omega)

theorem bytes_num (F : ByteArray) (n : Int) (hF : F.size = 4) (h3 : bt F 3 = 110) : ∀ (d i k : Nat) (acc : List Int), i + d = 8 → d < k → acc.length + d < 1000 → warpbeamref16_bytes.l1 k F acc ((n % 18446744073709551616) / 2 ^ (8 * i)) (i : Int) = some (acc ++ ((List.range 8).drop i).map (byteAt n))
  | 0, i, k, acc, hd, hk, ha => by
    obtain ⟨k, rfl⟩ : ∃ m, k = m + 1 := ⟨k - 1, by omega⟩
    obtain rfl : i = 8 := by omega
    rw [warpbeamref16_bytes.l1, if_neg (by omega)]
    simp
  | d + 1, i, k, acc, hd, hk, ha => by
    obtain ⟨k, rfl⟩ : ∃ m, k = m + 1 := ⟨k - 1, by omega⟩
    have hi : i < 8 := by omega
    obtain ⟨w1, w2⟩ := word_byte n i hi
    rw [warpbeamref16_bytes.l1, if_pos (by omega), hF, if_pos (by decide), if_pos h3, if_pos (by omega), w1, w2, wrap_next (by omega), bytes_num F n hF h3 d (i + 1) k _ (by omega) (by omega) (by simp; omega), List.append_assoc]
    have e : ((List.range 8).drop i).map (byteAt n) = byteAt n i :: ((List.range 8).drop (i + 1)).map (byteAt n) := by
      rw [List.drop_eq_getElem_cons (i := i) (by simpa using hi), List.map_cons, List.getElem_range]
    rw [e]
    rfl
theorem bytes_no (F : ByteArray) (x : Int) (hF : F.size = 4) (h3 : bt F 3 = 45) (k : Nat) (acc : List Int) : warpbeamref16_bytes.l1 (k + 1) F acc x 0 = some acc := by
  rw [warpbeamref16_bytes.l1, if_pos (by decide), hF, if_pos (by decide), if_neg (by rw [h3]; decide)]

theorem bytes_f (o : S51) (many : Nat) (hc : 0 ≤ o.f0 ∧ o.f0 < 17) (hm : 1 ≤ many) (k : Nat) (hk : 20 ≤ k) :
    warpbeamref16_bytes.f k o.f0 o.f1 o.f2 o.f3 o.f4 = some (encOp many (conv46 o)) := by
  obtain ⟨F, hF, hs, hne, h0, h1, h2, h3, q0, q1, q2⟩ := table o.f0 hc
  have hm1 : (1 : Int) ≤ many := by omega
  unfold warpbeamref16_bytes.f
  obtain ⟨k, rfl⟩ : ∃ m, k = m + 20 := ⟨k - 20, by omega⟩
  rw [hF, Option.bind_some]
  have e1 (A : List Int) (n b : Int) : (A ++ encOne n b).length ≤ A.length + 1 := by unfold encOne; split <;> simp
  rw [show ((0 : Int)) = ((0 : Nat) : Int) from rfl]
  rw [bytes_step F (k + 19) 0 _ _ _ _ _ _ _ _ _ many (by decide) hs q0 hm1 (by simp), bytes_step F (k + 18) 1 _ _ _ _ _ _ _ _ _ many (by decide) hs q1 hm1 (Nat.lt_of_le_of_lt (e1 _ _ _) (by simp)),
    bytes_step F (k + 17) 2 _ _ _ _ _ _ _ _ _ many (by decide) hs q2 hm1 (Nat.lt_of_le_of_lt (e1 _ _ _) (Nat.lt_of_le_of_lt (Nat.add_le_add_right (e1 _ _ _) 1) (by simp)))]
  have hL : (([o.f0 % 256] ++ encOne (rd [o.f1, o.f2, o.f3] ((0 : Nat) : Int)) (bel (bt F ((0 : Nat) : Int)) many) ++ encOne (rd [o.f1, o.f2, o.f3] ((0 + 1 : Nat) : Int)) (bel (bt F ((1 : Nat) : Int)) many)) ++ encOne (rd [o.f1, o.f2, o.f3] ((1 + 1 : Nat) : Int)) (bel (bt F ((2 : Nat) : Int)) many)).length < 100 := by
    refine Nat.lt_of_le_of_lt (e1 _ _ _) (Nat.lt_of_le_of_lt (Nat.add_le_add_right (e1 _ _ _) 1) (Nat.lt_of_le_of_lt (Nat.add_le_add_right (Nat.add_le_add_right (e1 _ _ _) 1) 1) (by simp)))
  have hA : (([o.f0 % 256] ++ encOne (rd [o.f1, o.f2, o.f3] ((0 : Nat) : Int)) (bel (bt F ((0 : Nat) : Int)) many) ++ encOne (rd [o.f1, o.f2, o.f3] ((0 + 1 : Nat) : Int)) (bel (bt F ((1 : Nat) : Int)) many)) ++ encOne (rd [o.f1, o.f2, o.f3] ((1 + 1 : Nat) : Int)) (bel (bt F ((2 : Nat) : Int)) many)) = [o.f0 % 256] ++ encF (conv46 o) (sh o.f0).f1 (sh o.f0).f2 (third (sh o.f0) many) 3 := by
    rw [show bel (bt F ((0 : Nat) : Int)) many = (sh o.f0).f1 from h0 many, show bel (bt F ((1 : Nat) : Int)) many = (sh o.f0).f2 from h1 many, show bel (bt F ((2 : Nat) : Int)) many = third (sh o.f0) many from h2 many]
    simp only [encF, List.append_assoc]
    rfl
  rw [warpbeamref16_bytes.l0, if_neg (by omega)]
  generalize hQ : ([o.f0 % 256] ++ encOne (rd [o.f1, o.f2, o.f3] ((0 : Nat) : Int)) (bel (bt F ((0 : Nat) : Int)) many) ++ encOne (rd [o.f1, o.f2, o.f3] ((0 + 1 : Nat) : Int)) (bel (bt F ((1 : Nat) : Int)) many)) ++ encOne (rd [o.f1, o.f2, o.f3] ((1 + 1 : Nat) : Int)) (bel (bt F ((2 : Nat) : Int)) many) = acc at *
  unfold encOp
  show _ = some ([o.f0 % 256] ++ encF (conv46 o) (sh o.f0).f1 (sh o.f0).f2 (third (sh o.f0) many) 3 ++ (if (sh o.f0).f5 = true then (List.range 8).map (byteAt o.f4) else []))
  rw [← hA]
  rcases h3 with ⟨h3, h5⟩ | ⟨h3, h5⟩
  · rw [h5, if_pos rfl]
    have := bytes_num F o.f4 hs h3 8 0 (k + 16) acc (by decide) (by omega) (by omega)
    rw [Nat.mul_zero, Int.pow_zero, Int.ediv_one] at this
    exact this
  · rw [h5, if_neg (by decide), List.append_nil]
    exact bytes_no F _ hs h3 (k + 15) acc

/-! ### The bytes of a block -/
theorem encOne_len (n b : Int) : (encOne n b).length ≤ 1 := by unfold encOne; split <;> simp
theorem encOp_len (many : Nat) (o : S46) : (encOp many o).length ≤ 12 := by
  unfold encOp encF
  have := encOne_len o.f1 (sh o.f0).f1
  have := encOne_len o.f2 (sh o.f0).f2
  have := encOne_len o.f3 (third (sh o.f0) many)
  have h8 : (if (sh o.f0).f5 = true then (List.range 8).map (byteAt o.f4) else []).length ≤ 8 := by split <;> simp
  simp only [List.length_append, List.length_singleton]
  omega
theorem flat_len {α : Type} (g : α → List Int) (b : Nat) (h : ∀ x, (g x).length ≤ b) : ∀ l : List α, (l.flatMap g).length ≤ b * l.length
  | [] => by simp
  | x :: l => by
    rw [List.flatMap_cons, List.length_append, List.length_cons, Nat.mul_add, Nat.mul_one]
    have := h x
    have := flat_len g b h l
    omega
theorem enc_loop (l : List S51) (hl : l.length ≤ 200) (hc : ∀ o ∈ l, 0 ≤ o.f0 ∧ o.f0 < 17) : ∀ (d i k : Nat) (acc : List Int), i + d = l.length → d + 30 < k → acc.length ≤ 12 * i → warpbeamref16_Encode.l0 k l acc (i : Int) = some (acc ++ (l.drop i).flatMap (fun o => encOp l.length (conv46 o)), 0)
  | 0, i, k, acc, hd, hk, ha => by
    obtain ⟨k, rfl⟩ : ∃ m, k = m + 1 := ⟨k - 1, by omega⟩
    obtain rfl : i = l.length := by omega
    rw [warpbeamref16_Encode.l0, if_neg (by omega)]
    simp
  | d + 1, i, k, acc, hd, hk, ha => by
    obtain ⟨k, rfl⟩ : ∃ m, k = m + 1 := ⟨k - 1, by omega⟩
    have hi : i < l.length := by omega
    have hlen := encOp_len l.length (conv46 l[i])
    rw [warpbeamref16_Encode.l0, if_pos (by omega), if_pos (by omega), rd51_eq hi, bytes_f l[i] l.length (hc _ (List.getElem_mem hi)) (by omega) k (by omega), Option.bind_some, if_pos (by omega), wrap_next (by omega),
      enc_loop l hl hc d (i + 1) k _ (by omega) (by omega) (by rw [List.length_append]; omega)]
    have e : (l.drop i).flatMap (fun o => encOp l.length (conv46 o)) = encOp l.length (conv46 l[i]) ++ (l.drop (i + 1)).flatMap (fun o => encOp l.length (conv46 o)) := by
      rw [List.drop_eq_getElem_cons (i := i) hi, List.flatMap_cons]
    rw [e, List.append_assoc]
theorem right_in {l : List S46} (h : rightB l = true) : 1 ≤ l.length ∧ l.length ≤ 200 ∧ ∀ o ∈ l, opRight o l.length = true := by
  unfold rightB at h
  simp only [Bool.and_eq_true, decide_eq_true_eq, List.all_eq_true] at h
  exact ⟨by omega, by omega, h.2⟩
theorem op_code {o : S46} {many : Int} (h : opRight o many = true) : 0 ≤ o.f0 ∧ o.f0 < 17 := by
  unfold opRight at h
  simp only [Bool.and_eq_true] at h
  exact of_code h.1.1
/-- The bytes of a block: the document's are the program's. -/
theorem ref_encode (l : List S51) (hl : l.length ≤ 1000000) (k : Nat) (hk : 2 * l.length + 40 < k) : warpbeamref16_Encode.f k l = code_Encode.f (l.map conv46) := by
  unfold warpbeamref16_Encode.f code_Encode.f
  rw [ref_right l hl k (by omega), Option.bind_some]
  cases h : rightB (l.map conv46) with
  | false => rfl
  | true =>
    rw [if_pos rfl, if_pos rfl]
    have hr := right_in h
    rw [List.length_map] at hr
    have := enc_loop l hr.2.1 (fun o ho => op_code (hr.2.2 (conv46 o) (List.mem_map_of_mem ho))) l.length 0 k [] (by omega) (by omega) (by simp)
    rw [show ((0 : Nat) : Int) = 0 from rfl] at this
    rw [this, List.length_map, List.flatMap_map]
    rfl

/-! ### Equal rows -/
theorem rd_eq {l : List Int} {i : Nat} (hi : i < l.length) : rd l (i : Int) = l[i] := by
  unfold rd
  simp [List.getD_eq_getElem?_getD, hi]
theorem equal_loop (l m : List Int) (he : l.length = m.length) (hl : l.length ≤ 1000000) : ∀ (d i k : Nat), i + d = l.length → d < k → slices_Equal_byte_byte.l0 k l m (l.length : Int) (i : Int) = some (decide (l.drop i = m.drop i))
  | 0, i, k, hd, hk => by
    obtain ⟨k, rfl⟩ : ∃ m, k = m + 1 := ⟨k - 1, by omega⟩
    obtain rfl : i = l.length := by omega
    rw [slices_Equal_byte_byte.l0, if_neg (by omega), List.drop_length, he, List.drop_length]
    rfl
  | d + 1, i, k, hd, hk => by
    obtain ⟨k, rfl⟩ : ∃ m, k = m + 1 := ⟨k - 1, by omega⟩
    have hi : i < l.length := by omega
    have hi2 : i < m.length := by omega
    rw [slices_Equal_byte_byte.l0, if_pos (by omega), if_pos (by omega), if_pos (by omega), if_pos (by omega), rd_eq hi, rd_eq hi2]
    have e : (l.drop i = m.drop i) = (l[i] = m[i] ∧ l.drop (i + 1) = m.drop (i + 1)) := by
      rw [List.drop_eq_getElem_cons hi, List.drop_eq_getElem_cons hi2, List.cons.injEq]
    simp only [e]
    by_cases h : l[i] = m[i]
    · rw [if_pos h, wrap_next (by omega), equal_loop l m he hl d (i + 1) k (by omega) (by omega)]
      simp [h]
    · rw [if_neg h]
      simp [h]
theorem equal_f (l m : List Int) (hl : l.length ≤ 1000000) (k : Nat) (hk : l.length < k) : slices_Equal_byte_byte.f k l m = some (decide (l = m)) := by
  unfold slices_Equal_byte_byte.f
  by_cases he : l.length = m.length
  · rw [if_pos (by omega)]
    have := equal_loop l m he hl l.length 0 k (by omega) hk
    simpa using this
  · rw [if_neg (by omega)]
    congr 1
    symm
    rw [decide_eq_false_iff_not]
    exact fun h => he (by rw [h])

theorem theirs_f (l : List S51) (hl : l.length ≤ 1000000) : warpbeamlaw16_Theirs.f l = some (l.map conv46) := by unfold warpbeamlaw16_Theirs.f; rw [if_pos hl]
theorem ours_f (l : List S46) (hl : l.length ≤ 1000000) : warpbeamlaw16_Ours.f l = some (l.map conv51) := by unfold warpbeamlaw16_Ours.f; rw [if_pos hl]

end Go.Proofs.Ytbnchippfebdkaa
