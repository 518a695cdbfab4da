/- Blocks from bytes and back: in plain words. -/
import Derived.Test.YtbnchippfebdkaaPureC
import Derived.Test.YtbnchippfebdkaaQ6
namespace Go.Proofs.Ytbnchippfebdkaa
open Go.RowKit Go.Proofs.Ytbnchippfebdkaa.Q Go.Proofs.YtbnchippfebdkaaW.PrintWords Go.Proofs.YtbnchippfebdkaaW.PrintLast Go.Proofs.YtbnchippfebdkaaW.PrintMore
set_option linter.unusedVariables false
set_option linter.unusedSimpArgs false

theorem bel_range {s many : Int} (h : 0 ≤ many) (h2 : many ≤ 200) : 0 ≤ bel s many ∧ bel s many ≤ 200 := by
  unfold bel
  split
  · omega
  · split
    · omega
    · split <;> omega
theorem sh_range {c : Int} (hc : 0 ≤ c ∧ c < 17) : (0 ≤ (sh c).f1 ∧ (sh c).f1 ≤ 200) ∧ (0 ≤ (sh c).f2 ∧ (sh c).f2 ≤ 200) ∧ (∀ m : Int, 0 ≤ m → m ≤ 200 → 0 ≤ third (sh c) m ∧ third (sh c) m ≤ 200) := by
  obtain ⟨F, -, -, -, h0, h1, h2, -⟩ := table c hc
  refine ⟨?_, ?_, fun m h h' => ?_⟩
  · rw [← h0 0]; exact bel_range (by decide) (by decide)
  · rw [← h1 0]; exact bel_range (by decide) (by decide)
  · rw [← h2 m]; exact bel_range h h'

/-! ### Bytes, and what comes of them -/
theorem drop_split {X : List Int} (hb : Bytes X) {p : Nat} {b : Int} (h0 : 0 ≤ b) (hp : p + adv b ≤ X.length) : X.drop p = encOne (val X p b) b ++ X.drop (p + adv b) := by
  unfold adv val encOne at *
  by_cases h : b = 0
  · rw [if_neg (show ¬ 0 < b by omega), if_pos h]
    rfl
  · rw [if_neg h] at hp
    rw [if_neg h, if_pos (by omega), if_neg h, List.drop_eq_getElem_cons (by omega), rd_eq (by omega)]
    have := hb (X[p]'(by omega)) (List.getElem_mem _)
    rw [show X[p] % 256 = X[p] by omega]
    rfl
theorem enc_of {x : Int} {l : List Int} (hb : Bytes (x :: l)) (hc : isCode x = true) (hs : sz x ≤ (x :: l).length) {m : Nat} (hm : 1 ≤ m) : x :: l = encOp m (opOf (x :: l) x) ++ (x :: l).drop (sz x) := by
  have hc2 := of_code hc
  obtain ⟨r1, r2, r3⟩ := sh_range hc2
  have r3 := r3 200 (by decide) (by decide)
  have hx := hb x List.mem_cons_self
  have s4 : q3 x ≤ sz x := by unfold sz; omega
  have s3 : q2 x ≤ q3 x := by unfold q3; omega
  have s2 : q1 x ≤ q2 x := by unfold q2; omega
  rw [encOp_many _ hm (m' := 200) (by decide)]
  have e1 := drop_split hb (p := 1) r1.1 (show q1 x ≤ _ by omega)
  have e2 := drop_split hb (p := q1 x) r2.1 (show q2 x ≤ _ by omega)
  have e3 := drop_split hb (p := q2 x) r3.1 (show q3 x ≤ _ by omega)
  have e4 : (x :: l).drop (q3 x) = (if (sh x).f5 = true then (List.range 8).map (byteAt (opOf (x :: l) x).f4) else []) ++ (x :: l).drop (sz x) := by
    cases hn : (sh x).f5 with
    | false =>
      have s5 : sz x = q3 x := by unfold sz; rw [hn]; rfl
      rw [s5]
      rfl
    | true =>
      have s5 : sz x = q3 x + 8 := by unfold sz; rw [hn]; rfl
      have e5 : (opOf (x :: l) x).f4 = numT ((x :: l).drop (q3 x)) 8 := by unfold opOf; rw [hn]; rfl
      rw [if_pos rfl, e5, bytes_of_num (hb.drop _) (by rw [List.length_drop]; omega), s5, ← List.drop_drop, List.take_append_drop]
  have e0 : x :: l = [x % 256] ++ (x :: l).drop 1 := by rw [show x % 256 = x by omega]; rfl
  show _ = ([x % 256] ++ (encOne (val (x :: l) 1 (sh x).f1) (sh x).f1 ++ encOne (val (x :: l) (q1 x) (sh x).f2) (sh x).f2 ++ encOne (val (x :: l) (q2 x) (third (sh x) 200)) (third (sh x) 200)) ++ (if (sh x).f5 = true then (List.range 8).map (byteAt (opOf (x :: l) x).f4) else [])) ++ (x :: l).drop (sz x)
  generalize (x :: l) = X at *
  rw [List.append_assoc, ← e4, List.append_assoc, List.append_assoc, List.append_assoc, show X.drop (q3 x) = X.drop (q2 x + adv (third (sh x) 200)) from rfl, ← e3, show X.drop (q2 x) = X.drop (q1 x + adv (sh x).f2) from rfl, ← e2, show X.drop (q1 x) = X.drop (1 + adv (sh x).f1) from rfl, ← e1]
  exact e0

theorem decA_back : ∀ (k : Nat) (b : List Int) (out r : List S46), Bytes b → decA k b out = some r → ∃ l, r = out ++ l ∧ ∀ m, 1 ≤ m → b = l.flatMap (encOp m)
  | 0, b, out, r, hb, h => by cases h
  | k + 1, [], out, r, hb, h => ⟨[], by simpa [decA] using h.symm, fun _ _ => rfl⟩
  | k + 1, x :: l, out, r, hb, h => by
    rw [decA, take_at] at h
    by_cases hc : isCode x = true ∧ sz x ≤ (x :: l).length
    · rw [if_pos hc, Option.bind_some] at h
      obtain ⟨l2, h2, h3⟩ := decA_back k _ _ r (hb.drop _) h
      refine ⟨opOf (x :: l) x :: l2, by rw [h2, List.append_assoc]; rfl, fun m hm => ?_⟩
      rw [List.flatMap_cons, ← h3 m hm]
      exact enc_of hb hc.1 hc.2 hm
    · rw [if_neg hc] at h
      cases h

/-! ### A block from its bytes -/
theorem fieldT_enc {n b b' : Int} (hb : 0 ≤ b) (h : (0 < b) = (0 < b')) (h200 : b' ≤ 200) (hb' : 0 ≤ b') (hf : fits n b' = true) (R : List Int) : fieldT b (encOne n b' ++ R) = some (n, R) := by
  unfold fits least1 at hf
  simp only [Bool.and_eq_true, decide_eq_true_eq] at hf
  unfold encOne
  by_cases h0 : b = 0
  · have h1 : ¬ 0 < b' := by rw [← h]; omega
    rw [if_neg h1, h0, fieldT_zero]
    have : n = 0 := by
      have := hf.2
      split at this <;> omega
    rw [this]
    rfl
  · have h1 : 0 < b' := by rw [← h]; omega
    have h2 := hf.2
    rw [if_neg (by omega)] at h2
    rw [if_pos h1, List.cons_append, fieldT_cons h0, show n % 256 = n by omega]
    rfl
def wordOp (o : S46) : Prop := -9223372036854775808 ≤ o.f4 ∧ o.f4 ≤ 9223372036854775807
theorem take_enc {o : S46} {m : Nat} (h : opRight o m = true) (hm : 1 ≤ m) (hm2 : m ≤ 200) (hw : wordOp o) {R : List Int} (hR : Bytes R) : takeOp (encOp m o ++ R) = some (o, R) := by
  have hc := op_code h
  obtain ⟨r1, r2, r3⟩ := sh_range hc
  have r4 := r3 200 (by decide) (by decide)
  have r5 := r3 m (by omega) (by omega)
  unfold opRight at h
  simp only [Bool.and_eq_true] at h
  obtain ⟨⟨hi, hn⟩, f1, f2, f3⟩ := h
  have e : encOp m o ++ R = o.f0 :: (encOne o.f1 (sh o.f0).f1 ++ (encOne o.f2 (sh o.f0).f2 ++ (encOne o.f3 (third (sh o.f0) m) ++ ((if (sh o.f0).f5 = true then (List.range 8).map (byteAt o.f4) else []) ++ R)))) := by
    unfold encOp
    simp only [encF, List.append_assoc, List.cons_append, List.nil_append]
    rw [show o.f0 % 256 = o.f0 by omega]
  rw [e]
  show takeR o.f0 (sh o.f0).f1 (sh o.f0).f2 (third (sh o.f0) 200) (sh o.f0).f5 (isCode o.f0) _ = _
  rw [is_code hc, takeR_all (fieldT_enc r1.1 rfl r1.2 r1.1 f1 _) (fieldT_enc r2.1 rfl r2.2 r2.1 f2 _) (fieldT_enc r4.1 (third_pos _ (by decide) hm) r5.2 r5.1 f3 _)]
  cases h5 : (sh o.f0).f5 with
  | false =>
    rw [h5, Bool.or_false] at hn
    have h0 : o.f4 = 0 := by simpa using hn
    rw [if_pos rfl, if_neg (by decide), List.nil_append, ← h0]
  | true =>
    rw [if_neg (by decide), if_pos rfl, if_neg (by simp), num_of_bytes o.f4 hw R hR, List.drop_left' (by simp)]

theorem enc_bytes {m : Nat} {o : S46} : Bytes (encOp m o) := by
  intro y hy
  have h1 (n b : Int) : y ∈ encOne n b → 0 ≤ y ∧ y < 256 := by
    unfold encOne
    split
    · intro h
      have := List.mem_singleton.1 h
      omega
    · intro h; cases h
  unfold encOp at hy
  simp only [encF, List.mem_append] at hy
  rcases hy with (h | (h | h) | h) | h
  · have := List.mem_singleton.1 h
    omega
  · exact h1 _ _ h
  · exact h1 _ _ h
  · exact h1 _ _ h
  · split at h
    · obtain ⟨i, -, rfl⟩ := List.mem_map.1 h
      unfold byteAt
      omega
    · cases h
theorem flat_bytes {m : Nat} {l : List S46} : Bytes (l.flatMap (encOp m)) := by
  intro y hy
  obtain ⟨o, -, h⟩ := List.mem_flatMap.1 hy
  exact enc_bytes y h
theorem decA_enc {m : Nat} (hm : 1 ≤ m) (hm2 : m ≤ 200) : ∀ (l : List S46) (k : Nat) (out : List S46), (∀ o ∈ l, opRight o m = true ∧ wordOp o) → l.length < k → decA k (l.flatMap (encOp m)) out = some (out ++ l)
  | [], k, out, h, hk => by
    obtain ⟨k, rfl⟩ : ∃ j, k = j + 1 := ⟨k - 1, by simp at hk; omega⟩
    rw [List.flatMap_nil, decA, List.append_nil]
  | o :: l, k, out, h, hk => by
    obtain ⟨k, rfl⟩ : ∃ j, k = j + 1 := ⟨k - 1, by simp at hk; omega⟩
    have ho := h o List.mem_cons_self
    rw [List.flatMap_cons]
    obtain ⟨x, t, hx⟩ : ∃ x t, encOp m o ++ l.flatMap (encOp m) = x :: t := ⟨_, _, rfl⟩
    have ht := take_enc ho.1 hm hm2 ho.2 (flat_bytes (m := m) (l := l))
    rw [hx] at *
    rw [decA, ht, Option.bind_some, decA_enc hm hm2 l k (out ++ [o]) (fun o' h' => h o' (List.mem_cons_of_mem _ h')) (by simp at hk; omega), List.append_assoc]
    rfl

/-! ### Same blocks -/
theorem same_loop (l m : List S51) (he : l.length = m.length) (hl : l.length ≤ 1000000) : ∀ (d i k : Nat), i + d = l.length → d < k → ∃ b, warpbeamref16_Same.l0 k l m (i : Int) = some b ∧ (b = true ↔ l.drop i = m.drop i)
  | 0, i, k, hd, hk => by
    obtain ⟨k, rfl⟩ : ∃ m, k = m + 1 := ⟨k - 1, by omega⟩
    obtain rfl : i = l.length := by omega
    rw [warpbeamref16_Same.l0, if_neg (by omega)]
    exact ⟨true, rfl, by rw [List.drop_length, he, List.drop_length]; simp⟩
  | d + 1, i, k, hd, hk => by
    obtain ⟨k, rfl⟩ : ∃ m, k = m + 1 := ⟨k - 1, by omega⟩
    have hi : i < l.length := by omega
    have hi2 : i < m.length := by omega
    have e : (l.drop i = m.drop i) = (l[i] = m[i] ∧ l.drop (i + 1) = m.drop (i + 1)) := by
      rw [List.drop_eq_getElem_cons hi, List.drop_eq_getElem_cons hi2, List.cons.injEq]
    rw [warpbeamref16_Same.l0, if_pos (by omega), if_pos (by omega), if_pos (by omega), rd51_eq hi, rd51_eq hi2]
    simp only [e]
    generalize l[i] = a at *
    generalize m[i] = c at *
    by_cases h : a = c
    · subst h
      rw [if_neg (by simp), wrap_next (by omega)]
      obtain ⟨b, h1, h2⟩ := same_loop l m he hl d (i + 1) k (by omega) (by omega)
      exact ⟨b, h1, by rw [h2]; simp⟩
    · have hne : (!(a.f0 == c.f0) || (!(a.f1 == c.f1) || (!(a.f2 == c.f2) || (!(a.f3 == c.f3) || (!(a.f4 == c.f4)))))) = true := by
        rcases a with ⟨a0, a1, a2, a3, a4⟩
        rcases c with ⟨c0, c1, c2, c3, c4⟩
        simp only [S51.mk.injEq] at h
        by_cases h0 : a0 = c0
        · by_cases h1 : a1 = c1
          · by_cases h2 : a2 = c2
            · by_cases h3 : a3 = c3
              · have h4 : ¬ a4 = c4 := fun h4 => h ⟨h0, h1, h2, h3, h4⟩
                simp [h4]
              · simp [h3]
            · simp [h2]
          · simp [h1]
        · simp [h0]
      rw [if_pos hne]
      exact ⟨false, rfl, by simp [h]⟩
theorem same_f (l m : List S51) (hl : l.length ≤ 1000000) (k : Nat) (hk : l.length < k) : ∃ b, warpbeamref16_Same.f k l m = some b ∧ (b = true ↔ l = m) := by
  unfold warpbeamref16_Same.f
  by_cases he : l.length = m.length
  · rw [if_pos (by omega)]
    have := same_loop l m he hl l.length 0 k (by omega) hk
    simpa using this
  · rw [if_neg (by omega)]
    exact ⟨false, rfl, by simp; exact fun h => he (by rw [h])⟩
theorem same_refl (l : List S51) (hl : l.length ≤ 1000000) (k : Nat) (hk : l.length < k) : warpbeamref16_Same.f k l l = some true := by
  obtain ⟨b, h1, h2⟩ := same_f l l hl k hk
  rw [h1, h2.2 rfl]
theorem conv_back (l : List S51) : (l.map conv46).map conv51 = l := by
  rw [List.map_map]
  exact List.map_id'' (fun o => rfl) l
theorem conv_inj {l m : List S51} (h : l.map conv46 = m.map conv46) : l = m := by
  rw [← conv_back l, h, conv_back]

end Go.Proofs.Ytbnchippfebdkaa
