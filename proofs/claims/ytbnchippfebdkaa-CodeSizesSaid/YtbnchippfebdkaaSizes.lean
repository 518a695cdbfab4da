/- CodeSizes: the bytes of a block are those of its operations. -/
import Derived.Test.YtbnchippfebdkaaPureB
import Derived.Test.YtbnchippfebdkaaFlat
import Derived.Test.YtbnchippfebdkaaQ15
namespace Go.Proofs.Ytbnchippfebdkaa
open Go.RowKit Go.Proofs.Ytbnchippfebdkaa.Q Go.Proofs.YtbnchippfebdkaaW.PrintWords Go.Proofs.YtbnchippfebdkaaW.PrintLast Go.Proofs.YtbnchippfebdkaaW.PrintMore
set_option linter.unusedVariables false
set_option linter.unusedSimpArgs false

theorem sizes_true (k : Nat) (l : List S51) : warpbeamlaw16_CodeSizes.j0 (k + 1) l true = some true := by
  rw [warpbeamlaw16_CodeSizes.j0, if_pos rfl]
theorem size_step (l : List S51) (X : List Int) (E : Int) (F : ByteArray) (Y : List S51) (Z I : Int) (k j t : Nat) (n many : Int) (hj : j < 3) (hF : F.size = 4) (hs : sym (bt F j)) (hm : 1 ≤ many) (ht : t < 100000) :
    warpbeamlaw16_CodeSizes.l1 (k + 1) l X E (t : Int) F Y Z I (j : Int) = warpbeamlaw16_CodeSizes.l1 k l X E ((t + (encOne n (bel (bt F j) many)).length : Nat) : Int) F Y Z I ((j + 1 : Nat) : Int) := by
  rw [warpbeamlaw16_CodeSizes.l1, if_pos (by omega), if_pos (by omega), hF, if_pos (by omega), wrap_next (by omega), wrap_next (by omega)]
  unfold encOne
  have hb := bel_pos hs hm
  by_cases h : bt F j = 45
  · rw [if_pos h, if_neg (by rw [hb]; exact fun h2 => h2 h)]
    rfl
  · rw [if_neg h, if_pos (by rw [hb]; exact h)]
    rfl
theorem sizes_round (l : List S51) (X : List Int) (E : Int) (k i t : Nat) (hl : l.length ≤ 200) (hi : i < l.length) (hc : 0 ≤ l[i].f0 ∧ l[i].f0 < 17) (ht : t ≤ 12 * i) :
    warpbeamlaw16_CodeSizes.l0 (k + 5) l X E (t : Int) l (l.length : Int) (i : Int) = warpbeamlaw16_CodeSizes.l0 k l X E ((t + (encOp l.length (conv46 l[i])).length : Nat) : Int) l (l.length : Int) ((i + 1 : Nat) : Int) := by
  obtain ⟨F, hF, hs, hne, h0, h1, h2, h3, q0, q1, q2⟩ := table l[i].f0 hc
  have hm : (1 : Int) ≤ l.length := by omega
  rw [warpbeamlaw16_CodeSizes.l0, if_pos (by omega), if_pos (by omega), if_pos (by omega), rd51_eq hi, hF, Option.bind_some, wrap_next (by omega)]
  generalize l[i] = o at *
  rw [show ((0 : Int)) = ((0 : Nat) : Int) from rfl]
  have b1 := encOne_len o.f1 (sh o.f0).f1
  have b2 := encOne_len o.f2 (sh o.f0).f2
  have b3 := encOne_len o.f3 (third (sh o.f0) l.length)
  have e1 : (encOne o.f1 (bel (bt F ((0 : Nat) : Int)) l.length)).length = (encOne o.f1 (sh o.f0).f1).length := by rw [show bel (bt F ((0 : Nat) : Int)) l.length = (sh o.f0).f1 from h0 _]
  have e2 : (encOne o.f2 (bel (bt F ((0 + 1 : Nat) : Int)) l.length)).length = (encOne o.f2 (sh o.f0).f2).length := by rw [show bel (bt F ((0 + 1 : Nat) : Int)) l.length = (sh o.f0).f2 from h1 _]
  have e3 : (encOne o.f3 (bel (bt F ((0 + 1 + 1 : Nat) : Int)) l.length)).length = (encOne o.f3 (third (sh o.f0) l.length)).length := by rw [show bel (bt F ((0 + 1 + 1 : Nat) : Int)) l.length = third (sh o.f0) l.length from h2 _]
  rw [size_step l X E F l l.length i (k + 3) 0 (t + 1) o.f1 l.length (by decide) hs q0 hm (by omega), e1, size_step l X E F l l.length i (k + 2) (0 + 1) _ o.f2 l.length (by decide) hs q1 hm (by omega), e2,
    size_step l X E F l l.length i (k + 1) (0 + 1 + 1) _ o.f3 l.length (by decide) hs q2 hm (by omega), e3, warpbeamlaw16_CodeSizes.l1, if_neg (by omega), hs, if_pos (by decide), wrap_next (by omega)]
  have hlen : (encOp l.length (conv46 o)).length = 1 + (encOne o.f1 (sh o.f0).f1).length + (encOne o.f2 (sh o.f0).f2).length + (encOne o.f3 (third (sh o.f0) l.length)).length + (if (sh o.f0).f5 = true then 8 else 0) := by
    unfold encOp
    rw [List.length_append, List.length_append]
    show ([o.f0 % 256].length + (encF (conv46 o) (sh o.f0).f1 (sh o.f0).f2 (third (sh o.f0) l.length) 3).length) + (if (sh o.f0).f5 = true then (List.range 8).map (byteAt o.f4) else []).length = _
    rw [show encF (conv46 o) (sh o.f0).f1 (sh o.f0).f2 (third (sh o.f0) l.length) 3 = encOne o.f1 (sh o.f0).f1 ++ encOne o.f2 (sh o.f0).f2 ++ encOne o.f3 (third (sh o.f0) l.length) from rfl, List.length_append, List.length_append]
    split <;> simp <;> omega
  rw [hlen]
  rcases h3 with ⟨h3, h5⟩ | ⟨h3, h5⟩
  · rw [if_pos h3, h5, if_pos rfl]
    congr 1
    unfold wrap64
    omega
  · rw [if_neg (by rw [h3]; decide), h5, if_neg (by decide)]
    congr 1
    omega

theorem sizes_loop (l : List S51) (X : List Int) (hl : l.length ≤ 200) (h1 : 1 ≤ l.length) (hc : ∀ o ∈ l, 0 ≤ o.f0 ∧ o.f0 < 17) (hX : (X.length : Int) = ((l.flatMap fun o => encOp l.length (conv46 o)).length : Nat)) (h0 : wrap64 (rd X 0) = (rd_T51 l 0).f0) (hp : 0 < X.length) :
    ∀ (d i k t : Nat), i + d = l.length → 5 * d < k → t ≤ 12 * i → t + ((l.drop i).flatMap fun o => encOp l.length (conv46 o)).length = (l.flatMap fun o => encOp l.length (conv46 o)).length → warpbeamlaw16_CodeSizes.l0 k l X 0 (t : Int) l (l.length : Int) (i : Int) = some true
  | 0, i, k, t, hd, hk, ht, hT => by
    obtain ⟨k, rfl⟩ : ∃ m, k = m + 1 := ⟨k - 1, by omega⟩
    obtain rfl : i = l.length := by omega
    rw [List.drop_length, List.flatMap_nil, List.length_nil, Nat.add_zero] at hT
    rw [warpbeamlaw16_CodeSizes.l0, if_neg (by omega), if_pos rfl, if_pos (by omega), if_pos (by omega), if_pos (by omega), h0]
    simp
  | d + 1, i, k, t, hd, hk, ht, hT => by
    obtain ⟨k, rfl⟩ : ∃ m, k = m + 5 := ⟨k - 5, by omega⟩
    have hi : i < l.length := by omega
    have hlen := encOp_len l.length (conv46 l[i])
    rw [sizes_round l X 0 k i t hl hi (hc _ (List.getElem_mem hi)) ht]
    refine sizes_loop l X hl h1 hc hX h0 hp d (i + 1) k _ (by omega) (by omega) (by omega) ?_
    rw [List.drop_eq_getElem_cons hi, List.flatMap_cons, List.length_append] at hT
    omega

theorem sizes_core (l : List S51) (k : Nat) (hk : 1500 < k) (hl : l.length ≤ 250) (hr : rightB (l.map conv46) = true) : warpbeamlaw16_CodeSizes.j0 (k + 1) l false = some true := by
  have a1 := right_in hr
  rw [List.length_map] at a1
  have hc : ∀ o ∈ l, 0 ≤ o.f0 ∧ o.f0 < 17 := fun o ho => op_code (a1.2.2 (conv46 o) (List.mem_map_of_mem ho))
  rw [warpbeamlaw16_CodeSizes.j0, if_neg (by decide), theirs_f l (by omega)]
  simp only [Option.bind_some]
  rw [enc_right hr]
  simp only [Option.bind_some]
  rw [List.flatMap_map, List.length_map]
  rcases l with _ | ⟨o, l⟩
  · simp at a1
  · have hc0 := hc o List.mem_cons_self
    have hne : (o :: l).flatMap (fun o' => encOp (o :: l).length (conv46 o')) = o.f0 % 256 :: ((encOp (o :: l).length (conv46 o)).tail ++ l.flatMap (fun o' => encOp (o :: l).length (conv46 o'))) := by
      rw [List.flatMap_cons]
      rfl
    have hz := sizes_loop (o :: l) _ a1.2.1 a1.1 hc rfl (by rw [hne]; show wrap64 (o.f0 % 256) = o.f0; unfold wrap64; omega) (by rw [hne]; simp) (o :: l).length 0 k 0 (by omega) (by omega) (by omega) (by simp)
    rw [show ((0 : Nat) : Int) = 0 from rfl] at hz
    exact hz
theorem sizes_pure (k : Nat) (hk : 1600 < k) (l : List S51) : warpbeamlaw16_CodeSizes.f k l = some true := by
  obtain ⟨k, rfl⟩ : ∃ m, k = m + 1 := ⟨k - 1, by omega⟩
  unfold warpbeamlaw16_CodeSizes.f
  simp only [warpbeamlaw16_alive.f, Option.bind_some, if_true]
  by_cases h : (l.length : Int) > 250
  · rw [if_pos h, sizes_true]
  · rw [if_neg h, ref_right l (by omega) (k + 1) (by omega)]
    simp only [Option.bind_some]
    cases hr : rightB (l.map conv46) with
    | false => rw [Bool.not_false, sizes_true]
    | true => rw [Bool.not_true, sizes_core l k (by omega) (by omega) hr]

theorem walk_CodeSizes {H : Type} {enc : TypeId × Value → H} (W : World) (base : Nat) (v0 : Value) (d0 : DataW H) (p0 : List MemPlace) (o0 : Value.okWide Try.prog W .any base 22 v0) (h0 : DataW.Trod enc Try.prog W 0 (fun _ => true) true 22 v0 d0 p0) {P : Prop} (_hsz : P) :
    Calls Try.prog 7 #[v0] W fun e w' => e = .returned (.bool true) ∧ Below W.heap.size W w' := by
  obtain ⟨A, c, l, rfl, hlc, hC, -⟩ := ops_of o0 h0
  exact warpbeamlaw16_CodeSizes.calls 3000 A c l true W hC hlc (sizes_pure 3000 (by decide) l)

end Go.Proofs.Ytbnchippfebdkaa
