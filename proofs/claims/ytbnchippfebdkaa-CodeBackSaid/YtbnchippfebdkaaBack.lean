/- CodeBack: blocks come back from their bytes, and bytes from their blocks. -/
import Derived.Test.YtbnchippfebdkaaPureD
import Derived.Test.YtbnchippfebdkaaFlat
import Derived.Test.YtbnchippfebdkaaQ14
namespace Go.Proofs.Ytbnchippfebdkaa
open Go.RowKit Go.Proofs.Ytbnchippfebdkaa.Q Go.Proofs.YtbnchippfebdkaaW.PrintWords Go.Proofs.YtbnchippfebdkaaW.PrintLast Go.Proofs.YtbnchippfebdkaaW.PrintMore
set_option linter.unusedVariables false
set_option linter.unusedSimpArgs false

theorem byteRow_of {l : List Int} (h : Bytes l) : byteRow l = true := by
  unfold byteRow
  rw [List.all_eq_true]
  intro y hy
  have := h y hy
  simp [this.1, this.2]
theorem dec_enc {l : List S46} (h : rightB l = true) (hw : ∀ o ∈ l, wordOp o) : code_Decode.f (l.flatMap (encOp l.length)) = some (l, 0) := by
  have a1 := right_in h
  have n1 := enc_len l (enc_right h)
  have n2 : l.length ≤ (l.flatMap (encOp l.length)).length := by
    have : ∀ (m : Nat) (t : List S46), t.length ≤ (t.flatMap (encOp m)).length := by
      intro m t
      induction t with
      | nil => simp
      | cons o t ih =>
        rw [List.flatMap_cons, List.length_append, List.length_cons]
        have : 1 ≤ (encOp m o).length := by unfold encOp; simp only [List.length_append, List.length_singleton]; omega
        omega
    exact this _ l
  unfold code_Decode.f
  rw [if_pos ⟨byteRow_of flat_bytes, by omega⟩, decA_enc a1.1 a1.2.1 l _ [] (fun o ho => ⟨a1.2.2 o ho, hw o ho⟩) (by omega)]
  simp only [List.nil_append]
  rw [if_pos h]
theorem back_end (b : List Int) (hb : Bytes b) (hl : b.length ≤ 2000) (k : Nat) (hk : 2500 < k) : warpbeamlaw16_CodeBack.j1 (k + 1) b = some true := by
  rw [warpbeamlaw16_CodeBack.j1]
  unfold code_Decode.f
  rw [if_pos ⟨byteRow_of hb, by omega⟩]
  cases hd : decA (b.length + 1) b [] with
  | none => simp
  | some l =>
    obtain ⟨l2, h1, h2⟩ := decA_back _ b [] l hb hd
    rw [List.nil_append] at h1
    subst h1
    simp only
    cases hr : rightB l with
    | false => simp
    | true =>
      rw [if_pos rfl]
      simp only [Option.bind_some, if_true]
      rw [enc_right hr, ← h2 l.length (right_in hr).1]
      simp only [Option.bind_some, if_true]
      rw [equal_f b b (by omega) k (by omega)]
      simp only [Option.bind_some, decide_true, if_true]
      rw [right_f, hr]
      rfl
theorem back_true (k : Nat) (l m : List S51) (b : List Int) : warpbeamlaw16_CodeBack.j0 (k + 1) l m b true = some true := by
  rw [warpbeamlaw16_CodeBack.j0, if_pos rfl]
theorem back_core (l m : List S51) (b : List Int) (hl : l.length ≤ 250) (hm : m.length ≤ 250) (hb : Bytes b) (hn : b.length ≤ 2000) (hw : ∀ o ∈ l, goodOp o) (hw2 : ∀ o ∈ m, goodOp o) (k : Nat) (hk : 3000 < k) : warpbeamlaw16_CodeBack.j0 (k + 2) l m b false = some true := by
  have e1 := back_end b hb hn k (by omega)
  have wl : ∀ o ∈ l.map conv46, wordOp o := fun o ho => by
    obtain ⟨o', h', rfl⟩ := List.mem_map.1 ho
    exact (hw o' h').2.2.2.2
  have wm : ∀ o ∈ m.map conv46, wordOp o := fun o ho => by
    obtain ⟨o', h', rfl⟩ := List.mem_map.1 ho
    exact (hw2 o' h').2.2.2.2
  rw [warpbeamlaw16_CodeBack.j0, if_neg (by decide), theirs_f l (by omega), theirs_f m (by omega)]
  simp only [Option.bind_some]
  obtain ⟨y, f, hY⟩ := enc_some (m.map conv46)
  rw [hY]
  cases hr : rightB (l.map conv46) with
  | false =>
    rw [show code_Encode.f (l.map conv46) = some ([], 8) from by unfold code_Encode.f; rw [hr]; rfl]
    simp only [Option.bind_some]
    rw [if_neg (by decide)]
    exact e1
  | true =>
    rw [enc_right hr]
    simp only [Option.bind_some, if_true]
    rw [dec_enc hr wl]
    simp only [Option.bind_some, if_true]
    rw [ours_f _ (by rw [List.length_map]; omega), conv_back]
    simp only [Option.bind_some]
    rw [same_refl l (by omega) (k + 1) (by omega)]
    simp only [Option.bind_some, if_true]
    by_cases hf : f = 0
    · rw [if_pos hf]
      have hr2 : rightB (m.map conv46) = true := by
        unfold code_Encode.f at hY
        cases h : rightB (m.map conv46) with
        | true => rfl
        | false =>
          rw [h] at hY
          have := (Prod.mk.inj (Option.some.inj hY)).2
          omega
      have hy : y = (m.map conv46).flatMap (encOp (m.map conv46).length) := by
        rw [enc_right hr2] at hY
        exact (Prod.mk.inj (Option.some.inj hY)).1.symm
      have n1 := enc_len _ (enc_right hr)
      obtain ⟨s, h1, h2⟩ := same_f l m (by omega) (k + 1) (by omega)
      rw [equal_f _ _ (by omega) (k + 1) (by omega), h1]
      simp only [Option.bind_some]
      have hs : decide ((l.map conv46).flatMap (encOp (l.map conv46).length) = y) = s := by
        rw [hy]
        by_cases h : l = m
        · rw [h2.2 h, h]
          simp
        · have hs : s = false := by
            cases s with
            | false => rfl
            | true => exact absurd (h2.1 rfl) h
          rw [hs, decide_eq_false_iff_not]
          intro he
          have d1 := dec_enc hr wl
          have d2 := dec_enc hr2 wm
          rw [he, d2] at d1
          exact h (conv_inj (Prod.mk.inj (Option.some.inj d1)).1.symm)
      rw [hs, if_neg (by simp)]
      exact e1
    · rw [if_neg hf]
      exact e1
theorem back_pure (l m : List S51) (b : List Int) (hb : Bytes b) (hw : ∀ o ∈ l, goodOp o) (hw2 : ∀ o ∈ m, goodOp o) (k : Nat) (hk : 4000 < k) : warpbeamlaw16_CodeBack.f k l m b = some true := by
  obtain ⟨k, rfl⟩ : ∃ j, k = j + 2 := ⟨k - 2, by omega⟩
  unfold warpbeamlaw16_CodeBack.f
  simp only [warpbeamlaw16_alive.f, Option.bind_some, if_true]
  by_cases h : (l.length : Int) > 250
  · rw [if_pos h, back_true]
  · rw [if_neg h]
    by_cases h1 : (m.length : Int) > 250
    · rw [if_pos h1, back_true]
    · rw [if_neg h1]
      by_cases h2 : (b.length : Int) > 2000
      · rw [decide_eq_true h2, back_true]
      · rw [decide_eq_false h2, back_core l m b (by omega) (by omega) hb (by omega) hw hw2 k (by omega)]

theorem walk_CodeBack {H : Type} {enc : TypeId × Value → H} (W : World) (base : Nat) (v0 : Value) (d0 : DataW H) (p0 : List MemPlace) (o0 : Value.okWide Try.prog W .any base 22 v0) (h0 : DataW.Trod enc Try.prog W 0 (fun _ => true) true 22 v0 d0 p0) (v1 : Value) (d1 : DataW H) (p1 : List MemPlace) (o1 : Value.okWide Try.prog W .any base 22 v1) (h1 : DataW.Trod enc Try.prog W 0 (fun _ => true) true 22 v1 d1 p1) (v2 : Value) (d2 : DataW H) (p2 : List MemPlace) (o2 : Value.okWide Try.prog W .any base 24 v2) (h2 : DataW.Trod enc Try.prog W 0 (fun _ => true) true 24 v2 d2 p2) {P : Prop} (_hsz : P) :
    Calls Try.prog 5 #[v0, v1, v2] W fun e w' => e = .returned (.bool true) ∧ Below W.heap.size W w' := by
  obtain ⟨A, c, l, rfl, hlc, hC, gl⟩ := ops_of o0 h0
  obtain ⟨B, d, m, rfl, hmd, hD, gm⟩ := ops_of o1 h1
  obtain ⟨B', d', b, rfl, hbd, hE, gb⟩ := bytes_of o2 h2
  exact warpbeamlaw16_CodeBack.calls 5000 A c l B d m B' d' b true W hC hlc hD hmd hE hbd (back_pure l m b gb gl gm 5000 (by decide))

end Go.Proofs.Ytbnchippfebdkaa
