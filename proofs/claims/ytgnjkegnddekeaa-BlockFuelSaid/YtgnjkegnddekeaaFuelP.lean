/- More fuel: in plain words. -/
import Derived.Test.YtgnjkegnddekeaaRunM
namespace Go.Proofs.Ytgnjkegnddekeaa.Q
open Go.RowKit Go.Lib Go.Proofs.Ytgnjkegnddekeaa Go.Proofs.YtgnjkegnddekeaaW.PrintWords Go.Proofs.YtgnjkegnddekeaaW.PrintLast Go.Proofs.YtgnjkegnddekeaaW.PrintMore
set_option linter.unusedVariables false
set_option linter.unusedSimpArgs false

/-- A step that is not refused for want of fuel is the same with more of it. -/
theorem step_more {l : List S74} {c : CpuD} {vars f g : Int} (hfg : f ≤ g) (hf : ¬ f ≤ c.used) : stepP l c vars g = stepP l c vars f := by
  unfold stepP
  rw [if_neg (show ¬ g ≤ c.used by omega), if_neg hf]
/-- A step for which no fuel is left. -/
theorem step_dry {l : List S74} {c : CpuD} {vars f : Int} (hf : f ≤ c.used) : ∃ e, stepP l c vars f = (c, over e) ∧ ∀ g, e ≠ 3 → stepP l c vars g = (c, over e) := by
  unfold stepP
  by_cases h0 : codeR l = false ∨ c.pc < 0 ∨ (l.length : Int) < c.pc
  · exact ⟨4, by rw [if_pos h0], fun g _ => by rw [if_pos h0]⟩
  by_cases h1 : c.pc = l.length
  · exact ⟨0, by rw [if_neg h0, if_pos h1], fun g _ => by rw [if_neg h0, if_pos h1]⟩
  · exact ⟨3, by rw [if_neg h0, if_neg h1, if_pos hf], fun g h => absurd rfl h⟩
theorem step_used0 {l : List S74} {c : CpuD} {vars f : Int} (hi : InvC c) (hl : ∀ o ∈ l, R64 o.f2 ∧ R64 o.f4) (h0 : 0 ≤ c.used) (hf1 : f ≤ 1000000000) (hf : ¬ f ≤ c.used) : (stepP l c vars f).1.used = c.used + 1 ∨ (stepP l c vars f).1.used = c.used := by
  have hw : wrap64 (c.used + 1) = c.used + 1 := by unfold wrap64; omega
  by_cases hk : (stepP l c vars f).2.k = 5
  · by_cases h1 : codeR l = false ∨ c.pc < 0 ∨ (l.length : Int) < c.pc
    · right; unfold stepP; rw [if_pos h1]
    by_cases h2 : c.pc = l.length
    · right; unfold stepP; rw [if_neg h1, if_pos h2]
    rcases ho : l[c.pc.toNat]? with _ | o
    · right; unfold stepP; rw [if_neg h1, if_neg h2, if_neg hf, ho]
    left
    unfold stepP
    rw [if_neg h1, if_neg h2, if_neg hf, ho]
    dsimp only
    rcases hd : doesP ⟨c.pc, wrap64 (c.used + 1), c.rs, c.fs⟩ o vars with e | r
    · exact hw
    · have hR : codeR l = true := by
        cases hc : codeR l
        · exact absurd (.inl hc) h1
        · rfl
      have hok : OpOK o := by
        unfold codeR at hR
        simp only [Bool.and_eq_true, List.all_eq_true] at hR
        exact opOK_of (by omega) (hR.2 o (List.mem_of_getElem? ho))
      have hr := hl o (List.mem_of_getElem? ho)
      obtain ⟨-, h4, -⟩ := does_inv (c := ⟨c.pc, wrap64 (c.used + 1), c.rs, c.fs⟩) ⟨hi.rs, hi.fl, hi.fr⟩ hok hr.1 hr.2 (c' := r.1) (a := r.2) hd
      exact h4.trans hw
  · exact .inl (((step_inv (vars := vars) (fuel := f) hi hl).2 hk).2.1.trans hw)
theorem run_ge (l : List S74) (now : List S32) (f : Int) (hf1 : f ≤ 1000000000) (hl : ∀ o ∈ l, R64 o.f2 ∧ R64 o.f4) (hn : ∀ v ∈ now, R64 v.f1) : ∀ (n : Nat) (c : CpuD) (t : List S80), InvR c t → c.used ≤ (runP l now f n c t).used
  | 0, c, t, hI => Int.le_refl _
  | n + 1, c, t, hI => by
    have hs : c.used ≤ (stepP l c now.length f).1.used := by
      by_cases hf : f ≤ c.used
      · obtain ⟨e, he, -⟩ := step_dry (l := l) (vars := now.length) hf
        rw [he]
        exact Int.le_refl _
      · rcases step_used0 (vars := now.length) hI.ic hl hI.u0 hf1 hf with h | h <;> omega
    obtain ⟨h1, h2⟩ := step_inv (vars := now.length) (fuel := f) hI.ic hl
    unfold runP
    dsimp only
    split
    · exact hs
    · rename_i hk
      obtain ⟨h3, h4, h5, h6, h7, h8⟩ := h2 hk
      have h9 := answer_inv (a := (stepP l c now.length f).2) h1 hI.tl hI.tr hn h8
      split
      · have := run_ge l now f hf1 hl hn n _ _ ⟨h9.1, by rw [h9.2.1]; have := hI.u0; omega, h9.2.2.1, h9.2.2.2⟩
        rw [h9.2.1] at this
        exact Int.le_trans hs this
      · show c.used ≤ (answerP now _ _ t).1.used
        rw [h9.2.1]
        exact hs
theorem run_more (l : List S74) (now : List S32) (f g : Int) (hfg : f ≤ g) (hg : g ≤ 1000000000) (hl : ∀ o ∈ l, R64 o.f2 ∧ R64 o.f4) (hn : ∀ v ∈ now, R64 v.f1) : ∀ (n m : Nat) (c : CpuD) (t : List S80), InvR c t → (f - c.used).toNat < n → (g - c.used).toNat < m →
    (runP l now f n c t).used ≤ max f c.used ∧ (runP l now f n c t).used ≤ (runP l now g m c t).used ∧ ((runP l now f n c t).e ≠ 3 → runP l now g m c t = runP l now f n c t)
  | 0, m, c, t, hI, h1, h2 => by omega
  | n + 1, 0, c, t, hI, h1, h2 => by omega
  | n + 1, m + 1, c, t, hI, h1, h2 => by
    by_cases hf : f ≤ c.used
    · obtain ⟨e, he, hmore⟩ := step_dry (l := l) (vars := now.length) hf
      have e1 : runP l now f (n + 1) c t = ⟨e, c.used, c.rs, t⟩ := by
        unfold runP
        dsimp only
        rw [he]
        rfl
      rw [e1]
      refine ⟨by dsimp only; omega, run_ge l now g hg hl hn (m + 1) c t hI, fun h3 => ?_⟩
      unfold runP
      dsimp only
      rw [hmore g h3]
      rfl
    · have hsame := step_more (l := l) (c := c) (vars := now.length) hfg hf
      have hu := step_used0 (vars := now.length) hI.ic hl hI.u0 (by omega) hf
      obtain ⟨i1, i2⟩ := step_inv (vars := now.length) (fuel := f) hI.ic hl
      have e1 : runP l now f (n + 1) c t = (if (stepP l c now.length f).2.k = 5 then ⟨(stepP l c now.length f).2.e, (stepP l c now.length f).1.used, (stepP l c now.length f).1.rs, t⟩ else if (answerP now (stepP l c now.length f).1 (stepP l c now.length f).2 t).2.2 = 0 then runP l now f n (answerP now (stepP l c now.length f).1 (stepP l c now.length f).2 t).1 (answerP now (stepP l c now.length f).1 (stepP l c now.length f).2 t).2.1 else ⟨5, (answerP now (stepP l c now.length f).1 (stepP l c now.length f).2 t).1.used, (answerP now (stepP l c now.length f).1 (stepP l c now.length f).2 t).1.rs, (answerP now (stepP l c now.length f).1 (stepP l c now.length f).2 t).2.1⟩ : ResD) := rfl
      have e2 : runP l now g (m + 1) c t = (if (stepP l c now.length g).2.k = 5 then ⟨(stepP l c now.length g).2.e, (stepP l c now.length g).1.used, (stepP l c now.length g).1.rs, t⟩ else if (answerP now (stepP l c now.length g).1 (stepP l c now.length g).2 t).2.2 = 0 then runP l now g m (answerP now (stepP l c now.length g).1 (stepP l c now.length g).2 t).1 (answerP now (stepP l c now.length g).1 (stepP l c now.length g).2 t).2.1 else ⟨5, (answerP now (stepP l c now.length g).1 (stepP l c now.length g).2 t).1.used, (answerP now (stepP l c now.length g).1 (stepP l c now.length g).2 t).1.rs, (answerP now (stepP l c now.length g).1 (stepP l c now.length g).2 t).2.1⟩ : ResD) := rfl
      rw [hsame] at e2
      rw [e1, e2]
      by_cases hk : (stepP l c now.length f).2.k = 5
      · rw [if_pos hk, if_pos hk]
        exact ⟨by dsimp only; omega, Int.le_refl _, fun _ => rfl⟩
      · rw [if_neg hk, if_neg hk]
        obtain ⟨h3, h4, h5, h6, h7, h8⟩ := i2 hk
        have h9 := answer_inv (a := (stepP l c now.length f).2) i1 hI.tl hI.tr hn h8
        have hw : wrap64 (c.used + 1) = c.used + 1 := by have := hI.u0; unfold wrap64; omega
        by_cases he : (answerP now (stepP l c now.length f).1 (stepP l c now.length f).2 t).2.2 = 0
        · rw [if_pos he, if_pos he]
          have hq : (answerP now (stepP l c now.length f).1 (stepP l c now.length f).2 t).1.used = c.used + 1 := by rw [h9.2.1, h4, hw]
          have ih := run_more l now f g hfg hg hl hn n m _ _ ⟨h9.1, by rw [hq]; have := hI.u0; omega, h9.2.2.1, h9.2.2.2⟩ (by rw [hq]; omega) (by rw [hq]; omega)
          rw [hq] at ih
          exact ⟨by have := ih.1; omega, ih.2⟩
        · rw [if_neg he, if_neg he]
          exact ⟨by dsimp only; rw [h9.2.1]; omega, Int.le_refl _, fun _ => rfl⟩
end Go.Proofs.Ytgnjkegnddekeaa.Q
