/- Blocks one behind the other: in plain words. -/
import Derived.Test.YtbnchippfebdkaaPureA
namespace Go.Proofs.Ytbnchippfebdkaa
open Go.RowKit Go.Proofs.Ytbnchippfebdkaa.Q Go.Proofs.YtbnchippfebdkaaW.PrintWords Go.Proofs.YtbnchippfebdkaaW.PrintLast Go.Proofs.YtbnchippfebdkaaW.PrintMore
set_option linter.unusedVariables false
set_option linter.unusedSimpArgs false

theorem enc_len (l : List S46) {r : List Int} {e : Int} (h : code_Encode.f l = some (r, e)) : r.length ≤ 2400 := by
  unfold code_Encode.f at h
  split at h
  · rename_i hr
    obtain ⟨rfl, -⟩ := Prod.mk.inj (Option.some.inj h)
    have := flat_len (encOp l.length) 12 (encOp_len l.length) l
    have := (right_in hr).2.1
    omega
  · obtain ⟨rfl, -⟩ := Prod.mk.inj (Option.some.inj h)
    simp
theorem enc_some (l : List S46) : ∃ r e, code_Encode.f l = some (r, e) := by
  unfold code_Encode.f
  split
  · exact ⟨_, _, rfl⟩
  · exact ⟨_, _, rfl⟩
theorem enc_right {l : List S46} (h : rightB l = true) : code_Encode.f l = some (l.flatMap (encOp l.length), 0) := by unfold code_Encode.f; rw [if_pos h]

theorem third_pos (s : S60) {m m' : Nat} (h : 1 ≤ m) (h' : 1 ≤ m') : (0 < third s m) = (0 < third s m') := by
  unfold third
  split
  · simp only [eq_iff_iff]; omega
  · rfl
/-- How many there are does not tell in the bytes. -/
theorem encOp_many (o : S46) {m m' : Nat} (h : 1 ≤ m) (h' : 1 ≤ m') : encOp m o = encOp m' o := by
  have e : encOne o.f3 (third (sh o.f0) m) = encOne o.f3 (third (sh o.f0) m') := by
    unfold encOne
    simp only [third_pos (sh o.f0) h h']
  unfold encOp
  simp only [encF, e]
theorem fits_mono {n m m' : Int} (h : fits n m = true) (hm : 1 ≤ m) (hm' : m ≤ m') : fits n m' = true := by
  unfold fits least1 at *
  rw [if_neg (by omega)] at *
  simp only [Bool.and_eq_true, decide_eq_true_eq] at *
  omega
theorem op_mono {o : S46} {m m' : Nat} (h : opRight o m = true) (hm : 1 ≤ m) (hm' : m ≤ m') : opRight o m' = true := by
  unfold opRight at *
  simp only [Bool.and_eq_true] at *
  refine ⟨h.1, h.2.1, h.2.2.1, ?_⟩
  have h3 := h.2.2.2
  unfold third at *
  split
  · rename_i hp
    rw [if_pos hp] at h3
    exact fits_mono h3 (by omega) (by omega)
  · rename_i hp
    rw [if_neg hp] at h3
    exact h3
theorem rightB_of {l : List S46} (h1 : 1 ≤ l.length) (h2 : l.length ≤ 200) (h : ∀ o ∈ l, opRight o l.length = true) : rightB l = true := by
  unfold rightB
  simp only [Bool.and_eq_true, decide_eq_true_eq, List.all_eq_true]
  exact ⟨⟨by omega, by omega⟩, h⟩
theorem right_append {a c : List S46} (ha : rightB a = true) (hc : rightB c = true) (hl : a.length + c.length ≤ 200) : rightB (a ++ c) = true := by
  have a1 := right_in ha
  have c1 := right_in hc
  refine rightB_of (by rw [List.length_append]; omega) (by rw [List.length_append]; omega) fun o ho => ?_
  rw [List.length_append]
  rcases List.mem_append.1 ho with h | h
  · exact op_mono (a1.2.2 o h) a1.1 (by omega)
  · exact op_mono (c1.2.2 o h) c1.1 (by omega)
theorem flat_same {α : Type} {g g' : α → List Int} : ∀ {l : List α}, (∀ x ∈ l, g x = g' x) → l.flatMap g = l.flatMap g'
  | [], _ => rfl
  | x :: l, h => by
    rw [List.flatMap_cons, List.flatMap_cons, h x List.mem_cons_self, flat_same fun y hy => h y (List.mem_cons_of_mem _ hy)]
theorem enc_append {a c : List S46} (ha : 1 ≤ a.length) (hc : 1 ≤ c.length) : (a ++ c).flatMap (encOp (a ++ c).length) = a.flatMap (encOp a.length) ++ c.flatMap (encOp c.length) := by
  rw [List.flatMap_append, List.length_append, flat_same (l := a) (g' := encOp a.length) fun o _ => encOp_many o (by omega) ha, flat_same (l := c) (g' := encOp c.length) fun o _ => encOp_many o (by omega) hc]

end Go.Proofs.Ytbnchippfebdkaa
