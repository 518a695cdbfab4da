/- A row of additions: what the run comes to, in plain words. -/
import Derived.Test.YtgnjkegnddekeaaElseP
namespace Go.Proofs.Ytgnjkegnddekeaa.Q
open Go.RowKit Go.Lib Go.Proofs.Ytgnjkegnddekeaa Go.Proofs.YtgnjkegnddekeaaW.PrintWords Go.Proofs.YtgnjkegnddekeaaW.PrintLast Go.Proofs.YtgnjkegnddekeaaW.PrintMore
set_option linter.unusedVariables false
set_option linter.unusedSimpArgs false

/-- The operations of one number. -/
def sumO (x : Int) : List S74 := [⟨0, 2, 0, 0, x⟩, ⟨4, 1, 1, 2, 0⟩]
def sumsL (k : Int) (l : List Int) : List S74 := ([⟨2, 0, k, 0, 0⟩, ⟨0, 1, 0, 0, 0⟩] ++ l.flatMap sumO) ++ [⟨9, 0, 1, 0, 0⟩]
theorem sums_len (l : List Int) : (l.flatMap sumO).length = 2 * l.length := by
  induction l with
  | nil => rfl
  | cons x l ih => rw [List.flatMap_cons, List.length_append, ih]; simp [sumO]; omega
theorem sumsL_len (k : Int) (l : List Int) : (sumsL k l).length = 3 + 2 * l.length := by
  unfold sumsL
  rw [List.length_append, List.length_append, sums_len]
  simp; omega
theorem sumsL_ok (k : Int) (l : List Int) (h : ∀ c, opRight ⟨2, 0, k, 0, 0⟩ c = true) (hl : l.length ≤ 40) : codeR (sumsL k l) = true := by
  unfold codeR
  have hn := sumsL_len k l
  obtain ⟨c, hc⟩ : ∃ c : Int, ((sumsL k l).length : Int) = c := ⟨_, rfl⟩
  rw [hc, decide_eq_true (by omega), decide_eq_true (by omega), Bool.true_and, Bool.true_and, List.all_eq_true]
  intro o ho
  unfold sumsL at ho
  simp only [List.mem_append, List.mem_cons, List.not_mem_nil, or_false, List.mem_flatMap, sumO] at ho
  rcases ho with ((rfl | rfl) | ⟨x, -, rfl | rfl⟩) | rfl
  · exact h c
  · exact set_right 1 0 c (by kernel_rfl)
  · exact set_right 2 x c (by kernel_rfl)
  · kernel_rfl
  · kernel_rfl
/-- The registers behind some numbers. -/
def sumR (k s x e : Int) : List S32 := [⟨2, k⟩, ⟨1, s⟩, ⟨e, x⟩, ⟨0, 0⟩, ⟨0, 0⟩, ⟨0, 0⟩, ⟨0, 0⟩, ⟨0, 0⟩]
theorem sums_at (k : Int) (pre : List Int) (x : Int) (r : List Int) : (sumsL k (pre ++ x :: r))[2 + 2 * pre.length]? = some ⟨0, 2, 0, 0, x⟩ ∧ (sumsL k (pre ++ x :: r))[2 + 2 * pre.length + 1]? = some ⟨4, 1, 1, 2, 0⟩ := by
  have e : sumsL k (pre ++ x :: r) = ([⟨2, 0, k, 0, 0⟩, ⟨0, 1, 0, 0, 0⟩] ++ pre.flatMap sumO) ++ (⟨0, 2, 0, 0, x⟩ :: ⟨4, 1, 1, 2, 0⟩ :: (r.flatMap sumO ++ [⟨9, 0, 1, 0, 0⟩])) := by
    simp [sumsL, sumO, List.flatMap_append]
  have hl : ([⟨2, 0, k, 0, 0⟩, ⟨0, 1, 0, 0, 0⟩] ++ pre.flatMap sumO : List S74).length = 2 + 2 * pre.length := by rw [List.length_append, sums_len]; rfl
  rw [e, List.getElem?_append_right (by omega), List.getElem?_append_right (by omega), hl]
  refine ⟨by rw [Nat.sub_self]; rfl, ?_⟩
  rw [show 2 + 2 * pre.length + 1 - (2 + 2 * pre.length) = 1 by omega]
  rfl
theorem sums_last (k : Int) (l : List Int) : (sumsL k l)[2 + 2 * l.length]? = some ⟨9, 0, 1, 0, 0⟩ := by
  have hl : ([⟨2, 0, k, 0, 0⟩, ⟨0, 1, 0, 0, 0⟩] ++ l.flatMap sumO : List S74).length = 2 + 2 * l.length := by rw [List.length_append, sums_len]; rfl
  unfold sumsL
  rw [List.getElem?_append_right (by omega), hl, Nat.sub_self]
  rfl
theorem wrap_small {x : Int} (h0 : -1000000000 ≤ x) (h1 : x ≤ 1000000000) : wrap64 x = x := by unfold wrap64; omega
theorem sum_bound : ∀ (l : List Int), (∀ x ∈ l, -32768 ≤ x ∧ x ≤ 32767) → -32768 * (l.length : Int) ≤ l.sum ∧ l.sum ≤ 32768 * (l.length : Int)
  | [], _ => by simp
  | x :: l, h => by
    have h1 := h x (by simp)
    have h2 := sum_bound l fun y hy => h y (by simp [hy])
    rw [List.sum_cons, List.length_cons]
    omega
/-- Behind the last operation. -/
theorem run_past {l : List S74} {now : List S32} {u f : Int} {n : Nat} {pc : Int} {rs : List S32} {fs : List FrameD} {t : List S80} (hR : codeR l = true) (hp : pc = l.length) : runP l now f (n + 1) ⟨pc, u, rs, fs⟩ t = ⟨0, u, rs, t⟩ := by
  have h : stepP l ⟨pc, u, rs, fs⟩ now.length f = (⟨pc, u, rs, fs⟩, over 0) := by
    unfold stepP
    rw [if_neg (by rintro (h | h | h)
                   · rw [hR] at h; cases h
                   · simp [hp] at h; omega
                   · simp [hp] at h), if_pos hp]
  unfold runP
  rw [h]
  rfl
set_option maxRecDepth 100000 in
theorem does_set (k s y e x u : Int) (i : Nat) : doesP ⟨i, u, sumR k s y e, []⟩ ⟨0, 2, 0, 0, x⟩ 4 = .inr (⟨wrap64 ((i : Int) + 1), u, sumR k s x 1, []⟩, ask0) := by kernel_rfl
set_option maxRecDepth 100000 in
theorem does_add (k s x u : Int) (i : Nat) : doesP ⟨i, u, sumR k s x 1, []⟩ ⟨4, 1, 1, 2, 0⟩ 4 = .inr (⟨wrap64 ((i : Int) + 1), u, sumR k (wrap64 (s + x)) x 1, []⟩, ask0) := by kernel_rfl
set_option maxRecDepth 100000 in
theorem does_write (k : Int) (hk : k = 0 ∨ k = 1 ∨ k = 2 ∨ k = 3) (s y e u : Int) (i : Nat) : doesP ⟨i, u, sumR k s y e, []⟩ ⟨9, 0, 1, 0, 0⟩ 4 = .inr (⟨wrap64 ((i : Int) + 1), u, sumR k s y e, []⟩, ⟨2, k, 0, 0, ⟨1, s⟩, 0⟩) := by
  rcases hk with rfl | rfl | rfl | rfl <;> kernel_rfl
set_option maxRecDepth 100000 in
theorem answerP_write (k : Int) (hk : k = 0 ∨ k = 1 ∨ k = 2 ∨ k = 3) (s : Int) (c : CpuD) : answerP z4 c ⟨2, k, 0, 0, ⟨1, s⟩, 0⟩ [] = (c, [⟨k, ⟨1, s⟩, true⟩], 0) := by
  rcases hk with rfl | rfl | rfl | rfl <;> kernel_rfl
theorem sums_rest (k : Int) (hk : k = 0 ∨ k = 1 ∨ k = 2 ∨ k = 3) (l : List Int) (hR : codeR (sumsL k l) = true) (hl : l.length ≤ 40) (hx : ∀ x ∈ l, -32768 ≤ x ∧ x ≤ 32767) : ∀ (r pre : List Int) (y e : Int) (n : Nat), l = pre ++ r → 2 * r.length + 2 ≤ n →
    ∃ rs, rs.length = 8 ∧ runP (sumsL k l) z4 1000 n ⟨((2 + 2 * pre.length : Nat) : Int), ((2 + 2 * pre.length : Nat) : Int), sumR k pre.sum y e, []⟩ [] = ⟨0, ((3 + 2 * l.length : Nat) : Int), rs, [⟨k, ⟨1, l.sum⟩, true⟩]⟩
  | [], pre, y, e, n, hp, hn => by
    obtain ⟨m, rfl⟩ : ∃ m, n = m + 2 := ⟨n - 2, by omega⟩
    have hp : l = pre := by simpa using hp
    subst hp
    refine ⟨sumR k l.sum y e, rfl, ?_⟩
    rw [run_go (now := z4) (2 + 2 * l.length) _ hR (sums_last k l) (by omega) (by omega) (by omega) (does_write k hk _ _ _ _ _) (by simp) (answerP_write k hk _ _)]
    rw [run_past hR (by rw [sumsL_len, wrap_small (by omega) (by omega)]; omega)]
    congr 1
    omega
  | x :: r, pre, y, e, n, hp, hn => by
    obtain ⟨m, rfl⟩ : ∃ m, n = m + 2 := ⟨n - 2, by simp at hn; omega⟩
    obtain ⟨a1, a2⟩ := sums_at k pre x r
    rw [← hp] at a1 a2
    have hlen : l.length = pre.length + (r.length + 1) := by rw [hp]; simp
    have h1 := does_set k pre.sum y e x (((2 + 2 * pre.length : Nat) : Int) + 1) (2 + 2 * pre.length)
    rw [show wrap64 (((2 + 2 * pre.length : Nat) : Int) + 1) = ((2 + 2 * pre.length + 1 : Nat) : Int) by rw [wrap_small (by omega) (by omega)]; omega] at h1
    have h2 := does_add k pre.sum x (((2 + 2 * pre.length : Nat) : Int) + 1 + 1) (2 + 2 * pre.length + 1)
    have hb := sum_bound pre fun z hz => hx z (by rw [hp]; simp [hz])
    have hbx := hx x (by rw [hp]; simp)
    rw [show wrap64 (((2 + 2 * pre.length + 1 : Nat) : Int) + 1) = ((2 + 2 * (pre ++ [x]).length : Nat) : Int) by rw [wrap_small (by omega) (by omega)]; simp; omega,
      show wrap64 (pre.sum + x) = (pre ++ [x]).sum by rw [wrap_small (by omega) (by omega), List.sum_append]; simp] at h2
    rw [run_go (now := z4) (2 + 2 * pre.length) _ hR a1 (by omega) (by omega) (by omega) h1 (by simp [ask0]) rfl]
    rw [run_go (now := z4) (2 + 2 * pre.length + 1) _ hR a2 (by omega) (by omega) (by omega) h2 (by simp [ask0]) rfl]
    rw [show ((2 + 2 * pre.length : Nat) : Int) + 1 + 1 = ((2 + 2 * (pre ++ [x]).length : Nat) : Int) by simp; omega]
    exact sums_rest k hk l hR hl hx r (pre ++ [x]) x 1 m (by rw [hp]; simp) (by simp at hn ⊢; omega)
set_option maxRecDepth 100000 in
theorem does_ref (k : Int) : doesP ⟨(0 : Nat), 0 + 1, zR, []⟩ ⟨2, 0, k, 0, 0⟩ 4 = .inr (⟨(1 : Nat), 1, zR.set 0 ⟨2, k⟩, []⟩, ask0) := by kernel_rfl
set_option maxRecDepth 100000 in
theorem does_nil (k : Int) : doesP ⟨(1 : Nat), 1 + 1, zR.set 0 ⟨2, k⟩, []⟩ ⟨0, 1, 0, 0, 0⟩ 4 = .inr (⟨((2 + 2 * ([] : List Int).length : Nat) : Int), ((2 + 2 * ([] : List Int).length : Nat) : Int), sumR k 0 0 0, []⟩, ask0) := by kernel_rfl
theorem sums_run (k : Int) (h0 : 0 ≤ k) (h1 : k < 4) (l : List Int) (hl : l.length ≤ 40) (hx : ∀ x ∈ l, -32768 ≤ x ∧ x ≤ 32767) :
    ∃ rs, rs.length = 8 ∧ runP (sumsL k l) z4 1000 1001 ⟨0, 0, zR, []⟩ [] = ⟨0, ((3 + 2 * l.length : Nat) : Int), rs, [⟨k, ⟨1, l.sum⟩, true⟩]⟩ := by
  have hk : k = 0 ∨ k = 1 ∨ k = 2 ∨ k = 3 := by omega
  have hR := sumsL_ok k l (by rcases hk with rfl | rfl | rfl | rfl <;> intro c <;> kernel_rfl) hl
  obtain ⟨rs, h8, h⟩ := sums_rest k hk l hR hl hx l [] 0 0 999 rfl (by omega)
  refine ⟨rs, h8, ?_⟩
  rw [← h]
  have e1 : runP (sumsL k l) z4 1000 1001 ⟨((0 : Nat) : Int), 0, zR, []⟩ [] = runP (sumsL k l) z4 1000 1000 ⟨(1 : Nat), 1, zR.set 0 ⟨2, k⟩, []⟩ [] :=
    run_go (now := z4) (n := 1000) 0 _ hR rfl (by omega) (by omega) (by omega) (does_ref k) (by simp [ask0]) rfl
  have e2 : runP (sumsL k l) z4 1000 1000 ⟨(1 : Nat), 1, zR.set 0 ⟨2, k⟩, []⟩ [] = runP (sumsL k l) z4 1000 999 ⟨((2 + 2 * ([] : List Int).length : Nat) : Int), ((2 + 2 * ([] : List Int).length : Nat) : Int), sumR k 0 0 0, []⟩ [] :=
    run_go (now := z4) (n := 999) 1 _ hR rfl (by omega) (by omega) (by omega) (does_nil k) (by simp [ask0]) rfl
  exact e1.trans e2
end Go.Proofs.Ytgnjkegnddekeaa.Q
