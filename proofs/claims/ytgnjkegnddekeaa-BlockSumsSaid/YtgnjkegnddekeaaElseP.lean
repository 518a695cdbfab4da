/- A way that gives up: what the run comes to, in plain words. -/
import Derived.Test.YtgnjkegnddekeaaAliveM
import Derived.Test.YtgnjkegnddekeaaTSets
namespace Go.Proofs.Ytgnjkegnddekeaa.Q
open Go.RowKit Go.Lib Go.Proofs.Ytgnjkegnddekeaa Go.Proofs.YtgnjkegnddekeaaW.PrintWords Go.Proofs.YtgnjkegnddekeaaW.PrintLast Go.Proofs.YtgnjkegnddekeaaW.PrintMore
set_option linter.unusedVariables false
set_option linter.unusedSimpArgs false

/-- A step of a block that may be, with fuel left. -/
theorem step_any {l : List S74} {vars u f : Int} (i : Nat) {rs : List S32} {fs : List FrameD} (o : S74) (hR : codeR l = true) (ho : l[i]? = some o) (hf : ¬ f ≤ u) (hu0 : 0 ≤ u) (hu1 : u < 100000) :
    stepP l ⟨i, u, rs, fs⟩ vars f = match doesP ⟨i, u + 1, rs, fs⟩ o vars with
      | .inl e => (⟨i, u + 1, rs, fs⟩, over e)
      | .inr r => r := by
  have hn : i < l.length := (List.getElem?_eq_some_iff.1 ho).1
  have hw : wrap64 (u + 1) = u + 1 := by unfold wrap64; omega
  unfold stepP
  rw [if_neg (by rintro (h | h | h)
                 · rw [hR] at h; cases h
                 · simp at h; omega
                 · simp at h; omega), if_neg (by simp; omega), if_neg hf]
  simp only [Int.toNat_natCast, ho, hw]
  cases doesP ⟨i, u + 1, rs, fs⟩ o vars <;> rfl
/-- A round of the run that goes on. -/
theorem run_go {l : List S74} {now : List S32} {u f : Int} {n : Nat} (i : Nat) {rs : List S32} {fs : List FrameD} {t : List S80} (o : S74) (hR : codeR l = true) (ho : l[i]? = some o) (hf : ¬ f ≤ u) (hu0 : 0 ≤ u) (hu1 : u < 100000) {c' : CpuD} {a : AskD} {c'' : CpuD} {t'' : List S80}
    (hd : doesP ⟨i, u + 1, rs, fs⟩ o now.length = .inr (c', a)) (hk : a.k ≠ 5) (ha : answerP now c' a t = (c'', t'', 0)) : runP l now f (n + 1) ⟨i, u, rs, fs⟩ t = runP l now f n c'' t'' := by
  have h := step_any (vars := now.length) (f := f) i o hR ho hf hu0 hu1 (rs := rs) (fs := fs)
  rw [hd] at h
  conv => lhs; unfold runP
  rw [h]
  dsimp only
  rw [if_neg hk, ha]
  exact if_pos rfl
/-- A round of the run that ends it. -/
theorem run_stop {l : List S74} {now : List S32} {u f : Int} {n : Nat} (i : Nat) {rs : List S32} {fs : List FrameD} {t : List S80} (o : S74) (hR : codeR l = true) (ho : l[i]? = some o) (hf : ¬ f ≤ u) (hu0 : 0 ≤ u) (hu1 : u < 100000) {e : Int}
    (hd : doesP ⟨i, u + 1, rs, fs⟩ o now.length = .inl e) : runP l now f (n + 1) ⟨i, u, rs, fs⟩ t = ⟨e, u + 1, rs, t⟩ := by
  have h := step_any (vars := now.length) (f := f) i o hR ho hf hu0 hu1 (rs := rs) (fs := fs)
  rw [hd] at h
  conv => lhs; unfold runP
  rw [h]
  rfl
theorem set_right (a n c : Int) (ha : (opRight ⟨0, a, 0, 0, 0⟩ c) = true) : opRight ⟨0, a, 0, 0, n⟩ c = true := by
  unfold opRight at ha ⊢
  rw [show (sh 0).f5 = true by kernel_rfl, Bool.or_true]
  rw [show (sh 0).f5 = true by kernel_rfl, Bool.or_true] at ha
  exact ha
def elseL (k n m : Int) : List S74 := [⟨12, 0, 0, 5, 0⟩, ⟨2, 0, k, 0, 0⟩, ⟨0, 1, 0, 0, n⟩, ⟨9, 0, 1, 0, 0⟩, ⟨14, 0, 0, 0, 0⟩, ⟨2, 0, k, 0, 0⟩, ⟨0, 1, 0, 0, m⟩, ⟨9, 0, 1, 0, 0⟩, ⟨16, 0, 0, 0, 0⟩]
def z4 : List S32 := [⟨0, 0⟩, ⟨0, 0⟩, ⟨0, 0⟩, ⟨0, 0⟩]
def elseR (k m : Int) : List S32 := [⟨2, k⟩, ⟨1, m⟩, ⟨0, 0⟩, ⟨0, 0⟩, ⟨0, 0⟩, ⟨0, 0⟩, ⟨0, 0⟩, ⟨0, 0⟩]
theorem elseL_ok (k n m : Int) (h : opRight ⟨2, 0, k, 0, 0⟩ 9 = true) : codeR (elseL k n m) = true := by
  have h1 : opRight ⟨0, 1, 0, 0, n⟩ 9 = true := set_right 1 n 9 (by kernel_rfl)
  have h2 : opRight ⟨0, 1, 0, 0, m⟩ 9 = true := set_right 1 m 9 (by kernel_rfl)
  have h3 : opRight ⟨12, 0, 0, 5, 0⟩ 9 = true := by kernel_rfl
  have h4 : opRight ⟨9, 0, 1, 0, 0⟩ 9 = true := by kernel_rfl
  have h5 : opRight ⟨14, 0, 0, 0, 0⟩ 9 = true := by kernel_rfl
  have h6 : opRight ⟨16, 0, 0, 0, 0⟩ 9 = true := by kernel_rfl
  have key : (elseL k n m).all (fun o => opRight o 9) = true := by
    simp only [elseL, List.all_cons, List.all_nil, h, h1, h2, h3, h4, h5, h6, Bool.and_true]
  unfold codeR
  rw [show ((elseL k n m).length : Int) = 9 from rfl, key]
  rfl
set_option maxRecDepth 100000 in
theorem else_run0 (n m : Int) : runP (elseL 0 n m) z4 50 51 ⟨0, 0, zR, []⟩ [] = ⟨0, 9, elseR 0 m, [⟨0, ⟨1, m⟩, true⟩]⟩ := by
  have hR := elseL_ok 0 n m (by kernel_rfl)
  have h0 : runP (elseL 0 n m) z4 50 51 ⟨(0 : Nat), 0, zR, []⟩ [] = runP (elseL 0 n m) z4 50 50 ⟨(1 : Nat), 1, zR, [⟨5, 0, zR⟩]⟩ [] :=
    run_go (now := z4) (n := 50) 0 _ hR rfl (by decide) (by decide) (by decide) (c' := ⟨(1 : Nat), 1, zR, [⟨5, 0, zR⟩]⟩) (a := ⟨3, 0, 0, 0, ⟨0, 0⟩, 0⟩) (by kernel_rfl) (by simp [ask0]) (by kernel_rfl)
  have h1 : runP (elseL 0 n m) z4 50 50 ⟨(1 : Nat), 1, zR, [⟨5, 0, zR⟩]⟩ [] = runP (elseL 0 n m) z4 50 49 ⟨(2 : Nat), 2, [⟨2, 0⟩, ⟨0, 0⟩, ⟨0, 0⟩, ⟨0, 0⟩, ⟨0, 0⟩, ⟨0, 0⟩, ⟨0, 0⟩, ⟨0, 0⟩], [⟨5, 0, zR⟩]⟩ [] :=
    run_go (now := z4) (n := 49) 1 _ hR rfl (by decide) (by decide) (by decide) (c' := ⟨(2 : Nat), 2, [⟨2, 0⟩, ⟨0, 0⟩, ⟨0, 0⟩, ⟨0, 0⟩, ⟨0, 0⟩, ⟨0, 0⟩, ⟨0, 0⟩, ⟨0, 0⟩], [⟨5, 0, zR⟩]⟩) (a := ask0) (by kernel_rfl) (by simp [ask0]) (by kernel_rfl)
  have h2 : runP (elseL 0 n m) z4 50 49 ⟨(2 : Nat), 2, [⟨2, 0⟩, ⟨0, 0⟩, ⟨0, 0⟩, ⟨0, 0⟩, ⟨0, 0⟩, ⟨0, 0⟩, ⟨0, 0⟩, ⟨0, 0⟩], [⟨5, 0, zR⟩]⟩ [] = runP (elseL 0 n m) z4 50 48 ⟨(3 : Nat), 3, [⟨2, 0⟩, ⟨1, n⟩, ⟨0, 0⟩, ⟨0, 0⟩, ⟨0, 0⟩, ⟨0, 0⟩, ⟨0, 0⟩, ⟨0, 0⟩], [⟨5, 0, zR⟩]⟩ [] :=
    run_go (now := z4) (n := 48) 2 _ hR rfl (by decide) (by decide) (by decide) (c' := ⟨(3 : Nat), 3, [⟨2, 0⟩, ⟨1, n⟩, ⟨0, 0⟩, ⟨0, 0⟩, ⟨0, 0⟩, ⟨0, 0⟩, ⟨0, 0⟩, ⟨0, 0⟩], [⟨5, 0, zR⟩]⟩) (a := ask0) (by kernel_rfl) (by simp [ask0]) (by kernel_rfl)
  have h3 : runP (elseL 0 n m) z4 50 48 ⟨(3 : Nat), 3, [⟨2, 0⟩, ⟨1, n⟩, ⟨0, 0⟩, ⟨0, 0⟩, ⟨0, 0⟩, ⟨0, 0⟩, ⟨0, 0⟩, ⟨0, 0⟩], [⟨5, 0, zR⟩]⟩ [] = runP (elseL 0 n m) z4 50 47 ⟨(4 : Nat), 4, [⟨2, 0⟩, ⟨1, n⟩, ⟨0, 0⟩, ⟨0, 0⟩, ⟨0, 0⟩, ⟨0, 0⟩, ⟨0, 0⟩, ⟨0, 0⟩], [⟨5, 0, zR⟩]⟩ [⟨0, ⟨1, n⟩, true⟩] :=
    run_go (now := z4) (n := 47) 3 _ hR rfl (by decide) (by decide) (by decide) (c' := ⟨(4 : Nat), 4, [⟨2, 0⟩, ⟨1, n⟩, ⟨0, 0⟩, ⟨0, 0⟩, ⟨0, 0⟩, ⟨0, 0⟩, ⟨0, 0⟩, ⟨0, 0⟩], [⟨5, 0, zR⟩]⟩) (a := ⟨2, 0, 0, 0, ⟨1, n⟩, 0⟩) (by kernel_rfl) (by simp [ask0]) (by kernel_rfl)
  have h4 : runP (elseL 0 n m) z4 50 47 ⟨(4 : Nat), 4, [⟨2, 0⟩, ⟨1, n⟩, ⟨0, 0⟩, ⟨0, 0⟩, ⟨0, 0⟩, ⟨0, 0⟩, ⟨0, 0⟩, ⟨0, 0⟩], [⟨5, 0, zR⟩]⟩ [⟨0, ⟨1, n⟩, true⟩] = runP (elseL 0 n m) z4 50 46 ⟨(5 : Nat), 5, zR, []⟩ [] :=
    run_go (now := z4) (n := 46) 4 _ hR rfl (by decide) (by decide) (by decide) (c' := ⟨(5 : Nat), 5, zR, []⟩) (a := ⟨4, 0, 0, 0, ⟨0, 0⟩, 0⟩) (by kernel_rfl) (by simp [ask0]) (by kernel_rfl)
  have h5 : runP (elseL 0 n m) z4 50 46 ⟨(5 : Nat), 5, zR, []⟩ [] = runP (elseL 0 n m) z4 50 45 ⟨(6 : Nat), 6, [⟨2, 0⟩, ⟨0, 0⟩, ⟨0, 0⟩, ⟨0, 0⟩, ⟨0, 0⟩, ⟨0, 0⟩, ⟨0, 0⟩, ⟨0, 0⟩], []⟩ [] :=
    run_go (now := z4) (n := 45) 5 _ hR rfl (by decide) (by decide) (by decide) (c' := ⟨(6 : Nat), 6, [⟨2, 0⟩, ⟨0, 0⟩, ⟨0, 0⟩, ⟨0, 0⟩, ⟨0, 0⟩, ⟨0, 0⟩, ⟨0, 0⟩, ⟨0, 0⟩], []⟩) (a := ask0) (by kernel_rfl) (by simp [ask0]) (by kernel_rfl)
  have h6 : runP (elseL 0 n m) z4 50 45 ⟨(6 : Nat), 6, [⟨2, 0⟩, ⟨0, 0⟩, ⟨0, 0⟩, ⟨0, 0⟩, ⟨0, 0⟩, ⟨0, 0⟩, ⟨0, 0⟩, ⟨0, 0⟩], []⟩ [] = runP (elseL 0 n m) z4 50 44 ⟨(7 : Nat), 7, [⟨2, 0⟩, ⟨1, m⟩, ⟨0, 0⟩, ⟨0, 0⟩, ⟨0, 0⟩, ⟨0, 0⟩, ⟨0, 0⟩, ⟨0, 0⟩], []⟩ [] :=
    run_go (now := z4) (n := 44) 6 _ hR rfl (by decide) (by decide) (by decide) (c' := ⟨(7 : Nat), 7, [⟨2, 0⟩, ⟨1, m⟩, ⟨0, 0⟩, ⟨0, 0⟩, ⟨0, 0⟩, ⟨0, 0⟩, ⟨0, 0⟩, ⟨0, 0⟩], []⟩) (a := ask0) (by kernel_rfl) (by simp [ask0]) (by kernel_rfl)
  have h7 : runP (elseL 0 n m) z4 50 44 ⟨(7 : Nat), 7, [⟨2, 0⟩, ⟨1, m⟩, ⟨0, 0⟩, ⟨0, 0⟩, ⟨0, 0⟩, ⟨0, 0⟩, ⟨0, 0⟩, ⟨0, 0⟩], []⟩ [] = runP (elseL 0 n m) z4 50 43 ⟨(8 : Nat), 8, [⟨2, 0⟩, ⟨1, m⟩, ⟨0, 0⟩, ⟨0, 0⟩, ⟨0, 0⟩, ⟨0, 0⟩, ⟨0, 0⟩, ⟨0, 0⟩], []⟩ [⟨0, ⟨1, m⟩, true⟩] :=
    run_go (now := z4) (n := 43) 7 _ hR rfl (by decide) (by decide) (by decide) (c' := ⟨(8 : Nat), 8, [⟨2, 0⟩, ⟨1, m⟩, ⟨0, 0⟩, ⟨0, 0⟩, ⟨0, 0⟩, ⟨0, 0⟩, ⟨0, 0⟩, ⟨0, 0⟩], []⟩) (a := ⟨2, 0, 0, 0, ⟨1, m⟩, 0⟩) (by kernel_rfl) (by simp [ask0]) (by kernel_rfl)
  have h8 : runP (elseL 0 n m) z4 50 43 ⟨(8 : Nat), 8, [⟨2, 0⟩, ⟨1, m⟩, ⟨0, 0⟩, ⟨0, 0⟩, ⟨0, 0⟩, ⟨0, 0⟩, ⟨0, 0⟩, ⟨0, 0⟩], []⟩ [⟨0, ⟨1, m⟩, true⟩] = ⟨0, 9, [⟨2, 0⟩, ⟨1, m⟩, ⟨0, 0⟩, ⟨0, 0⟩, ⟨0, 0⟩, ⟨0, 0⟩, ⟨0, 0⟩, ⟨0, 0⟩], [⟨0, ⟨1, m⟩, true⟩]⟩ := run_stop (now := z4) (n := 42) 8 _ hR rfl (by decide) (by decide) (by decide) (by kernel_rfl)
  exact h0.trans (h1.trans (h2.trans (h3.trans (h4.trans (h5.trans (h6.trans (h7.trans h8)))))))
set_option maxRecDepth 100000 in
theorem else_run1 (n m : Int) : runP (elseL 1 n m) z4 50 51 ⟨0, 0, zR, []⟩ [] = ⟨0, 9, elseR 1 m, [⟨1, ⟨1, m⟩, true⟩]⟩ := by
  have hR := elseL_ok 1 n m (by kernel_rfl)
  have h0 : runP (elseL 1 n m) z4 50 51 ⟨(0 : Nat), 0, zR, []⟩ [] = runP (elseL 1 n m) z4 50 50 ⟨(1 : Nat), 1, zR, [⟨5, 0, zR⟩]⟩ [] :=
    run_go (now := z4) (n := 50) 0 _ hR rfl (by decide) (by decide) (by decide) (c' := ⟨(1 : Nat), 1, zR, [⟨5, 0, zR⟩]⟩) (a := ⟨3, 0, 0, 0, ⟨0, 0⟩, 0⟩) (by kernel_rfl) (by simp [ask0]) (by kernel_rfl)
  have h1 : runP (elseL 1 n m) z4 50 50 ⟨(1 : Nat), 1, zR, [⟨5, 0, zR⟩]⟩ [] = runP (elseL 1 n m) z4 50 49 ⟨(2 : Nat), 2, [⟨2, 1⟩, ⟨0, 0⟩, ⟨0, 0⟩, ⟨0, 0⟩, ⟨0, 0⟩, ⟨0, 0⟩, ⟨0, 0⟩, ⟨0, 0⟩], [⟨5, 0, zR⟩]⟩ [] :=
    run_go (now := z4) (n := 49) 1 _ hR rfl (by decide) (by decide) (by decide) (c' := ⟨(2 : Nat), 2, [⟨2, 1⟩, ⟨0, 0⟩, ⟨0, 0⟩, ⟨0, 0⟩, ⟨0, 0⟩, ⟨0, 0⟩, ⟨0, 0⟩, ⟨0, 0⟩], [⟨5, 0, zR⟩]⟩) (a := ask0) (by kernel_rfl) (by simp [ask0]) (by kernel_rfl)
  have h2 : runP (elseL 1 n m) z4 50 49 ⟨(2 : Nat), 2, [⟨2, 1⟩, ⟨0, 0⟩, ⟨0, 0⟩, ⟨0, 0⟩, ⟨0, 0⟩, ⟨0, 0⟩, ⟨0, 0⟩, ⟨0, 0⟩], [⟨5, 0, zR⟩]⟩ [] = runP (elseL 1 n m) z4 50 48 ⟨(3 : Nat), 3, [⟨2, 1⟩, ⟨1, n⟩, ⟨0, 0⟩, ⟨0, 0⟩, ⟨0, 0⟩, ⟨0, 0⟩, ⟨0, 0⟩, ⟨0, 0⟩], [⟨5, 0, zR⟩]⟩ [] :=
    run_go (now := z4) (n := 48) 2 _ hR rfl (by decide) (by decide) (by decide) (c' := ⟨(3 : Nat), 3, [⟨2, 1⟩, ⟨1, n⟩, ⟨0, 0⟩, ⟨0, 0⟩, ⟨0, 0⟩, ⟨0, 0⟩, ⟨0, 0⟩, ⟨0, 0⟩], [⟨5, 0, zR⟩]⟩) (a := ask0) (by kernel_rfl) (by simp [ask0]) (by kernel_rfl)
  have h3 : runP (elseL 1 n m) z4 50 48 ⟨(3 : Nat), 3, [⟨2, 1⟩, ⟨1, n⟩, ⟨0, 0⟩, ⟨0, 0⟩, ⟨0, 0⟩, ⟨0, 0⟩, ⟨0, 0⟩, ⟨0, 0⟩], [⟨5, 0, zR⟩]⟩ [] = runP (elseL 1 n m) z4 50 47 ⟨(4 : Nat), 4, [⟨2, 1⟩, ⟨1, n⟩, ⟨0, 0⟩, ⟨0, 0⟩, ⟨0, 0⟩, ⟨0, 0⟩, ⟨0, 0⟩, ⟨0, 0⟩], [⟨5, 0, zR⟩]⟩ [⟨1, ⟨1, n⟩, true⟩] :=
    run_go (now := z4) (n := 47) 3 _ hR rfl (by decide) (by decide) (by decide) (c' := ⟨(4 : Nat), 4, [⟨2, 1⟩, ⟨1, n⟩, ⟨0, 0⟩, ⟨0, 0⟩, ⟨0, 0⟩, ⟨0, 0⟩, ⟨0, 0⟩, ⟨0, 0⟩], [⟨5, 0, zR⟩]⟩) (a := ⟨2, 1, 0, 0, ⟨1, n⟩, 0⟩) (by kernel_rfl) (by simp [ask0]) (by kernel_rfl)
  have h4 : runP (elseL 1 n m) z4 50 47 ⟨(4 : Nat), 4, [⟨2, 1⟩, ⟨1, n⟩, ⟨0, 0⟩, ⟨0, 0⟩, ⟨0, 0⟩, ⟨0, 0⟩, ⟨0, 0⟩, ⟨0, 0⟩], [⟨5, 0, zR⟩]⟩ [⟨1, ⟨1, n⟩, true⟩] = runP (elseL 1 n m) z4 50 46 ⟨(5 : Nat), 5, zR, []⟩ [] :=
    run_go (now := z4) (n := 46) 4 _ hR rfl (by decide) (by decide) (by decide) (c' := ⟨(5 : Nat), 5, zR, []⟩) (a := ⟨4, 0, 0, 0, ⟨0, 0⟩, 0⟩) (by kernel_rfl) (by simp [ask0]) (by kernel_rfl)
  have h5 : runP (elseL 1 n m) z4 50 46 ⟨(5 : Nat), 5, zR, []⟩ [] = runP (elseL 1 n m) z4 50 45 ⟨(6 : Nat), 6, [⟨2, 1⟩, ⟨0, 0⟩, ⟨0, 0⟩, ⟨0, 0⟩, ⟨0, 0⟩, ⟨0, 0⟩, ⟨0, 0⟩, ⟨0, 0⟩], []⟩ [] :=
    run_go (now := z4) (n := 45) 5 _ hR rfl (by decide) (by decide) (by decide) (c' := ⟨(6 : Nat), 6, [⟨2, 1⟩, ⟨0, 0⟩, ⟨0, 0⟩, ⟨0, 0⟩, ⟨0, 0⟩, ⟨0, 0⟩, ⟨0, 0⟩, ⟨0, 0⟩], []⟩) (a := ask0) (by kernel_rfl) (by simp [ask0]) (by kernel_rfl)
  have h6 : runP (elseL 1 n m) z4 50 45 ⟨(6 : Nat), 6, [⟨2, 1⟩, ⟨0, 0⟩, ⟨0, 0⟩, ⟨0, 0⟩, ⟨0, 0⟩, ⟨0, 0⟩, ⟨0, 0⟩, ⟨0, 0⟩], []⟩ [] = runP (elseL 1 n m) z4 50 44 ⟨(7 : Nat), 7, [⟨2, 1⟩, ⟨1, m⟩, ⟨0, 0⟩, ⟨0, 0⟩, ⟨0, 0⟩, ⟨0, 0⟩, ⟨0, 0⟩, ⟨0, 0⟩], []⟩ [] :=
    run_go (now := z4) (n := 44) 6 _ hR rfl (by decide) (by decide) (by decide) (c' := ⟨(7 : Nat), 7, [⟨2, 1⟩, ⟨1, m⟩, ⟨0, 0⟩, ⟨0, 0⟩, ⟨0, 0⟩, ⟨0, 0⟩, ⟨0, 0⟩, ⟨0, 0⟩], []⟩) (a := ask0) (by kernel_rfl) (by simp [ask0]) (by kernel_rfl)
  have h7 : runP (elseL 1 n m) z4 50 44 ⟨(7 : Nat), 7, [⟨2, 1⟩, ⟨1, m⟩, ⟨0, 0⟩, ⟨0, 0⟩, ⟨0, 0⟩, ⟨0, 0⟩, ⟨0, 0⟩, ⟨0, 0⟩], []⟩ [] = runP (elseL 1 n m) z4 50 43 ⟨(8 : Nat), 8, [⟨2, 1⟩, ⟨1, m⟩, ⟨0, 0⟩, ⟨0, 0⟩, ⟨0, 0⟩, ⟨0, 0⟩, ⟨0, 0⟩, ⟨0, 0⟩], []⟩ [⟨1, ⟨1, m⟩, true⟩] :=
    run_go (now := z4) (n := 43) 7 _ hR rfl (by decide) (by decide) (by decide) (c' := ⟨(8 : Nat), 8, [⟨2, 1⟩, ⟨1, m⟩, ⟨0, 0⟩, ⟨0, 0⟩, ⟨0, 0⟩, ⟨0, 0⟩, ⟨0, 0⟩, ⟨0, 0⟩], []⟩) (a := ⟨2, 1, 0, 0, ⟨1, m⟩, 0⟩) (by kernel_rfl) (by simp [ask0]) (by kernel_rfl)
  have h8 : runP (elseL 1 n m) z4 50 43 ⟨(8 : Nat), 8, [⟨2, 1⟩, ⟨1, m⟩, ⟨0, 0⟩, ⟨0, 0⟩, ⟨0, 0⟩, ⟨0, 0⟩, ⟨0, 0⟩, ⟨0, 0⟩], []⟩ [⟨1, ⟨1, m⟩, true⟩] = ⟨0, 9, [⟨2, 1⟩, ⟨1, m⟩, ⟨0, 0⟩, ⟨0, 0⟩, ⟨0, 0⟩, ⟨0, 0⟩, ⟨0, 0⟩, ⟨0, 0⟩], [⟨1, ⟨1, m⟩, true⟩]⟩ := run_stop (now := z4) (n := 42) 8 _ hR rfl (by decide) (by decide) (by decide) (by kernel_rfl)
  exact h0.trans (h1.trans (h2.trans (h3.trans (h4.trans (h5.trans (h6.trans (h7.trans h8)))))))
set_option maxRecDepth 100000 in
theorem else_run2 (n m : Int) : runP (elseL 2 n m) z4 50 51 ⟨0, 0, zR, []⟩ [] = ⟨0, 9, elseR 2 m, [⟨2, ⟨1, m⟩, true⟩]⟩ := by
  have hR := elseL_ok 2 n m (by kernel_rfl)
  have h0 : runP (elseL 2 n m) z4 50 51 ⟨(0 : Nat), 0, zR, []⟩ [] = runP (elseL 2 n m) z4 50 50 ⟨(1 : Nat), 1, zR, [⟨5, 0, zR⟩]⟩ [] :=
    run_go (now := z4) (n := 50) 0 _ hR rfl (by decide) (by decide) (by decide) (c' := ⟨(1 : Nat), 1, zR, [⟨5, 0, zR⟩]⟩) (a := ⟨3, 0, 0, 0, ⟨0, 0⟩, 0⟩) (by kernel_rfl) (by simp [ask0]) (by kernel_rfl)
  have h1 : runP (elseL 2 n m) z4 50 50 ⟨(1 : Nat), 1, zR, [⟨5, 0, zR⟩]⟩ [] = runP (elseL 2 n m) z4 50 49 ⟨(2 : Nat), 2, [⟨2, 2⟩, ⟨0, 0⟩, ⟨0, 0⟩, ⟨0, 0⟩, ⟨0, 0⟩, ⟨0, 0⟩, ⟨0, 0⟩, ⟨0, 0⟩], [⟨5, 0, zR⟩]⟩ [] :=
    run_go (now := z4) (n := 49) 1 _ hR rfl (by decide) (by decide) (by decide) (c' := ⟨(2 : Nat), 2, [⟨2, 2⟩, ⟨0, 0⟩, ⟨0, 0⟩, ⟨0, 0⟩, ⟨0, 0⟩, ⟨0, 0⟩, ⟨0, 0⟩, ⟨0, 0⟩], [⟨5, 0, zR⟩]⟩) (a := ask0) (by kernel_rfl) (by simp [ask0]) (by kernel_rfl)
  have h2 : runP (elseL 2 n m) z4 50 49 ⟨(2 : Nat), 2, [⟨2, 2⟩, ⟨0, 0⟩, ⟨0, 0⟩, ⟨0, 0⟩, ⟨0, 0⟩, ⟨0, 0⟩, ⟨0, 0⟩, ⟨0, 0⟩], [⟨5, 0, zR⟩]⟩ [] = runP (elseL 2 n m) z4 50 48 ⟨(3 : Nat), 3, [⟨2, 2⟩, ⟨1, n⟩, ⟨0, 0⟩, ⟨0, 0⟩, ⟨0, 0⟩, ⟨0, 0⟩, ⟨0, 0⟩, ⟨0, 0⟩], [⟨5, 0, zR⟩]⟩ [] :=
    run_go (now := z4) (n := 48) 2 _ hR rfl (by decide) (by decide) (by decide) (c' := ⟨(3 : Nat), 3, [⟨2, 2⟩, ⟨1, n⟩, ⟨0, 0⟩, ⟨0, 0⟩, ⟨0, 0⟩, ⟨0, 0⟩, ⟨0, 0⟩, ⟨0, 0⟩], [⟨5, 0, zR⟩]⟩) (a := ask0) (by kernel_rfl) (by simp [ask0]) (by kernel_rfl)
  have h3 : runP (elseL 2 n m) z4 50 48 ⟨(3 : Nat), 3, [⟨2, 2⟩, ⟨1, n⟩, ⟨0, 0⟩, ⟨0, 0⟩, ⟨0, 0⟩, ⟨0, 0⟩, ⟨0, 0⟩, ⟨0, 0⟩], [⟨5, 0, zR⟩]⟩ [] = runP (elseL 2 n m) z4 50 47 ⟨(4 : Nat), 4, [⟨2, 2⟩, ⟨1, n⟩, ⟨0, 0⟩, ⟨0, 0⟩, ⟨0, 0⟩, ⟨0, 0⟩, ⟨0, 0⟩, ⟨0, 0⟩], [⟨5, 0, zR⟩]⟩ [⟨2, ⟨1, n⟩, true⟩] :=
    run_go (now := z4) (n := 47) 3 _ hR rfl (by decide) (by decide) (by decide) (c' := ⟨(4 : Nat), 4, [⟨2, 2⟩, ⟨1, n⟩, ⟨0, 0⟩, ⟨0, 0⟩, ⟨0, 0⟩, ⟨0, 0⟩, ⟨0, 0⟩, ⟨0, 0⟩], [⟨5, 0, zR⟩]⟩) (a := ⟨2, 2, 0, 0, ⟨1, n⟩, 0⟩) (by kernel_rfl) (by simp [ask0]) (by kernel_rfl)
  have h4 : runP (elseL 2 n m) z4 50 47 ⟨(4 : Nat), 4, [⟨2, 2⟩, ⟨1, n⟩, ⟨0, 0⟩, ⟨0, 0⟩, ⟨0, 0⟩, ⟨0, 0⟩, ⟨0, 0⟩, ⟨0, 0⟩], [⟨5, 0, zR⟩]⟩ [⟨2, ⟨1, n⟩, true⟩] = runP (elseL 2 n m) z4 50 46 ⟨(5 : Nat), 5, zR, []⟩ [] :=
    run_go (now := z4) (n := 46) 4 _ hR rfl (by decide) (by decide) (by decide) (c' := ⟨(5 : Nat), 5, zR, []⟩) (a := ⟨4, 0, 0, 0, ⟨0, 0⟩, 0⟩) (by kernel_rfl) (by simp [ask0]) (by kernel_rfl)
  have h5 : runP (elseL 2 n m) z4 50 46 ⟨(5 : Nat), 5, zR, []⟩ [] = runP (elseL 2 n m) z4 50 45 ⟨(6 : Nat), 6, [⟨2, 2⟩, ⟨0, 0⟩, ⟨0, 0⟩, ⟨0, 0⟩, ⟨0, 0⟩, ⟨0, 0⟩, ⟨0, 0⟩, ⟨0, 0⟩], []⟩ [] :=
    run_go (now := z4) (n := 45) 5 _ hR rfl (by decide) (by decide) (by decide) (c' := ⟨(6 : Nat), 6, [⟨2, 2⟩, ⟨0, 0⟩, ⟨0, 0⟩, ⟨0, 0⟩, ⟨0, 0⟩, ⟨0, 0⟩, ⟨0, 0⟩, ⟨0, 0⟩], []⟩) (a := ask0) (by kernel_rfl) (by simp [ask0]) (by kernel_rfl)
  have h6 : runP (elseL 2 n m) z4 50 45 ⟨(6 : Nat), 6, [⟨2, 2⟩, ⟨0, 0⟩, ⟨0, 0⟩, ⟨0, 0⟩, ⟨0, 0⟩, ⟨0, 0⟩, ⟨0, 0⟩, ⟨0, 0⟩], []⟩ [] = runP (elseL 2 n m) z4 50 44 ⟨(7 : Nat), 7, [⟨2, 2⟩, ⟨1, m⟩, ⟨0, 0⟩, ⟨0, 0⟩, ⟨0, 0⟩, ⟨0, 0⟩, ⟨0, 0⟩, ⟨0, 0⟩], []⟩ [] :=
    run_go (now := z4) (n := 44) 6 _ hR rfl (by decide) (by decide) (by decide) (c' := ⟨(7 : Nat), 7, [⟨2, 2⟩, ⟨1, m⟩, ⟨0, 0⟩, ⟨0, 0⟩, ⟨0, 0⟩, ⟨0, 0⟩, ⟨0, 0⟩, ⟨0, 0⟩], []⟩) (a := ask0) (by kernel_rfl) (by simp [ask0]) (by kernel_rfl)
  have h7 : runP (elseL 2 n m) z4 50 44 ⟨(7 : Nat), 7, [⟨2, 2⟩, ⟨1, m⟩, ⟨0, 0⟩, ⟨0, 0⟩, ⟨0, 0⟩, ⟨0, 0⟩, ⟨0, 0⟩, ⟨0, 0⟩], []⟩ [] = runP (elseL 2 n m) z4 50 43 ⟨(8 : Nat), 8, [⟨2, 2⟩, ⟨1, m⟩, ⟨0, 0⟩, ⟨0, 0⟩, ⟨0, 0⟩, ⟨0, 0⟩, ⟨0, 0⟩, ⟨0, 0⟩], []⟩ [⟨2, ⟨1, m⟩, true⟩] :=
    run_go (now := z4) (n := 43) 7 _ hR rfl (by decide) (by decide) (by decide) (c' := ⟨(8 : Nat), 8, [⟨2, 2⟩, ⟨1, m⟩, ⟨0, 0⟩, ⟨0, 0⟩, ⟨0, 0⟩, ⟨0, 0⟩, ⟨0, 0⟩, ⟨0, 0⟩], []⟩) (a := ⟨2, 2, 0, 0, ⟨1, m⟩, 0⟩) (by kernel_rfl) (by simp [ask0]) (by kernel_rfl)
  have h8 : runP (elseL 2 n m) z4 50 43 ⟨(8 : Nat), 8, [⟨2, 2⟩, ⟨1, m⟩, ⟨0, 0⟩, ⟨0, 0⟩, ⟨0, 0⟩, ⟨0, 0⟩, ⟨0, 0⟩, ⟨0, 0⟩], []⟩ [⟨2, ⟨1, m⟩, true⟩] = ⟨0, 9, [⟨2, 2⟩, ⟨1, m⟩, ⟨0, 0⟩, ⟨0, 0⟩, ⟨0, 0⟩, ⟨0, 0⟩, ⟨0, 0⟩, ⟨0, 0⟩], [⟨2, ⟨1, m⟩, true⟩]⟩ := run_stop (now := z4) (n := 42) 8 _ hR rfl (by decide) (by decide) (by decide) (by kernel_rfl)
  exact h0.trans (h1.trans (h2.trans (h3.trans (h4.trans (h5.trans (h6.trans (h7.trans h8)))))))
set_option maxRecDepth 100000 in
theorem else_run3 (n m : Int) : runP (elseL 3 n m) z4 50 51 ⟨0, 0, zR, []⟩ [] = ⟨0, 9, elseR 3 m, [⟨3, ⟨1, m⟩, true⟩]⟩ := by
  have hR := elseL_ok 3 n m (by kernel_rfl)
  have h0 : runP (elseL 3 n m) z4 50 51 ⟨(0 : Nat), 0, zR, []⟩ [] = runP (elseL 3 n m) z4 50 50 ⟨(1 : Nat), 1, zR, [⟨5, 0, zR⟩]⟩ [] :=
    run_go (now := z4) (n := 50) 0 _ hR rfl (by decide) (by decide) (by decide) (c' := ⟨(1 : Nat), 1, zR, [⟨5, 0, zR⟩]⟩) (a := ⟨3, 0, 0, 0, ⟨0, 0⟩, 0⟩) (by kernel_rfl) (by simp [ask0]) (by kernel_rfl)
  have h1 : runP (elseL 3 n m) z4 50 50 ⟨(1 : Nat), 1, zR, [⟨5, 0, zR⟩]⟩ [] = runP (elseL 3 n m) z4 50 49 ⟨(2 : Nat), 2, [⟨2, 3⟩, ⟨0, 0⟩, ⟨0, 0⟩, ⟨0, 0⟩, ⟨0, 0⟩, ⟨0, 0⟩, ⟨0, 0⟩, ⟨0, 0⟩], [⟨5, 0, zR⟩]⟩ [] :=
    run_go (now := z4) (n := 49) 1 _ hR rfl (by decide) (by decide) (by decide) (c' := ⟨(2 : Nat), 2, [⟨2, 3⟩, ⟨0, 0⟩, ⟨0, 0⟩, ⟨0, 0⟩, ⟨0, 0⟩, ⟨0, 0⟩, ⟨0, 0⟩, ⟨0, 0⟩], [⟨5, 0, zR⟩]⟩) (a := ask0) (by kernel_rfl) (by simp [ask0]) (by kernel_rfl)
  have h2 : runP (elseL 3 n m) z4 50 49 ⟨(2 : Nat), 2, [⟨2, 3⟩, ⟨0, 0⟩, ⟨0, 0⟩, ⟨0, 0⟩, ⟨0, 0⟩, ⟨0, 0⟩, ⟨0, 0⟩, ⟨0, 0⟩], [⟨5, 0, zR⟩]⟩ [] = runP (elseL 3 n m) z4 50 48 ⟨(3 : Nat), 3, [⟨2, 3⟩, ⟨1, n⟩, ⟨0, 0⟩, ⟨0, 0⟩, ⟨0, 0⟩, ⟨0, 0⟩, ⟨0, 0⟩, ⟨0, 0⟩], [⟨5, 0, zR⟩]⟩ [] :=
    run_go (now := z4) (n := 48) 2 _ hR rfl (by decide) (by decide) (by decide) (c' := ⟨(3 : Nat), 3, [⟨2, 3⟩, ⟨1, n⟩, ⟨0, 0⟩, ⟨0, 0⟩, ⟨0, 0⟩, ⟨0, 0⟩, ⟨0, 0⟩, ⟨0, 0⟩], [⟨5, 0, zR⟩]⟩) (a := ask0) (by kernel_rfl) (by simp [ask0]) (by kernel_rfl)
  have h3 : runP (elseL 3 n m) z4 50 48 ⟨(3 : Nat), 3, [⟨2, 3⟩, ⟨1, n⟩, ⟨0, 0⟩, ⟨0, 0⟩, ⟨0, 0⟩, ⟨0, 0⟩, ⟨0, 0⟩, ⟨0, 0⟩], [⟨5, 0, zR⟩]⟩ [] = runP (elseL 3 n m) z4 50 47 ⟨(4 : Nat), 4, [⟨2, 3⟩, ⟨1, n⟩, ⟨0, 0⟩, ⟨0, 0⟩, ⟨0, 0⟩, ⟨0, 0⟩, ⟨0, 0⟩, ⟨0, 0⟩], [⟨5, 0, zR⟩]⟩ [⟨3, ⟨1, n⟩, true⟩] :=
    run_go (now := z4) (n := 47) 3 _ hR rfl (by decide) (by decide) (by decide) (c' := ⟨(4 : Nat), 4, [⟨2, 3⟩, ⟨1, n⟩, ⟨0, 0⟩, ⟨0, 0⟩, ⟨0, 0⟩, ⟨0, 0⟩, ⟨0, 0⟩, ⟨0, 0⟩], [⟨5, 0, zR⟩]⟩) (a := ⟨2, 3, 0, 0, ⟨1, n⟩, 0⟩) (by kernel_rfl) (by simp [ask0]) (by kernel_rfl)
  have h4 : runP (elseL 3 n m) z4 50 47 ⟨(4 : Nat), 4, [⟨2, 3⟩, ⟨1, n⟩, ⟨0, 0⟩, ⟨0, 0⟩, ⟨0, 0⟩, ⟨0, 0⟩, ⟨0, 0⟩, ⟨0, 0⟩], [⟨5, 0, zR⟩]⟩ [⟨3, ⟨1, n⟩, true⟩] = runP (elseL 3 n m) z4 50 46 ⟨(5 : Nat), 5, zR, []⟩ [] :=
    run_go (now := z4) (n := 46) 4 _ hR rfl (by decide) (by decide) (by decide) (c' := ⟨(5 : Nat), 5, zR, []⟩) (a := ⟨4, 0, 0, 0, ⟨0, 0⟩, 0⟩) (by kernel_rfl) (by simp [ask0]) (by kernel_rfl)
  have h5 : runP (elseL 3 n m) z4 50 46 ⟨(5 : Nat), 5, zR, []⟩ [] = runP (elseL 3 n m) z4 50 45 ⟨(6 : Nat), 6, [⟨2, 3⟩, ⟨0, 0⟩, ⟨0, 0⟩, ⟨0, 0⟩, ⟨0, 0⟩, ⟨0, 0⟩, ⟨0, 0⟩, ⟨0, 0⟩], []⟩ [] :=
    run_go (now := z4) (n := 45) 5 _ hR rfl (by decide) (by decide) (by decide) (c' := ⟨(6 : Nat), 6, [⟨2, 3⟩, ⟨0, 0⟩, ⟨0, 0⟩, ⟨0, 0⟩, ⟨0, 0⟩, ⟨0, 0⟩, ⟨0, 0⟩, ⟨0, 0⟩], []⟩) (a := ask0) (by kernel_rfl) (by simp [ask0]) (by kernel_rfl)
  have h6 : runP (elseL 3 n m) z4 50 45 ⟨(6 : Nat), 6, [⟨2, 3⟩, ⟨0, 0⟩, ⟨0, 0⟩, ⟨0, 0⟩, ⟨0, 0⟩, ⟨0, 0⟩, ⟨0, 0⟩, ⟨0, 0⟩], []⟩ [] = runP (elseL 3 n m) z4 50 44 ⟨(7 : Nat), 7, [⟨2, 3⟩, ⟨1, m⟩, ⟨0, 0⟩, ⟨0, 0⟩, ⟨0, 0⟩, ⟨0, 0⟩, ⟨0, 0⟩, ⟨0, 0⟩], []⟩ [] :=
    run_go (now := z4) (n := 44) 6 _ hR rfl (by decide) (by decide) (by decide) (c' := ⟨(7 : Nat), 7, [⟨2, 3⟩, ⟨1, m⟩, ⟨0, 0⟩, ⟨0, 0⟩, ⟨0, 0⟩, ⟨0, 0⟩, ⟨0, 0⟩, ⟨0, 0⟩], []⟩) (a := ask0) (by kernel_rfl) (by simp [ask0]) (by kernel_rfl)
  have h7 : runP (elseL 3 n m) z4 50 44 ⟨(7 : Nat), 7, [⟨2, 3⟩, ⟨1, m⟩, ⟨0, 0⟩, ⟨0, 0⟩, ⟨0, 0⟩, ⟨0, 0⟩, ⟨0, 0⟩, ⟨0, 0⟩], []⟩ [] = runP (elseL 3 n m) z4 50 43 ⟨(8 : Nat), 8, [⟨2, 3⟩, ⟨1, m⟩, ⟨0, 0⟩, ⟨0, 0⟩, ⟨0, 0⟩, ⟨0, 0⟩, ⟨0, 0⟩, ⟨0, 0⟩], []⟩ [⟨3, ⟨1, m⟩, true⟩] :=
    run_go (now := z4) (n := 43) 7 _ hR rfl (by decide) (by decide) (by decide) (c' := ⟨(8 : Nat), 8, [⟨2, 3⟩, ⟨1, m⟩, ⟨0, 0⟩, ⟨0, 0⟩, ⟨0, 0⟩, ⟨0, 0⟩, ⟨0, 0⟩, ⟨0, 0⟩], []⟩) (a := ⟨2, 3, 0, 0, ⟨1, m⟩, 0⟩) (by kernel_rfl) (by simp [ask0]) (by kernel_rfl)
  have h8 : runP (elseL 3 n m) z4 50 43 ⟨(8 : Nat), 8, [⟨2, 3⟩, ⟨1, m⟩, ⟨0, 0⟩, ⟨0, 0⟩, ⟨0, 0⟩, ⟨0, 0⟩, ⟨0, 0⟩, ⟨0, 0⟩], []⟩ [⟨3, ⟨1, m⟩, true⟩] = ⟨0, 9, [⟨2, 3⟩, ⟨1, m⟩, ⟨0, 0⟩, ⟨0, 0⟩, ⟨0, 0⟩, ⟨0, 0⟩, ⟨0, 0⟩, ⟨0, 0⟩], [⟨3, ⟨1, m⟩, true⟩]⟩ := run_stop (now := z4) (n := 42) 8 _ hR rfl (by decide) (by decide) (by decide) (by kernel_rfl)
  exact h0.trans (h1.trans (h2.trans (h3.trans (h4.trans (h5.trans (h6.trans (h7.trans h8)))))))
theorem else_run (k n m : Int) (h0 : 0 ≤ k) (h1 : k < 4) : runP (elseL k n m) z4 50 51 ⟨0, 0, zR, []⟩ [] = ⟨0, 9, elseR k m, [⟨k, ⟨1, m⟩, true⟩]⟩ := by
  rcases (show k = 0 ∨ k = 1 ∨ k = 2 ∨ k = 3 by omega) with rfl | rfl | rfl | rfl
  · exact else_run0 n m
  · exact else_run1 n m
  · exact else_run2 n m
  · exact else_run3 n m
theorem one_write (s : S80) (h2 : s.f2 = true) (h0 : 0 ≤ s.f0) (h1 : s.f0 < 64) : writesL [s] = [s] := by
  have hG := good_writes [s]
  have hf : ∀ y, writesF [s] y = if y = s.f0 then some s else none := by
    intro y
    simp only [writesF, List.foldl_cons, List.foldl_nil, putW]
    rw [if_pos ⟨h2, h0, h1⟩]
  have hm : s ∈ writesL [s] := (mem_listOf hG).2 (by rw [hf, if_pos rfl])
  have hall : ∀ x ∈ writesL [s], x = s := fun x hx => by
    have := (mem_listOf hG).1 hx
    rw [hf] at this
    split at this
    · exact (Option.some.inj this).symm
    · cases this
  have hS := sorted_listOf hG
  show listOf (writesF [s]) = [s]
  change s ∈ listOf (writesF [s]) at hm
  change ∀ x ∈ listOf (writesF [s]), x = s at hall
  rcases hL : listOf (writesF [s]) with _ | ⟨a, _ | ⟨b, r⟩⟩
  · rw [hL] at hm; cases hm
  · rw [hall a (by rw [hL]; simp)]
  · rw [hL] at hS hall
    have e1 := hall a (by simp)
    have e2 := hall b (by simp)
    rw [List.pairwise_cons] at hS
    have := hS.1 b (by simp)
    rw [e1, e2] at this
    omega
theorem no_read (s : S80) (h2 : s.f2 = true) : readsL [s] = [] := by
  have hf : readsF (rz [s]) = fun _ => none := by
    simp only [rz, readsF]
    simp [putR, h2]
  unfold readsL
  rw [hf]
  unfold listOf
  simp
end Go.Proofs.Ytgnjkegnddekeaa.Q
