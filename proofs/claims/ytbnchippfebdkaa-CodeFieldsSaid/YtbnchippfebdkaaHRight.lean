/- slices.IndexFunc, slices.ContainsFunc of operations; May operations be, by hand. -/
import Derived.Test.YtbnchippfebdkaaHOp
import Derived.Test.YtbnchippfebdkaaLoops
import Derived.Deep.LoopGhost
import Derived.WalkKit
namespace Go.Proofs.Ytbnchippfebdkaa.Q
open Go.RowKit Go.Lib Go.Proofs.Ytbnchippfebdkaa Go.Proofs.YtbnchippfebdkaaW.PrintWords Go.Proofs.YtbnchippfebdkaaW.PrintLast Go.Proofs.YtbnchippfebdkaaW.PrintMore
set_option linter.unusedVariables false
set_option linter.unusedSimpArgs false

/-- What a search comes to. -/
def Found {α : Type} (p : α → Bool) (I : List α → World → Prop) (l : List α) (r : Int) (W : World) : Prop :=
  (r = -1 ∧ (∀ x ∈ l, p x = false) ∧ I l W) ∨ ∃ i : Nat, r = i ∧ i < l.length ∧ (l.take i).all (fun x => !p x) = true ∧ (∃ x, l[i]? = some x ∧ p x = true) ∧ I (l.take (i + 1)) W

theorem take_next {α : Type} {l : List α} {i : Nat} {x : α} (h : l[i]? = some x) : l.take (i + 1) = l.take i ++ [x] := by
  rw [List.take_add_one, h]
  rfl

set_option maxHeartbeats 2000000 in
theorem indexFunc_op (g : Nat) (lb : Array Value) (p : S46 → Bool) (I : List S46 → World → Prop) (A : Option Addr) (c : Nat) (l : List S46) (w : World)
    (eg : ∀ args W, (callFunc g args).run Try.prog W = .ok (.enter g args) W) (hI : ∀ pre W, I pre W → Kd.C k46 W A l.length l)
    (hcall : ∀ pre x W, pre.length < l.length → I pre W → Calls Try.prog g (#[.agg #[.int .i64 x.f0, .int .i64 x.f1, .int .i64 x.f2, .int .i64 x.f3, .int .i64 x.f4]] ++ lb) W fun e w' => e = .returned (.bool (p x)) ∧ I (pre ++ [x]) w') (h0 : I [] w) (hl : l.length < 1000000000) :
    Calls Try.prog 40 #[.slice A l.length c, .func (.func g) #[] lb] w fun e w' => ∃ r : Int, e = .returned (.int .i64 r) ∧ Found p I l r w' := by
  have hu := Try.underlying46
  have HI := Lib.hid hI
  have HC := Lib.hid hcall
  clear hI hcall
  go_enter Try.func40, Try.ntmps40
  go_wp2_with fail
  go_loopg [5, 8] l.length (fun kq _ v8 W => ∃ i : Nat, v8 = .int .i64 i ∧ Hid (kq + i = l.length) ∧ Hid (I (l.take i) W ∧ (l.take i).all (fun x => !p x) = true))
  case atStart => exact ⟨0, rfl, by simp [Hid], Lib.hid ⟨by simpa using h0, by simp⟩⟩
  case round =>
    obtain ⟨i, rfl, hk, hJ⟩ := hrel
    by_cases hi : i < l.length
    · have hi2 : (i : Int) < l.length := by omega
      have hi0 : (0 : Int) ≤ i := by omega
      obtain ⟨ad, rfl, a0, a1, a2, a3, a4⟩ := at_T46 (HI.out _ _ hJ.out.1) (i : Int) hi0 hi2
      have hx : l[i]? = some (rd_T46 l i) := by
        unfold rd_T46
        simp [List.getD_eq_getElem?_getD, hi]
      have HX := Lib.hid hx
      clear hx
      generalize rd_T46 l i = x at *
      simp only [Int.toNat_natCast] at a0 a1 a2 a3 a4
      have hc := HC.out _ x _ (by rw [List.length_take]; omega) hJ.out.1
      have HJ := hJ
      clear hJ
      cases hp : p x with
      | true =>
        rw [hp] at hc
        have hp := Lib.hid hp
        go_wp2_with fail
        refine hc.mono ?_
        rintro e w' ⟨rfl, hI1⟩
        have HI1 := Lib.hid hI1
        clear hI1 hc
        go_wp2_with fail
        go_ret
        exact ⟨_, rfl, .inr ⟨i, rfl, hi, HJ.out.2, ⟨x, HX.out, hp.out⟩, by rw [take_next HX.out]; exact HI1.out⟩⟩
      | false =>
        rw [hp] at hc
        have hp := Lib.hid hp
        go_wp2_with fail
        refine hc.mono ?_
        rintro e w' ⟨rfl, hI1⟩
        have HI1 := Lib.hid hI1
        clear hI1 hc
        go_wp2_with fail
        obtain ⟨k1, rfl⟩ : ∃ m, gk = m + 1 := ⟨gk - 1, by have := hk.out; omega⟩
        go_roundg k1
        case measure => omega
        case rel => exact ⟨i + 1, by first | rfl | rw [wrap_next (by omega)] | (unfold wrap64; congr 1; omega), Lib.hid (by have := hk.out; omega), Lib.hid ⟨by rw [take_next HX.out]; exact HI1.out, by rw [take_next HX.out, List.all_append, HJ.out.2]; simp [hp.out]⟩⟩
    · have hi2 : ¬ (i : Int) < l.length := by omega
      have hk0 : i = l.length := by have := hk.out; omega
      subst hk0
      go_wp2_with fail
      go_ret
      have h2 := hJ.out
      rw [List.take_length] at h2
      exact ⟨_, rfl, .inl ⟨rfl, fun x hx => by have := List.all_eq_true.1 h2.2 x hx; simpa using this, h2.1⟩⟩

theorem any_found {α : Type} {p : α → Bool} {I : List α → World → Prop} {l : List α} {r : Int} {W : World} (h : Found p I l r W) : decide (0 ≤ r) = l.any p := by
  rcases h with ⟨rfl, hn, -⟩ | ⟨i, rfl, hi, -, ⟨x, hx, hp⟩, -⟩
  · have : l.any p = false := by
      rw [List.any_eq_false]
      intro x hx
      simp [hn x hx]
    rw [this]
    rfl
  · have : l.any p = true := by
      rw [List.any_eq_true]
      exact ⟨x, List.mem_of_getElem? hx, hp⟩
    rw [this]
    simp

theorem containsFunc_op (fv : Value) (p : S46 → Bool) (I : List S46 → World → Prop) (A : Option Addr) (c : Nat) (l : List S46) (w : World)
    (h : Calls Try.prog 40 #[.slice A l.length c, fv] w fun e w' => ∃ r : Int, e = .returned (.int .i64 r) ∧ Found p I l r w') :
    Calls Try.prog 30 #[.slice A l.length c, fv] w fun e w' => e = .returned (.bool (l.any p)) ∧ ∃ r, Found p I l r w' := by
  have H := Lib.hid h
  clear h
  go_enter Try.func30, Try.ntmps30
  go_wp2_with fail
  refine H.out.mono ?_
  rintro e w1 ⟨r, rfl, hF⟩
  have HF := Lib.hid hF
  clear hF H
  go_wp2_with fail
  go_ret
  exact ⟨by rw [← any_found HF.out]; rfl, _, HF.out⟩

/-! ### May operations be -/
theorem right1_calls (b : Nat) (A : Option Addr) (n c : Nat) (x : S46) (W : World) (hb : W.cell? ⟨b, 0, none⟩ = some (.slice A n c)) (hlt : b < W.heap.size) :
    Calls Try.prog 31 #[.agg (opV x), .pointer (some ⟨b, 0, none⟩)] W fun e w' => e = .returned (.bool (!opRight x n)) ∧ Below W.heap.size W w' := by
  have hu := Try.underlying46
  obtain ⟨W0, hW0, K0, HB0⟩ : ∃ W0, W.alloc (.cells (opV x) 46) = W0 ∧ W0.heap[W.heap.size]? = some (.cells (opV x) 46 (0, 0)) ∧ Below W.heap.size W W0 := ⟨_, rfl, heap_alloc_new _ _, bOne _⟩
  have k0 : W0.cell? ⟨W.heap.size, 0, none⟩ = some (.int .i64 x.f0) := blk_cell K0 0
  have k1 : W0.cell? ⟨W.heap.size, 1, none⟩ = some (.int .i64 x.f1) := blk_cell K0 1
  have k2 : W0.cell? ⟨W.heap.size, 2, none⟩ = some (.int .i64 x.f2) := blk_cell K0 2
  have k3 : W0.cell? ⟨W.heap.size, 3, none⟩ = some (.int .i64 x.f3) := blk_cell K0 3
  have k4 : W0.cell? ⟨W.heap.size, 4, none⟩ = some (.int .i64 x.f4) := blk_cell K0 4
  have hb0 : W0.cell? ⟨b, 0, none⟩ = some (.slice A n c) := (HB0.cell (p := ⟨b, 0, none⟩) hlt).trans hb
  have HB := Lib.hid HB0
  have HC := Lib.hid (right_calls x n)
  clear K0 HB0 hb
  go_enter Try.func31, Try.ntmps31
  go_wp2_with fail
  refine (HC.out _).mono ?_
  rintro e w1 ⟨rfl, hB1⟩
  replace HB := Lib.hid (bAfter HB.out hB1)
  clear hB1 k0 k1 k2 k3 k4 hb0
  go_wp2_with fail
  go_ret
  exact ⟨rfl, HB.out⟩

/-- May operations be? -/
def code_Right.f (l : List S46) : Option Bool := some (decide ((1 : Int) ≤ l.length) && decide ((l.length : Int) ≤ 200) && l.all (fun o => opRight o l.length))
theorem all_any {α : Type} (l : List α) (p : α → Bool) : (!l.any fun x => !p x) = l.all p := by
  induction l with
  | nil => rfl
  | cons x l ih => simp only [List.any_cons, List.all_cons, Bool.not_or, Bool.not_not, ih]

set_option maxHeartbeats 2000000 in
theorem code_Right.calls (A0 : Option Addr) (c0 : Nat) (l0 : List S46) (r : Bool) (w : World) (hr0 : Kd.C k46 w A0 l0.length l0) (hc0 : l0.length ≤ c0) (h : code_Right.f l0 = some r) :
    Calls Try.prog 14 #[.slice A0 l0.length c0] w fun e w' => e = .returned (.bool r) ∧ Below w.heap.size w w' := by
  unfold code_Right.f at h
  obtain rfl := Option.some.inj h
  clear h
  obtain ⟨W0, hW0, K0, HB0⟩ : ∃ W0, w.alloc (.cells #[.slice A0 l0.length c0] 28) = W0 ∧ W0.heap[w.heap.size]? = some (.cells #[.slice A0 l0.length c0] 28 (0, 0)) ∧ Below w.heap.size w W0 := ⟨_, rfl, heap_alloc_new _ _, bOne _⟩
  have k0 : W0.cell? ⟨w.heap.size, 0, none⟩ = some (.slice A0 l0.length c0) := blk_cell K0 0
  have HB := Lib.hid HB0
  by_cases h1 : (1 : Int) ≤ l0.length
  · by_cases h2 : (l0.length : Int) ≤ 200
    · have C1 : Hid (Calls Try.prog 40 #[.slice A0 l0.length c0, .func (.func 31) #[] #[.pointer (some ⟨w.heap.size, 0, none⟩)]] W0 fun e w' => ∃ r : Int, e = .returned (.int .i64 r) ∧ Found (fun o => !opRight o l0.length) (fun _ W => Below W0.heap.size W0 W) l0 r w') := by
        refine Lib.hid (indexFunc_op 31 _ _ _ A0 c0 l0 W0 (fun args W => rfl) (fun pre W hW => Kd.C_below (Kd.C_below hr0 HB0) hW) (fun pre x W _ hW => ?_) (Below.refl _ _) (by omega))
        have hK := blk_below K0 hW
        refine (right1_calls w.heap.size A0 l0.length c0 x W (blk_cell hK 0) (blk_lt hK)).mono ?_
        rintro e w' ⟨rfl, hB⟩
        exact ⟨rfl, bAfter hW hB⟩
      have q1 : decide ((1 : Int) ≤ l0.length) = true := decide_eq_true h1
      have q2 : decide ((l0.length : Int) ≤ 200) = true := decide_eq_true h2
      clear hr0 hc0 K0 HB0
      rw [q1, q2, ← all_any, Bool.true_and, Bool.true_and]
      go_enter Try.func14, Try.ntmps14
      go_wp2_with fail
      refine (containsFunc_op _ _ _ A0 c0 l0 W0 C1.out).mono ?_
      rintro e w1 ⟨rfl, r, hF⟩
      have HF : Hid (Below w.heap.size w w1) := Lib.hid (bAfter HB.out (by rcases hF with ⟨-, -, h⟩ | ⟨i, -, -, -, -, h⟩ <;> exact h))
      clear hF C1
      go_wp2_with fail
      go_ret
      exact ⟨rfl, HF.out⟩
    · have q1 : decide ((1 : Int) ≤ l0.length) = true := decide_eq_true h1
      have q2 : decide ((l0.length : Int) ≤ 200) = false := decide_eq_false h2
      clear hr0 hc0 K0 HB0
      rw [q1, q2, Bool.and_false, Bool.false_and]
      go_enter Try.func14, Try.ntmps14
      go_wp2_with fail
      go_ret
      exact ⟨rfl, HB.out⟩
  · have q1 : decide ((1 : Int) ≤ l0.length) = false := decide_eq_false h1
    clear hr0 hc0 K0 HB0
    rw [q1, Bool.false_and, Bool.false_and]
    go_enter Try.func14, Try.ntmps14
    go_wp2_with fail
    go_ret
    exact ⟨rfl, HB.out⟩

end Go.Proofs.Ytbnchippfebdkaa.Q
