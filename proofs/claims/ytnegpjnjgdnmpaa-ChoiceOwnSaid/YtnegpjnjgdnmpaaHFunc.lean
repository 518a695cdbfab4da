/- slices.IndexFunc, slices.ContainsFunc, slices.DeleteFunc, by hand, of spots and of numbers, whatever the function value does to the memory meanwhile: told by a relation between what it has been asked and the world. -/
import Derived.Test.YtnegpjnjgdnmpaaHAsk
import Derived.Deep.LoopGhost
import Derived.WalkKit
namespace Go.Proofs.Ytnegpjnjgdnmpaa.Q
open Go.RowKit Go.Lib Go.Proofs.Ytnegpjnjgdnmpaa Go.Proofs.YtnegpjnjgdnmpaaW.PrintWords Go.Proofs.YtnegpjnjgdnmpaaW.PrintLast Go.Proofs.YtnegpjnjgdnmpaaW.PrintMore
set_option linter.unusedVariables false
set_option linter.unusedSimpArgs false

/-- What a search comes to. -/
def Found {α : Type} (p : α → Bool) (I : List α → World → Prop) (l : List α) (r : Int) (W : World) : Prop :=
  (r = -1 ∧ (∀ x ∈ l, p x = false) ∧ I l W) ∨ ∃ i : Nat, r = i ∧ i < l.length ∧ (l.take i).all (fun x => !p x) = true ∧ (∃ x, l[i]? = some x ∧ p x = true) ∧ I (l.take (i + 1)) W

theorem take_next {α : Type} {l : List α} {i : Nat} {x : α} (h : l[i]? = some x) : l.take (i + 1) = l.take i ++ [x] := by
  rw [List.take_add_one, h]
  rfl

set_option maxHeartbeats 2000000 in
theorem indexFunc_spot (g : Nat) (lb : Array Value) (p : S43 → Bool) (I : List S43 → World → Prop) (A : Option Addr) (c : Nat) (l : List S43) (w : World)
    (eg : ∀ args W, (callFunc g args).run Try.prog W = .ok (.enter g args) W) (hI : ∀ pre W, I pre W → Kd.C k43 W A l.length l)
    (hcall : ∀ pre x W, pre.length < l.length → I pre W → Calls Try.prog g (#[.agg #[.int .i64 x.f0, .int .u64 x.f1]] ++ lb) W fun e w' => e = .returned (.bool (p x)) ∧ I (pre ++ [x]) w') (h0 : I [] w) (hl : l.length < 1000000000) :
    Calls Try.prog 39 #[.slice A l.length c, .func (.func g) #[] lb] w fun e w' => ∃ r : Int, e = .returned (.int .i64 r) ∧ Found p I l r w' := by
  have hu := Try.underlying43
  have HI := Lib.hid hI
  have HC := Lib.hid hcall
  clear hI hcall
  go_enter Try.func39, Try.ntmps39
  go_wp2_with fail
  go_loopg [5, 8] l.length (fun kq _ v8 W => ∃ i : Nat, v8 = .int .i64 i ∧ Hid (kq + i = l.length) ∧ Hid (I (l.take i) W ∧ (l.take i).all (fun x => !p x) = true))
  case atStart => exact ⟨0, rfl, by simp [Hid], Lib.hid ⟨by simpa using h0, by simp⟩⟩
  case round =>
    obtain ⟨i, rfl, hk, hJ⟩ := hrel
    by_cases hi : i < l.length
    · have hi2 : (i : Int) < l.length := by omega
      have hi0 : (0 : Int) ≤ i := by omega
      obtain ⟨ad, rfl, a0, a1⟩ := at_T43 (HI.out _ _ hJ.out.1) (i : Int) hi0 hi2
      have hx : l[i]? = some (rd_T43 l i) := by
        unfold rd_T43
        simp [List.getD_eq_getElem?_getD, hi]
      have HX := Lib.hid hx
      clear hx
      generalize rd_T43 l i = x at *
      simp only [Int.toNat_natCast] at a0 a1
      have hc := HC.out _ x _ (by rw [List.length_take]; omega) hJ.out.1
      have HJ := hJ
      clear hJ
      cases hp : p x with
      | true =>
        rw [hp] at hc
        have hp := Lib.hid hp
        go_wp2_with fail
        refine hc.mono ?_
        rintro e w' ⟨rfl, hI1⟩
        have HI1 := Lib.hid hI1
        clear hI1 hc
        go_wp2_with fail
        go_ret
        exact ⟨_, rfl, .inr ⟨i, rfl, hi, HJ.out.2, ⟨x, HX.out, hp.out⟩, by rw [take_next HX.out]; exact HI1.out⟩⟩
      | false =>
        rw [hp] at hc
        have hp := Lib.hid hp
        go_wp2_with fail
        refine hc.mono ?_
        rintro e w' ⟨rfl, hI1⟩
        have HI1 := Lib.hid hI1
        clear hI1 hc
        go_wp2_with fail
        obtain ⟨k1, rfl⟩ : ∃ m, gk = m + 1 := ⟨gk - 1, by have := hk.out; omega⟩
        go_roundg k1
        case measure => omega
        case rel => exact ⟨i + 1, by first | rfl | rw [wrap_next (by omega)] | (unfold wrap64; congr 1; omega), Lib.hid (by have := hk.out; omega), Lib.hid ⟨by rw [take_next HX.out]; exact HI1.out, by rw [take_next HX.out, List.all_append, HJ.out.2]; simp [hp.out]⟩⟩
    · have hi2 : ¬ (i : Int) < l.length := by omega
      have hk0 : i = l.length := by have := hk.out; omega
      subst hk0
      go_wp2_with fail
      go_ret
      have h2 := hJ.out
      rw [List.take_length] at h2
      exact ⟨_, rfl, .inl ⟨rfl, fun x hx => by have := List.all_eq_true.1 h2.2 x hx; simpa using this, h2.1⟩⟩

theorem at_I {w : World} {A : Option Addr} {n : Nat} {xs : List Int} (h : Kd.C (Kd.int .i64) w A n xs) (i : Int) (h0 : 0 ≤ i) (h1 : i < n) : ∃ ad, A = some ad ∧ w.cell? (ad.add i.toNat) = some (.int .i64 (rd xs i)) := by
  obtain ⟨ad, c, e, _, hK, hc⟩ := Kd.C_get h 0 i h0 h1
  have hk : c = [.int .i64 (xs.getD i.toNat 0)] := hK
  subst hk
  exact ⟨ad, e, by have := hc 0 _ rfl; simpa [Kd.int, Kd.scalar, rd] using this⟩

set_option maxHeartbeats 2000000 in
theorem indexFunc_int (g : Nat) (lb : Array Value) (p : Int → Bool) (I : List Int → World → Prop) (A : Option Addr) (c : Nat) (l : List Int) (w : World)
    (eg : ∀ args W, (callFunc g args).run Try.prog W = .ok (.enter g args) W) (hI : ∀ pre W, I pre W → Kd.C (Kd.int .i64) W A l.length l)
    (hcall : ∀ pre x W, pre.length < l.length → I pre W → Calls Try.prog g (#[.int .i64 x] ++ lb) W fun e w' => e = .returned (.bool (p x)) ∧ I (pre ++ [x]) w') (h0 : I [] w) (hl : l.length < 1000000000) :
    Calls Try.prog 38 #[.slice A l.length c, .func (.func g) #[] lb] w fun e w' => ∃ r : Int, e = .returned (.int .i64 r) ∧ Found p I l r w' := by
  have HI := Lib.hid hI
  have HC := Lib.hid hcall
  clear hI hcall
  go_enter Try.func38, Try.ntmps38
  go_wp2_with fail
  go_loopg [5, 8] l.length (fun kq _ v8 W => ∃ i : Nat, v8 = .int .i64 i ∧ Hid (kq + i = l.length) ∧ Hid (I (l.take i) W ∧ (l.take i).all (fun x => !p x) = true))
  case atStart => exact ⟨0, rfl, by simp [Hid], Lib.hid ⟨by simpa using h0, by simp⟩⟩
  case round =>
    obtain ⟨i, rfl, hk, hJ⟩ := hrel
    by_cases hi : i < l.length
    · have hi2 : (i : Int) < l.length := by omega
      have hi0 : (0 : Int) ≤ i := by omega
      obtain ⟨ad, rfl, a0⟩ := at_I (HI.out _ _ hJ.out.1) (i : Int) hi0 hi2
      have hx : l[i]? = some (rd l i) := by
        unfold rd
        simp [List.getD_eq_getElem?_getD, hi]
      have HX := Lib.hid hx
      clear hx
      generalize rd l i = x at *
      simp only [Int.toNat_natCast] at a0
      have hc := HC.out _ x _ (by rw [List.length_take]; omega) hJ.out.1
      have HJ := hJ
      clear hJ
      cases hp : p x with
      | true =>
        rw [hp] at hc
        have hp := Lib.hid hp
        go_wp2_with fail
        refine hc.mono ?_
        rintro e w' ⟨rfl, hI1⟩
        have HI1 := Lib.hid hI1
        clear hI1 hc
        go_wp2_with fail
        go_ret
        exact ⟨_, rfl, .inr ⟨i, rfl, hi, HJ.out.2, ⟨x, HX.out, hp.out⟩, by rw [take_next HX.out]; exact HI1.out⟩⟩
      | false =>
        rw [hp] at hc
        have hp := Lib.hid hp
        go_wp2_with fail
        refine hc.mono ?_
        rintro e w' ⟨rfl, hI1⟩
        have HI1 := Lib.hid hI1
        clear hI1 hc
        go_wp2_with fail
        obtain ⟨k1, rfl⟩ : ∃ m, gk = m + 1 := ⟨gk - 1, by have := hk.out; omega⟩
        go_roundg k1
        case measure => omega
        case rel => exact ⟨i + 1, by first | rfl | rw [wrap_next (by omega)] | (unfold wrap64; congr 1; omega), Lib.hid (by have := hk.out; omega), Lib.hid ⟨by rw [take_next HX.out]; exact HI1.out, by rw [take_next HX.out, List.all_append, HJ.out.2]; simp [hp.out]⟩⟩
    · have hi2 : ¬ (i : Int) < l.length := by omega
      have hk0 : i = l.length := by have := hk.out; omega
      subst hk0
      go_wp2_with fail
      go_ret
      have h2 := hJ.out
      rw [List.take_length] at h2
      exact ⟨_, rfl, .inl ⟨rfl, fun x hx => by have := List.all_eq_true.1 h2.2 x hx; simpa using this, h2.1⟩⟩

/-! ### Who waits -/
theorem waits1_calls (id : Int) (b : Nat) (x : S43) (W : World) (hb : W.cell? ⟨b, 0, none⟩ = some (.int .i64 id)) (hlt : b < W.heap.size) :
    Calls Try.prog 36 #[.agg #[.int .i64 x.f0, .int .u64 x.f1], .pointer (some ⟨b, 0, none⟩)] W fun e w' => e = .returned (.bool (x.f0 == id)) ∧ Below W.heap.size W w' := by
  have hu := Try.underlying43
  have h1 : b ≠ W.heap.size := by omega
  go_enter Try.func36, Try.ntmps36
  go_wp2
  go_ret
  exact ⟨rfl, bTwo _ _⟩

theorem any_found {α : Type} {p : α → Bool} {I : List α → World → Prop} {l : List α} {r : Int} {W : World} (h : Found p I l r W) : decide (0 ≤ r) = l.any p := by
  rcases h with ⟨rfl, hn, -⟩ | ⟨i, rfl, hi, -, ⟨x, hx, hp⟩, -⟩
  · have : l.any p = false := by
      rw [List.any_eq_false]
      intro x hx
      simp [hn x hx]
    rw [this]
    rfl
  · have : l.any p = true := by
      rw [List.any_eq_true]
      exact ⟨x, List.mem_of_getElem? hx, hp⟩
    rw [this]
    simp

theorem containsFunc_spot (fv : Value) (p : S43 → Bool) (I : List S43 → World → Prop) (A : Option Addr) (c : Nat) (l : List S43) (w : World)
    (h : Calls Try.prog 39 #[.slice A l.length c, fv] w fun e w' => ∃ r : Int, e = .returned (.int .i64 r) ∧ Found p I l r w') :
    Calls Try.prog 35 #[.slice A l.length c, fv] w fun e w' => e = .returned (.bool (l.any p)) ∧ ∃ r, Found p I l r w' := by
  have H := Lib.hid h
  clear h
  go_enter Try.func35, Try.ntmps35
  go_wp2_with fail
  refine H.out.mono ?_
  rintro e w1 ⟨r, rfl, hF⟩
  have HF := Lib.hid hF
  clear hF H
  go_wp2_with fail
  go_ret
  exact ⟨by rw [← any_found HF.out]; rfl, _, HF.out⟩

/-- Does a thread wait? -/
def choice_Lot_waits.f (l0_0 : List S43) (l0_1 : List Int) (a1 : Int) : Option Bool := if l0_0.length < 1000000000 then some (l0_0.any fun s => s.f0 == a1) else none

set_option maxHeartbeats 2000000 in
theorem choice_Lot_waits.calls (A0_0 : Option Addr) (c0_0 : Nat) (l0_0 : List (S43)) (A0_1 : Option Addr) (c0_1 : Nat) (l0_1 : List Int) (a1 : Int) (r : Bool) (w : World) (hr0_0 : Kd.C k43 w A0_0 l0_0.length l0_0) (hc0_0 : l0_0.length ≤ c0_0) (hr0_1 : Kd.C (Kd.int .i64) w A0_1 l0_1.length l0_1) (hc0_1 : l0_1.length ≤ c0_1) (h : choice_Lot_waits.f l0_0 l0_1 a1 = some r) :
    Calls Try.prog 21 #[.agg #[.slice A0_0 l0_0.length c0_0, .slice A0_1 l0_1.length c0_1], .int .i64 a1] w fun e w' => e = .returned (.bool r) ∧ Below w.heap.size w w' := by
  have hu := Try.underlying27
  unfold choice_Lot_waits.f at h
  split at h
  case isFalse => cases h
  rename_i hl
  obtain rfl := Option.some.inj h
  clear h
  obtain ⟨W0, hW0, K0, K1, HB0, hz⟩ := two_named w (.cells #[.slice A0_0 l0_0.length c0_0, .slice A0_1 l0_1.length c0_1] 27) (.cells #[.int .i64 a1] 3)
  have c00 : W0.cell? ⟨w.heap.size, 0, none⟩ = some (.slice A0_0 l0_0.length c0_0) := blk_cell K0 0
  have C1 : Hid (Calls Try.prog 39 #[.slice A0_0 l0_0.length c0_0, .func (.func 36) #[] #[.pointer (some ⟨w.heap.size + 1, 0, none⟩)]] W0 fun e w' => ∃ r : Int, e = .returned (.int .i64 r) ∧ Found (fun s => s.f0 == a1) (fun _ W => Below W0.heap.size W0 W) l0_0 r w') := by
    refine Lib.hid (indexFunc_spot 36 _ _ _ A0_0 c0_0 l0_0 W0 (fun args W => rfl) (fun pre W hW => Kd.C_below (Kd.C_below hr0_0 HB0) hW) (fun pre x W _ hW => ?_) (Below.refl _ _) hl)
    have hK := blk_below K1 hW
    refine (waits1_calls a1 (w.heap.size + 1) x W (blk_cell hK 0) (blk_lt hK)).mono ?_
    rintro e w' ⟨rfl, hB⟩
    exact ⟨rfl, bAfter hW hB⟩
  have HB := Lib.hid HB0
  clear hr0_0 hr0_1 hc0_1 hc0_0 K0 K1 HB0 hz hl
  go_enter Try.func21, Try.ntmps21
  go_wp2_with fail
  refine (containsFunc_spot _ _ _ A0_0 c0_0 l0_0 W0 C1.out).mono ?_
  rintro e w1 ⟨rfl, r, hF⟩
  have HF : Hid (Below w.heap.size w w1) := Lib.hid (bAfter HB.out (by rcases hF with ⟨-, -, h⟩ | ⟨i, -, -, -, -, h⟩ <;> exact h))
  clear hF C1
  go_wp2_with fail
  go_ret
  exact ⟨rfl, HF.out⟩

end Go.Proofs.Ytnegpjnjgdnmpaa.Q
