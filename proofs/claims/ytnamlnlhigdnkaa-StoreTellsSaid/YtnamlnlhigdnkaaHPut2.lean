/- Put and Mark of a store, by hand, the second part. -/
import Derived.Test.YtnamlnlhigdnkaaHPut
import Derived.Test.YtnamlnlhigdnkaaMem
namespace Go.Proofs.Ytnamlnlhigdnkaa.Q
open Go.RowKit Go.Lib Go.Proofs.Ytnamlnlhigdnkaa Go.Proofs.YtnamlnlhigdnkaaW.PrintWords Go.Proofs.YtnamlnlhigdnkaaW.PrintLast Go.Proofs.YtnamlnlhigdnkaaW.PrintMore
set_option linter.unusedVariables false
set_option linter.unusedSimpArgs false

/-- May such a value be? -/
def mayV (a b : Int) : Bool := (decide (a = 0) && decide (b = 0)) || decide (a = 1) || (decide (a = 2) && (decide (0 ≤ b) && decide (b < 64)))
theorem mayV_f (a b : Int) : value_Right.f a b = some (mayV a b) := by
  unfold value_Right.f mayV
  by_cases h0 : a = 0
  · subst h0; simp; rfl
  · by_cases h1 : a = 1
    · subst h1; simp
    · by_cases h2 : a = 2
      · subst h2
        by_cases h3 : b ≥ 0
        · simp [h3]
        · have h4 : ¬ (0 ≤ b) := h3
          simp [h4]
      · simp [h0, h1, h2]
def slotB (a : Int) : Bool := decide (0 ≤ a) && decide (a < 32)
theorem slotB_f (a : Int) : store_slot.f a = some (slotB a) := by
  unfold store_slot.f slotB
  by_cases h3 : a ≥ 0
  · simp [h3]
  · have h4 : ¬ (0 ≤ a) := h3
    simp [h4]

def store_Put.f (l0 : List S35) (a1 a20 a21 a3 a4 : Int) : Option (List S35 × Int) :=
  if l0.length < 3518437208883 then
    (if 0 ≤ a1 ∧ a1 < (l0.length : Int) then (if (mayV a20 a21 && (decide (a4 = -1) || slotB a4)) = true then some (l0.set a1.toNat ⟨⟨a20, a21⟩, a3, a4, 0⟩, 0) else some (l0, 2)) else some (l0, 3)) else none

theorem V_of_R {α : Type} {d : Kd α} {e : Nat} {w : World} {base B : Nat} {ok : Nat → Prop} {v : Value} {xs : List α} (h : Kd.R d e w base ok v xs) : Kd.V d e w B (fun k => base ≤ k) v xs := by
  have h2 := Kd.R_mono (Kd.R_bound h) (ok' := fun k => base ≤ k) (fun _ hk => hk.2.1)
  obtain ⟨A, c, rfl, hc, _⟩ := Kd.R_reads h2
  refine Kd.V_mk hc (fun W' hW => ?_)
  obtain ⟨A', c', e', _, hC⟩ := Kd.R_reads (Kd.R_step h2 hW)
  injection e' with e1
  rw [e1]
  exact hC

/-- What comes of a store in which a variable is to be turned. -/
def changedF (up : S35 → S35) (l0 : List S35) (a1 : Int) (may : Bool) : List S35 × Int :=
  if 0 ≤ a1 ∧ a1 < (l0.length : Int) then (if may = true then (l0.set a1.toNat (up (rd_T35 l0 a1)), 0) else (l0, 2)) else (l0, 3)

set_option maxHeartbeats 4000000 in
theorem changed_calls (n : Nat) (caps : Array Value) (up : S35 → S35) (P0_ : Nat → Prop) (A0 : Option Addr) (c0 : Nat) (l0 : List S35) (a1 : Int) (may : Bool) (w : World) (hl : l0.length < 3518437208883)
    (hs0 : Kd.V k35 35 w w.heap.size (fun k_ => P0_ k_) (.slice A0 l0.length c0) l0) (hT : Turns n caps up w.heap.size w) (hn : ∀ args W, (callFunc n args).run Try.prog W = .ok (.enter n args) W) :
    Calls Try.prog 28 #[.slice A0 l0.length c0, .int .i64 a1, .bool may, .func (Fn.func n) #[] caps] w fun e w' => ∃ v0_ : Value, e = .returned (.tuple #[v0_, .int .i64 (changedF up l0 a1 may).2]) ∧ Kd.V k35 35 w' w.heap.size (fun k_ => (P0_ k_ ∨ w.heap.size ≤ k_)) v0_ (changedF up l0 a1 may).1 ∧ Below w.heap.size w w' := by
  obtain ⟨-, hc0, hC⟩ := Kd.V_reads' hs0
  have HS := Aside0.mk hs0
  have HT := Aside0.mk hT
  clear hs0 hT
  by_cases hin : 0 ≤ a1 ∧ a1 < (l0.length : Int)
  · have hG : store_Get.f l0 a1 = some ((rd_T35 l0 a1).f0.f0, (rd_T35 l0 a1).f0.f1, (rd_T35 l0 a1).f1, (rd_T35 l0 a1).f2, (rd_T35 l0 a1).f3, 0) := by
      unfold store_Get.f
      rw [if_neg (by omega), if_neg (by omega), if_pos hin.1, if_pos hin.2]
    have C1 := Lib.hid (store_Get.calls A0 c0 l0 a1 _ _ _ _ _ _ w hC hc0 hG)
    cases may
    · rw [show changedF up l0 a1 false = (l0, 2) by simp [changedF, hin]]
      have hin := Aside0.mk hin
      clear hG
      go_enter Try.func28, Try.ntmps28
      go_wp2_with fail
      refine C1.out.mono ?_
      rintro e w1 ⟨rfl, hb1⟩
      have HB1 := Aside0.mk hb1
      clear hb1
      go_wp2_with fail
      go_ret2
      have hB := bAfter HB1.out (bOne (w := w1) (.cells #[.int .i64 (rd_T35 l0 a1).f0.f0, .int .i64 (rd_T35 l0 a1).f0.f1, .int .i64 (rd_T35 l0 a1).f1, .int .i64 (rd_T35 l0 a1).f2, .int .u64 (rd_T35 l0 a1).f3] 35))
      exact ⟨_, rfl, Kd.V_mono (Kd.V_below HS.out hB) (fun _ h => .inl h), hB⟩
    · rw [show changedF up l0 a1 true = (l0.set a1.toNat (up (rd_T35 l0 a1)), 0) by simp [changedF, hin]]
      have hin := Aside0.mk hin
      clear hG
      go_enter Try.func28, Try.ntmps28
      go_wp2_with fail
      refine C1.out.mono ?_
      rintro e w1 ⟨rfl, hb1⟩
      have HB1 := Aside0.mk hb1
      clear hb1
      go_wp2_with fail
      have HB2 := Lib.hid (bAfter HB1.out (bOne (w := w1) (.cells #[.int .i64 (rd_T35 l0 a1).f0.f0, .int .i64 (rd_T35 l0 a1).f0.f1, .int .i64 (rd_T35 l0 a1).f1, .int .i64 (rd_T35 l0 a1).f2, .int .u64 (rd_T35 l0 a1).f3] 35)))
      refine (clone_calls A0 c0 l0 _ (Kd.C_below hC HB2.out) hl).mono ?_
      rintro e w2 ⟨v, rfl, hR, hb2⟩
      have HB3 := Lib.hid (bAfter HB2.out hb2)
      obtain ⟨g, cap, rfl, hg, hlt, _⟩ := Kd.R_form hR (by have := hin.out; omega)
      have HR := Lib.hid (Kd.R_lower hR HB2.out.size)
      have hgw := Lib.hid (Nat.le_trans HB2.out.size hg)
      clear hR hb2 hg HB1 HB2 hC
      have i0 := hin.out.1
      have i1 := hin.out.2
      go_wp2_with fail
      refine (HT.out w2 g l0.length cap l0 a1 HB3.out hgw.out HR.out i0 i1).mono ?_
      rintro e w3 ⟨rfl, hR3, hB3⟩
      have HZ := Lib.hid (And.intro hR3 hB3)
      clear hR3 hB3 HR HB3 HT hgw
      go_wp2_with fail
      go_ret2
      exact ⟨_, rfl, Kd.V_mono (V_of_R (by simpa using HZ.out.1)) (fun _ h => .inr h), HZ.out.2⟩
  · have hG : store_Get.f l0 a1 = some (0, 0, 0, 0, 0, 3) := by
      unfold store_Get.f
      by_cases h0 : a1 < 0
      · rw [if_pos h0]
      · rw [if_neg h0, if_pos (by omega)]
    have C1 := Lib.hid (store_Get.calls A0 c0 l0 a1 _ _ _ _ _ _ w hC hc0 hG)
    rw [show changedF up l0 a1 may = (l0, 3) by simp only [changedF]; rw [if_neg hin]]
    have hin := Aside0.mk hin
    clear hG
    go_enter Try.func28, Try.ntmps28
    go_wp2_with fail
    refine C1.out.mono ?_
    rintro e w1 ⟨rfl, hb1⟩
    have HB1 := Aside0.mk hb1
    clear hb1
    go_wp2_with fail
    go_ret2
    have hB := bAfter HB1.out (bOne (w := w1) (.cells #[.int .i64 0, .int .i64 0, .int .i64 0, .int .i64 0, .int .u64 0] 35))
    exact ⟨_, rfl, Kd.V_mono (Kd.V_below HS.out hB) (fun _ h => .inl h), hB⟩

set_option maxHeartbeats 4000000 in
theorem store_Put.calls (P0_ : Nat → Prop) (A0 : Option Addr) (c0 : Nat) (l0 : List S35) (a1 a2_0 a2_1 a3 a4 : Int) (r1 : List S35) (r2 : Int) (w : World) (hs0 : Kd.V k35 35 w w.heap.size (fun k_ => P0_ k_) (.slice A0 l0.length c0) l0) (h : store_Put.f l0 a1 a2_0 a2_1 a3 a4 = some (r1, r2)) :
    Calls Try.prog 13 #[.slice A0 l0.length c0, .int .i64 a1, .agg #[.int .i64 a2_0, .int .i64 a2_1], .int .i64 a3, .int .i64 a4] w fun e w' => ∃ v0_ : Value, e = .returned (.tuple #[v0_, .int .i64 r2]) ∧ Kd.V k35 35 w' w.heap.size (fun k_ => (P0_ k_ ∨ w.heap.size ≤ k_)) v0_ r1 ∧ Below w.heap.size w w' := by
  have HS := Aside0.mk hs0
  clear hs0
  unfold store_Put.f at h
  split at h
  case isFalse => cases h
  rename_i hl
  have HL := Aside0.mk hl
  have C1 := Lib.hid fun W => value_Right.calls _ _ _ W (mayV_f a2_0 a2_1)
  have C2 := Lib.hid fun W => store_slot.calls _ _ W (slotB_f a4)
  have C3 : Hid (∀ W, Below (((w.alloc (.cells #[.int .i64 a2_0, .int .i64 a2_1] 31)).alloc (.cells #[.int .i64 a3] 3)).alloc (.cells #[.int .i64 a4] 3)).heap.size (((w.alloc (.cells #[.int .i64 a2_0, .int .i64 a2_1] 31)).alloc (.cells #[.int .i64 a3] 3)).alloc (.cells #[.int .i64 a4] 3)) W →
     ∀ bb : Bool, bb = (mayV a2_0 a2_1 && (decide (a4 = -1) || slotB a4)) →
     Calls Try.prog 28 #[.slice A0 l0.length c0, .int .i64 a1, .bool bb, .func (Fn.func 29) #[] #[.pointer (some ⟨w.heap.size, 0, none⟩), .pointer (some ⟨w.heap.size + 1, 0, none⟩), .pointer (some ⟨w.heap.size + 1 + 1, 0, none⟩)]] W fun e w' => ∃ v0_ : Value, e = .returned (.tuple #[v0_, .int .i64 r2]) ∧ Kd.V k35 35 w' w.heap.size (fun k_ => (P0_ k_ ∨ w.heap.size ≤ k_)) v0_ r1 ∧ Below w.heap.size w w') := by
    intro W hW bb hbb
    subst hbb
    obtain ⟨h1, h2, h3, hz, hBW⟩ := three_boxes hW
    refine (changed_calls _ _ (fun _ => ⟨⟨a2_0, a2_1⟩, a3, a4, 0⟩) P0_ A0 c0 l0 a1 (mayV a2_0 a2_1 && (decide (a4 = -1) || slotB a4)) W HL.out (Kd.V_below HS.out hBW) (put1_calls a2_0 a2_1 a3 a4 w.heap.size (w.heap.size + 1) (w.heap.size + 1 + 1) W.heap.size W (by omega) (by omega) (by omega) h1 h2 h3) (fun args V => rfl)).mono ?_
    rintro e w' ⟨v, rfl, hV, hB⟩
    have hf : changedF (fun _ => (⟨⟨a2_0, a2_1⟩, a3, a4, 0⟩ : S35)) l0 a1 (mayV a2_0 a2_1 && (decide (a4 = -1) || slotB a4)) = (r1, r2) := by
      unfold changedF
      split at h
      · rename_i hi
        rw [if_pos hi]
        split at h
        · rename_i hm
          rw [if_pos hm]
          exact Option.some.inj h
        · rename_i hm
          rw [if_neg hm]
          exact Option.some.inj h
      · rename_i hi
        rw [if_neg hi]
        exact Option.some.inj h
    rw [hf] at hV ⊢
    have hs := hBW.size
    exact ⟨v, rfl, Kd.V_mono hV (fun k hk => hk.imp id (fun h => Nat.le_trans hs h)), bAfter hBW hB⟩
  clear h HS hl
  generalize hmv : mayV a2_0 a2_1 = mv at *
  generalize hsb : slotB a4 = sb at *
  clear hmv hsb
  replace C3 := fun W hW => C3.out W hW _ rfl
  rcases mv with _ | _
  · simp only [Bool.false_and] at C3
    replace C3 := Lib.hid C3
    clear C2
    go_enter Try.func13, Try.ntmps13
    go_wp2_with fail
    refine (C1.out _).mono ?_
    rintro e w1 ⟨rfl, hb1⟩
    have CZ := Lib.hid (C3.out w1 hb1)
    clear hb1 C3 C1
    go_wp2_with fail
    refine CZ.out.mono ?_
    rintro e w2 ⟨v, rfl, hV⟩
    have HV := Lib.hid hV
    clear hV CZ
    go_wp2_with fail
    go_ret2
    exact ⟨_, rfl, HV.out⟩
  · simp only [Bool.true_and] at C3
    by_cases h4 : a4 = -1
    · subst h4
      simp only [decide_true, Bool.true_or] at C3
      replace C3 := Lib.hid C3
      clear C2
      go_enter Try.func13, Try.ntmps13
      go_wp2_with fail
      refine (C1.out _).mono ?_
      rintro e w1 ⟨rfl, hb1⟩
      have CZ := Lib.hid (C3.out w1 hb1)
      have hc1 : w1.cell? ⟨w.heap.size + 1 + 1, 0, none⟩ = some (.int .i64 (-1)) := by
        have := (three_boxes hb1).2.2.1
        simp [World.cell?, this]
      clear hb1 C3 C1
      go_wp2_with fail
      refine CZ.out.mono ?_
      rintro e w2 ⟨v, rfl, hV⟩
      have HV := Lib.hid hV
      clear hV CZ hc1
      go_wp2_with fail
      go_ret2
      exact ⟨_, rfl, HV.out⟩
    · simp only [h4, decide_false, Bool.false_or] at C3
      replace C3 := Lib.hid C3
      go_enter Try.func13, Try.ntmps13
      go_wp2_with fail
      refine (C1.out _).mono ?_
      rintro e w1 ⟨rfl, hb1⟩
      have CZ := Lib.hid (fun n => C3.out (w1.drewN n) (pw_below_drewN hb1 n))
      have hc1 : w1.cell? ⟨w.heap.size + 1 + 1, 0, none⟩ = some (.int .i64 a4) := by
        have := (three_boxes hb1).2.2.1
        simp [World.cell?, this]
      clear hb1 C3 C1
      go_wp2_with fail
      refine (C2.out _).mono ?_
      rintro e w2 ⟨rfl, hd⟩
      obtain ⟨n, rfl⟩ := hd.out
      clear hd hc1 C2
      go_wp2_with fail
      rw [show (a4 == -1 || sb) = sb by simp [h4]]
      refine (CZ.out n).mono ?_
      rintro e w2 ⟨v, rfl, hV⟩
      have HV := Lib.hid hV
      clear hV CZ
      go_wp2_with fail
      go_ret2
      exact ⟨_, rfl, HV.out⟩

end Go.Proofs.Ytnamlnlhigdnkaa.Q
