/- CodeFields: an operation may be with any registers there are, and with no others. -/
import Derived.Test.YtbnchippfebdkaaPureB
import Derived.Test.YtbnchippfebdkaaHAlive
import Derived.Test.YtbnchippfebdkaaFlat
import Derived.Test.YtbnchippfebdkaaQ2
import Derived.Maps.OwnOps
import Derived.Maps.Views
import Derived.WideShapes

import Derived.RegionTactic
import Derived.ChangeAlike
import Derived.BigRegion
namespace Go.Proofs.Ytbnchippfebdkaa
open Go.RowKit Go.Lib Go.Maps Go.Proofs.Ytbnchippfebdkaa.Q Go.Proofs.YtbnchippfebdkaaW.PrintWords Go.Proofs.YtbnchippfebdkaaW.PrintLast Go.Proofs.YtbnchippfebdkaaW.PrintMore
set_option linter.unusedVariables false
set_option linter.unusedSimpArgs false

/-- A map's entry laid by a literal, at the operation. -/
theorem wpList_insert_own {H : Type} {P : Program} (w : World) {ops : Array Oper} {rest : List Oper} {o : Oper} {a : Act} {Q : Exit → Act → World → Prop}
    (hg : o.guard = none) (m x v : Operand) (t : TypeId) (hop : o.op = Op.insert t m x v)
    (k e : TypeId) (K : Keyed P k) (ht : P.underlying t = some (.map k e)) (R : Value → Option (DataW H × List MemPlace)) (b n : Nat) (D : DataW H)
    (hm : a.eval m = .map (some b)) (hown : w.ownsMap P k R b n D) (hn : n < maxLen) (key val : Value) (kl : Lit) (hx : a.eval x = key) (hv : a.eval v = val) (hkey : keyOf P k key = some kl)
    (d : DataW H) (ps : List MemPlace) (hval : R val = some (d, ps))
    (hK : ∀ w', w'.ownsMap P k R b (n + 1) (D.put kl d) → w.grownBy w' (some b) → wpList P ops Q rest (a.put o.dst undef) w') :
    wpList P ops Q (o :: rest) a w := by
  refine wpList_plain hg fun K' hK' => ?_
  obtain ⟨w', hrun, r1, r2⟩ := hown.update K ht hn hkey hval
  unfold Oper.wp
  simp [execOp, hop, hm, hx, hv, hrun, Result.andThen]
  exact hK' _ _ (hK w' r1 r2)

theorem lawK : Keyed Try.prog 5 := int_keyed (q := .u8) (by kernel_rfl)
theorem zeroE (w : World) : (zeroValue 3).run Try.prog w = .ok (.int .i64 0) w := by kernel_rfl
abbrev D0 : DataW Unit := .map []
abbrev D1 : DataW Unit := D0.put (.int .u8 114) (.lit (.int .i64 8))
abbrev D2 : DataW Unit := D1.put (.int .u8 118) (.lit (.int .i64 64))
abbrev D3 : DataW Unit := D2.put (.int .u8 112) (.lit (.int .i64 1))
abbrev D4 : DataW Unit := D3.put (.int .u8 45) (.lit (.int .i64 1))
/-- How many there are, of a letter. -/
def lim (s : Int) : Int := if s = 114 then 8 else if s = 118 then 64 else 1
theorem lim_of {s c : Int} (hs : sym s) (h : D4.atKey (.int .u8 s) (.lit (.int .i64 0)) = .lit (.int .i64 c)) : c = lim s := by
  rcases hs with rfl | rfl | rfl | rfl
  · have : (DataW.lit (.int .i64 8) : DataW Unit) = .lit (.int .i64 c) := h
    injection this with this
    injection this with _ this
    rw [← this]; rfl
  · have : (DataW.lit (.int .i64 64) : DataW Unit) = .lit (.int .i64 c) := h
    injection this with this
    injection this with _ this
    rw [← this]; rfl
  · have : (DataW.lit (.int .i64 1) : DataW Unit) = .lit (.int .i64 c) := h
    injection this with this
    injection this with _ this
    rw [← this]; rfl
  · have : (DataW.lit (.int .i64 1) : DataW Unit) = .lit (.int .i64 c) := h
    injection this with this
    injection this with _ this
    rw [← this]; rfl
theorem wf8 {x : Int} (h : 0 ≤ x ∧ x ≤ 255) : (Lit.int .u8 x).wf = true := by
  have m1 : IntKind.u8.min = 0 := by decide
  have m2 : IntKind.u8.max = 255 := by decide
  simp only [Lit.wf, m1, m2, Bool.and_eq_true, decide_eq_true_eq]
  exact h

/-- One operation that a statement lays. -/
theorem C_one {w : World} {g : Nat} {t : TypeId} (a : S46) (h : w.heap[g]? = some (.cells (opV a) t (0, 0))) : Kd.C k46 w (some ⟨g, 0, none⟩) 1 [a] := by
  refine ⟨rfl, by decide, fun _ => ⟨_, rfl, fun j p hj => ?_⟩⟩
  rcases j with _ | j
  · obtain rfl : a = p := by simpa using hj
    refine ⟨_, rfl, k46_mk _ a, fun q u hu => ?_⟩
    rw [Addr.add_lit]
    refine (blk_cell h _).trans ?_
    show (opV a)[0 + (0 * 5 + q)]? = _
    have hq : q < 5 := by
      rcases Nat.lt_or_ge q 5 with h | h
      · exact h
      · rw [List.getElem?_eq_none (by exact h)] at hu; cases hu
    rw [Nat.zero_mul, Nat.zero_add, Nat.zero_add, ← hu]
    rcases q with _ | _ | _ | _ | _ | q <;> first | rfl | omega
  · simp at hj

/-- What is kept while a map grows. -/
def GK (w W : World) (g : Nat) (o : Obj) (B : Nat) : Prop := Below w.heap.size w W ∧ W.heap[g]? = some o ∧ g ≠ B ∧ w.heap.size ≤ B
theorem GK.step {w W W' : World} {g B : Nat} {o : Obj} (h : GK w W g o B) (hg : W.grownBy W' (some B)) : GK w W' g o B :=
  ⟨h.1.grown hg h.1.size (fun k hk => by injection hk with hk; have := h.2.2.2; omega), blk_grown h.2.1 hg (fun e => h.2.2.1 (Option.some.inj e)), h.2.2⟩

set_option maxHeartbeats 8000000 in
theorem fields_core (c a b n : Int) (w : World) (F : ByteArray) (r : Bool) (hc : 0 ≤ c ∧ c < 256) (ha : 0 ≤ a ∧ a < 256) (hb : 0 ≤ b ∧ b < 256) (hn : 0 ≤ n ∧ n < 256)
    (hF : warpbeamref16_Fields.f (c % 17) = some F) (h4 : F.size = 4) (q0 : sym (bt F 0)) (q1 : sym (bt F 1)) (q2 : sym (bt F 2))
    (hr : code_Right.f [⟨c % 17, a, b, n, 0⟩] = some r) :
    Calls Try.prog 6 #[.agg #[.int .u8 c, .int .u8 a, .int .u8 b, .int .u8 n]] w fun e w' => e = .returned (.bool (r == (decide (a < lim (bt F 0)) && (decide (b < lim (bt F 1)) && decide (n < lim (bt F 2)))))) ∧ Below w.heap.size w w' := by
  have hu44 := Try.underlying44
  have hu46 := Try.underlying46
  have wc : wrap64 c = c := by unfold wrap64; omega
  have wa : wrap64 a = a := by unfold wrap64; omega
  have wb : wrap64 b = b := by unfold wrap64; omega
  have wn : wrap64 n = n := by unfold wrap64; omega
  have hmm := @run_makeMap Try.prog
  obtain ⟨W0, hW0, K0, hB0⟩ : ∃ W0, w.alloc (.cells #[.int .u8 c, .int .u8 a, .int .u8 b, .int .u8 n] 44) = W0 ∧ W0.heap[w.heap.size]? = some (.cells #[.int .u8 c, .int .u8 a, .int .u8 b, .int .u8 n] 44 (0, 0)) ∧ Below w.heap.size w W0 := ⟨_, rfl, heap_alloc_new _ _, bOne _⟩
  have C1 := Lib.hid (warpbeamlaw16_alive.calls true W0 rfl)
  have HK := Lib.hid (Kept.add (kept_B hB0) (kept_K K0))
  have HF := Lib.hid hF
  have HR := Lib.hid hr
  clear K0 hB0 hF hr
  go_enter Try.func6, Try.ntmps6
  go_wp2_with fail
  refine C1.out.mono ?_
  rintro e w1 ⟨rfl, hB1⟩
  replace HK := Lib.hid (HK.out.next hB1)
  have k0 : w1.cell? ⟨w.heap.size, 0, none⟩ = some (.int .u8 c) := blk_cell HK.out.now.2 0
  have k1 : w1.cell? ⟨w.heap.size, 1, none⟩ = some (.int .u8 a) := blk_cell HK.out.now.2 1
  have k2 : w1.cell? ⟨w.heap.size, 2, none⟩ = some (.int .u8 b) := blk_cell HK.out.now.2 2
  have k3 : w1.cell? ⟨w.heap.size, 3, none⟩ = some (.int .u8 n) := blk_cell HK.out.now.2 3
  obtain ⟨W2, hW2, K2, K2', hB2, hz2⟩ := two_named w1 (.cells #[.int .i64 (c % 17), .int .i64 a, .int .i64 b, .int .i64 n, .int .i64 0] 46) (.cells #[.int .i64 (c % 17), .int .i64 a, .int .i64 b, .int .i64 n, .int .i64 0] 46)
  have C2 := Lib.hid (code_Right.calls (some ⟨w1.heap.size + 1, 0, none⟩) 1 [⟨c % 17, a, b, n, 0⟩] r W2.drew (C_one _ (blk_drew K2')) (Nat.le_refl _) HR.out)
  replace HK := Lib.hid (Kept.add (HK.out.next (below_drew hB2)) (kept_K (blk_drew K2)))
  clear hB1 C1 hW0 K2 K2' hB2 hz2
  go_wp2_with fail
  go_region
  go_wp2_with fail
  refine C2.out.mono ?_
  rintro e w3 ⟨rfl, hB3⟩
  replace HK := Lib.hid (HK.out.next hB3)
  have C3 := Lib.hid (warpbeamref16_Fields.calls (c % 17) F w3 HF.out)
  have j0 : w3.cell? ⟨w1.heap.size, 0, none⟩ = some (.int .i64 (c % 17)) := blk_cell HK.out.now.2 0
  clear k0 k1 k2 k3 hB3 C2 hW2 HR HF
  go_wp2_with fail
  refine C3.out.mono ?_
  rintro e w4 ⟨rfl, hB4⟩
  replace HK := Lib.hid (HK.out.next hB4)
  have j1 : w4.cell? ⟨w1.heap.size, 1, none⟩ = some (.int .i64 a) := blk_cell HK.out.now.2 1
  have j2 : w4.cell? ⟨w1.heap.size, 2, none⟩ = some (.int .i64 b) := blk_cell HK.out.now.2 2
  have j3 : w4.cell? ⟨w1.heap.size, 3, none⟩ = some (.int .i64 n) := blk_cell HK.out.now.2 3
  obtain ⟨W5, hW5, K5, hB5⟩ : ∃ W5, w4.alloc (.cells #[.int .i64 a, .int .i64 b, .int .i64 n] 3) = W5 ∧ W5.heap[w4.heap.size]? = some (.cells #[.int .i64 a, .int .i64 b, .int .i64 n] 3 (0, 0)) ∧ Below w4.heap.size w4 W5 := ⟨_, rfl, heap_alloc_new _ _, bOne _⟩
  have HW := Lib.hid (And.intro (bAfter HK.out.now.1.1 hB5) K5)
  clear j0 hB4 C3 HK K5 hB5
  go_wp2_with fail
  generalize hg : w4.heap.size = g at *
  clear hg hW5 j1 j2 j3
  go_loopg [10, 11, 12, 13, 48] 3 (fun kq v10 _ _ _ v48 W => ∃ i : Nat, v48 = .int .i64 i ∧ Hid (kq + i = 3) ∧ Hid (Below w.heap.size w W ∧ W.heap[g]? = some (.cells #[.int .i64 a, .int .i64 b, .int .i64 n] 3 (0, 0))) ∧ ∃ t : Bool, v10 = .bool t ∧ Hid (t = ((decide (i < 1) || decide (a < lim (bt F 0))) && ((decide (i < 2) || decide (b < lim (bt F 1))) && (decide (i < 3) || decide (n < lim (bt F 2)))))))
  case atStart => exact ⟨0, rfl, by simp [Hid], HW, true, rfl, Lib.hid rfl⟩
  case round =>
    clear HW
    obtain ⟨i, rfl, hk, HJ, t, rfl, HT⟩ := hrel
    have hi3 : i = 0 ∨ i = 1 ∨ i = 2 ∨ i = 3 := by have := hk.out; omega
    rcases hi3 with rfl | rfl | rfl | rfl
    · have k0 : wr.cell? ⟨g, 0, none⟩ = some (.int .i64 a) := blk_cell HJ.out.2 0
      have hown := World.ownsMap_made (H := Unit) wr Try.prog 5 (plainElem Try.prog 3)
      have hgl : g < wr.heap.size := blk_lt HJ.out.2
      have HG0 := Lib.hid (show GK w (wr.alloc (.map #[] 0)) g (.cells #[.int .i64 a, .int .i64 b, .int .i64 n] 3 (0, 0)) wr.heap.size from ⟨bAfter HJ.out.1 (bOne _), blk_below HJ.out.2 (bOne _), by omega, HJ.out.1.size⟩)
      have hx : ∀ h : 0 < F.size, ((F[0]'h).toNat : Int) = bt F 0 := bt_at F 0
      clear HJ hgl
      obtain ⟨k1, rfl⟩ : ∃ m, gk = m + 1 := ⟨gk - 1, by have := hk.out; omega⟩
      go_wp2_with (first | (refine wpList_insert_own _ rfl _ _ _ 49 rfl 5 3 lawK Try.underlying49 _ wr.heap.size 0 D0 rfl hown (by unfold maxLen; omega) (.int .u8 114) (.int .i64 8) (.int .u8 114) rfl rfl (keyOf_int_mk Try.underlying5 (by decide)) (.lit (.int .i64 8)) [] (plainElem_int Try.underlying3 (by decide)) ?_))
      intro w5 hown1 hgr
      have HG1 := Lib.hid (HG0.out.step hgr)
      clear hown hgr HG0
      have hown := hown1
      clear hown1
      go_wp2_with (first | (refine wpList_insert_own _ rfl _ _ _ 49 rfl 5 3 lawK Try.underlying49 _ wr.heap.size 1 D1 rfl hown (by unfold maxLen; omega) (.int .u8 118) (.int .i64 64) (.int .u8 118) rfl rfl (keyOf_int_mk Try.underlying5 (by decide)) (.lit (.int .i64 64)) [] (plainElem_int Try.underlying3 (by decide)) ?_))
      intro w6 hown2 hgr
      have HG2 := Lib.hid (HG1.out.step hgr)
      clear hown hgr HG1
      have hown := hown2
      clear hown2
      go_wp2_with (first | (refine wpList_insert_own _ rfl _ _ _ 49 rfl 5 3 lawK Try.underlying49 _ wr.heap.size 2 D2 rfl hown (by unfold maxLen; omega) (.int .u8 112) (.int .i64 1) (.int .u8 112) rfl rfl (keyOf_int_mk Try.underlying5 (by decide)) (.lit (.int .i64 1)) [] (plainElem_int Try.underlying3 (by decide)) ?_))
      intro w7 hown3 hgr
      have HG3 := Lib.hid (HG2.out.step hgr)
      clear hown hgr HG2
      have hown := hown3
      clear hown3
      go_wp2_with (first | (refine wpList_insert_own _ rfl _ _ _ 49 rfl 5 3 lawK Try.underlying49 _ wr.heap.size 3 D3 rfl hown (by unfold maxLen; omega) (.int .u8 45) (.int .i64 1) (.int .u8 45) rfl rfl (keyOf_int_mk Try.underlying5 (by decide)) (.lit (.int .i64 1)) [] (plainElem_int Try.underlying3 (by decide)) ?_))
      intro w8 hown4 hgr
      have HG4 := Lib.hid (HG3.out.step hgr)
      clear hown hgr HG3
      have hown := hown4
      clear hown4
      go_wp2_with (first | (at_lookup; refine wpList_lookup_own_int _ rfl _ _ 49 rfl 5 3 .i64 lawK Try.underlying49 Try.underlying3 (zeroE _) wr.heap.size 4 D4 rfl hown (.int .u8 (bt F 0)) (.int .u8 (bt F 0)) rfl (keyOf_int_mk Try.underlying5 (wf8 (bt_range F 0))) ?_))
      intro cc hat hwc
      obtain rfl := lim_of q0 hat
      clear hat hwc hown k0
      have HJ2 := Lib.hid (And.intro HG4.out.1 HG4.out.2.1)
      clear HG4
      generalize hlim : lim (bt F 0) = lm at *
      have HLM := Lib.hid hlim
      clear hlim
      cases t with
      | true =>
        go_wp2_with fail
        go_roundg k1
        case measure => omega
        case rel => exact ⟨1, by first | rfl | rw [wrap_next (by omega)], Lib.hid (by have := hk.out; omega), HJ2, _, rfl, Lib.hid (by have h := HT.out; rw [← HLM.out]; simp at h ⊢; first | done | exact h | (simp [h]; done) | simp_all)⟩
      | false =>
        go_wp2_with fail
        go_roundg k1
        case measure => omega
        case rel => exact ⟨1, by first | rfl | rw [wrap_next (by omega)], Lib.hid (by have := hk.out; omega), HJ2, _, rfl, Lib.hid (by have h := HT.out; rw [← HLM.out]; simp at h ⊢; first | done | exact h | (intro h1; omega) | (intro h1 h2; have := h h1; omega))⟩
    · have k0 : wr.cell? ⟨g, 1, none⟩ = some (.int .i64 b) := blk_cell HJ.out.2 1
      have hown := World.ownsMap_made (H := Unit) wr Try.prog 5 (plainElem Try.prog 3)
      have hgl : g < wr.heap.size := blk_lt HJ.out.2
      have HG0 := Lib.hid (show GK w (wr.alloc (.map #[] 0)) g (.cells #[.int .i64 a, .int .i64 b, .int .i64 n] 3 (0, 0)) wr.heap.size from ⟨bAfter HJ.out.1 (bOne _), blk_below HJ.out.2 (bOne _), by omega, HJ.out.1.size⟩)
      have hx : ∀ h : 1 < F.size, ((F[1]'h).toNat : Int) = bt F 1 := bt_at F 1
      clear HJ hgl
      obtain ⟨k1, rfl⟩ : ∃ m, gk = m + 1 := ⟨gk - 1, by have := hk.out; omega⟩
      go_wp2_with (first | (refine wpList_insert_own _ rfl _ _ _ 49 rfl 5 3 lawK Try.underlying49 _ wr.heap.size 0 D0 rfl hown (by unfold maxLen; omega) (.int .u8 114) (.int .i64 8) (.int .u8 114) rfl rfl (keyOf_int_mk Try.underlying5 (by decide)) (.lit (.int .i64 8)) [] (plainElem_int Try.underlying3 (by decide)) ?_))
      intro w5 hown1 hgr
      have HG1 := Lib.hid (HG0.out.step hgr)
      clear hown hgr HG0
      have hown := hown1
      clear hown1
      go_wp2_with (first | (refine wpList_insert_own _ rfl _ _ _ 49 rfl 5 3 lawK Try.underlying49 _ wr.heap.size 1 D1 rfl hown (by unfold maxLen; omega) (.int .u8 118) (.int .i64 64) (.int .u8 118) rfl rfl (keyOf_int_mk Try.underlying5 (by decide)) (.lit (.int .i64 64)) [] (plainElem_int Try.underlying3 (by decide)) ?_))
      intro w6 hown2 hgr
      have HG2 := Lib.hid (HG1.out.step hgr)
      clear hown hgr HG1
      have hown := hown2
      clear hown2
      go_wp2_with (first | (refine wpList_insert_own _ rfl _ _ _ 49 rfl 5 3 lawK Try.underlying49 _ wr.heap.size 2 D2 rfl hown (by unfold maxLen; omega) (.int .u8 112) (.int .i64 1) (.int .u8 112) rfl rfl (keyOf_int_mk Try.underlying5 (by decide)) (.lit (.int .i64 1)) [] (plainElem_int Try.underlying3 (by decide)) ?_))
      intro w7 hown3 hgr
      have HG3 := Lib.hid (HG2.out.step hgr)
      clear hown hgr HG2
      have hown := hown3
      clear hown3
      go_wp2_with (first | (refine wpList_insert_own _ rfl _ _ _ 49 rfl 5 3 lawK Try.underlying49 _ wr.heap.size 3 D3 rfl hown (by unfold maxLen; omega) (.int .u8 45) (.int .i64 1) (.int .u8 45) rfl rfl (keyOf_int_mk Try.underlying5 (by decide)) (.lit (.int .i64 1)) [] (plainElem_int Try.underlying3 (by decide)) ?_))
      intro w8 hown4 hgr
      have HG4 := Lib.hid (HG3.out.step hgr)
      clear hown hgr HG3
      have hown := hown4
      clear hown4
      go_wp2_with (first | (at_lookup; refine wpList_lookup_own_int _ rfl _ _ 49 rfl 5 3 .i64 lawK Try.underlying49 Try.underlying3 (zeroE _) wr.heap.size 4 D4 rfl hown (.int .u8 (bt F 1)) (.int .u8 (bt F 1)) rfl (keyOf_int_mk Try.underlying5 (wf8 (bt_range F 1))) ?_))
      intro cc hat hwc
      obtain rfl := lim_of q1 hat
      clear hat hwc hown k0
      have HJ2 := Lib.hid (And.intro HG4.out.1 HG4.out.2.1)
      clear HG4
      generalize hlim : lim (bt F 1) = lm at *
      have HLM := Lib.hid hlim
      clear hlim
      cases t with
      | true =>
        go_wp2_with fail
        go_roundg k1
        case measure => omega
        case rel => exact ⟨2, by first | rfl | rw [wrap_next (by omega)], Lib.hid (by have := hk.out; omega), HJ2, _, rfl, Lib.hid (by have h := HT.out; rw [← HLM.out]; simp at h ⊢; first | done | exact h | (simp [h]; done) | simp_all)⟩
      | false =>
        go_wp2_with fail
        go_roundg k1
        case measure => omega
        case rel => exact ⟨2, by first | rfl | rw [wrap_next (by omega)], Lib.hid (by have := hk.out; omega), HJ2, _, rfl, Lib.hid (by have h := HT.out; rw [← HLM.out]; simp at h ⊢; first | done | exact h | (intro h1; omega) | (intro h1 h2; have := h h1; omega))⟩
    · have k0 : wr.cell? ⟨g, 2, none⟩ = some (.int .i64 n) := blk_cell HJ.out.2 2
      have hown := World.ownsMap_made (H := Unit) wr Try.prog 5 (plainElem Try.prog 3)
      have hgl : g < wr.heap.size := blk_lt HJ.out.2
      have HG0 := Lib.hid (show GK w (wr.alloc (.map #[] 0)) g (.cells #[.int .i64 a, .int .i64 b, .int .i64 n] 3 (0, 0)) wr.heap.size from ⟨bAfter HJ.out.1 (bOne _), blk_below HJ.out.2 (bOne _), by omega, HJ.out.1.size⟩)
      have hx : ∀ h : 2 < F.size, ((F[2]'h).toNat : Int) = bt F 2 := bt_at F 2
      clear HJ hgl
      obtain ⟨k1, rfl⟩ : ∃ m, gk = m + 1 := ⟨gk - 1, by have := hk.out; omega⟩
      go_wp2_with (first | (refine wpList_insert_own _ rfl _ _ _ 49 rfl 5 3 lawK Try.underlying49 _ wr.heap.size 0 D0 rfl hown (by unfold maxLen; omega) (.int .u8 114) (.int .i64 8) (.int .u8 114) rfl rfl (keyOf_int_mk Try.underlying5 (by decide)) (.lit (.int .i64 8)) [] (plainElem_int Try.underlying3 (by decide)) ?_))
      intro w5 hown1 hgr
      have HG1 := Lib.hid (HG0.out.step hgr)
      clear hown hgr HG0
      have hown := hown1
      clear hown1
      go_wp2_with (first | (refine wpList_insert_own _ rfl _ _ _ 49 rfl 5 3 lawK Try.underlying49 _ wr.heap.size 1 D1 rfl hown (by unfold maxLen; omega) (.int .u8 118) (.int .i64 64) (.int .u8 118) rfl rfl (keyOf_int_mk Try.underlying5 (by decide)) (.lit (.int .i64 64)) [] (plainElem_int Try.underlying3 (by decide)) ?_))
      intro w6 hown2 hgr
      have HG2 := Lib.hid (HG1.out.step hgr)
      clear hown hgr HG1
      have hown := hown2
      clear hown2
      go_wp2_with (first | (refine wpList_insert_own _ rfl _ _ _ 49 rfl 5 3 lawK Try.underlying49 _ wr.heap.size 2 D2 rfl hown (by unfold maxLen; omega) (.int .u8 112) (.int .i64 1) (.int .u8 112) rfl rfl (keyOf_int_mk Try.underlying5 (by decide)) (.lit (.int .i64 1)) [] (plainElem_int Try.underlying3 (by decide)) ?_))
      intro w7 hown3 hgr
      have HG3 := Lib.hid (HG2.out.step hgr)
      clear hown hgr HG2
      have hown := hown3
      clear hown3
      go_wp2_with (first | (refine wpList_insert_own _ rfl _ _ _ 49 rfl 5 3 lawK Try.underlying49 _ wr.heap.size 3 D3 rfl hown (by unfold maxLen; omega) (.int .u8 45) (.int .i64 1) (.int .u8 45) rfl rfl (keyOf_int_mk Try.underlying5 (by decide)) (.lit (.int .i64 1)) [] (plainElem_int Try.underlying3 (by decide)) ?_))
      intro w8 hown4 hgr
      have HG4 := Lib.hid (HG3.out.step hgr)
      clear hown hgr HG3
      have hown := hown4
      clear hown4
      go_wp2_with (first | (at_lookup; refine wpList_lookup_own_int _ rfl _ _ 49 rfl 5 3 .i64 lawK Try.underlying49 Try.underlying3 (zeroE _) wr.heap.size 4 D4 rfl hown (.int .u8 (bt F 2)) (.int .u8 (bt F 2)) rfl (keyOf_int_mk Try.underlying5 (wf8 (bt_range F 2))) ?_))
      intro cc hat hwc
      obtain rfl := lim_of q2 hat
      clear hat hwc hown k0
      have HJ2 := Lib.hid (And.intro HG4.out.1 HG4.out.2.1)
      clear HG4
      generalize hlim : lim (bt F 2) = lm at *
      have HLM := Lib.hid hlim
      clear hlim
      cases t with
      | true =>
        go_wp2_with fail
        go_roundg k1
        case measure => omega
        case rel => exact ⟨3, by first | rfl | rw [wrap_next (by omega)], Lib.hid (by have := hk.out; omega), HJ2, _, rfl, Lib.hid (by have h := HT.out; rw [← HLM.out]; simp at h ⊢; first | done | exact h | (simp [h]; done) | simp_all)⟩
      | false =>
        go_wp2_with fail
        go_roundg k1
        case measure => omega
        case rel => exact ⟨3, by first | rfl | rw [wrap_next (by omega)], Lib.hid (by have := hk.out; omega), HJ2, _, rfl, Lib.hid (by have h := HT.out; rw [← HLM.out]; simp at h ⊢; first | done | exact h | (intro h1; omega) | (intro h1 h2; have := h h1; omega))⟩
    · have HT2 := HT.out
      clear HT
      go_wp2_with fail
      go_ret
      exact ⟨by rw [HT2]; rfl, HJ.out.1⟩

theorem right_one (c a b n : Int) (hc : 0 ≤ c ∧ c < 256) (ha : 0 ≤ a ∧ a < 256) (hb : 0 ≤ b ∧ b < 256) (hn : 0 ≤ n ∧ n < 256) : ∃ F, warpbeamref16_Fields.f (c % 17) = some F ∧ F.size = 4 ∧ sym (bt F 0) ∧ sym (bt F 1) ∧ sym (bt F 2) ∧ code_Right.f [⟨c % 17, a, b, n, 0⟩] = some (decide (a < lim (bt F 0)) && (decide (b < lim (bt F 1)) && decide (n < lim (bt F 2)))) := by
  have hc2 : 0 ≤ c % 17 ∧ c % 17 < 17 := by omega
  obtain ⟨F, hF, hs, -, h0, h1, h2, -, q0, q1, q2⟩ := table (c % 17) hc2
  refine ⟨F, hF, hs, q0, q1, q2, ?_⟩
  have fl : ∀ {x s : Int}, 0 ≤ x → sym s → fits x (bel s 1) = decide (x < lim s) := by
    intro x s hx hs
    unfold fits least1 bel lim
    rw [decide_eq_true hx, Bool.true_and]
    rcases hs with rfl | rfl | rfl | rfl <;> rfl
  unfold code_Right.f opRight
  show some (true && ((isCode (c % 17) && (true) && (fits a (sh (c % 17)).f1 && (fits b (sh (c % 17)).f2 && fits n (third (sh (c % 17)) 1)))) && true)) = _
  rw [is_code hc2, ← h0 1, ← h1 1, ← h2 1, fl ha.1 q0, fl hb.1 q1, fl hn.1 q2]
  simp

theorem flat_fields : Flat Try.prog 44 [.int .u8, .int .u8, .int .u8, .int .u8] :=
  flat_struct [[.int .u8], [.int .u8], [.int .u8], [.int .u8]] Try.underlying44 rfl (by kernel_rfl) (by kernel_rfl) fun i f ls hf hl => by
    rcases i with _ | _ | _ | _ | i
    · cases hf; cases hl; exact flat_int (by kernel_rfl)
    · cases hf; cases hl; exact flat_int (by kernel_rfl)
    · cases hf; cases hl; exact flat_int (by kernel_rfl)
    · cases hf; cases hl; exact flat_int (by kernel_rfl)
    · simp at hl
theorem u8_of {x : Int} (h : (Lit.int .u8 x).wf = true) : 0 ≤ x ∧ x < 256 := by
  simp only [Lit.wf, Bool.and_eq_true, decide_eq_true_eq] at h
  have m1 : IntKind.u8.min = 0 := by decide
  have m2 : IntKind.u8.max = 255 := by decide
  rw [m1, m2] at h
  omega
theorem four_of {cs : Array Value} (h : Fits [.int .u8, .int .u8, .int .u8, .int .u8] cs.toList) : ∃ a b c d : Int, cs = #[.int .u8 a, .int .u8 b, .int .u8 c, .int .u8 d] ∧ (0 ≤ a ∧ a < 256) ∧ (0 ≤ b ∧ b < 256) ∧ (0 ≤ c ∧ c < 256) ∧ (0 ≤ d ∧ d < 256) := by
  rcases cs with ⟨l⟩
  obtain ⟨a, r, e1, ha, h⟩ := fits_int h
  obtain ⟨b, r, rfl, hb, h⟩ := fits_int h
  obtain ⟨c, r, rfl, hc, h⟩ := fits_int h
  obtain ⟨d, r, rfl, hd, h⟩ := fits_int h
  obtain rfl := fits_nil h
  have e2 : l = _ := e1
  rw [e2]
  exact ⟨a, b, c, d, rfl, u8_of ha, u8_of hb, u8_of hc, u8_of hd⟩

theorem walk_CodeFields {H : Type} {enc : TypeId × Value → H} (W : World) (base : Nat) (v0 : Value) (d0 : DataW H) (p0 : List MemPlace) (o0 : Value.okWide Try.prog W .any base 44 v0) (h0 : DataW.Trod enc Try.prog W 0 (fun _ => true) true 44 v0 d0 p0) {P : Prop} (_hsz : P) :
    Calls Try.prog 6 #[v0] W fun e w' => e = .returned (.bool true) ∧ Below W.heap.size W w' := by
  obtain ⟨cs, rfl, hf⟩ := open_struct Try.underlying44 flat_fields o0 h0
  obtain ⟨c, a, b, n, rfl, hc, ha, hb, hn⟩ := four_of hf
  obtain ⟨F, hF, h4, q0, q1, q2, hr⟩ := right_one c a b n hc ha hb hn
  refine (fields_core c a b n W F _ hc ha hb hn hF h4 q0 q1 q2 hr).mono ?_
  rintro e w' ⟨rfl, hB⟩
  exact ⟨by simp, hB⟩

end Go.Proofs.Ytbnchippfebdkaa
