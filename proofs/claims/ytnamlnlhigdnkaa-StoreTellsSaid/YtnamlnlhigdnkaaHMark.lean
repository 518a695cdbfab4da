/- Mark of a store, by hand. -/
import Derived.Test.YtnamlnlhigdnkaaHPut2
namespace Go.Proofs.Ytnamlnlhigdnkaa.Q
open Go.RowKit Go.Lib Go.Proofs.Ytnamlnlhigdnkaa Go.Proofs.YtnamlnlhigdnkaaW.PrintWords Go.Proofs.YtnamlnlhigdnkaaW.PrintLast Go.Proofs.YtnamlnlhigdnkaaW.PrintMore
set_option linter.unusedVariables false
set_option linter.unusedSimpArgs false

/-- The bit of a number; 0: it has none. -/
def bitI (a : Int) : Int := if a < 0 then 0 else if a > 63 then 0 else shl .u64 1 a
theorem bitI_f (a : Int) : set_bit.f a = some (bitI a) := by
  unfold set_bit.f bitI
  by_cases h0 : a < 0
  · simp [h0]
  · by_cases h1 : a > 63
    · simp [h0, h1]
    · have h2 : 0 ≤ a := by omega
      simp [h0, h1, h2]
theorem with_f (m a : Int) : set_With.f m a = some (Go.bits .or .u64 m (bitI a)) := by
  unfold set_With.f
  rw [bitI_f]
  rfl

def store_Mark.f (l0 : List S35) (a1 a2 : Int) : Option (List S35 × Int) :=
  if l0.length < 3518437208883 then
    (if 0 ≤ a1 ∧ a1 < (l0.length : Int) then (if slotB a2 = true then some (l0.set a1.toNat ⟨(rd_T35 l0 a1).f0, (rd_T35 l0 a1).f1, (rd_T35 l0 a1).f2, Go.bits .or .u64 (rd_T35 l0 a1).f3 (bitI a2)⟩, 0) else some (l0, 2)) else some (l0, 3)) else none

set_option maxHeartbeats 4000000 in
theorem store_Mark.calls (P0_ : Nat → Prop) (A0 : Option Addr) (c0 : Nat) (l0 : List S35) (a1 a2 : Int) (r1 : List S35) (r2 : Int) (w : World) (hs0 : Kd.V k35 35 w w.heap.size (fun k_ => P0_ k_) (.slice A0 l0.length c0) l0) (h : store_Mark.f l0 a1 a2 = some (r1, r2)) :
    Calls Try.prog 15 #[.slice A0 l0.length c0, .int .i64 a1, .int .i64 a2] w fun e w' => ∃ v0_ : Value, e = .returned (.tuple #[v0_, .int .i64 r2]) ∧ Kd.V k35 35 w' w.heap.size (fun k_ => (P0_ k_ ∨ w.heap.size ≤ k_)) v0_ r1 ∧ Below w.heap.size w w' := by
  have HS := Aside0.mk hs0
  clear hs0
  unfold store_Mark.f at h
  split at h
  case isFalse => cases h
  rename_i hl
  have HL := Aside0.mk hl
  have C2 := Lib.hid fun W => store_slot.calls _ _ W (slotB_f a2)
  have C3 : Hid (∀ W, Below (w.alloc (.cells #[.int .i64 a2] 3)).heap.size (w.alloc (.cells #[.int .i64 a2] 3)) W →
     Calls Try.prog 28 #[.slice A0 l0.length c0, .int .i64 a1, .bool (slotB a2), .func (Fn.func 32) #[] #[.pointer (some ⟨w.heap.size, 0, none⟩)]] W fun e w' => ∃ v0_ : Value, e = .returned (.tuple #[v0_, .int .i64 r2]) ∧ Kd.V k35 35 w' w.heap.size (fun k_ => (P0_ k_ ∨ w.heap.size ≤ k_)) v0_ r1 ∧ Below w.heap.size w w') := by
    intro W hW
    obtain ⟨h1, hz, hBW⟩ := one_box hW
    refine (changed_calls _ _ (fun v => ⟨v.f0, v.f1, v.f2, Go.bits .or .u64 v.f3 (bitI a2)⟩) P0_ A0 c0 l0 a1 (slotB a2) W HL.out (Kd.V_below HS.out hBW) (mark1_calls a2 w.heap.size W.heap.size W (by omega) h1 _ (fun m => with_f m a2)) (fun args V => rfl)).mono ?_
    rintro e w' ⟨v, rfl, hV, hB⟩
    have hf : changedF (fun v => (⟨v.f0, v.f1, v.f2, Go.bits .or .u64 v.f3 (bitI a2)⟩ : S35)) l0 a1 (slotB a2) = (r1, r2) := by
      unfold changedF
      split at h
      · rename_i hi
        rw [if_pos hi]
        split at h
        · rename_i hm
          rw [if_pos hm]
          exact Option.some.inj h
        · rename_i hm
          rw [if_neg hm]
          exact Option.some.inj h
      · rename_i hi
        rw [if_neg hi]
        exact Option.some.inj h
    rw [hf] at hV ⊢
    have hs := hBW.size
    exact ⟨v, rfl, Kd.V_mono hV (fun k hk => hk.imp id (fun h => Nat.le_trans hs h)), bAfter hBW hB⟩
  clear h HS hl
  generalize hsb : slotB a2 = sb at *
  clear hsb
  go_enter Try.func15, Try.ntmps15
  go_wp2_with fail
  refine (C2.out _).mono ?_
  rintro e w2 ⟨rfl, hd⟩
  obtain ⟨n, rfl⟩ := hd.out
  have CZ := Lib.hid (C3.out _ (pw_below_drewN (Below.refl _ _) n))
  clear hd C2 C3
  go_wp2_with fail
  refine CZ.out.mono ?_
  rintro e w2 ⟨v, rfl, hV⟩
  have HV := Lib.hid hV
  clear hV CZ
  go_wp2_with fail
  go_ret2
  exact ⟨_, rfl, HV.out⟩

end Go.Proofs.Ytnamlnlhigdnkaa.Q
