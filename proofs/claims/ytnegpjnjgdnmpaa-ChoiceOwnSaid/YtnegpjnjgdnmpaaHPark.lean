/- Park of a lot, by hand. -/
import Derived.Test.YtnegpjnjgdnmpaaHFunc
namespace Go.Proofs.Ytnegpjnjgdnmpaa.Q
open Go.RowKit Go.Lib Go.Proofs.Ytnegpjnjgdnmpaa Go.Proofs.YtnegpjnjgdnmpaaW.PrintWords Go.Proofs.YtnegpjnjgdnmpaaW.PrintLast Go.Proofs.YtnegpjnjgdnmpaaW.PrintMore
set_option linter.unusedVariables false
set_option linter.unusedSimpArgs false

/-! ### Clip -/
theorem clip_spot (A : Option Addr) (n c : Nat) (w : World) (hA : A = none → n = 0) (hn : n ≤ c) :
    Calls Try.prog 25 #[.slice A n c] w fun e w' => e = .returned (.slice A n n) ∧ w' = w := by
  rcases A with _ | ad
  · obtain rfl := hA rfl
    go_enter Try.func25, Try.ntmps25
    go_wp2
    go_ret
    exact ⟨rfl, rfl⟩
  · go_enter Try.func25, Try.ntmps25
    go_wp2
    go_ret
    exact ⟨rfl, rfl⟩

/-- Who is parked. -/
def choice_Park.f (l0_0 : List S43) (l0_1 : List Int) (a1 a2 : Int) : Option (List S43 × List Int × Int) :=
  if l0_0.length ≤ 1000000 then (if a1 < 1 ∨ a2 = 0 then some (l0_0, l0_1, 2) else if (l0_0.any fun s => s.f0 == a1) = true then some (l0_0, l0_1, 10) else some (l0_0 ++ [⟨a1, a2⟩], l0_1, 0)) else none

set_option maxHeartbeats 2000000 in
theorem choice_Park.calls (P0_0_ : Nat → Prop) (A0_0 : Option Addr) (c0_0 : Nat) (l0_0 : List (S43)) (P0_1_ : Nat → Prop) (A0_1 : Option Addr) (c0_1 : Nat) (l0_1 : List Int) (a1 : Int) (a2 : Int) (r1 : List (S43)) (r2 : List Int) (r3 : Int) (w : World) (hs0_0 : Kd.V k43 43 w w.heap.size (fun k_ => P0_0_ k_) (.slice A0_0 l0_0.length c0_0) l0_0) (hs0_1 : Kd.V (Kd.int .i64) 3 w w.heap.size (fun k_ => P0_1_ k_) (.slice A0_1 l0_1.length c0_1) l0_1) (h : choice_Park.f l0_0 l0_1 a1 a2 = some (r1, r2, r3)) :
    Calls Try.prog 12 #[.agg #[.slice A0_0 l0_0.length c0_0, .slice A0_1 l0_1.length c0_1], .int .i64 a1, .int .u64 a2] w fun e w' => ∃ v0_ v1_ : Value, e = .returned (.tuple #[.agg #[v0_, v1_], .int .i64 r3]) ∧ Kd.V k43 43 w' w.heap.size (fun k_ => ((P0_0_ k_ ∨ P0_1_ k_) ∨ w.heap.size ≤ k_)) v0_ r1 ∧ Kd.V (Kd.int .i64) 3 w' w.heap.size (fun k_ => ((P0_0_ k_ ∨ P0_1_ k_) ∨ w.heap.size ≤ k_)) v1_ r2 ∧ Below w.heap.size w w' := by
  have hu := Try.underlying27
  unfold choice_Park.f at h
  split at h
  case isFalse => cases h
  rename_i hl
  have hl' : l0_0.length ≤ 1000000 := hl
  have hC := (Kd.V_reads' hs0_0).2.2
  have hC1 := (Kd.V_reads' hs0_1).2.2
  have hcap := (Kd.V_reads' hs0_0).2.1
  have hcap1 := (Kd.V_reads' hs0_1).2.1
  have C1 : Hid (∀ W, Below w.heap.size w W → Calls Try.prog 21 #[.agg #[.slice A0_0 l0_0.length c0_0, .slice A0_1 l0_1.length c0_1], .int .i64 a1] W fun e w' => e = .returned (.bool (l0_0.any fun s => s.f0 == a1)) ∧ Below W.heap.size W w') :=
    Lib.hid fun W hW => choice_Lot_waits.calls A0_0 c0_0 l0_0 A0_1 c0_1 l0_1 a1 _ W (Kd.C_below hC hW) hcap (Kd.C_below hC1 hW) hcap1 (show (if l0_0.length < 1000000000 then some (l0_0.any fun s => s.f0 == a1) else none) = _ from if_pos (by omega))
  have hA : A0_0 = none → l0_0.length = 0 := fun hA => by subst hA; rw [C_empty hC]; rfl
  have C2 : Hid (∀ W, Calls Try.prog 25 #[.slice A0_0 l0_0.length c0_0] W fun e w' => e = .returned (.slice A0_0 l0_0.length l0_0.length) ∧ w' = W) := Lib.hid fun W => clip_spot A0_0 _ c0_0 W hA hcap
  have HV := Lib.hid (And.intro hs0_0 (And.intro hs0_1 (And.intro hC hl')))
  clear hs0_0 hs0_1 hC hC1 hcap hcap1 hA hl hl'
  obtain ⟨W0, hW0, K0, K1, HB0, hz⟩ := two_named w (.cells #[.slice A0_0 l0_0.length c0_0, .slice A0_1 l0_1.length c0_1] 27) (.cells #[.slice none 0 0, .slice none 0 0] 27)
  have c00 : W0.cell? ⟨w.heap.size, 0, none⟩ = some (.slice A0_0 l0_0.length c0_0) := blk_cell K0 0
  have c01 : W0.cell? ⟨w.heap.size, 1, none⟩ = some (.slice A0_1 l0_1.length c0_1) := blk_cell K0 1
  have f00 := blk_frozen K0 0
  have f01 := blk_frozen K0 1
  have c10 : W0.cell? ⟨w.heap.size + 1, 0, none⟩ = some (.slice none 0 0) := blk_cell K1 0
  have c11 : W0.cell? ⟨w.heap.size + 1, 1, none⟩ = some (.slice none 0 0) := blk_cell K1 1
  have f10 := blk_frozen K1 0
  have f11 := blk_frozen K1 1
  have HK := Lib.hid (And.intro K0 (And.intro K1 (And.intro HB0 hz)))
  clear K0 K1 HB0 hz
  by_cases h0 : a1 < 1 ∨ a2 = 0
  · rw [if_pos h0] at h
    obtain ⟨rfl, rfl, rfl⟩ : l0_0 = r1 ∧ l0_1 = r2 ∧ 2 = r3 := by simpa using h
    clear C1 C2 h
    by_cases h1 : a1 < 1
    · clear h0
      go_enter Try.func12, Try.ntmps12
      go_wp2_with fail
      refine bodyPost_ret (results_ct rfl _ _ (w.heap.size + 1) 27 #[.slice A0_0 l0_0.length c0_0, .slice A0_1 l0_1.length c0_1] (0, 0) _ rfl (by refine blk_put (cs := #[.slice A0_0 l0_0.length c0_0, .slice none 0 0]) ?_ 1 _ rfl; refine blk_put (cs := #[.slice none 0 0, .slice none 0 0]) ?_ 0 _ rfl; exact HK.out.2.1) hu rfl (by kernel_rfl)) rfl ?_
      have HBF := (HK.out.2.2.1.setCell (p := ⟨w.heap.size + 1, 0, none⟩) (by show _ ≤ w.heap.size + 1; omega) (.slice A0_0 l0_0.length c0_0)).setCell (p := ⟨w.heap.size + 1, 1, none⟩) (by show _ ≤ w.heap.size + 1; omega) (.slice A0_1 l0_1.length c0_1)
      exact ⟨_, _, rfl, Kd.V_mono (Kd.V_below HV.out.1 HBF) (fun _ h => .inl (.inl h)), Kd.V_mono (Kd.V_below HV.out.2.1 HBF) (fun _ h => .inl (.inr h)), HBF⟩
    · obtain rfl : a2 = 0 := by omega
      clear h0
      go_enter Try.func12, Try.ntmps12
      go_wp2_with fail
      refine bodyPost_ret (results_ct rfl _ _ (w.heap.size + 1) 27 #[.slice A0_0 l0_0.length c0_0, .slice A0_1 l0_1.length c0_1] (0, 0) _ rfl (by refine blk_put (cs := #[.slice A0_0 l0_0.length c0_0, .slice none 0 0]) ?_ 1 _ rfl; refine blk_put (cs := #[.slice none 0 0, .slice none 0 0]) ?_ 0 _ rfl; exact HK.out.2.1) hu rfl (by kernel_rfl)) rfl ?_
      have HBF := (HK.out.2.2.1.setCell (p := ⟨w.heap.size + 1, 0, none⟩) (by show _ ≤ w.heap.size + 1; omega) (.slice A0_0 l0_0.length c0_0)).setCell (p := ⟨w.heap.size + 1, 1, none⟩) (by show _ ≤ w.heap.size + 1; omega) (.slice A0_1 l0_1.length c0_1)
      exact ⟨_, _, rfl, Kd.V_mono (Kd.V_below HV.out.1 HBF) (fun _ h => .inl (.inl h)), Kd.V_mono (Kd.V_below HV.out.2.1 HBF) (fun _ h => .inl (.inr h)), HBF⟩
  · rw [if_neg h0] at h
    obtain ⟨h1, h2⟩ : ¬ a1 < 1 ∧ ¬ a2 = 0 := by omega
    have h2b : (a2 == 0) = false := by simpa using h2
    clear h0
    cases hc : (l0_0.any fun s => s.f0 == a1) with
    | true =>
      rw [hc] at h C1
      obtain ⟨rfl, rfl, rfl⟩ : l0_0 = r1 ∧ l0_1 = r2 ∧ 10 = r3 := by simpa using h
      clear C2 h hc
      go_enter Try.func12, Try.ntmps12
      go_wp2_with fail
      refine (C1.out _ HK.out.2.2.1).mono ?_
      rintro e w1 ⟨rfl, hB⟩
      have K0 := blk_below HK.out.1 hB
      have K1 := blk_below HK.out.2.1 hB
      have HB1 := Lib.hid (And.intro (bAfter HK.out.2.2.1 hB) K1)
      clear hB c00 c01 f00 f01 c10 c11 f10 f11
      have c00 : w1.cell? ⟨w.heap.size, 0, none⟩ = some (.slice A0_0 l0_0.length c0_0) := blk_cell K0 0
      have c01 : w1.cell? ⟨w.heap.size, 1, none⟩ = some (.slice A0_1 l0_1.length c0_1) := blk_cell K0 1
      have c10 : w1.cell? ⟨w.heap.size + 1, 0, none⟩ = some (.slice none 0 0) := blk_cell K1 0
      have c11 : w1.cell? ⟨w.heap.size + 1, 1, none⟩ = some (.slice none 0 0) := blk_cell K1 1
      have f10 := blk_frozen K1 0
      have f11 := blk_frozen K1 1
      clear K0 K1
      go_wp2_with fail
      refine bodyPost_ret (results_ct rfl _ _ (w.heap.size + 1) 27 #[.slice A0_0 l0_0.length c0_0, .slice A0_1 l0_1.length c0_1] (0, 0) _ rfl (by refine blk_put (cs := #[.slice A0_0 l0_0.length c0_0, .slice none 0 0]) ?_ 1 _ rfl; refine blk_put (cs := #[.slice none 0 0, .slice none 0 0]) ?_ 0 _ rfl; exact HB1.out.2) hu rfl (by kernel_rfl)) rfl ?_
      have HBF := (HB1.out.1.setCell (p := ⟨w.heap.size + 1, 0, none⟩) (by show _ ≤ w.heap.size + 1; omega) (.slice A0_0 l0_0.length c0_0)).setCell (p := ⟨w.heap.size + 1, 1, none⟩) (by show _ ≤ w.heap.size + 1; omega) (.slice A0_1 l0_1.length c0_1)
      exact ⟨_, _, rfl, Kd.V_mono (Kd.V_below HV.out.1 HBF) (fun _ h => .inl (.inl h)), Kd.V_mono (Kd.V_below HV.out.2.1 HBF) (fun _ h => .inl (.inr h)), HBF⟩
    | false =>
      rw [hc] at h C1
      obtain ⟨rfl, rfl, rfl⟩ : l0_0 ++ [⟨a1, a2⟩] = r1 ∧ l0_1 = r2 ∧ 0 = r3 := by simpa using h
      clear h hc
      go_enter Try.func12, Try.ntmps12
      go_wp2_with fail
      refine (C1.out _ HK.out.2.2.1).mono ?_
      rintro e w1 ⟨rfl, hB⟩
      have hz1 := Nat.le_trans (Nat.le_of_eq HK.out.2.2.2.symm) hB.size
      have K0 := blk_below HK.out.1 hB
      have K1 := blk_below HK.out.2.1 hB
      have HB1 := Lib.hid (And.intro (bAfter HK.out.2.2.1 hB) (And.intro K0 (And.intro K1 hz1)))
      clear hB c00 c01 f00 f01 c10 c11 f10 f11 hW0 hz1
      have c00 : w1.cell? ⟨w.heap.size, 0, none⟩ = some (.slice A0_0 l0_0.length c0_0) := blk_cell K0 0
      have c01 : w1.cell? ⟨w.heap.size, 1, none⟩ = some (.slice A0_1 l0_1.length c0_1) := blk_cell K0 1
      clear K0 K1
      go_wp2_with fail
      refine (C2.out _).mono ?_
      rintro e w2 ⟨rfl, rfl⟩
      clear C1 C2
      go_wp2_with (at_builtin; refine R_append_clip k43 (w0 := w) w.heap.size rfl _ _ 24 43 _ _ rfl Try.underlying24 info43 rfl (by decide) (by decide) A0_0 _ l0_0 ⟨a1, a2⟩ [.int .i64 a1, .int .u64 a2] _ 1 rfl rfl ?qc1 ?qc2 ?qc3 ?qc4 ?qc5 ?qc6 ?qc7 ?_)
      case qc1 => exact Kd.C_below HV.out.2.2.1 (below_alloc HB1.out.1 _)
      case qc2 =>
        exact fun j u hj => (blk_cell (blk_new _ _) j).trans (by simpa using hj)
      case qc3 => exact k43_mk _ ⟨a1, a2⟩
      case qc4 => exact fun _ ok x cs h => flat43 h _ ok
      case qc5 => exact below_alloc HB1.out.1 _
      case qc6 => have := HB1.out.2.2.2; simp; omega
      case qc7 => have := HV.out.2.2.2; omega
      intro v1 w3 hR hB hB1
      have hzz : w.heap.size + 2 ≤ (w2.alloc (.cells #[.int .i64 a1, .int .u64 a2] 43)).heap.size := by have := HB1.out.2.2.2; simp; omega
      have hB1 : Below (w2.alloc (.cells #[.int .i64 a1, .int .u64 a2] 43)).heap.size (w2.alloc (.cells #[.int .i64 a1, .int .u64 a2] 43)) w3 := by rw [World.size_alloc]; exact hB1
      have hR : Kd.R k43 43 w3 (w2.alloc (.cells #[.int .i64 a1, .int .u64 a2] 43)).heap.size (fun _ => True) v1 (l0_0 ++ [⟨a1, a2⟩]) := by rw [World.size_alloc]; exact hR
      have K0 := blk_below (blk_alloc HB1.out.2.1 (.cells #[.int .i64 a1, .int .u64 a2] 43)) hB1
      have K1 := blk_below (blk_alloc HB1.out.2.2.1 (.cells #[.int .i64 a1, .int .u64 a2] 43)) hB1
      clear hB1 c00 c01
      have c00 : w3.cell? ⟨w.heap.size, 0, none⟩ = some (.slice A0_0 l0_0.length c0_0) := blk_cell K0 0
      have c01 : w3.cell? ⟨w.heap.size, 1, none⟩ = some (.slice A0_1 l0_1.length c0_1) := blk_cell K0 1
      have f00 := blk_frozen K0 0
      have f01 := blk_frozen K0 1
      have c10 : w3.cell? ⟨w.heap.size + 1, 0, none⟩ = some (.slice none 0 0) := blk_cell K1 0
      have c11 : w3.cell? ⟨w.heap.size + 1, 1, none⟩ = some (.slice none 0 0) := blk_cell K1 1
      have f10 := blk_frozen K1 0
      have f11 := blk_frozen K1 1
      generalize hl2 : l0_0 ++ [(⟨a1, a2⟩ : S43)] = l2 at hR
      have HL2 := Lib.hid hl2
      clear hl2
      obtain ⟨A2, c2, rfl⟩ := Kd.R_slice hR
      have HR := Lib.hid (And.intro hR (And.intro hB (And.intro hzz K1)))
      clear hR hB hzz K0 K1
      go_wp2_with fail
      refine bodyPost_ret (results_ct rfl _ _ (w.heap.size + 1) 27 #[.slice A2 l2.length c2, .slice A0_1 l0_1.length c0_1] (0, 0) _ rfl (by refine blk_put (cs := #[.slice A2 l2.length c2, .slice none 0 0]) ?_ 1 _ rfl; refine blk_put (cs := #[.slice none 0 0, .slice none 0 0]) ?_ 0 _ rfl; exact (Below.heap_setCell _ _ _ _ (by show w.heap.size + 1 ≠ w.heap.size; omega)).trans HR.out.2.2.2) hu rfl (by kernel_rfl)) rfl ?_
      have HBF := ((HR.out.2.1.setCell (p := ⟨w.heap.size, 0, none⟩) (by show _ ≤ w.heap.size; omega) (.slice A2 l2.length c2)).setCell (p := ⟨w.heap.size + 1, 0, none⟩) (by show _ ≤ w.heap.size + 1; omega) (.slice A2 l2.length c2)).setCell (p := ⟨w.heap.size + 1, 1, none⟩) (by show _ ≤ w.heap.size + 1; omega) (.slice A0_1 l0_1.length c0_1)
      have hle := HR.out.2.2.1
      rw [HL2.out]
      exact ⟨_, _, rfl, Kd.V_mono (Kd.V_far (p := ⟨w.heap.size + 1, 1, none⟩) (Kd.V_far (p := ⟨w.heap.size + 1, 0, none⟩) (Kd.V_far (p := ⟨w.heap.size, 0, none⟩) (V_of_R HR.out.1) (fun k hk => by show k ≠ w.heap.size; omega) _) (fun k hk => by show k ≠ w.heap.size + 1; omega) _) (fun k hk => by show k ≠ w.heap.size + 1; omega) _) (fun k hk => .inr (by omega)), Kd.V_mono (Kd.V_below HV.out.2.1 HBF) (fun _ h => .inl (.inr h)), HBF⟩

end Go.Proofs.Ytnegpjnjgdnmpaa.Q
