/- Ask of a lot, by hand. -/
import Derived.Test.YtnegpjnjgdnmpaaQ3
import Derived.Test.YtnegpjnjgdnmpaaClip
import Derived.Test.YtnegpjnjgdnmpaaMem
import Derived.Test.YtnegpjnjgdnmpaaLoops
import Derived.Lib.Hide
namespace Go.Proofs.Ytnegpjnjgdnmpaa.Q
open Go.RowKit Go.Lib Go.Proofs.Ytnegpjnjgdnmpaa Go.Proofs.YtnegpjnjgdnmpaaW.PrintWords Go.Proofs.YtnegpjnjgdnmpaaW.PrintLast Go.Proofs.YtnegpjnjgdnmpaaW.PrintMore
set_option linter.unusedVariables false
set_option linter.unusedSimpArgs false

/-! ### Small facts on rows of flat elements -/
theorem flat43 {w w' : World} {x : S43} {cs : List Value} (h : k43.K w x cs) (base : Nat) (ok : Nat → Prop) : k43.M w' base ok x cs := by
  rw [k43_open h]
  exact k43_mkM w' base ok x
theorem flatI {w w' : World} {x : Int} {cs : List Value} (h : (Kd.int .i64).K w x cs) (base : Nat) (ok : Nat → Prop) : (Kd.int .i64).M w' base ok x cs := h
theorem flatK43 {w w' : World} {x : S43} {cs : List Value} (h : k43.K w x cs) : k43.K w' x cs := by
  rw [k43_open h]
  exact k43_mk w' x
theorem flatKI {w w' : World} {x : Int} {cs : List Value} (h : (Kd.int .i64).K w x cs) : (Kd.int .i64).K w' x cs := h
theorem infoI : (Try.prog.info? 3).map (fun i => (i.zero, i.size, i.bytes)) = some (some (.int .i64 0), 1, 8) := by kernel_rfl
theorem info43 : (Try.prog.info? 43).map (fun i => (i.zero, i.size, i.bytes)) = some (some (.agg #[(.int .i64 0), (.int .u64 0)]), 2, 16) := by kernel_rfl
theorem V_of_R {α : Type} {d : Kd α} {e : Nat} {w : World} {base B : Nat} {ok : Nat → Prop} {v : Value} {xs : List α} (h : Kd.R d e w base ok v xs) : Kd.V d e w B (fun k => base ≤ k) v xs :=
  Kd.V_mono (Kd.R_V (Kd.R_bound h)) (fun _ hk => hk.2.1)
theorem C_empty {α : Type} {d : Kd α} {w : World} {xs : List α} (h : d.C w none xs.length xs) : xs = [] := by
  rcases xs with _ | ⟨x, xs⟩
  · rfl
  · obtain ⟨ad, h2, _⟩ := h.2.2 (by simp)
    cases h2
/-- What is read of flat elements lies in one block. -/
theorem V_of_C {α : Type} {d : Kd α} (hflat : ∀ w w' x cs, d.K w x cs → d.K w' x cs) {e : Nat} {w : World} {B c : Nat} {A : Option Addr} {xs : List α} (h : d.C w A xs.length xs) (hc : xs.length ≤ c) : Kd.V d e w B (fun _ => True) (.slice A xs.length c) xs := by
  refine ⟨A, c, rfl, hc, fun W hW => ⟨rfl, h.2.1, fun hn => ?_⟩⟩
  obtain ⟨ad, hA, hcell⟩ := h.2.2 hn
  refine ⟨ad, hA, fun j p hj => ?_⟩
  obtain ⟨cs, h1, h2, h3⟩ := hcell j p hj
  refine ⟨cs, h1, hflat _ _ _ _ h2, fun i u hu => ?_⟩
  have h4 := h3 i u hu
  have hlt := World.block_lt_of_cell? w _ h4
  rw [World.cell?_of_block (w := w) (hW _ trivial hlt)]
  exact h4

theorem index_loop (l : List Int) (x : Int) (hl : l.length ≤ 1000000) : ∀ (d i k : Nat), i + d = l.length → d < k → slices_Index_int_int.l0 k l x (l.length : Int) i = some (match (l.drop i).findIdx? (fun y => x == y) with | some j => ((i + j : Nat) : Int) | none => -1)
  | 0, i, k, hd, hk => by
    obtain ⟨k, rfl⟩ : ∃ m, k = m + 1 := ⟨k - 1, by omega⟩
    rw [slices_Index_int_int.l0, if_neg (by omega), List.drop_eq_nil_of_le (by omega)]
    rfl
  | d + 1, i, k, hd, hk => by
    obtain ⟨k, rfl⟩ : ∃ m, k = m + 1 := ⟨k - 1, by omega⟩
    have hi : i < l.length := by omega
    have hr : rd l (i : Int) = l[i] := by
      unfold rd
      simp [List.getD_eq_getElem?_getD, hi]
    rw [slices_Index_int_int.l0, if_pos (by omega), if_pos (by omega), if_pos (by omega), hr, List.drop_eq_getElem_cons hi, List.findIdx?_cons]
    by_cases hx : x = l[i]
    · rw [if_pos hx]
      simp [hx]
    · rw [if_neg hx, wrap_next (by omega), index_loop l x hl d (i + 1) k (by omega) (by omega)]
      have hb : (x == l[i]) = false := by simpa using hx
      rw [hb]
      cases h : (l.drop (i + 1)).findIdx? (fun y => x == y) with
      | none => rfl
      | some j =>
        show some ((i + 1 + j : Nat) : Int) = some ((i + (j + 1) : Nat) : Int)
        congr 2
        omega
theorem contains_f (l : List Int) (x : Int) (k : Nat) (hl : l.length ≤ 1000000) (hk : l.length < k) : slices_Contains_int_int.f k l x = some (l.contains x) := by
  have h := index_loop l x hl l.length 0 k (by omega) hk
  unfold slices_Contains_int_int.f slices_Index_int_int.f
  rw [show (0 : Int) = ((0 : Nat) : Int) from rfl, h, Option.bind_some]
  simp only [List.drop_zero]
  cases h2 : l.findIdx? (fun y => x == y) with
  | none =>
    have : l.contains x = false := by
      rw [List.findIdx?_eq_none_iff] at h2
      simp only [List.contains_eq_mem, decide_eq_false_iff_not]
      intro hm
      have := h2 x hm
      simp at this
    rw [this]
    rfl
  | some j =>
    have : l.contains x = true := by
      rw [List.findIdx?_eq_some_iff_getElem] at h2
      obtain ⟨hj, h3, -⟩ := h2
      simp only [beq_iff_eq] at h3
      simp only [List.contains_eq_mem, decide_eq_true_eq]
      rw [h3]
      exact List.getElem_mem hj
    rw [this]
    simp

/-! ### Clip -/
theorem clip_calls (A : Option Addr) (n c : Nat) (w : World) (hA : A = none → n = 0) (hn : n ≤ c) :
    Calls Try.prog 20 #[.slice A n c] w fun e w' => e = .returned (.slice A n n) ∧ w' = w := by
  rcases A with _ | ad
  · obtain rfl := hA rfl
    go_enter Try.func20, Try.ntmps20
    go_wp2
    go_ret
    exact ⟨rfl, rfl⟩
  · go_enter Try.func20, Try.ntmps20
    go_wp2
    go_ret
    exact ⟨rfl, rfl⟩

/-- Who asked, and may want to be alone. -/
def choice_Ask.f (l0_0 : List S43) (l0_1 : List Int) (a1 : Int) : Option (List S43 × List Int × Int) :=
  if l0_1.length ≤ 1000000 then (if a1 < 1 then some (l0_0, l0_1, 2) else if l0_1.contains a1 = true then some (l0_0, l0_1, 10) else some (l0_0, l0_1 ++ [a1], 0)) else none

set_option maxHeartbeats 2000000 in
theorem choice_Ask.calls (P0_0_ : Nat → Prop) (A0_0 : Option Addr) (c0_0 : Nat) (l0_0 : List (S43)) (P0_1_ : Nat → Prop) (A0_1 : Option Addr) (c0_1 : Nat) (l0_1 : List Int) (a1 : Int) (r1 : List (S43)) (r2 : List Int) (r3 : Int) (w : World) (hs0_0 : Kd.V k43 43 w w.heap.size (fun k_ => P0_0_ k_) (.slice A0_0 l0_0.length c0_0) l0_0) (hs0_1 : Kd.V (Kd.int .i64) 3 w w.heap.size (fun k_ => P0_1_ k_) (.slice A0_1 l0_1.length c0_1) l0_1) (h : choice_Ask.f l0_0 l0_1 a1 = some (r1, r2, r3)) :
    Calls Try.prog 8 #[.agg #[.slice A0_0 l0_0.length c0_0, .slice A0_1 l0_1.length c0_1], .int .i64 a1] w fun e w' => ∃ v0_ v1_ : Value, e = .returned (.tuple #[.agg #[v0_, v1_], .int .i64 r3]) ∧ Kd.V k43 43 w' w.heap.size (fun k_ => ((P0_0_ k_ ∨ P0_1_ k_) ∨ w.heap.size ≤ k_)) v0_ r1 ∧ Kd.V (Kd.int .i64) 3 w' w.heap.size (fun k_ => ((P0_0_ k_ ∨ P0_1_ k_) ∨ w.heap.size ≤ k_)) v1_ r2 ∧ Below w.heap.size w w' := by
  have hu := Try.underlying27
  unfold choice_Ask.f at h
  split at h
  case isFalse => cases h
  rename_i hl
  have hl' : l0_1.length ≤ 1000000 := hl
  have hC := (Kd.V_reads' hs0_1).2.2
  have hcap := (Kd.V_reads' hs0_1).2.1
  have C1 : Hid (∀ W, Below w.heap.size w W → Calls Try.prog 19 #[.slice A0_1 l0_1.length c0_1, .int .i64 a1] W fun e w' => e = .returned (.bool (l0_1.contains a1)) ∧ Drawn0 W w') :=
    Lib.hid fun W hW => slices_Contains_int_int.calls 1000001 A0_1 c0_1 l0_1 a1 _ W (Kd.C_below hC hW) hcap (contains_f l0_1 a1 1000001 hl (by omega))
  have hA : A0_1 = none → l0_1.length = 0 := fun hA => by subst hA; rw [C_empty hC]; rfl
  have C2 : Hid (∀ W, Calls Try.prog 20 #[.slice A0_1 l0_1.length c0_1] W fun e w' => e = .returned (.slice A0_1 l0_1.length l0_1.length) ∧ w' = W) := Lib.hid fun W => clip_calls A0_1 _ c0_1 W hA hcap
  have HV := Lib.hid (And.intro hs0_0 (And.intro hs0_1 (And.intro hC hl')))
  clear hs0_0 hs0_1 hC hcap hA hl hl'
  obtain ⟨W0, hW0, K0, K1, HB0, hz⟩ := two_named w (.cells #[.slice A0_0 l0_0.length c0_0, .slice A0_1 l0_1.length c0_1] 27) (.cells #[.slice none 0 0, .slice none 0 0] 27)
  have c00 : W0.cell? ⟨w.heap.size, 0, none⟩ = some (.slice A0_0 l0_0.length c0_0) := blk_cell K0 0
  have c01 : W0.cell? ⟨w.heap.size, 1, none⟩ = some (.slice A0_1 l0_1.length c0_1) := blk_cell K0 1
  have f00 := blk_frozen K0 0
  have f01 := blk_frozen K0 1
  have c10 : W0.cell? ⟨w.heap.size + 1, 0, none⟩ = some (.slice none 0 0) := blk_cell K1 0
  have c11 : W0.cell? ⟨w.heap.size + 1, 1, none⟩ = some (.slice none 0 0) := blk_cell K1 1
  have f10 := blk_frozen K1 0
  have f11 := blk_frozen K1 1
  by_cases h1 : a1 < 1
  · rw [if_pos h1] at h
    obtain ⟨rfl, rfl, rfl⟩ : l0_0 = r1 ∧ l0_1 = r2 ∧ 2 = r3 := by simpa using h
    clear C1 C2 h
    go_enter Try.func8, Try.ntmps8
    go_wp2_with fail
    refine bodyPost_ret (results_ct rfl _ _ (w.heap.size + 1) 27 #[.slice A0_0 l0_0.length c0_0, .slice A0_1 l0_1.length c0_1] (0, 0) _ rfl (by refine blk_put (cs := #[.slice A0_0 l0_0.length c0_0, .slice none 0 0]) ?_ 1 _ rfl; refine blk_put (cs := #[.slice none 0 0, .slice none 0 0]) ?_ 0 _ rfl; exact K1) hu rfl (by kernel_rfl)) rfl ?_
    have HBF := (HB0.setCell (p := ⟨w.heap.size + 1, 0, none⟩) (by show _ ≤ w.heap.size + 1; omega) (.slice A0_0 l0_0.length c0_0)).setCell (p := ⟨w.heap.size + 1, 1, none⟩) (by show _ ≤ w.heap.size + 1; omega) (.slice A0_1 l0_1.length c0_1)
    exact ⟨_, _, rfl, Kd.V_mono (Kd.V_below HV.out.1 HBF) (fun _ h => .inl (.inl h)), Kd.V_mono (Kd.V_below HV.out.2.1 HBF) (fun _ h => .inl (.inr h)), HBF⟩
  · rw [if_neg h1] at h
    have HK := Lib.hid (And.intro K0 (And.intro K1 (And.intro HB0 hz)))
    clear K0 K1 HB0 hz
    cases hc : l0_1.contains a1 with
    | true =>
      rw [hc] at h C1
      obtain ⟨rfl, rfl, rfl⟩ : l0_0 = r1 ∧ l0_1 = r2 ∧ 10 = r3 := by simpa using h
      clear C2 h
      go_enter Try.func8, Try.ntmps8
      go_wp2_with fail
      refine (C1.out _ HK.out.2.2.1).mono ?_
      rintro e w1 ⟨rfl, hd⟩
      obtain ⟨n, rfl⟩ := hd
      go_wp2_with fail
      refine bodyPost_ret (results_ct rfl _ _ (w.heap.size + 1) 27 #[.slice A0_0 l0_0.length c0_0, .slice A0_1 l0_1.length c0_1] (0, 0) _ rfl (by refine blk_put (cs := #[.slice A0_0 l0_0.length c0_0, .slice none 0 0]) ?_ 1 _ rfl; refine blk_put (cs := #[.slice none 0 0, .slice none 0 0]) ?_ 0 _ rfl; exact blk_drewN HK.out.2.1 n) hu rfl (by kernel_rfl)) rfl ?_
      have HBF := ((pw_below_drewN HK.out.2.2.1 n).setCell (p := ⟨w.heap.size + 1, 0, none⟩) (by show _ ≤ w.heap.size + 1; omega) (.slice A0_0 l0_0.length c0_0)).setCell (p := ⟨w.heap.size + 1, 1, none⟩) (by show _ ≤ w.heap.size + 1; omega) (.slice A0_1 l0_1.length c0_1)
      exact ⟨_, _, rfl, Kd.V_mono (Kd.V_below HV.out.1 HBF) (fun _ h => .inl (.inl h)), Kd.V_mono (Kd.V_below HV.out.2.1 HBF) (fun _ h => .inl (.inr h)), HBF⟩
    | false =>
      rw [hc] at h C1
      obtain ⟨rfl, rfl, rfl⟩ : l0_0 = r1 ∧ l0_1 ++ [a1] = r2 ∧ 0 = r3 := by simpa using h
      clear h
      go_enter Try.func8, Try.ntmps8
      go_wp2_with fail
      refine (C1.out _ HK.out.2.2.1).mono ?_
      rintro e w1 ⟨rfl, hd⟩
      obtain ⟨n, rfl⟩ := hd
      go_wp2_with fail
      refine (C2.out _).mono ?_
      rintro e w1 ⟨rfl, rfl⟩
      clear C1 C2
      go_wp2_with (at_builtin; refine R_append_clip (Kd.int .i64) (w0 := w) w.heap.size rfl _ _ 25 3 _ _ rfl Try.underlying25 infoI rfl (by decide) (by decide) A0_1 _ l0_1 a1 [.int .i64 a1] _ 1 rfl rfl ?qc1 ?qc2 ?qc3 ?qc4 ?qc5 ?qc6 ?qc7 ?_)
      case qc1 => exact Kd.C_below HV.out.2.2.1 (below_alloc (pw_below_drewN HK.out.2.2.1 n) _)
      case qc2 =>
        intro j u hj
        have hz : (W0.drewN n).heap.size = W0.heap.size := rfl
        rcases j with _ | j
        · simpa [World.cell?, World.alloc] using hj
        · simp at hj
      case qc3 => rfl
      case qc4 => exact fun _ ok x cs h => flatI h _ ok
      case qc5 => exact below_alloc (pw_below_drewN HK.out.2.2.1 n) _
      case qc6 => have := HK.out.2.2.2; simp [World.drewN]; omega
      case qc7 => have := HV.out.2.2.2; omega
      intro v1 w1 hR hB hB1
      have hzz : w.heap.size + 2 ≤ ((W0.drewN n).alloc (.cells #[.int .i64 a1] 3)).heap.size := by have := HK.out.2.2.2; simp [World.drewN]; omega
      have hB1 : Below ((W0.drewN n).alloc (.cells #[.int .i64 a1] 3)).heap.size ((W0.drewN n).alloc (.cells #[.int .i64 a1] 3)) w1 := by rw [World.size_alloc]; exact hB1
      have hR : Kd.R (Kd.int .i64) 3 w1 ((W0.drewN n).alloc (.cells #[.int .i64 a1] 3)).heap.size (fun _ => True) v1 (l0_1 ++ [a1]) := by rw [World.size_alloc]; exact hR
      have K0 := blk_below (blk_alloc (blk_drewN HK.out.1 n) (.cells #[.int .i64 a1] 3)) hB1
      have K1 := blk_below (blk_alloc (blk_drewN HK.out.2.1 n) (.cells #[.int .i64 a1] 3)) hB1
      clear hB1 c00 c01 f00 f01 c10 c11 f10 f11
      have c00 : w1.cell? ⟨w.heap.size, 0, none⟩ = some (.slice A0_0 l0_0.length c0_0) := blk_cell K0 0
      have c01 : w1.cell? ⟨w.heap.size, 1, none⟩ = some (.slice A0_1 l0_1.length c0_1) := blk_cell K0 1
      have f00 := blk_frozen K0 0
      have f01 := blk_frozen K0 1
      have c10 : w1.cell? ⟨w.heap.size + 1, 0, none⟩ = some (.slice none 0 0) := blk_cell K1 0
      have c11 : w1.cell? ⟨w.heap.size + 1, 1, none⟩ = some (.slice none 0 0) := blk_cell K1 1
      have f10 := blk_frozen K1 0
      have f11 := blk_frozen K1 1
      generalize hl2 : l0_1 ++ [a1] = l2 at hR
      have HL2 := Lib.hid hl2
      clear hl2
      obtain ⟨A2, c2, rfl⟩ := Kd.R_slice hR
      have HR := Lib.hid (And.intro hR (And.intro hB (And.intro hzz K1)))
      clear hR hB hzz K0 K1
      go_wp2_with fail
      refine bodyPost_ret (results_ct rfl _ _ (w.heap.size + 1) 27 #[.slice A0_0 l0_0.length c0_0, .slice A2 l2.length c2] (0, 0) _ rfl (by refine blk_put (cs := #[.slice A0_0 l0_0.length c0_0, .slice none 0 0]) ?_ 1 _ rfl; refine blk_put (cs := #[.slice none 0 0, .slice none 0 0]) ?_ 0 _ rfl; exact (Below.heap_setCell _ _ _ _ (by show w.heap.size + 1 ≠ w.heap.size; omega)).trans HR.out.2.2.2) hu rfl (by kernel_rfl)) rfl ?_
      have HBF := ((HR.out.2.1.setCell (p := ⟨w.heap.size, 1, none⟩) (by show _ ≤ w.heap.size; omega) (.slice A2 l2.length c2)).setCell (p := ⟨w.heap.size + 1, 0, none⟩) (by show _ ≤ w.heap.size + 1; omega) (.slice A0_0 l0_0.length c0_0)).setCell (p := ⟨w.heap.size + 1, 1, none⟩) (by show _ ≤ w.heap.size + 1; omega) (.slice A2 l2.length c2)
      have hle := HR.out.2.2.1
      rw [HL2.out]
      exact ⟨_, _, rfl, Kd.V_mono (Kd.V_below HV.out.1 HBF) (fun _ h => .inl (.inl h)), Kd.V_mono (Kd.V_far (p := ⟨w.heap.size + 1, 1, none⟩) (Kd.V_far (p := ⟨w.heap.size + 1, 0, none⟩) (Kd.V_far (p := ⟨w.heap.size, 1, none⟩) (V_of_R HR.out.1) (fun k hk => by show k ≠ w.heap.size; omega) _) (fun k hk => by show k ≠ w.heap.size + 1; omega) _) (fun k hk => by show k ≠ w.heap.size + 1; omega) _) (fun k hk => .inr (by omega)), HBF⟩

end Go.Proofs.Ytnegpjnjgdnmpaa.Q
