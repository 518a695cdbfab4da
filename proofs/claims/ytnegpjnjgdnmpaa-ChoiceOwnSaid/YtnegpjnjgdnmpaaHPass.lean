/- Pass of a lot, by hand. -/
import Derived.Test.YtnegpjnjgdnmpaaHDel
namespace Go.Proofs.Ytnegpjnjgdnmpaa.Q
open Go.RowKit Go.Lib Go.Proofs.Ytnegpjnjgdnmpaa Go.Proofs.YtnegpjnjgdnmpaaW.PrintWords Go.Proofs.YtnegpjnjgdnmpaaW.PrintLast Go.Proofs.YtnegpjnjgdnmpaaW.PrintMore
set_option linter.unusedVariables false
set_option linter.unusedSimpArgs false

theorem V_of_Cg {α : Type} {d : Kd α} (hflat : ∀ w w' x cs, d.K w x cs → d.K w' x cs) {e : Nat} {w : World} {B c g m : Nat} {xs : List α} (h : d.C w (some ⟨g, 0, none⟩) m xs) (hc : m ≤ c) : Kd.V d e w B (fun k => k = g) (.slice (some ⟨g, 0, none⟩) m c) xs := by
  obtain rfl : xs.length = m := h.1
  refine ⟨_, c, rfl, hc, fun W hW => ⟨rfl, h.2.1, fun hn => ?_⟩⟩
  obtain ⟨ad, hA, hcell⟩ := h.2.2 hn
  refine ⟨ad, hA, fun j p hj => ?_⟩
  obtain ⟨cs, h1, h2, h3⟩ := hcell j p hj
  refine ⟨cs, h1, hflat _ _ _ _ h2, fun i u hu => ?_⟩
  have h4 := h3 i u hu
  have hlt := World.block_lt_of_cell? w _ h4
  injection hA with hA
  subst hA
  rw [World.cell?_of_block (w := w) (hW _ (by rw [Addr.add_lit]) hlt)]
  exact h4

theorem pass1_calls (id x : Int) (b : Nat) (W : World) (hb : W.cell? ⟨b, 0, none⟩ = some (.int .i64 id)) :
    Calls Try.prog 24 #[.int .i64 x, .pointer (some ⟨b, 0, none⟩)] W fun e w' => e = .returned (.bool (x == id)) ∧ w' = W := by
  go_enter Try.func24, Try.ntmps24
  go_wp2
  go_ret
  exact ⟨rfl, rfl⟩

/-- Who wants to be alone no more. -/
def choice_Pass.f (l0_0 : List S43) (l0_1 : List Int) (a1 : Int) : Option (List S43 × List Int × Int) :=
  if l0_1.length ≤ 1000000 then (if l0_1.contains a1 = true then some (l0_0, l0_1.filter (fun x => !(x == a1)), 0) else some (l0_0, l0_1, 3)) else none

set_option maxHeartbeats 2000000 in
theorem choice_Pass.calls (P0_0_ : Nat → Prop) (A0_0 : Option Addr) (c0_0 : Nat) (l0_0 : List (S43)) (P0_1_ : Nat → Prop) (A0_1 : Option Addr) (c0_1 : Nat) (l0_1 : List Int) (a1 : Int) (r1 : List (S43)) (r2 : List Int) (r3 : Int) (w : World) (hs0_0 : Kd.V k43 43 w w.heap.size (fun k_ => P0_0_ k_) (.slice A0_0 l0_0.length c0_0) l0_0) (hs0_1 : Kd.V (Kd.int .i64) 3 w w.heap.size (fun k_ => P0_1_ k_) (.slice A0_1 l0_1.length c0_1) l0_1) (h : choice_Pass.f l0_0 l0_1 a1 = some (r1, r2, r3)) :
    Calls Try.prog 11 #[.agg #[.slice A0_0 l0_0.length c0_0, .slice A0_1 l0_1.length c0_1], .int .i64 a1] w fun e w' => ∃ v0_ v1_ : Value, e = .returned (.tuple #[.agg #[v0_, v1_], .int .i64 r3]) ∧ Kd.V k43 43 w' w.heap.size (fun k_ => ((P0_0_ k_ ∨ P0_1_ k_) ∨ w.heap.size ≤ k_)) v0_ r1 ∧ Kd.V (Kd.int .i64) 3 w' w.heap.size (fun k_ => ((P0_0_ k_ ∨ P0_1_ k_) ∨ w.heap.size ≤ k_)) v1_ r2 ∧ Below w.heap.size w w' := by
  have hu := Try.underlying27
  unfold choice_Pass.f at h
  split at h
  case isFalse => cases h
  rename_i hl
  have hC := (Kd.V_reads' hs0_1).2.2
  have hcap := (Kd.V_reads' hs0_1).2.1
  have C1 : Hid (∀ W, Below w.heap.size w W → Calls Try.prog 19 #[.slice A0_1 l0_1.length c0_1, .int .i64 a1] W fun e w' => e = .returned (.bool (l0_1.contains a1)) ∧ Drawn0 W w') :=
    Lib.hid fun W hW => slices_Contains_int_int.calls 1000001 A0_1 c0_1 l0_1 a1 _ W (Kd.C_below hC hW) hcap (contains_f l0_1 a1 1000001 hl (by omega))
  have C2 : Hid (∀ W, Below w.heap.size w W → Calls Try.prog 23 #[.slice A0_1 l0_1.length c0_1] W fun e w' => ∃ v, e = .returned v ∧ Kd.R (Kd.int .i64) 3 w' W.heap.size (fun _ => True) v l0_1 ∧ Below W.heap.size W w') := Lib.hid fun W hW => clone_int A0_1 c0_1 l0_1 W (Kd.C_below hC hW) (by omega)
  have HV := Lib.hid (And.intro hs0_0 (And.intro hs0_1 hl))
  clear hs0_0 hs0_1 hC hcap hl
  obtain ⟨W0, hW0, K0, K1, K2, HB0, hz⟩ := three_named w (.cells #[.slice A0_0 l0_0.length c0_0, .slice A0_1 l0_1.length c0_1] 27) (.cells #[.int .i64 a1] 3) (.cells #[.slice none 0 0, .slice none 0 0] 27)
  have c00 : W0.cell? ⟨w.heap.size, 0, none⟩ = some (.slice A0_0 l0_0.length c0_0) := blk_cell K0 0
  have c01 : W0.cell? ⟨w.heap.size, 1, none⟩ = some (.slice A0_1 l0_1.length c0_1) := blk_cell K0 1
  have c10 : W0.cell? ⟨w.heap.size + 1, 0, none⟩ = some (.int .i64 a1) := blk_cell K1 0
  have c20 : W0.cell? ⟨w.heap.size + 1 + 1, 0, none⟩ = some (.slice none 0 0) := blk_cell K2 0
  have c21 : W0.cell? ⟨w.heap.size + 1 + 1, 1, none⟩ = some (.slice none 0 0) := blk_cell K2 1
  have f20 := blk_frozen K2 0
  have f21 := blk_frozen K2 1
  have HK := Lib.hid (And.intro K0 (And.intro K1 (And.intro K2 (And.intro HB0 hz))))
  clear K0 K1 K2 HB0 hz
  cases hc : l0_1.contains a1 with
  | false =>
    rw [hc] at h C1
    obtain ⟨rfl, rfl, rfl⟩ : l0_0 = r1 ∧ l0_1 = r2 ∧ 3 = r3 := by simpa using h
    clear C2 h hc
    go_enter Try.func11, Try.ntmps11
    go_wp2_with fail
    refine (C1.out _ HK.out.2.2.2.1).mono ?_
    rintro e w1 ⟨rfl, hd⟩
    obtain ⟨n, rfl⟩ := hd
    go_wp2_with fail
    refine bodyPost_ret (results_ct rfl _ _ (w.heap.size + 1 + 1) 27 #[.slice A0_0 l0_0.length c0_0, .slice A0_1 l0_1.length c0_1] (0, 0) _ rfl (by refine blk_put (cs := #[.slice A0_0 l0_0.length c0_0, .slice none 0 0]) ?_ 1 _ rfl; refine blk_put (cs := #[.slice none 0 0, .slice none 0 0]) ?_ 0 _ rfl; exact blk_drewN HK.out.2.2.1 n) hu rfl (by kernel_rfl)) rfl ?_
    have HBF := ((pw_below_drewN HK.out.2.2.2.1 n).setCell (p := ⟨w.heap.size + 1 + 1, 0, none⟩) (by show _ ≤ w.heap.size + 1 + 1; omega) (.slice A0_0 l0_0.length c0_0)).setCell (p := ⟨w.heap.size + 1 + 1, 1, none⟩) (by show _ ≤ w.heap.size + 1 + 1; omega) (.slice A0_1 l0_1.length c0_1)
    exact ⟨_, _, rfl, Kd.V_mono (Kd.V_below HV.out.1 HBF) (fun _ h => .inl (.inl h)), Kd.V_mono (Kd.V_below HV.out.2.1 HBF) (fun _ h => .inl (.inr h)), HBF⟩
  | true =>
    rw [hc] at h C1
    obtain ⟨rfl, rfl, rfl⟩ : l0_0 = r1 ∧ (l0_1.filter fun x => !(x == a1)) = r2 ∧ 0 = r3 := by simpa using h
    have hp : 0 < l0_1.length := by
      rcases l0_1 with _ | ⟨x, l⟩
      · simp at hc
      · simp
    clear h hc
    go_enter Try.func11, Try.ntmps11
    go_wp2_with fail
    refine (C1.out _ HK.out.2.2.2.1).mono ?_
    rintro e w1 ⟨rfl, hd⟩
    obtain ⟨n, rfl⟩ := hd
    go_wp2_with fail
    refine (C2.out _ (pw_below_drewN HK.out.2.2.2.1 n)).mono ?_
    rintro e w1 ⟨v1, rfl, hR, hB⟩
    obtain ⟨g, cap, rfl, hg, hgl, -⟩ := Kd.R_form hR hp
    have hz0 : (W0.drewN n).heap.size = w.heap.size + 3 := HK.out.2.2.2.2
    have hS : w1.heap[w.heap.size]? = _ ∧ w1.heap[w.heap.size + 1]? = _ ∧ w1.heap[w.heap.size + 1 + 1]? = _ ∧ Below w.heap.size w w1 := ⟨blk_below (blk_drewN HK.out.1 n) hB, blk_below (blk_drewN HK.out.2.1 n) hB, blk_below (blk_drewN HK.out.2.2.1 n) hB, bAfter (pw_below_drewN HK.out.2.2.2.1 n) hB⟩
    have hgw : w.heap.size + 3 ≤ g := by omega
    have C3 := Lib.hid (deleteFunc_int 24 #[.pointer (some ⟨w.heap.size + 1, 0, none⟩)] (fun x => x == a1) (fun _ W => W.heap[w.heap.size]? = some (.cells #[.slice A0_0 l0_0.length c0_0, .slice A0_1 l0_1.length c0_1] 27) ∧ W.heap[w.heap.size + 1]? = some (.cells #[.int .i64 a1] 3) ∧ W.heap[w.heap.size + 1 + 1]? = some (.cells #[.slice none 0 0, .slice none 0 0] 27) ∧ Below w.heap.size w W) g cap l0_1 w1 _
      (fun args W => rfl) hR hS
      (fun pre W W' h hgr => ⟨blk_grown h.1 hgr (by intro e; injection e with e; omega), blk_grown h.2.1 hgr (by intro e; injection e with e; omega), blk_grown h.2.2.1 hgr (by intro e; injection e with e; omega), h.2.2.2.grown hgr h.2.2.2.size (by intro k hk; injection hk with hk; omega)⟩)
      (fun pre x W W1 _ h hb hlt => by
        have h' : W1.heap[w.heap.size]? = _ ∧ W1.heap[w.heap.size + 1]? = _ ∧ W1.heap[w.heap.size + 1 + 1]? = _ ∧ Below w.heap.size w W1 := ⟨blk_below h.1 hb, blk_below h.2.1 hb, blk_below h.2.2.1 hb, bAfter h.2.2.2 hb⟩
        refine (pass1_calls a1 x (w.heap.size + 1) W1 (blk_cell h'.2.1 0)).mono ?_
        rintro e w' ⟨rfl, rfl⟩
        exact ⟨rfl, h', rfl, fun _ _ _ => rfl, Nat.le_refl _⟩) (by have := HV.out.2.2; omega))
    have c00 : w1.cell? ⟨w.heap.size, 0, none⟩ = some (.slice A0_0 l0_0.length c0_0) := blk_cell hS.1 0
    have c01 : w1.cell? ⟨w.heap.size, 1, none⟩ = some (.slice A0_1 l0_1.length c0_1) := blk_cell hS.1 1
    clear C1 C2 hS hR hB hg hgl hz0
    go_wp2_with fail
    refine C3.out.mono ?_
    rintro e w3 ⟨m, rfl, hm, hmc, hCm, hS3⟩
    have c00 : w3.cell? ⟨w.heap.size, 0, none⟩ = some (.slice A0_0 l0_0.length c0_0) := blk_cell hS3.1 0
    have c01 : w3.cell? ⟨w.heap.size, 1, none⟩ = some (.slice A0_1 l0_1.length c0_1) := blk_cell hS3.1 1
    have f00 := blk_frozen hS3.1 0
    have f01 := blk_frozen hS3.1 1
    have c20 : w3.cell? ⟨w.heap.size + 1 + 1, 0, none⟩ = some (.slice none 0 0) := blk_cell hS3.2.2.1 0
    have c21 : w3.cell? ⟨w.heap.size + 1 + 1, 1, none⟩ = some (.slice none 0 0) := blk_cell hS3.2.2.1 1
    have f20 := blk_frozen hS3.2.2.1 0
    have f21 := blk_frozen hS3.2.2.1 1
    have HR := Lib.hid (And.intro (V_of_Cg (e := 3) (B := w.heap.size) (fun _ _ _ _ h => flatKI h) hCm hmc) (And.intro hS3.2.2.2 (And.intro hgw hS3.2.2.1)))
    clear C3 hm hmc hCm hS3 hgw
    go_wp2_with fail
    refine bodyPost_ret (results_ct rfl _ _ (w.heap.size + 1 + 1) 27 #[.slice A0_0 l0_0.length c0_0, .slice (some ⟨g, 0, none⟩) m cap] (0, 0) _ rfl (by refine blk_put (cs := #[.slice A0_0 l0_0.length c0_0, .slice none 0 0]) ?_ 1 _ rfl; refine blk_put (cs := #[.slice none 0 0, .slice none 0 0]) ?_ 0 _ rfl; exact (Below.heap_setCell _ _ _ _ (by show w.heap.size + 1 + 1 ≠ w.heap.size; omega)).trans HR.out.2.2.2) hu rfl (by kernel_rfl)) rfl ?_
    have HBF := ((HR.out.2.1.setCell (p := ⟨w.heap.size, 1, none⟩) (by show _ ≤ w.heap.size; omega) (.slice (some ⟨g, 0, none⟩) m cap)).setCell (p := ⟨w.heap.size + 1 + 1, 0, none⟩) (by show _ ≤ w.heap.size + 1 + 1; omega) (.slice A0_0 l0_0.length c0_0)).setCell (p := ⟨w.heap.size + 1 + 1, 1, none⟩) (by show _ ≤ w.heap.size + 1 + 1; omega) (.slice (some ⟨g, 0, none⟩) m cap)
    have hle := HR.out.2.2.1
    exact ⟨_, _, rfl, Kd.V_mono (Kd.V_below HV.out.1 HBF) (fun _ h => .inl (.inl h)), Kd.V_mono (Kd.V_far (p := ⟨w.heap.size + 1 + 1, 1, none⟩) (Kd.V_far (p := ⟨w.heap.size + 1 + 1, 0, none⟩) (Kd.V_far (p := ⟨w.heap.size, 1, none⟩) HR.out.1 (fun k hk => by show k ≠ w.heap.size; omega) _) (fun k hk => by show k ≠ w.heap.size + 1 + 1; omega) _) (fun k hk => by show k ≠ w.heap.size + 1 + 1; omega) _) (fun k hk => .inr (by omega)), HBF⟩

end Go.Proofs.Ytnegpjnjgdnmpaa.Q
