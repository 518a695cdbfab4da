/- slices.Grow of nil and slices.Concat of two transactions, by hand. -/
import Derived.Test.YtaagbiaddgohkaaHDel
import Derived.Test.YtaagbiaddgohkaaWZeros
namespace Go.Proofs.Ytaagbiaddgohkaa.Q
open Go.RowKit Go.Lib Go.Proofs.Ytaagbiaddgohkaa Go.Proofs.YtaagbiaddgohkaaW.PrintWords Go.Proofs.YtaagbiaddgohkaaW.PrintLast Go.Proofs.YtaagbiaddgohkaaW.PrintMore
set_option linter.unusedVariables false
set_option linter.unusedSimpArgs false

set_option maxHeartbeats 2000000 in
theorem grow_nil (n : Nat) (w : World) (hn : n ≤ 1000000) :
    Calls Try.prog 27 #[.slice none 0 0, .int .i64 n] w fun e w' => ∃ A c, e = .returned (.slice A 0 c) ∧ Kd.R k39 39 w' w.heap.size (fun _ => True) (.slice A 0 c) [] ∧ Below w.heap.size w w' := by
  have hu := Try.underlying29
  by_cases h0 : n = 0
  · subst h0
    go_enter Try.func27, Try.ntmps27
    go_wp2_with fail
    go_ret
    exact ⟨none, 0, rfl, Kd.R_nil _ _ _ _ _, Below.refl _ _⟩
  · have h1 : (0 : Int) < n := by omega
    have h2 : ¬ (n : Int) < 0 := by omega
    have h3 : wrap64 (n : Int) = n := by unfold wrap64; omega
    have h4 : wrap64 ((n : Int) - 0) = n := by unfold wrap64; omega
    go_enter Try.func27, Try.ntmps27
    go_wp2_with (at_builtin; refine Kd.R_append_zeros k39 (w0 := w) w.heap.size rfl _ _ 29 3 39 _ _ rfl Try.underlying29 Try.underlying3 info39 rfl (by decide) (by decide) (.slice none 0 0) [] z39 (n : Int) (fun _ => True) rfl rfl (k39_mkM _ _ _ z39) (fun _ _ => trivial) (Kd.R_nil _ _ _ _ _) (by omega) (Below.refl _ _) (Nat.le_refl _) (by simp; omega) ?_)
    intro v1 w1 hR hB hg hat
    obtain ⟨A1, c1, rfl⟩ := Kd.R_slice hR
    have hr := Kd.R_take (m := 0) hR (Nat.zero_le _)
    rw [List.take_zero] at hr
    have HR := Lib.hid (And.intro hr hB)
    have hcc := (Kd.R_reads' hR).2.1
    simp only [List.nil_append, Int.toNat_natCast, List.length_replicate] at hcc ⊢
    clear hR hB hg hat hr
    go_wp2_with fail
    go_ret
    exact ⟨A1, c1, rfl, HR.out.1, HR.out.2⟩

set_option maxHeartbeats 4000000 in
theorem concat_two (g : Nat) (A1 A2 : Option Addr) (c1 c2 : Nat) (l1 l2 : List S39) (w : World) (hK : w.heap[g]? = some (.cells #[.slice A1 l1.length c1, .slice A2 l2.length c2] 29 (0, 0))) (h1 : Kd.C k39 w A1 l1.length l1) (h2 : Kd.C k39 w A2 l2.length l2) (q1 : l1.length ≤ 400000) (q2 : l2.length ≤ 400000) :
    Calls Try.prog 21 #[.slice (some ⟨g, 0, none⟩) 2 2] w fun e w' => ∃ v, e = .returned v ∧ Kd.R k39 39 w' w.heap.size (fun _ => True) v (l1 ++ l2) ∧ Below w.heap.size w w' := by
  have hu := Try.underlying29
  have hu42 := Try.underlying42
  have a0 : w.cell? ⟨g, 0, none⟩ = some (.slice A1 l1.length c1) := blk_cell hK 0
  have a1 : w.cell? ⟨g, 1, none⟩ = some (.slice A2 l2.length c2) := blk_cell hK 1
  have H := Lib.hid (And.intro hK (And.intro h1 (And.intro h2 (And.intro q1 q2))))
  have w1 : wrap64 (0 + (l1.length : Int)) = l1.length := by unfold wrap64; omega
  have w1' : wrap64 (l1.length : Int) = l1.length := by unfold wrap64; omega
  have w2 : wrap64 ((l1.length : Int) + (l2.length : Int)) = ((l1.length + l2.length : Nat) : Int) := by unfold wrap64; omega
  have n1 : ¬ (l1.length : Int) < 0 := by omega
  have n2 : ¬ ((l1.length + l2.length : Nat) : Int) < 0 := by omega
  clear hK h1 h2 q1 q2
  go_enter Try.func21, Try.ntmps21
  go_wp2_with fail
  go_loopg [3, 5, 11] 2 (fun kq v3 _ v11 W => W = w ∧ ((kq = 2 ∧ v3 = .int .i64 0 ∧ v11 = .int .i64 0) ∨ (kq = 1 ∧ v3 = .int .i64 l1.length ∧ v11 = .int .i64 1) ∨ (kq = 0 ∧ v3 = .int .i64 ((l1.length + l2.length : Nat) : Int) ∧ v11 = .int .i64 2)))
  case atStart => exact ⟨rfl, .inl ⟨rfl, rfl, rfl⟩⟩
  case round =>
    obtain ⟨rfl, ⟨rfl, rfl, rfl⟩ | ⟨rfl, rfl, rfl⟩ | ⟨rfl, rfl, rfl⟩⟩ := hrel
    · go_wp2_with fail
      go_roundg 1
      case measure => omega
      case rel => exact ⟨rfl, .inr (.inl ⟨rfl, by first | rfl | simp [w1, w1'], rfl⟩)⟩
    · go_wp2_with fail
      go_roundg 0
      case measure => omega
      case rel => exact ⟨rfl, .inr (.inr ⟨rfl, by first | rfl | simp [w2] | (congr 1), rfl⟩)⟩
    · obtain ⟨V, hV⟩ : ∃ V, V = wr := ⟨_, rfl⟩
      subst hV
      have C := Lib.hid (grow_nil (l1.length + l2.length) V (by have := H.out.2.2.2; omega))
      go_wp2_with fail
      refine C.out.mono ?_
      rintro e w4 ⟨A4, c4, rfl, hR4, hB4⟩
      have HL1 : Hid (Kd.R k39 39 w4 V.heap.size (fun _ => True) (.slice A4 (([] : List S39)).length c4) [] ∧ Below V.heap.size V w4) := Lib.hid ⟨hR4, hB4⟩
      clear hR4 hB4 C w1 w1' w2 n1 n2 a0 a1
      go_wp2_with fail
      go_loopg [6, 8, 27] 2 (fun kq v6 _ v27 W => ∃ (j : Nat) (A : Option Addr) (c : Nat) (out : List S39), v6 = .slice A out.length c ∧ v27 = .int .i64 j ∧ Hid (kq + j = 2) ∧ Hid (Kd.R k39 39 W V.heap.size (fun _ => True) (.slice A out.length c) out ∧ Below V.heap.size V W) ∧ Hid (out = (if j = 0 then [] else if j = 1 then l1 else l1 ++ l2)))
      case atStart => exact ⟨0, A4, c4, [], rfl, rfl, by simp [Hid], HL1, Lib.hid rfl⟩
      case round =>
        clear HL1
        obtain ⟨j, A, c, out, rfl, rfl, hj, HJ, HQ⟩ := hrel
        have K := blk_below H.out.1 HJ.out.2
        have a0 : wr.cell? ⟨g, 0, none⟩ = some (.slice A1 l1.length c1) := blk_cell K 0
        have a1 : wr.cell? ⟨g, 1, none⟩ = some (.slice A2 l2.length c2) := blk_cell K 1
        clear K
        have hj3 : j = 0 ∨ j = 1 ∨ j = 2 := by have := hj.out; omega
        rcases hj3 with rfl | rfl | rfl
        · go_wp2_with (at_builtin; refine Kd.R_append_rows k39 (w0 := V) (Rr := k39.K wr) V.heap.size rfl _ _ 29 39 _ _ rfl Try.underlying29 info39 rfl (by decide) (by decide) (.slice A out.length c) out l1 A1 l1.length c1 (fun _ => True) (fun _ => False) rfl rfl HJ.out.1 (Kd.C_below H.out.2.1 HJ.out.2) (fun x cs h => flat39 h _ _) (fun _ h => h.elim) (fun _ _ => trivial) HJ.out.2 HJ.out.2.size ?hl ?_)
          case hl => have h9 := HQ.out; have := H.out.2.2.2; simp at h9; rw [h9]; simp; omega
          intro v2 w5 hR5 hB5 hg5 _
          obtain ⟨A5, c5, rfl⟩ := Kd.R_slice hR5
          generalize ho2 : out ++ l1 = o2 at *
          have HZ := Lib.hid (And.intro hR5 hB5)
          have HO := Lib.hid ho2
          clear hR5 hB5 hg5 a0 a1 ho2
          go_wp2_with fail
          obtain ⟨k1, rfl⟩ : ∃ m, gk = m + 1 := ⟨gk - 1, by have := hj.out; omega⟩
          go_roundg k1
          case measure => omega
          case rel => exact ⟨1, A5, c5, o2, rfl, by first | rfl | rw [wrap_next (by omega)], Lib.hid (by have := hj.out; omega), HZ, Lib.hid (by rw [← HO.out]; have h9 := HQ.out; simp at h9; rw [h9]; simp)⟩
        · go_wp2_with (at_builtin; refine Kd.R_append_rows k39 (w0 := V) (Rr := k39.K wr) V.heap.size rfl _ _ 29 39 _ _ rfl Try.underlying29 info39 rfl (by decide) (by decide) (.slice A out.length c) out l2 A2 l2.length c2 (fun _ => True) (fun _ => False) rfl rfl HJ.out.1 (Kd.C_below H.out.2.2.1 HJ.out.2) (fun x cs h => flat39 h _ _) (fun _ h => h.elim) (fun _ _ => trivial) HJ.out.2 HJ.out.2.size ?hl ?_)
          case hl => have h9 := HQ.out; have := H.out.2.2.2; simp at h9; rw [h9]; omega
          intro v2 w5 hR5 hB5 hg5 _
          obtain ⟨A5, c5, rfl⟩ := Kd.R_slice hR5
          generalize ho2 : out ++ l2 = o2 at *
          have HZ := Lib.hid (And.intro hR5 hB5)
          have HO := Lib.hid ho2
          clear hR5 hB5 hg5 a0 a1 ho2
          go_wp2_with fail
          obtain ⟨k1, rfl⟩ : ∃ m, gk = m + 1 := ⟨gk - 1, by have := hj.out; omega⟩
          go_roundg k1
          case measure => omega
          case rel => exact ⟨2, A5, c5, o2, rfl, by first | rfl | rw [wrap_next (by omega)], Lib.hid (by have := hj.out; omega), HZ, Lib.hid (by rw [← HO.out]; have h9 := HQ.out; simp at h9; rw [h9]; simp)⟩
        · have HO : Hid (out = l1 ++ l2) := Lib.hid (by have h9 := HQ.out; simpa using h9)
          clear a0 a1
          go_wp2_with fail
          go_ret
          exact ⟨_, rfl, by rw [← HO.out]; exact HJ.out.1, HJ.out.2⟩

end Go.Proofs.Ytaagbiaddgohkaa.Q
