/- The last one that left a variable ahead of an event, by hand. -/
import Derived.Test.YtkijjgdcbgmglaaHLived
import Derived.Test.YtkijjgdcbgmglaaHLeaves
namespace Go.Proofs.Ytkijjgdcbgmglaa.Q
open Go.RowKit Go.Lib Go.Maps Go.Proofs.Ytkijjgdcbgmglaa Go.Proofs.YtkijjgdcbgmglaaW.PrintWords Go.Proofs.YtkijjgdcbgmglaaW.PrintLast Go.Proofs.YtkijjgdcbgmglaaW.PrintMore
set_option linter.unusedVariables false
set_option linter.unusedSimpArgs false
/-- What is kept at each round. -/
def WRel (W : World) (all : List Life) (n x r : Int) (i : Nat) (best : Int) (V : World) : Prop :=
  ∃ bfin : Int, writerFrom n x (all.drop i) i best bfin = r ∧ (best < 0 ∨ ∃ (j : Nat) (l : Life), best = j ∧ all[j]? = some l ∧ bfin = l.fin) ∧ Below W.heap.size W V
theorem LivesV.at_row {base : Nat} {W : World} {k : Nat} {A : Option Addr} {c : Nat} {bs : List (Nat × Nat × Nat)} {all : List Life} (h : LivesV base W k (.slice A all.length c) bs all) {i : Nat} {l : Life} (hl : all[i]? = some l) :
    ∃ g b rb wb, A = some ⟨g, 0, none⟩ ∧ bs[i]? = some (b, rb, wb) ∧ W.cell? ⟨g, i, none⟩ = some (ptr b) ∧ LifeAt W b rb wb k l := by
  have hi : i < all.length := (List.getElem?_eq_some_iff.1 hl).1
  obtain ⟨⟨b, rb, wb⟩, hb⟩ : ∃ q, bs[i]? = some q := ⟨_, List.getElem?_eq_getElem (by rw [h.at_.len]; exact hi)⟩
  rcases own_at_ h.row with ⟨e, hz⟩ | ⟨g, c', e, -, -, -, hc⟩
  · omega
  · injection e with e
    exact ⟨g, b, rb, wb, e, hb, (hc i (ptr b) (by rw [List.getElem?_map, hb]; rfl)).1, h.at_.at_ i b rb wb l hb hl⟩
theorem drop_life (l : List Life) {i : Nat} {x : Life} (h : l[i]? = some x) : l.drop i = x :: l.drop (i + 1) := by
  obtain ⟨hi, e⟩ := List.getElem?_eq_some_iff.1 h
  rw [List.drop_eq_getElem_cons hi, e]
set_option maxRecDepth 100000 in
set_option maxHeartbeats 4000000 in
theorem writer_calls (W : World) (base k : Nat) (A : Option Addr) (c : Nat) (bs : List (Nat × Nat × Nat)) (all : List Life) (hL : LivesV base W k (.slice A all.length c) bs all) (hl : all.length ≤ 1000) (n x : Int) (h0 : -9223372036854775808 ≤ x) (h1 : x ≤ 9223372036854775807) :
    Calls Try.prog 49 #[.slice A all.length c, .int .i64 n, .int .i64 x] W fun e w' => e = .returned (.int .i64 (writerL all n x)) ∧ Below W.heap.size W w' := by
  have hu86 := Try.underlying86
  have hu83 := Try.underlying83
  have hu69 := Try.underlying69
  obtain ⟨r, hr⟩ : ∃ r, writerL all n x = r := ⟨_, rfl⟩
  rw [hr]
  have R0 := Lib.hid (show WRel W all n x r 0 (-1) W from ⟨0, hr, .inl (by omega), Below.refl _ _⟩)
  have HH := Lib.hid (And.intro hL (And.intro hl (And.intro h0 h1)))
  clear hr hL hl h0 h1
  go_enter Try.func49, Try.ntmps49
  go_wp2_with fail
  go_loopg [7, 12] all.length (fun kq v7 v12 V => ∃ (i : Nat) (best : Int), v12 = .int .i64 i ∧ v7 = .int .i64 best ∧ Hid (kq + i = all.length) ∧ Hid (WRel W all n x r i best V))
  case atStart => exact ⟨0, -1, rfl, rfl, by simp [Hid], R0⟩
  case round =>
    obtain ⟨i, best, rfl, rfl, hk, hJ⟩ := hrel
    clear R0
    obtain ⟨bfin, hr, hbest, hB⟩ := hJ.out
    clear hJ
    by_cases hi : i < all.length
    · have hi2 : (i : Int) < all.length := by omega
      have hi0 : (0 : Int) ≤ i := by omega
      obtain ⟨l, hli⟩ : ∃ l, all[i]? = some l := ⟨_, List.getElem?_eq_getElem hi⟩
      have hLw := HH.out.1.below hB
      obtain ⟨g, b, rb, wb, rfl, hbi, a0, hA⟩ := hLw.at_row hli
      have HLV := Lib.hid (fun (W' : World) (hW : Below wr.heap.size wr W') => leaves_calls W' b rb wb k l (hA.below hW) x HH.out.2.2.1 HH.out.2.2.2)
      have n1 : ∀ W', Below wr.heap.size wr W' → W'.cell? ⟨b, 1, none⟩ = some (.int .i64 l.fin) := fun W' hB => blk_cell (blk_below hA.hb hB) 1
      have HI := Lib.hid (And.intro hi hk.out)
      rw [drop_life all hli] at hr
      unfold writerFrom at hr
      cases clv : leavesL l x with
      | false =>
        have hr2 : writerFrom n x (all.drop (i + 1)) ((i : Int) + 1) best bfin = r := by rw [if_neg (by rw [clv]; simp)] at hr; exact hr
        rw [clv] at HLV
        have HN := Lib.hid (And.intro hr2 (And.intro hbest hB))
        clear hr hr2 hbest hB hA hLw hli hbi hi hk clv
        go_wp2_with fail
        apply GR.wp_region_grow (R := RB) 29 (by kernel_rfl) (by kernel_rfl) (by kernel_rfl)
        · intro c a d v w h; cases d <;> exact h
        simp only [List.take_succ_cons, List.take_zero, List.drop_succ_cons, List.drop_zero]
        repeat (first
          | (apply GR.gw_skip (by rfl); simp only [Act.put, List.setIfInBounds_toArray, List.set_cons_zero, List.set_cons_succ])
          | (apply GR.gw_val (by rfl); · (intro W' hB hD; go_simp; first | done | rfl)
             simp only [Act.put, List.setIfInBounds_toArray, List.set_cons_zero, List.set_cons_succ])
          | (apply GR.gw_call (by rfl)
             · (intro W' hB hD; go_simp; exact ⟨rfl, rfl⟩)
             · (intro W' hB hD; exact (HLV.out W' hB).mono fun e w' h => ⟨h.1, h.2⟩)
             simp only [Act.put, List.setIfInBounds_toArray, List.set_cons_zero, List.set_cons_succ]))
        apply GR.gw_nil
        intro Wz hBz hF hP
        have HBz := Lib.hid hBz
        clear hF hP hBz
        go_wp2_with fail
        obtain ⟨k1, rfl⟩ : ∃ m, gk = m + 1 := ⟨gk - 1, by have := HI.out; omega⟩
        go_roundg k1
        case measure => omega
        case rel => exact ⟨i + 1, best, by first | rfl | exact congrArg _ (wrap_next (by have := HH.out.2.1; have := HI.out.1; omega)), rfl, by have := HI.out.2; exact Lib.hid (by omega), Lib.hid ⟨_, by rw [Int.natCast_add]; exact HN.out.1, HN.out.2.1, HN.out.2.2.trans (below_le HBz.out HN.out.2.2.size)⟩⟩
      | true =>
        rw [clv] at HLV
        by_cases cf : l.fin < n
        · have cf' : decide (l.fin < n) = true := by simpa using cf
          by_cases cb : best < 0
          · have cb' : decide (best < 0) = true := by simpa using cb
            have hr2 : writerFrom n x (all.drop (i + 1)) ((i : Int) + 1) i l.fin = r := by rw [if_pos ⟨clv, cf, .inl cb⟩] at hr; exact hr
            have HN := Lib.hid (And.intro hr2 (And.intro (show ((i : Int) < 0 ∨ ∃ (j : Nat) (l' : Life), (i : Int) = j ∧ all[j]? = some l' ∧ l.fin = l'.fin) from .inr ⟨i, l, rfl, hli, rfl⟩) hB))
            clear hr hr2 hbest hB hA hLw hli hbi hi hk clv cf cb
            go_wp2_with fail
            apply GR.wp_region_grow (R := RB) 29 (by kernel_rfl) (by kernel_rfl) (by kernel_rfl)
            · intro c a d v w h; cases d <;> exact h
            simp only [List.take_succ_cons, List.take_zero, List.drop_succ_cons, List.drop_zero]
            repeat (first
              | (apply GR.gw_skip (by rfl); simp only [Act.put, List.setIfInBounds_toArray, List.set_cons_zero, List.set_cons_succ])
              | (apply GR.gw_val (by rfl); · (intro W' hB hD; have zn1 := n1 W' hB; go_simp; first | done | rfl)
                 simp only [Act.put, List.setIfInBounds_toArray, List.set_cons_zero, List.set_cons_succ])
              | (apply GR.gw_call (by rfl)
                 · (intro W' hB hD; go_simp; exact ⟨rfl, rfl⟩)
                 · (intro W' hB hD; exact (HLV.out W' hB).mono fun e w' h => ⟨h.1, h.2⟩)
                 simp only [Act.put, List.setIfInBounds_toArray, List.set_cons_zero, List.set_cons_succ]))
            apply GR.gw_nil
            intro Wz hBz hF hP
            have HBz := Lib.hid hBz
            clear hF hP hBz
            go_wp2_with fail
            obtain ⟨k1, rfl⟩ : ∃ m, gk = m + 1 := ⟨gk - 1, by have := HI.out; omega⟩
            go_roundg k1
            case measure => omega
            case rel => exact ⟨i + 1, (i : Int), by first | rfl | exact congrArg _ (wrap_next (by have := HH.out.2.1; have := HI.out.1; omega)), rfl, by have := HI.out.2; exact Lib.hid (by omega), Lib.hid ⟨_, by rw [Int.natCast_add]; exact HN.out.1, HN.out.2.1, HN.out.2.2.trans (below_le HBz.out HN.out.2.2.size)⟩⟩
          · have cb' : decide (best < 0) = false := by simp; omega
            obtain ⟨j, lj, rfl, hlj, rfl⟩ : ∃ (j : Nat) (l : Life), best = j ∧ all[j]? = some l ∧ bfin = l.fin := by rcases hbest with h | h; omega; exact h
            have hj : j < all.length := (List.getElem?_eq_some_iff.1 hlj).1
            have hj2 : (j : Int) < all.length := by omega
            have hj0 : (0 : Int) ≤ j := by omega
            obtain ⟨g2, b2, rb2, wb2, e2, hbj, aj, hAj⟩ := hLw.at_row hlj
            injection e2 with e2
            injection e2 with e2
            subst e2
            have n2 : ∀ W', Below wr.heap.size wr W' → W'.cell? ⟨g, j, none⟩ = some (ptr b2) := fun W' hB => pw_cell_below hB aj
            have n3 : ∀ W', Below wr.heap.size wr W' → W'.cell? ⟨b2, 1, none⟩ = some (.int .i64 lj.fin) := fun W' hB => blk_cell (blk_below hAj.hb hB) 1
            by_cases cg : lj.fin < l.fin
            · have cg' : decide (l.fin > lj.fin) = true := by simpa using cg
              have hr2 : writerFrom n x (all.drop (i + 1)) ((i : Int) + 1) i l.fin = r := by rw [if_pos ⟨clv, cf, .inr cg⟩] at hr; exact hr
              have HN := Lib.hid (And.intro hr2 (And.intro (show ((i : Int) < 0 ∨ ∃ (j : Nat) (l' : Life), (i : Int) = j ∧ all[j]? = some l' ∧ l.fin = l'.fin) from .inr ⟨i, l, rfl, hli, rfl⟩) hB))
              clear hr hr2 hbest hB hA hLw hli hbi hi hk clv cf cb cg hlj hj hbj hAj aj
              go_wp2_with fail
              apply GR.wp_region_grow (R := RB) 29 (by kernel_rfl) (by kernel_rfl) (by kernel_rfl)
              · intro c a d v w h; cases d <;> exact h
              simp only [List.take_succ_cons, List.take_zero, List.drop_succ_cons, List.drop_zero]
              repeat (first
                | (apply GR.gw_skip (by rfl); simp only [Act.put, List.setIfInBounds_toArray, List.set_cons_zero, List.set_cons_succ])
                | (apply GR.gw_val (by rfl); · (intro W' hB hD; have zn1 := n1 W' hB; have zn2 := n2 W' hB; have zn3 := n3 W' hB; go_simp; first | done | rfl)
                   simp only [Act.put, List.setIfInBounds_toArray, List.set_cons_zero, List.set_cons_succ])
                | (apply GR.gw_call (by rfl)
                   · (intro W' hB hD; go_simp; exact ⟨rfl, rfl⟩)
                   · (intro W' hB hD; exact (HLV.out W' hB).mono fun e w' h => ⟨h.1, h.2⟩)
                   simp only [Act.put, List.setIfInBounds_toArray, List.set_cons_zero, List.set_cons_succ]))
              apply GR.gw_nil
              intro Wz hBz hF hP
              have HBz := Lib.hid hBz
              clear hF hP hBz
              go_wp2_with fail
              obtain ⟨k1, rfl⟩ : ∃ m, gk = m + 1 := ⟨gk - 1, by have := HI.out; omega⟩
              go_roundg k1
              case measure => omega
              case rel => exact ⟨i + 1, (i : Int), by first | rfl | exact congrArg _ (wrap_next (by have := HH.out.2.1; have := HI.out.1; omega)), rfl, by have := HI.out.2; exact Lib.hid (by omega), Lib.hid ⟨_, by rw [Int.natCast_add]; exact HN.out.1, HN.out.2.1, HN.out.2.2.trans (below_le HBz.out HN.out.2.2.size)⟩⟩
            · have cg' : decide (l.fin > lj.fin) = false := by simp; omega
              have hr2 : writerFrom n x (all.drop (i + 1)) ((i : Int) + 1) j lj.fin = r := by rw [if_neg (fun h => by rcases h.2.2 with h | h; omega; exact cg h)] at hr; exact hr
              have HN := Lib.hid (And.intro hr2 (And.intro (show ((j : Int) < 0 ∨ ∃ (j' : Nat) (l' : Life), (j : Int) = j' ∧ all[j']? = some l' ∧ lj.fin = l'.fin) from .inr ⟨j, lj, rfl, hlj, rfl⟩) hB))
              clear hr hr2 hbest hB hA hLw hli hbi hi hk clv cf cb cg hlj hj hbj hAj aj
              go_wp2_with fail
              apply GR.wp_region_grow (R := RB) 29 (by kernel_rfl) (by kernel_rfl) (by kernel_rfl)
              · intro c a d v w h; cases d <;> exact h
              simp only [List.take_succ_cons, List.take_zero, List.drop_succ_cons, List.drop_zero]
              repeat (first
                | (apply GR.gw_skip (by rfl); simp only [Act.put, List.setIfInBounds_toArray, List.set_cons_zero, List.set_cons_succ])
                | (apply GR.gw_val (by rfl); · (intro W' hB hD; have zn1 := n1 W' hB; have zn2 := n2 W' hB; have zn3 := n3 W' hB; go_simp; first | done | rfl)
                   simp only [Act.put, List.setIfInBounds_toArray, List.set_cons_zero, List.set_cons_succ])
                | (apply GR.gw_call (by rfl)
                   · (intro W' hB hD; go_simp; exact ⟨rfl, rfl⟩)
                   · (intro W' hB hD; exact (HLV.out W' hB).mono fun e w' h => ⟨h.1, h.2⟩)
                   simp only [Act.put, List.setIfInBounds_toArray, List.set_cons_zero, List.set_cons_succ]))
              apply GR.gw_nil
              intro Wz hBz hF hP
              have HBz := Lib.hid hBz
              clear hF hP hBz
              go_wp2_with fail
              obtain ⟨k1, rfl⟩ : ∃ m, gk = m + 1 := ⟨gk - 1, by have := HI.out; omega⟩
              go_roundg k1
              case measure => omega
              case rel => exact ⟨i + 1, (j : Int), by first | rfl | exact congrArg _ (wrap_next (by have := HH.out.2.1; have := HI.out.1; omega)), rfl, by have := HI.out.2; exact Lib.hid (by omega), Lib.hid ⟨_, by rw [Int.natCast_add]; exact HN.out.1, HN.out.2.1, HN.out.2.2.trans (below_le HBz.out HN.out.2.2.size)⟩⟩
        · have cf' : decide (l.fin < n) = false := by simp; omega
          have hr2 : writerFrom n x (all.drop (i + 1)) ((i : Int) + 1) best bfin = r := by rw [if_neg (fun h => cf h.2.1)] at hr; exact hr
          have HN := Lib.hid (And.intro hr2 (And.intro hbest hB))
          clear hr hr2 hbest hB hA hLw hli hbi hi hk clv cf
          go_wp2_with fail
          apply GR.wp_region_grow (R := RB) 29 (by kernel_rfl) (by kernel_rfl) (by kernel_rfl)
          · intro c a d v w h; cases d <;> exact h
          simp only [List.take_succ_cons, List.take_zero, List.drop_succ_cons, List.drop_zero]
          repeat (first
            | (apply GR.gw_skip (by rfl); simp only [Act.put, List.setIfInBounds_toArray, List.set_cons_zero, List.set_cons_succ])
            | (apply GR.gw_val (by rfl); · (intro W' hB hD; have zn1 := n1 W' hB; go_simp; first | done | rfl)
               simp only [Act.put, List.setIfInBounds_toArray, List.set_cons_zero, List.set_cons_succ])
            | (apply GR.gw_call (by rfl)
               · (intro W' hB hD; go_simp; exact ⟨rfl, rfl⟩)
               · (intro W' hB hD; exact (HLV.out W' hB).mono fun e w' h => ⟨h.1, h.2⟩)
               simp only [Act.put, List.setIfInBounds_toArray, List.set_cons_zero, List.set_cons_succ]))
          apply GR.gw_nil
          intro Wz hBz hF hP
          have HBz := Lib.hid hBz
          clear hF hP hBz
          go_wp2_with fail
          obtain ⟨k1, rfl⟩ : ∃ m, gk = m + 1 := ⟨gk - 1, by have := HI.out; omega⟩
          go_roundg k1
          case measure => omega
          case rel => exact ⟨i + 1, best, by first | rfl | exact congrArg _ (wrap_next (by have := HH.out.2.1; have := HI.out.1; omega)), rfl, by have := HI.out.2; exact Lib.hid (by omega), Lib.hid ⟨_, by rw [Int.natCast_add]; exact HN.out.1, HN.out.2.1, HN.out.2.2.trans (below_le HBz.out HN.out.2.2.size)⟩⟩
    · have hi2 : ¬ (i : Int) < all.length := by omega
      have he : best = r := by rw [← hr, List.drop_of_length_le (by omega)]; rfl
      subst he
      have HN := Lib.hid hB
      clear hr hbest hB hi
      go_wp2_with fail
      go_ret
      exact ⟨rfl, HN.out⟩
end Go.Proofs.Ytkijjgdcbgmglaa.Q
