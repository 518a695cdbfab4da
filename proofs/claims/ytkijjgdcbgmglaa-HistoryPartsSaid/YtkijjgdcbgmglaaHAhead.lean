/- The last one that left a variable ahead of an event, by hand. -/
import Derived.Test.YtkijjgdcbgmglaaHRight
import Derived.Test.YtkijjgdcbgmglaaHLife
import Derived.Maps.RangeWalk
/-! The last one that left a variable ahead of an event, by hand. -/
namespace Go.Proofs.Ytkijjgdcbgmglaa.Q
open Go.RowKit Go.Lib Go.Maps Go.Proofs.Ytkijjgdcbgmglaa Go.Proofs.YtkijjgdcbgmglaaW.PrintWords Go.Proofs.YtkijjgdcbgmglaaW.PrintLast Go.Proofs.YtkijjgdcbgmglaaW.PrintMore
set_option linter.unusedVariables false
set_option linter.unusedSimpArgs false
/-- What is kept at each round. -/
def WRel (W : World) (all : List Life) (n x r : Int) (i : Nat) (best : Int) (V : World) : Prop :=
  ∃ bfin : Int, writerFrom n x (all.drop i) i best bfin = r ∧ (best < 0 ∨ ∃ (j : Nat) (l : Life), best = j ∧ all[j]? = some l ∧ bfin = l.fin) ∧ Below W.heap.size W V
theorem LivesV.at_row {base : Nat} {W : World} {k : Nat} {A : Option Addr} {c : Nat} {bs : List (Nat × Nat × Nat)} {all : List Life} (h : LivesV base W k (.slice A all.length c) bs all) {i : Nat} {l : Life} (hl : all[i]? = some l) :
    ∃ g b rb wb, A = some ⟨g, 0, none⟩ ∧ bs[i]? = some (b, rb, wb) ∧ W.cell? ⟨g, i, none⟩ = some (ptr b) ∧ LifeAt W b rb wb k l := by
  have hi : i < all.length := (List.getElem?_eq_some_iff.1 hl).1
  obtain ⟨⟨b, rb, wb⟩, hb⟩ : ∃ q, bs[i]? = some q := ⟨_, List.getElem?_eq_getElem (by rw [h.at_.len]; exact hi)⟩
  rcases own_at_ h.row with ⟨e, hz⟩ | ⟨g, c', e, -, -, -, hc⟩
  · omega
  · injection e with e
    exact ⟨g, b, rb, wb, e, hb, (hc i (ptr b) (by rw [List.getElem?_map, hb]; rfl)).1, h.at_.at_ i b rb wb l hb hl⟩
theorem drop_life (l : List Life) {i : Nat} {x : Life} (h : l[i]? = some x) : l.drop i = x :: l.drop (i + 1) := by
  obtain ⟨hi, e⟩ := List.getElem?_eq_some_iff.1 h
  rw [List.drop_eq_getElem_cons hi, e]
set_option maxRecDepth 100000 in
set_option maxHeartbeats 4000000 in
theorem writer_calls (W : World) (base k : Nat) (A : Option Addr) (c : Nat) (bs : List (Nat × Nat × Nat)) (all : List Life) (hL : LivesV base W k (.slice A all.length c) bs all) (hl : all.length ≤ 1000) (n x : Int) (h0 : -9223372036854775808 ≤ x) (h1 : x ≤ 9223372036854775807) :
    Calls Try.prog 49 #[.slice A all.length c, .int .i64 n, .int .i64 x] W fun e w' => e = .returned (.int .i64 (writerL all n x)) ∧ Below W.heap.size W w' := by
  have hu86 := Try.underlying86
  have hu83 := Try.underlying83
  have hu69 := Try.underlying69
  obtain ⟨r, hr⟩ : ∃ r, writerL all n x = r := ⟨_, rfl⟩
  rw [hr]
  have R0 := Lib.hid (show WRel W all n x r 0 (-1) W from ⟨0, hr, .inl (by omega), Below.refl _ _⟩)
  have HH := Lib.hid (And.intro hL (And.intro hl (And.intro h0 h1)))
  clear hr hL hl h0 h1
  go_enter Try.func49, Try.ntmps49
  go_wp2_with fail
  go_loopg [7, 12] all.length (fun kq v7 v12 V => ∃ (i : Nat) (best : Int), v12 = .int .i64 i ∧ v7 = .int .i64 best ∧ Hid (kq + i = all.length) ∧ Hid (WRel W all n x r i best V))
  case atStart => exact ⟨0, -1, rfl, rfl, by simp [Hid], R0⟩
  case round =>
    obtain ⟨i, best, rfl, rfl, hk, hJ⟩ := hrel
    clear R0
    obtain ⟨bfin, hr, hbest, hB⟩ := hJ.out
    clear hJ
    by_cases hi : i < all.length
    · have hi2 : (i : Int) < all.length := by omega
      have hi0 : (0 : Int) ≤ i := by omega
      obtain ⟨l, hli⟩ : ∃ l, all[i]? = some l := ⟨_, List.getElem?_eq_getElem hi⟩
      have hLw := HH.out.1.below hB
      obtain ⟨g, b, rb, wb, rfl, hbi, a0, hA⟩ := hLw.at_row hli
      have HLV := Lib.hid (fun (W' : World) (hW : Below wr.heap.size wr W') => leaves_calls W' b rb wb k l (hA.below hW) x HH.out.2.2.1 HH.out.2.2.2)
      have n1 : ∀ W', Below wr.heap.size wr W' → W'.cell? ⟨b, 1, none⟩ = some (.int .i64 l.fin) := fun W' hB => blk_cell (blk_below hA.hb hB) 1
      have HI := Lib.hid (And.intro hi hk.out)
      rw [drop_life all hli] at hr
      unfold writerFrom at hr
      cases clv : leavesL l x with
      | false =>
        have hr2 : writerFrom n x (all.drop (i + 1)) ((i : Int) + 1) best bfin = r := by rw [if_neg (by rw [clv]; simp)] at hr; exact hr
        rw [clv] at HLV
        have HN := Lib.hid (And.intro hr2 (And.intro hbest hB))
        clear hr hr2 hbest hB hA hLw hli hbi hi hk clv
        go_wp2_with fail
        apply GR.wp_region_grow (R := RB) 29 (by kernel_rfl) (by kernel_rfl) (by kernel_rfl)
        · intro c a d v w h; cases d <;> exact h
        simp only [List.take_succ_cons, List.take_zero, List.drop_succ_cons, List.drop_zero]
        repeat (first
          | (apply GR.gw_skip (by rfl); simp only [Act.put, List.setIfInBounds_toArray, List.set_cons_zero, List.set_cons_succ])
          | (apply GR.gw_val (by rfl); · (intro W' hB hD; go_simp; first | done | rfl)
             simp only [Act.put, List.setIfInBounds_toArray, List.set_cons_zero, List.set_cons_succ])
          | (apply GR.gw_call (by rfl)
             · (intro W' hB hD; go_simp; exact ⟨rfl, rfl⟩)
             · (intro W' hB hD; exact (HLV.out W' hB).mono fun e w' h => ⟨h.1, h.2⟩)
             simp only [Act.put, List.setIfInBounds_toArray, List.set_cons_zero, List.set_cons_succ]))
        apply GR.gw_nil
        intro Wz hBz hF hP
        have HBz := Lib.hid hBz
        clear hF hP hBz
        go_wp2_with fail
        obtain ⟨k1, rfl⟩ : ∃ m, gk = m + 1 := ⟨gk - 1, by have := HI.out; omega⟩
        go_roundg k1
        case measure => omega
        case rel => exact ⟨i + 1, best, by first | rfl | exact congrArg _ (wrap_next (by have := HH.out.2.1; have := HI.out.1; omega)), rfl, by have := HI.out.2; exact Lib.hid (by omega), Lib.hid ⟨_, by rw [Int.natCast_add]; exact HN.out.1, HN.out.2.1, HN.out.2.2.trans (below_le HBz.out HN.out.2.2.size)⟩⟩
      | true =>
        rw [clv] at HLV
        by_cases cf : l.fin < n
        · have cf' : decide (l.fin < n) = true := by simpa using cf
          by_cases cb : best < 0
          · have cb' : decide (best < 0) = true := by simpa using cb
            have hr2 : writerFrom n x (all.drop (i + 1)) ((i : Int) + 1) i l.fin = r := by rw [if_pos ⟨clv, cf, .inl cb⟩] at hr; exact hr
            have HN := Lib.hid (And.intro hr2 (And.intro (show ((i : Int) < 0 ∨ ∃ (j : Nat) (l' : Life), (i : Int) = j ∧ all[j]? = some l' ∧ l.fin = l'.fin) from .inr ⟨i, l, rfl, hli, rfl⟩) hB))
            clear hr hr2 hbest hB hA hLw hli hbi hi hk clv cf cb
            go_wp2_with fail
            apply GR.wp_region_grow (R := RB) 29 (by kernel_rfl) (by kernel_rfl) (by kernel_rfl)
            · intro c a d v w h; cases d <;> exact h
            simp only [List.take_succ_cons, List.take_zero, List.drop_succ_cons, List.drop_zero]
            repeat (first
              | (apply GR.gw_skip (by rfl); simp only [Act.put, List.setIfInBounds_toArray, List.set_cons_zero, List.set_cons_succ])
              | (apply GR.gw_val (by rfl); · (intro W' hB hD; have zn1 := n1 W' hB; go_simp; first | done | rfl)
                 simp only [Act.put, List.setIfInBounds_toArray, List.set_cons_zero, List.set_cons_succ])
              | (apply GR.gw_call (by rfl)
                 · (intro W' hB hD; go_simp; exact ⟨rfl, rfl⟩)
                 · (intro W' hB hD; exact (HLV.out W' hB).mono fun e w' h => ⟨h.1, h.2⟩)
                 simp only [Act.put, List.setIfInBounds_toArray, List.set_cons_zero, List.set_cons_succ]))
            apply GR.gw_nil
            intro Wz hBz hF hP
            have HBz := Lib.hid hBz
            clear hF hP hBz
            go_wp2_with fail
            obtain ⟨k1, rfl⟩ : ∃ m, gk = m + 1 := ⟨gk - 1, by have := HI.out; omega⟩
            go_roundg k1
            case measure => omega
            case rel => exact ⟨i + 1, (i : Int), by first | rfl | exact congrArg _ (wrap_next (by have := HH.out.2.1; have := HI.out.1; omega)), rfl, by have := HI.out.2; exact Lib.hid (by omega), Lib.hid ⟨_, by rw [Int.natCast_add]; exact HN.out.1, HN.out.2.1, HN.out.2.2.trans (below_le HBz.out HN.out.2.2.size)⟩⟩
          · have cb' : decide (best < 0) = false := by simp; omega
            obtain ⟨j, lj, rfl, hlj, rfl⟩ : ∃ (j : Nat) (l : Life), best = j ∧ all[j]? = some l ∧ bfin = l.fin := by rcases hbest with h | h; omega; exact h
            have hj : j < all.length := (List.getElem?_eq_some_iff.1 hlj).1
            have hj2 : (j : Int) < all.length := by omega
            have hj0 : (0 : Int) ≤ j := by omega
            obtain ⟨g2, b2, rb2, wb2, e2, hbj, aj, hAj⟩ := hLw.at_row hlj
            injection e2 with e2
            injection e2 with e2
            subst e2
            have n2 : ∀ W', Below wr.heap.size wr W' → W'.cell? ⟨g, j, none⟩ = some (ptr b2) := fun W' hB => pw_cell_below hB aj
            have n3 : ∀ W', Below wr.heap.size wr W' → W'.cell? ⟨b2, 1, none⟩ = some (.int .i64 lj.fin) := fun W' hB => blk_cell (blk_below hAj.hb hB) 1
            by_cases cg : lj.fin < l.fin
            · have cg' : decide (l.fin > lj.fin) = true := by simpa using cg
              have hr2 : writerFrom n x (all.drop (i + 1)) ((i : Int) + 1) i l.fin = r := by rw [if_pos ⟨clv, cf, .inr cg⟩] at hr; exact hr
              have HN := Lib.hid (And.intro hr2 (And.intro (show ((i : Int) < 0 ∨ ∃ (j : Nat) (l' : Life), (i : Int) = j ∧ all[j]? = some l' ∧ l.fin = l'.fin) from .inr ⟨i, l, rfl, hli, rfl⟩) hB))
              clear hr hr2 hbest hB hA hLw hli hbi hi hk clv cf cb cg hlj hj hbj hAj aj
              go_wp2_with fail
              apply GR.wp_region_grow (R := RB) 29 (by kernel_rfl) (by kernel_rfl) (by kernel_rfl)
              · intro c a d v w h; cases d <;> exact h
              simp only [List.take_succ_cons, List.take_zero, List.drop_succ_cons, List.drop_zero]
              repeat (first
                | (apply GR.gw_skip (by rfl); simp only [Act.put, List.setIfInBounds_toArray, List.set_cons_zero, List.set_cons_succ])
                | (apply GR.gw_val (by rfl); · (intro W' hB hD; have zn1 := n1 W' hB; have zn2 := n2 W' hB; have zn3 := n3 W' hB; go_simp; first | done | rfl)
                   simp only [Act.put, List.setIfInBounds_toArray, List.set_cons_zero, List.set_cons_succ])
                | (apply GR.gw_call (by rfl)
                   · (intro W' hB hD; go_simp; exact ⟨rfl, rfl⟩)
                   · (intro W' hB hD; exact (HLV.out W' hB).mono fun e w' h => ⟨h.1, h.2⟩)
                   simp only [Act.put, List.setIfInBounds_toArray, List.set_cons_zero, List.set_cons_succ]))
              apply GR.gw_nil
              intro Wz hBz hF hP
              have HBz := Lib.hid hBz
              clear hF hP hBz
              go_wp2_with fail
              obtain ⟨k1, rfl⟩ : ∃ m, gk = m + 1 := ⟨gk - 1, by have := HI.out; omega⟩
              go_roundg k1
              case measure => omega
              case rel => exact ⟨i + 1, (i : Int), by first | rfl | exact congrArg _ (wrap_next (by have := HH.out.2.1; have := HI.out.1; omega)), rfl, by have := HI.out.2; exact Lib.hid (by omega), Lib.hid ⟨_, by rw [Int.natCast_add]; exact HN.out.1, HN.out.2.1, HN.out.2.2.trans (below_le HBz.out HN.out.2.2.size)⟩⟩
            · have cg' : decide (l.fin > lj.fin) = false := by simp; omega
              have hr2 : writerFrom n x (all.drop (i + 1)) ((i : Int) + 1) j lj.fin = r := by rw [if_neg (fun h => by rcases h.2.2 with h | h; omega; exact cg h)] at hr; exact hr
              have HN := Lib.hid (And.intro hr2 (And.intro (show ((j : Int) < 0 ∨ ∃ (j' : Nat) (l' : Life), (j : Int) = j' ∧ all[j']? = some l' ∧ lj.fin = l'.fin) from .inr ⟨j, lj, rfl, hlj, rfl⟩) hB))
              clear hr hr2 hbest hB hA hLw hli hbi hi hk clv cf cb cg hlj hj hbj hAj aj
              go_wp2_with fail
              apply GR.wp_region_grow (R := RB) 29 (by kernel_rfl) (by kernel_rfl) (by kernel_rfl)
              · intro c a d v w h; cases d <;> exact h
              simp only [List.take_succ_cons, List.take_zero, List.drop_succ_cons, List.drop_zero]
              repeat (first
                | (apply GR.gw_skip (by rfl); simp only [Act.put, List.setIfInBounds_toArray, List.set_cons_zero, List.set_cons_succ])
                | (apply GR.gw_val (by rfl); · (intro W' hB hD; have zn1 := n1 W' hB; have zn2 := n2 W' hB; have zn3 := n3 W' hB; go_simp; first | done | rfl)
                   simp only [Act.put, List.setIfInBounds_toArray, List.set_cons_zero, List.set_cons_succ])
                | (apply GR.gw_call (by rfl)
                   · (intro W' hB hD; go_simp; exact ⟨rfl, rfl⟩)
                   · (intro W' hB hD; exact (HLV.out W' hB).mono fun e w' h => ⟨h.1, h.2⟩)
                   simp only [Act.put, List.setIfInBounds_toArray, List.set_cons_zero, List.set_cons_succ]))
              apply GR.gw_nil
              intro Wz hBz hF hP
              have HBz := Lib.hid hBz
              clear hF hP hBz
              go_wp2_with fail
              obtain ⟨k1, rfl⟩ : ∃ m, gk = m + 1 := ⟨gk - 1, by have := HI.out; omega⟩
              go_roundg k1
              case measure => omega
              case rel => exact ⟨i + 1, (j : Int), by first | rfl | exact congrArg _ (wrap_next (by have := HH.out.2.1; have := HI.out.1; omega)), rfl, by have := HI.out.2; exact Lib.hid (by omega), Lib.hid ⟨_, by rw [Int.natCast_add]; exact HN.out.1, HN.out.2.1, HN.out.2.2.trans (below_le HBz.out HN.out.2.2.size)⟩⟩
        · have cf' : decide (l.fin < n) = false := by simp; omega
          have hr2 : writerFrom n x (all.drop (i + 1)) ((i : Int) + 1) best bfin = r := by rw [if_neg (fun h => cf h.2.1)] at hr; exact hr
          have HN := Lib.hid (And.intro hr2 (And.intro hbest hB))
          clear hr hr2 hbest hB hA hLw hli hbi hi hk clv cf
          go_wp2_with fail
          apply GR.wp_region_grow (R := RB) 29 (by kernel_rfl) (by kernel_rfl) (by kernel_rfl)
          · intro c a d v w h; cases d <;> exact h
          simp only [List.take_succ_cons, List.take_zero, List.drop_succ_cons, List.drop_zero]
          repeat (first
            | (apply GR.gw_skip (by rfl); simp only [Act.put, List.setIfInBounds_toArray, List.set_cons_zero, List.set_cons_succ])
            | (apply GR.gw_val (by rfl); · (intro W' hB hD; have zn1 := n1 W' hB; go_simp; first | done | rfl)
               simp only [Act.put, List.setIfInBounds_toArray, List.set_cons_zero, List.set_cons_succ])
            | (apply GR.gw_call (by rfl)
               · (intro W' hB hD; go_simp; exact ⟨rfl, rfl⟩)
               · (intro W' hB hD; exact (HLV.out W' hB).mono fun e w' h => ⟨h.1, h.2⟩)
               simp only [Act.put, List.setIfInBounds_toArray, List.set_cons_zero, List.set_cons_succ]))
          apply GR.gw_nil
          intro Wz hBz hF hP
          have HBz := Lib.hid hBz
          clear hF hP hBz
          go_wp2_with fail
          obtain ⟨k1, rfl⟩ : ∃ m, gk = m + 1 := ⟨gk - 1, by have := HI.out; omega⟩
          go_roundg k1
          case measure => omega
          case rel => exact ⟨i + 1, best, by first | rfl | exact congrArg _ (wrap_next (by have := HH.out.2.1; have := HI.out.1; omega)), rfl, by have := HI.out.2; exact Lib.hid (by omega), Lib.hid ⟨_, by rw [Int.natCast_add]; exact HN.out.1, HN.out.2.1, HN.out.2.2.trans (below_le HBz.out HN.out.2.2.size)⟩⟩
    · have hi2 : ¬ (i : Int) < all.length := by omega
      have he : best = r := by rw [← hr, List.drop_of_length_le (by omega)]; rfl
      subst he
      have HN := Lib.hid hB
      clear hr hbest hB hi
      go_wp2_with fail
      go_ret
      exact ⟨rfl, HN.out⟩
end Go.Proofs.Ytkijjgdcbgmglaa.Q

/-! Who has to stand ahead of whom, by hand. -/
namespace Go.Proofs.Ytkijjgdcbgmglaa.Q
open Go.RowKit Go.Lib Go.Maps Go.Proofs.Ytkijjgdcbgmglaa Go.Proofs.YtkijjgdcbgmglaaW.PrintWords Go.Proofs.YtkijjgdcbgmglaaW.PrintLast Go.Proofs.YtkijjgdcbgmglaaW.PrintMore
set_option linter.unusedVariables false
set_option linter.unusedSimpArgs false
theorem ranges_below {H : Type} {W W' : World} {P : Program} {k : TypeId} {R : Value → Option (DataW H × List MemPlace)} {b r n : Nat} {D : DataW H} {left : Lit → Bool} {cnt : Nat} (h : W.ranges P k R b r n D left cnt) (hB : Below W.heap.size W W') : W'.ranges P k R b r n D left cnt := h.kept (grown_of_below hB none) (by simp) (by simp)
/-- Of those that came none is so. -/
def Seen (f : Int → Option Told) (left : Lit → Bool) (p : Int → Told → Bool) : Prop := ∀ x t, f x = some t → left (.int .i64 x) = false → p x t = false
theorem Seen.start {D : DataW Told} {f : Int → Option Told} (hI : IsT D f) (p : Int → Told → Bool) : Seen f (has D) p := by
  intro x t hf hl
  rcases hI.2 x with ⟨s, h1, h2⟩ | ⟨h1, h2⟩
  · rw [has_true_of_atKey h2] at hl
    cases hl
  · rw [h1] at hf
    cases hf
theorem Seen.step {f : Int → Option Told} {left : Lit → Bool} {p : Int → Told → Bool} (h : Seen f left p) {x : Int} {t : Told} (hf : f x = some t) (hp : p x t = false) : Seen f (fun z => left z && !z.sameKey (.int .i64 x)) p := by
  intro y s hy hl
  by_cases e : y = x
  · subst e
    rw [hf] at hy
    injection hy with hy
    subst hy
    exact hp
  · refine h y s hy ?_
    have : (Lit.int .i64 y).sameKey (.int .i64 x) = false := by simp [Lit.sameKey, e]
    simpa [this] using hl
theorem IsT.came {D : DataW Told} {f : Int → Option Told} (hI : IsT D f) {x : Int} {t : Told} (h : ∀ zd, D.atKey (.int .i64 x) zd = .held t) : f x = some t := by
  rcases hI.2 x with ⟨s, h1, h2⟩ | ⟨h1, h2⟩
  · have := h2 (.held t)
    rw [h] at this
    injection this with this
    rw [h1, this]
  · have := h (.map [])
    rw [atKey_of_not_has h2] at this
    cases this
/-- One that is so. -/
def anyT (f : Int → Option Told) (p : Int → Told → Bool) : Bool := (List.range 64).any (fun x => match f x with | some r => p x r | none => false)
theorem anyT_no {f : Int → Option Told} {p : Int → Told → Bool} (h : Seen f (fun _ => false) p) : anyT f p = false := by
  unfold anyT
  rw [List.any_eq_false]
  intro x hx
  cases hf : f x with
  | none => simp
  | some t => simp [h x t hf rfl]
theorem anyT_yes {f : Int → Option Told} {p : Int → Told → Bool} {x : Int} {t : Told} (hf : f x = some t) (h0 : 0 ≤ x) (h1 : x < 64) (hp : p x t = true) : anyT f p = true := by
  unfold anyT
  rw [List.any_eq_true]
  refine ⟨x.toNat, List.mem_range.2 (by omega), ?_⟩
  have : ((x.toNat : Nat) : Int) = x := by omega
  rw [this, hf]
  exact hp
abbrev p1 (all : List Life) (i : Nat) (x : Int) (t : Told) : Bool := decide (writerL all t.at_ x = i)
abbrev p2 (a b : Life) (x : Int) (t : Told) : Bool := leavesL a x && afterL b (commitL a) x
abbrev p3 (b : Life) (x : Int) (t : Told) : Bool := afterL b t.at_ x
theorem ahead_eq {all : List Life} {i j : Nat} {a b : Life} (ha : all[i]? = some a) (hb : all[j]? = some b) :
    aheadL all i j = (decide (0 ≤ a.fin ∧ a.fin < b.beg) || anyT b.reads (p1 all i) || anyT a.writes (p2 a b) || anyT a.reads (p3 b)) := by
  unfold aheadL anyT
  rw [ha, hb]
  dsimp only
  congr 2
  congr 1
  funext x
  cases a.writes x <;> simp
/-- The range over a map, on its way. -/
def RR (base : Nat) (W0 : World) (k mb rr : Nat) (v : Value) (bs : List (Nat × Nat × Nat)) (all : List Life) (f : Int → Option Told) (p : Int → Told → Bool) (cnt : Nat) (V : World) : Prop :=
  ∃ nn D left, V.ranges Try.prog 3 r105 mb rr nn D left cnt ∧ IsT D f ∧ Seen f left p ∧ LivesV base V k v bs all ∧ W0.heap.size ≤ rr ∧ Below W0.heap.size W0 V
theorem range_start {base k : Nat} {W0 V V' : World} {v : Value} {bs : List (Nat × Nat × Nat)} {all : List Life} {f : Int → Option Told} (p : Int → Told → Bool) {mb nn : Nat} {D : DataW Told} (hI : IsT D f) (hL : LivesV base V k v bs all) (hB : Below W0.heap.size W0 V)
    (hr : V'.ranges Try.prog 3 r105 mb V.heap.size nn D (Maps.has D) (Maps.size D)) (hg : V.grownBy V' none) : RR base W0 k mb V.heap.size v bs all f p (Maps.size D) V' := by
  have hBV : Below V.heap.size V V' := (Below.refl _ _).grown hg (Nat.le_refl _) (fun k e => by cases e)
  exact ⟨nn, D, _, hr, hI, Seen.start hI p, hL.below hBV, hB.size, bAfter hB hBV⟩
theorem range_next {base k : Nat} {W0 V V' : World} {v : Value} {bs : List (Nat × Nat × Nat)} {all : List Life} {f : Int → Option Told} {p : Int → Told → Bool} {mb rr nn cnt : Nat} {D : DataW Told} {left : Lit → Bool} (hI : IsT D f) (hS : Seen f left p) (hL : LivesV base V k v bs all) (hlo : W0.heap.size ≤ rr) (hB : Below W0.heap.size W0 V) {x : Int} {t : Told}
    (hrg : V.ranges Try.prog 3 r105 mb rr nn D left cnt) (hat : ∀ zd, D.atKey (.int .i64 x) zd = .held t) (hg : V.grownBy V' (some rr)) : f x = some t ∧ LivesV base V' k v bs all ∧ Below W0.heap.size W0 V' := by
  refine ⟨hI.came hat, ⟨hL.row.kept hg ?_, hL.at_.same fun q hq => hg.block q (hL.at_.lt q hq) fun e => ?_⟩, hB.grown hg hB.size (fun k e => by injection e with e; omega)⟩
  · cases hv : v.ownBlock with
    | none => exact .inl rfl
    | some g =>
      refine .inr fun e => ?_
      injection e with e
      obtain ⟨cs, hc⟩ := own_typed hL.row g hv
      obtain ⟨es, clock, since, seen, c0, -, -, -, -, hr, -⟩ := hrg
      rw [← e, hc] at hr
      cases hr
  · injection e with e
    subst e
    obtain ⟨⟨b, rb, wb⟩, hm, hq⟩ := List.mem_flatMap.1 hq
    obtain ⟨i, hi⟩ := List.mem_iff_getElem?.1 hm
    have hlt : i < all.length := by have := (List.getElem?_eq_some_iff.1 hi).1; rw [← hL.at_.len]; exact this
    have hA := hL.at_.at_ i b rb wb _ hi (List.getElem?_eq_getElem hlt)
    obtain ⟨es, clock, since, seen, c0, -, -, -, -, hr, -⟩ := hrg
    simp only [List.mem_cons, List.not_mem_nil, or_false] at hq
    rcases hq with rfl | rfl | rfl
    · rw [hA.hb] at hr
      cases hr
    · obtain ⟨n', D', ⟨es', cl', h1, -⟩, -⟩ := hA.hr
      rw [h1] at hr
      cases hr
    · obtain ⟨n', D', ⟨es', cl', h1, -⟩, -⟩ := hA.hw
      rw [h1] at hr
      cases hr
set_option maxRecDepth 100000 in
set_option maxHeartbeats 4000000 in
theorem ahead_calls (W : World) (base k : Nat) (A : Option Addr) (c : Nat) (bs : List (Nat × Nat × Nat)) (all : List Life) (hL : LivesV base W k (.slice A all.length c) bs all) (hl : all.length ≤ 1000) (hok : ∀ l ∈ all, LifeOK l) (i j : Nat) (hi : i < all.length) (hj : j < all.length) :
    Calls Try.prog 31 #[.slice A all.length c, .int .i64 i, .int .i64 j] W fun e w' => e = .returned (.bool (aheadL all i j)) ∧ Below W.heap.size W w' := by
  have hu86 := Try.underlying86
  have hu83 := Try.underlying83
  have hu69 := Try.underlying69
  have hu105 := Try.underlying105
  have hu84 := Try.underlying84
  have hk3 := int_keyed Try.underlying3
  obtain ⟨a, hai⟩ : ∃ l, all[i]? = some l := ⟨_, List.getElem?_eq_getElem hi⟩
  obtain ⟨b, hbj⟩ : ∃ l, all[j]? = some l := ⟨_, List.getElem?_eq_getElem hj⟩
  obtain ⟨r, hr⟩ : ∃ r, aheadL all i j = r := ⟨_, rfl⟩
  have HE := Lib.hid (hr.symm.trans (ahead_eq hai hbj))
  rw [hr]
  clear hr
  obtain ⟨g, ab, arb, awb, rfl, hbi, a0, hA⟩ := hL.at_row hai
  obtain ⟨g2, bb, brb, bwb, e2, hbj2, b0, hBA⟩ := hL.at_row hbj
  injection e2 with e2
  injection e2 with e2
  subst e2
  have hoka := hok a (List.mem_of_getElem? hai)
  have hokb := hok b (List.mem_of_getElem? hbj)
  have hi0 : (0 : Int) ≤ i := by omega
  have hi1 : (i : Int) < all.length := by omega
  have hj0 : (0 : Int) ≤ j := by omega
  have hj1 : (j : Int) < all.length := by omega
  have n1 : ∀ W', Below W.heap.size W W' → W'.cell? ⟨g, i, none⟩ = some (ptr ab) := fun W' hB => pw_cell_below hB a0
  have n2 : ∀ W', Below W.heap.size W W' → W'.cell? ⟨g, j, none⟩ = some (ptr bb) := fun W' hB => pw_cell_below hB b0
  have HH := Lib.hid (And.intro hL (And.intro hl (And.intro hoka (And.intro hokb (And.intro hA hBA)))))
  have HAI := Lib.hid (And.intro hbi (And.intro hbj2 (And.intro hai hbj)))
  clear hL hl hok hoka hokb hA hBA hai hbj hbi hbj2 hi hj a0 b0
  go_enter Try.func31, Try.ntmps31
  go_wp2_with fail
  apply GR.wp_region_grow (R := RB) 10 (by kernel_rfl) (by kernel_rfl) (by kernel_rfl)
  · intro c a d v w h; cases d <;> exact h
  simp only [List.take_succ_cons, List.take_zero, List.drop_succ_cons, List.drop_zero]
  repeat (first
    | (apply GR.gw_skip (by rfl); simp only [Act.put, List.setIfInBounds_toArray, List.set_cons_zero, List.set_cons_succ])
    | (apply GR.gw_val (by rfl); · (intro W' hB hD; have zn1 := n1 W' hB; have zn2 := n2 W' hB; go_simp; first | done | rfl)
       simp only [Act.put, List.setIfInBounds_toArray, List.set_cons_zero, List.set_cons_succ]))
  apply GR.gw_nil
  intro Wz hBz hF hP
  have HB1 := Lib.hid hBz
  clear hF hP hBz n1 n2
  have n3 : ∀ W', Below Wz.heap.size Wz W' → W'.cell? ⟨ab, 1, none⟩ = some (.int .i64 a.fin) := fun W' hB => blk_cell (blk_below HH.out.2.2.2.2.1.hb (bAfter HB1.out hB)) 1
  have n4 : ∀ W', Below Wz.heap.size Wz W' → W'.cell? ⟨bb, 0, none⟩ = some (.int .i64 b.beg) := fun W' hB => blk_cell (blk_below HH.out.2.2.2.2.2.hb (bAfter HB1.out hB)) 0
  have hcases : (decide (a.fin ≥ 0) = true ∧ decide (a.fin < b.beg) = true ∧ decide (0 ≤ a.fin ∧ a.fin < b.beg) = true) ∨ (decide (a.fin ≥ 0) = true ∧ decide (a.fin < b.beg) = false ∧ decide (0 ≤ a.fin ∧ a.fin < b.beg) = false) ∨ (decide (a.fin ≥ 0) = false ∧ decide (0 ≤ a.fin ∧ a.fin < b.beg) = false) := by
    by_cases c1 : 0 ≤ a.fin
    · by_cases c2 : a.fin < b.beg
      · exact .inl ⟨by simpa using c1, by simpa using c2, by simp [c1, c2]⟩
      · exact .inr (.inl ⟨by simpa using c1, by simpa using c2, by simp [c1, c2]⟩)
    · exact .inr (.inr ⟨by simpa using c1, by simp [c1]⟩)
  rcases hcases with ⟨c1, c2, hd⟩ | ⟨c1, c2, hd⟩ | ⟨c1, hd⟩
  · have HR := Lib.hid (show r = true by rw [HE.out, hd]; simp)
    clear hd
    go_wp2_with fail
    apply GR.wp_region_grow (R := RB) 16 (by kernel_rfl) (by kernel_rfl) (by kernel_rfl)
    · intro c a d v w h; cases d <;> exact h
    simp only [List.take_succ_cons, List.take_zero, List.drop_succ_cons, List.drop_zero]
    repeat (first
      | (apply GR.gw_skip (by rfl); simp only [Act.put, List.setIfInBounds_toArray, List.set_cons_zero, List.set_cons_succ])
      | (apply GR.gw_val (by rfl); · (intro W' hB hD; have zn3 := n3 W' hB; have zn4 := n4 W' hB; go_simp; first | done | rfl)
         simp only [Act.put, List.setIfInBounds_toArray, List.set_cons_zero, List.set_cons_succ]))
    apply GR.gw_nil
    intro Wz hBz hF hP
    have HB2 := Lib.hid (bAfter HB1.out hBz)
    clear hF hP hBz n3 n4
    go_wp2_with fail
    go_ret
    exact ⟨by rw [HR.out]; first | rfl | simp, HB2.out⟩
  all_goals
    have HR := Lib.hid hd
    clear hd
    go_wp2_with fail
    apply GR.wp_region_grow (R := RB) 16 (by kernel_rfl) (by kernel_rfl) (by kernel_rfl)
    · intro c a d v w h; cases d <;> exact h
    simp only [List.take_succ_cons, List.take_zero, List.drop_succ_cons, List.drop_zero]
    repeat (first
      | (apply GR.gw_skip (by rfl); simp only [Act.put, List.setIfInBounds_toArray, List.set_cons_zero, List.set_cons_succ])
      | (apply GR.gw_val (by rfl); · (intro W' hB hD; have zn3 := n3 W' hB; have zn4 := n4 W' hB; go_simp; first | done | rfl)
         simp only [Act.put, List.setIfInBounds_toArray, List.set_cons_zero, List.set_cons_succ]))
    apply GR.gw_nil
    intro Wz hBz hF hP
    have HB2 := Lib.hid (bAfter HB1.out hBz)
    clear hF hP hBz n3 n4
    have hL_2 := HH.out.1.below HB2.out
    have hM_2 := HH.out.2.2.2.2.2.below HB2.out
    obtain ⟨nn_2, D_2, hown_2, hI_2, hm_2⟩ := hM_2.hr
    have mc_2 : Wz.cell? ⟨bb, 3, none⟩ = some (.map (some brb)) := blk_cell hM_2.hb 3
    have HI_2 := Lib.hid (And.intro hI_2 hL_2)
    clear hI_2 hm_2 hM_2 hL_2
    go_wp2_with (at_range; refine wpList_range_own _ rfl _ 84 rfl 3 105 hk3 hu84 r105 brb nn_2 _ rfl hown_2 ?_; intro w3_2 hrg3 hg3 hs3)
    have HS_2 := Lib.hid (range_start (p1 all i) HI_2.out.1 HI_2.out.2 HB2.out hrg3 hg3)
    clear hrg3 hg3 hs3 mc_2 hown_2
    go_frame
    go_loopg [44] (Maps.size D_2) (fun kq _ V => Hid (RR base W k brb Wz.heap.size (.slice (some ⟨g, 0, none⟩) all.length c) bs all b.reads (p1 all i) kq V))
    case atStart => exact HS_2
    case round =>
      clear HS_2
      obtain ⟨nn2, D2, left, hrg, hI, hS, hLv, hlo, hB⟩ := hrel.out
      have HX_2 := Lib.hid (And.intro hI (And.intro hS (And.intro hLv (And.intro hlo hB))))
      clear hI hS hLv hlo hB hrel
      go_wp2_with (at_next; refine wpList_next_ranges _ rfl _ rfl 3 hk3 r105 (Value.int .i64) v105 (fun key kl hk => by obtain ⟨x, hx, _⟩ := Maps.keyOf_int_inv Try.underlying3 hk; exact ⟨x, hx⟩) (fun v y hv => by obtain ⟨t, rfl, _⟩ := r105_inv hv; exact ⟨t, rfl⟩) brb Wz.heap.size nn2 D2 left gk rfl hrg ?_ ?_)
      · intro hc0 hl0
        have hl1 : left = fun _ => false := funext hl0
        have HN_2 := Lib.hid (show anyT b.reads (p1 all i) = false from anyT_no (hl1 ▸ HX_2.out.2.1))
        have HB2x := Lib.hid HX_2.out.2.2.2.2
        clear hl0 hl1 hc0 hrg
        have HB3 := HB2x
        clear HB2x
        obtain ⟨V_3, hV_3⟩ : ∃ V, V = wr := ⟨_, rfl⟩
        subst hV_3
        have hL_3 := HH.out.1.below HB3.out
        have hM_3 := HH.out.2.2.2.2.1.below HB3.out
        obtain ⟨nn_3, D_3, hown_3, hI_3, hm_3⟩ := hM_3.hw
        have mc_3 : V_3.cell? ⟨ab, 4, none⟩ = some (.map (some awb)) := blk_cell hM_3.hb 4
        have HI_3 := Lib.hid (And.intro hI_3 hL_3)
        clear hI_3 hm_3 hM_3 hL_3
        go_wp2_with (at_range; refine wpList_range_own _ rfl _ 84 rfl 3 105 hk3 hu84 r105 awb nn_3 _ rfl hown_3 ?_; intro w3_3 hrg3 hg3 hs3)
        have HS_3 := Lib.hid (range_start (p2 a b) HI_3.out.1 HI_3.out.2 HB3.out hrg3 hg3)
        clear hrg3 hg3 hs3 mc_3 hown_3
        go_frame
        go_loopg [61] (Maps.size D_3) (fun kq _ V => Hid (RR base W k awb V_3.heap.size (.slice (some ⟨g, 0, none⟩) all.length c) bs all a.writes (p2 a b) kq V))
        case atStart => exact HS_3
        case round =>
          clear HS_3
          obtain ⟨nn2, D2, left, hrg, hI, hS, hLv, hlo, hB⟩ := hrel.out
          have HX_3 := Lib.hid (And.intro hI (And.intro hS (And.intro hLv (And.intro hlo hB))))
          clear hI hS hLv hlo hB hrel
          go_wp2_with (at_next; refine wpList_next_ranges _ rfl _ rfl 3 hk3 r105 (Value.int .i64) v105 (fun key kl hk => by obtain ⟨x, hx, _⟩ := Maps.keyOf_int_inv Try.underlying3 hk; exact ⟨x, hx⟩) (fun v y hv => by obtain ⟨t, rfl, _⟩ := r105_inv hv; exact ⟨t, rfl⟩) awb V_3.heap.size nn2 D2 left gk rfl hrg ?_ ?_)
          · intro hc0 hl0
            have hl1 : left = fun _ => false := funext hl0
            have HN_3 := Lib.hid (show anyT a.writes (p2 a b) = false from anyT_no (hl1 ▸ HX_3.out.2.1))
            have HB3x := Lib.hid HX_3.out.2.2.2.2
            clear hl0 hl1 hc0 hrg
            have HB4 := HB3x
            clear HB3x
            obtain ⟨V_4, hV_4⟩ : ∃ V, V = wr := ⟨_, rfl⟩
            subst hV_4
            have hL_4 := HH.out.1.below HB4.out
            have hM_4 := HH.out.2.2.2.2.1.below HB4.out
            obtain ⟨nn_4, D_4, hown_4, hI_4, hm_4⟩ := hM_4.hr
            have mc_4 : V_4.cell? ⟨ab, 3, none⟩ = some (.map (some arb)) := blk_cell hM_4.hb 3
            have HI_4 := Lib.hid (And.intro hI_4 hL_4)
            clear hI_4 hm_4 hM_4 hL_4
            go_wp2_with (at_range; refine wpList_range_own _ rfl _ 84 rfl 3 105 hk3 hu84 r105 arb nn_4 _ rfl hown_4 ?_; intro w3_4 hrg3 hg3 hs3)
            have HS_4 := Lib.hid (range_start (p3 b) HI_4.out.1 HI_4.out.2 HB4.out hrg3 hg3)
            clear hrg3 hg3 hs3 mc_4 hown_4
            go_frame
            go_loopg [80] (Maps.size D_4) (fun kq _ V => Hid (RR base W k arb V_4.heap.size (.slice (some ⟨g, 0, none⟩) all.length c) bs all a.reads (p3 b) kq V))
            case atStart => exact HS_4
            case round =>
              clear HS_4
              obtain ⟨nn2, D2, left, hrg, hI, hS, hLv, hlo, hB⟩ := hrel.out
              have HX_4 := Lib.hid (And.intro hI (And.intro hS (And.intro hLv (And.intro hlo hB))))
              clear hI hS hLv hlo hB hrel
              go_wp2_with (at_next; refine wpList_next_ranges _ rfl _ rfl 3 hk3 r105 (Value.int .i64) v105 (fun key kl hk => by obtain ⟨x, hx, _⟩ := Maps.keyOf_int_inv Try.underlying3 hk; exact ⟨x, hx⟩) (fun v y hv => by obtain ⟨t, rfl, _⟩ := r105_inv hv; exact ⟨t, rfl⟩) arb V_4.heap.size nn2 D2 left gk rfl hrg ?_ ?_)
              · intro hc0 hl0
                have hl1 : left = fun _ => false := funext hl0
                have HN_4 := Lib.hid (show anyT a.reads (p3 b) = false from anyT_no (hl1 ▸ HX_4.out.2.1))
                have HB4x := Lib.hid HX_4.out.2.2.2.2
                clear hl0 hl1 hc0 hrg
                have HT := Lib.hid (show r = false by rw [HE.out, HR.out, HN_2.out, HN_3.out, HN_4.out]; rfl)
                go_wp2_with fail
                go_ret
                exact ⟨by rw [HT.out]; first | rfl | simp, HB4x.out⟩
              · intro x t kl yd yp w4 cnt2 hkey hlk hv hat hrg4 hlt hg4 hs4 hen
                obtain ⟨x', ex, rfl, _⟩ := Maps.keyOf_int_inv Try.underlying3 hkey
                cases ex
                rw [r105_mk] at hv
                obtain ⟨rfl, rfl⟩ := Prod.mk.inj (Option.some.inj hv)
                have hnx := range_next HX_4.out.1 HX_4.out.2.1 HX_4.out.2.2.1 HX_4.out.2.2.2.1 HX_4.out.2.2.2.2 hrg hat hg4
                obtain ⟨ta, tx, ⟨t0, t1⟩, tw⟩ := t
                dsimp only [v105] at hen
                have HY_4 := Lib.hid (And.intro hnx (And.intro hrg4 (And.intro hlt hlk)))
                clear hnx hrg4 hlt hlk hg4 hs4 hat hrg hkey hv
                have hx := (HH.out.2.2.1).r x _ HY_4.out.1.1
                obtain ⟨W5, hW5, K5, hB5⟩ : ∃ V, w4.alloc (.cells #[.int .i64 ta, .int .i64 tx, .int .i64 t0, .int .i64 t1, .bool tw] 105) = V ∧ V.heap[w4.heap.size]? = some (.cells #[.int .i64 ta, .int .i64 tx, .int .i64 t0, .int .i64 t1, .bool tw] 105 (0, 0)) ∧ Below w4.heap.size w4 V := ⟨_, rfl, heap_alloc_new _ _, bOne _⟩
                have k5 : W5.cell? ⟨w4.heap.size, 0, none⟩ = some (.int .i64 ta) := blk_cell K5 0
                have haf := after_calls W5 bb brb bwb k b ((HH.out.2.2.2.2.2).below (bAfter HY_4.out.1.2.2 hB5)) ta x (by omega) (by omega)
                have hp3 : p3 b x ⟨ta, tx, ⟨t0, t1⟩, tw⟩ = afterL b ta x := rfl
                generalize afterL b ta x = af at *
                have HAF := Lib.hid haf
                have HQ := Lib.hid (And.intro hp3 (And.intro hx.1 (And.intro hx.2.1 hB5)))
                clear haf hp3 hx K5 hB5
                go_wp2_with fail
                refine HAF.out.mono ?_
                rintro e w6 ⟨rfl, hB6⟩
                have HB6 := Lib.hid (bAfter HQ.out.2.2.2 hB6)
                clear hB6 HAF k5
                cases af with
                | true =>
                  have HT := Lib.hid (show r = true by rw [HE.out, anyT_yes HY_4.out.1.1 HQ.out.2.1 HQ.out.2.2.1 (HQ.out.1.trans rfl)]; simp)
                  have HO := Lib.hid (bAfter HY_4.out.1.2.2 HB6.out)
                  go_wp2_with fail
                  go_ret
                  exact ⟨by rw [HT.out]; first | rfl | simp, HO.out⟩
                | false =>
                  have HZ := Lib.hid (show RR base W k arb V_4.heap.size (.slice (some ⟨g, 0, none⟩) all.length c) bs all a.reads (p3 b) cnt2 w6 from ⟨_, _, _, ranges_below HY_4.out.2.1 HB6.out, HX_4.out.1, HX_4.out.2.1.step HY_4.out.1.1 (by rw [HQ.out.1]), HY_4.out.1.2.1.below HB6.out, HX_4.out.2.2.2.1, bAfter HY_4.out.1.2.2 HB6.out⟩)
                  go_wp2_with fail
                  go_roundg cnt2
                  case measure => exact HY_4.out.2.2.1
                  case rel => exact HZ
          · intro x t kl yd yp w4 cnt2 hkey hlk hv hat hrg4 hlt hg4 hs4 hen
            obtain ⟨x', ex, rfl, _⟩ := Maps.keyOf_int_inv Try.underlying3 hkey
            cases ex
            rw [r105_mk] at hv
            obtain ⟨rfl, rfl⟩ := Prod.mk.inj (Option.some.inj hv)
            have hnx := range_next HX_3.out.1 HX_3.out.2.1 HX_3.out.2.2.1 HX_3.out.2.2.2.1 HX_3.out.2.2.2.2 hrg hat hg4
            obtain ⟨ta, tx, ⟨t0, t1⟩, tw⟩ := t
            dsimp only [v105] at hen
            have HY_3 := Lib.hid (And.intro hnx (And.intro hrg4 (And.intro hlt hlk)))
            clear hnx hrg4 hlt hlk hg4 hs4 hat hrg hkey hv
            have hx := (HH.out.2.2.1).w x _ HY_3.out.1.1
            have HQ := Lib.hid (And.intro hx.1 hx.2.1)
            have hA4 := (HH.out.2.2.2.2.1).below HY_3.out.1.2.2
            have hB4 := (HH.out.2.2.2.2.2).below HY_3.out.1.2.2
            have hlv := leaves_calls w4 ab arb awb k a hA4 x (by omega) (by omega)
            have hco : ∀ V, Below w4.heap.size w4 V → Calls Try.prog 52 #[ptr ab] V fun e w' => e = .returned (.int .i64 (commitL a)) ∧ Below V.heap.size V w' := fun V hV => commit_calls V ab arb awb k a (hA4.below hV)
            have haf : ∀ V, Below w4.heap.size w4 V → Calls Try.prog 51 #[ptr bb, .int .i64 (commitL a), .int .i64 x] V fun e w' => e = .returned (.bool (afterL b (commitL a) x)) ∧ Below V.heap.size V w' := fun V hV => after_calls V bb brb bwb k b (hB4.below hV) (commitL a) x (by omega) (by omega)
            have hp2 : p2 a b x ⟨ta, tx, ⟨t0, t1⟩, tw⟩ = (leavesL a x && afterL b (commitL a) x) := rfl
            generalize leavesL a x = lv at *
            generalize afterL b (commitL a) x = af at *
            generalize commitL a = cm at *
            have HLV := Lib.hid hlv
            have HCO := Lib.hid hco
            have HAF := Lib.hid haf
            have HP2 := Lib.hid hp2
            clear hlv hco haf hp2 hA4 hB4 hx
            cases lv with
            | false =>
              go_wp2_with fail
              refine HLV.out.mono ?_
              rintro e w5 ⟨rfl, hB5⟩
              have HB5 := Lib.hid hB5
              clear hB5
              have HZ := Lib.hid (show RR base W k awb V_3.heap.size (.slice (some ⟨g, 0, none⟩) all.length c) bs all a.writes (p2 a b) cnt2 w5 from ⟨_, _, _, ranges_below HY_3.out.2.1 HB5.out, HX_3.out.1, HX_3.out.2.1.step HY_3.out.1.1 (by rw [HP2.out]; rfl), HY_3.out.1.2.1.below HB5.out, HX_3.out.2.2.2.1, bAfter HY_3.out.1.2.2 HB5.out⟩)
              go_wp2_with fail
              go_roundg cnt2
              case measure => exact HY_3.out.2.2.1
              case rel => exact HZ
            | true =>
              go_wp2_with fail
              refine HLV.out.mono ?_
              rintro e w5 ⟨rfl, hB5⟩
              have HB5 := Lib.hid hB5
              clear hB5
              go_wp2_with fail
              refine (HCO.out w5 HB5.out).mono ?_
              rintro e w6 ⟨rfl, hB6⟩
              have HB6 := Lib.hid (bAfter HB5.out hB6)
              clear hB6
              go_wp2_with fail
              refine (HAF.out w6 HB6.out).mono ?_
              rintro e w7 ⟨rfl, hB7⟩
              have HB7 := Lib.hid (bAfter HB6.out hB7)
              clear hB7
              cases af with
              | true =>
                have HT := Lib.hid (show r = true by rw [HE.out, anyT_yes HY_3.out.1.1 HQ.out.1 HQ.out.2 (HP2.out.trans rfl)]; simp)
                have HO := Lib.hid (bAfter HY_3.out.1.2.2 HB7.out)
                go_wp2_with fail
                go_ret
                exact ⟨by rw [HT.out]; first | rfl | simp, HO.out⟩
              | false =>
                have HZ := Lib.hid (show RR base W k awb V_3.heap.size (.slice (some ⟨g, 0, none⟩) all.length c) bs all a.writes (p2 a b) cnt2 w7 from ⟨_, _, _, ranges_below HY_3.out.2.1 HB7.out, HX_3.out.1, HX_3.out.2.1.step HY_3.out.1.1 (by rw [HP2.out]; rfl), HY_3.out.1.2.1.below HB7.out, HX_3.out.2.2.2.1, bAfter HY_3.out.1.2.2 HB7.out⟩)
                go_wp2_with fail
                go_roundg cnt2
                case measure => exact HY_3.out.2.2.1
                case rel => exact HZ
      · intro x t kl yd yp w4 cnt2 hkey hlk hv hat hrg4 hlt hg4 hs4 hen
        obtain ⟨x', ex, rfl, _⟩ := Maps.keyOf_int_inv Try.underlying3 hkey
        cases ex
        rw [r105_mk] at hv
        obtain ⟨rfl, rfl⟩ := Prod.mk.inj (Option.some.inj hv)
        have hnx := range_next HX_2.out.1 HX_2.out.2.1 HX_2.out.2.2.1 HX_2.out.2.2.2.1 HX_2.out.2.2.2.2 hrg hat hg4
        obtain ⟨ta, tx, ⟨t0, t1⟩, tw⟩ := t
        dsimp only [v105] at hen
        have HY_2 := Lib.hid (And.intro hnx (And.intro hrg4 (And.intro hlt hlk)))
        clear hnx hrg4 hlt hlk hg4 hs4 hat hrg hkey hv
        have hx := (HH.out.2.2.2.1).r x _ HY_2.out.1.1
        obtain ⟨W5, hW5, K5, hB5⟩ : ∃ V, w4.alloc (.cells #[.int .i64 ta, .int .i64 tx, .int .i64 t0, .int .i64 t1, .bool tw] 105) = V ∧ V.heap[w4.heap.size]? = some (.cells #[.int .i64 ta, .int .i64 tx, .int .i64 t0, .int .i64 t1, .bool tw] 105 (0, 0)) ∧ Below w4.heap.size w4 V := ⟨_, rfl, heap_alloc_new _ _, bOne _⟩
        have k5 : W5.cell? ⟨w4.heap.size, 0, none⟩ = some (.int .i64 ta) := blk_cell K5 0
        obtain ⟨q, hq⟩ : ∃ q, writerL all ta x = q := ⟨_, rfl⟩
        have hwc := writer_calls W5 base k _ c bs all (HY_2.out.1.2.1.below hB5) HH.out.2.1 ta x (by omega) (by omega)
        rw [hq] at hwc
        have HW := Lib.hid hwc
        have HQ := Lib.hid (And.intro hq (And.intro hx.1 (And.intro hx.2.1 hB5)))
        clear hq hwc hx K5 hB5
        go_wp2_with fail
        refine HW.out.mono ?_
        rintro e w6 ⟨rfl, hB6⟩
        have HB6 := Lib.hid hB6
        clear hB6 HW k5
        cases hqi : (q == (i : Int)) with
        | true =>
          have HT := Lib.hid (show r = true by
            have h1 : p1 all i x ⟨ta, tx, ⟨t0, t1⟩, tw⟩ = true := by show decide (writerL all ta x = i) = true; rw [HQ.out.1]; exact hqi
            rw [HE.out, anyT_yes HY_2.out.1.1 HQ.out.2.1 HQ.out.2.2.1 h1]; simp)
          have HO := Lib.hid (bAfter HY_2.out.1.2.2 (bAfter HQ.out.2.2.2 HB6.out))
          go_wp2_with fail
          go_ret
          exact ⟨by rw [HT.out]; first | rfl | simp, HO.out⟩
        | false =>
          have HZ := Lib.hid (show RR base W k brb Wz.heap.size (.slice (some ⟨g, 0, none⟩) all.length c) bs all b.reads (p1 all i) cnt2 w6 from ⟨_, _, _, ranges_below HY_2.out.2.1 (bAfter HQ.out.2.2.2 HB6.out), HX_2.out.1, HX_2.out.2.1.step HY_2.out.1.1 (show decide (writerL all ta x = i) = false from by rw [HQ.out.1]; exact hqi), HY_2.out.1.2.1.below (bAfter HQ.out.2.2.2 HB6.out), HX_2.out.2.2.2.1, bAfter HY_2.out.1.2.2 (bAfter HQ.out.2.2.2 HB6.out)⟩)
          go_wp2_with fail
          go_roundg cnt2
          case measure => exact HY_2.out.2.2.1
          case rel => exact HZ
end Go.Proofs.Ytkijjgdcbgmglaa.Q
