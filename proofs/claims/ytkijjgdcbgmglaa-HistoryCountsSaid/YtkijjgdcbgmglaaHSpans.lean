/- From when to when each was, by hand. -/
import Derived.Test.YtkijjgdcbgmglaaHRight
import Derived.Test.YtkijjgdcbgmglaaHWriter
import Derived.Test.YtkijjgdcbgmglaaSpanW
import Derived.Laws.Cover2
namespace Go.Proofs.Ytkijjgdcbgmglaa.Q
open Go.RowKit Go.Lib Go.Maps Go.Proofs.Ytkijjgdcbgmglaa Go.Proofs.YtkijjgdcbgmglaaW.PrintWords Go.Proofs.YtkijjgdcbgmglaaW.PrintLast Go.Proofs.YtkijjgdcbgmglaaW.PrintMore
set_option linter.unusedVariables false
set_option linter.unusedSimpArgs false
/-- When it began, when it was over. -/
structure LifeT (n : Int) (l : Life) : Prop where
  b0 : 0 ≤ l.beg
  b1 : l.beg < n
  e : l.fin = -1 ∧ l.com = false ∨ l.beg < l.fin ∧ l.fin < n
theorem LifeT.more {n m : Int} {l : Life} (h : LifeT n l) (k : n ≤ m) : LifeT m l := ⟨h.b0, by have := h.b1; omega, by rcases h.e with h | h; exact .inl h; exact .inr ⟨h.1, by omega⟩⟩
theorem stepL_t {l : Life} {n m : Int} {e : S44} (h : LifeT m l) : LifeT m (stepL l n e).1 := by
  unfold stepL
  split
  · exact h
  split
  · exact ⟨h.b0, h.b1, h.e⟩
  split
  · exact ⟨h.b0, h.b1, h.e⟩
  · exact h
theorem takeL_t {all : List Life} {n : Int} {e : S44} (h0 : 0 ≤ n) (h : ∀ l ∈ all, LifeT n l) : ∀ l ∈ (takeL all n e).1, LifeT (n + 1) l := by
  have hm : ∀ l ∈ all, LifeT (n + 1) l := fun l hl => (h l hl).more (by omega)
  unfold takeL
  split
  · intro l hl
    rcases List.mem_append.1 hl with h1 | h1
    · exact hm l h1
    · obtain rfl := List.mem_singleton.1 h1
      exact ⟨h0, by show n < n + 1; omega, .inl ⟨rfl, rfl⟩⟩
  split
  · exact hm
  split
  · exact hm
  rename_i l0 hl0
  have h1 := h l0 (List.mem_of_getElem? hl0)
  have h2 := hm l0 (List.mem_of_getElem? hl0)
  split
  · exact hm
  split
  · intro l hl
    rcases List.mem_or_eq_of_mem_set hl with h1 | rfl
    · exact hm l h1
    · exact stepL_t h2
  split
  · intro l hl
    rcases List.mem_or_eq_of_mem_set hl with h3 | rfl
    · exact hm l h3
    · exact ⟨h1.b0, by have := h1.b1; show l0.beg < n + 1; omega, .inr ⟨h1.b1, by show n < n + 1; omega⟩⟩
  · exact hm
theorem livesFrom_t : ∀ (h : List S44) (n : Int) (all r : List Life), 0 ≤ n → livesFrom h n all = some r → (∀ l ∈ all, LifeT n l) → ∀ l ∈ r, LifeT (n + h.length) l
  | [], n, all, r, _, h, h1 => by
    injection h with h
    subst h
    simpa using h1
  | e :: h, n, all, r, h0, hr, h1 => by
    unfold livesFrom at hr
    split at hr
    · have := livesFrom_t h (n + 1) _ r (by omega) hr (takeL_t h0 h1)
      intro l hl
      have h2 := this l hl
      rw [List.length_cons]
      exact h2.more (by push_cast; omega)
    · cases hr
theorem allL_t (h : List S44) : ∀ l ∈ allL h, LifeT 2000 l := by
  unfold allL livedL
  split
  · intro l hl
    simp at hl
  · rename_i hlen
    cases hr : livesFrom h 0 [] with
    | none => intro l hl; simp at hl
    | some r =>
      intro l hl
      exact (livesFrom_t h 0 [] r (by omega) hr (fun l hl => by simp at hl) l hl).more (by omega)
/-- From when to when; what is not over ends never. -/
def spL (l : Life) : Nat × Nat := (l.beg.toNat, if l.fin < 0 then 9007199254740992 else l.fin.toNat)
def spC (l : Life) : Value := .complex .f64 (fo (spL l).1) (fo (spL l).2)
theorem spL_cs {l : Life} (h : LifeT 2000 l) : CS (fo (spL l).1) (fo (spL l).2) (some (spL l)) := by
  have h1 := h.b0
  have h2 := h.b1
  refine CS.some ?_ ?_
  · unfold spL
    dsimp only
    split
    · omega
    · rcases h.e with h | h <;> omega
  · unfold spL
    dsimp only
    split
    · exact Nat.le_refl _
    · rcases h.e with h | h <;> (show _ ≤ 9007199254740992; omega)
theorem info51 : (Try.prog.info? 51).map (fun i => (i.zero, i.size, i.bytes)) = some (some (.complex .f64 0 0), 1, 16) := by kernel_rfl
set_option maxRecDepth 100000 in
set_option maxHeartbeats 2000000 in
theorem spans_calls (A0 : Option Addr) (c0 : Nat) (h : List S44) (w : World) (hC : Kd.C k44 w A0 h.length h) :
    Calls Try.prog 16 #[.slice A0 h.length c0] w fun e w' => ∃ v : Value, e = .returned v ∧ w'.ownsRow w.heap.size 51 1 v (allL h).length ((allL h).map spC) ∧ Below w.heap.size w w' := by
  have hu86 := Try.underlying86
  have hu83 := Try.underlying83
  have hu69 := Try.underlying69
  have hu88 := Try.underlying88
  have HC := Lib.hid (lived_all A0 c0 h w hC)
  have HO := Lib.hid (And.intro (allL_ok h).1 (allL_t h))
  generalize allL h = all at *
  clear hC
  go_enter Try.func16, Try.ntmps16
  go_wp2_with fail
  refine HC.out.mono ?_
  rintro e w1 ⟨A, c, bs, rfl, hL, hB⟩
  have HB := Lib.hid (And.intro hL hB)
  clear hL hB HC
  go_wp2_with fail
  go_loopg [2, 15] all.length (fun kq v2 v15 V => ∃ i : Nat, v15 = .int .i64 i ∧ Hid (kq + i = all.length) ∧ Hid (V.ownsRow w.heap.size 51 1 v2 i ((all.map spC).take i) ∧ LivesV w.heap.size V 2000 (.slice A all.length c) bs all ∧ Below w.heap.size w V))
  case atStart => exact ⟨0, rfl, by simp [Hid], Lib.hid ⟨own_nil _ _ _ _, HB.out.1, HB.out.2⟩⟩
  case round =>
    obtain ⟨i, rfl, hk, hJ⟩ := hrel
    clear HB
    have hi0 : (0 : Int) ≤ i := by omega
    by_cases hi : i < all.length
    · have hi2 : (i : Int) < all.length := by omega
      obtain ⟨l, hli⟩ : ∃ l, all[i]? = some l := ⟨_, List.getElem?_eq_getElem hi⟩
      obtain ⟨g, b, rb, wb, rfl, hbi, a0, hA⟩ := hJ.out.2.1.at_row hli
      have hlt := HO.out.2 l (List.mem_of_getElem? hli)
      have HI := Lib.hid (And.intro hi (And.intro hk.out (And.intro hli hlt)))
      obtain ⟨p, hp⟩ : ∃ p : Nat, l.beg = p := ⟨l.beg.toNat, by have := hlt.b0; omega⟩
      have hfp := ofInt_fo p
      have n1 : ∀ W', Below wr.heap.size wr W' → W'.cell? ⟨b, 0, none⟩ = some (.int .i64 (p : Int)) := fun W' hB => by rw [← hp]; exact blk_cell (blk_below hA.hb hB) 0
      have n2 : ∀ W', Below wr.heap.size wr W' → W'.cell? ⟨b, 1, none⟩ = some (.int .i64 l.fin) := fun W' hB => blk_cell (blk_below hA.hb hB) 1
      by_cases hf : l.fin < 0
      · have hf' : decide (l.fin < 0) = true := by simpa using hf
        have hsp : spC l = .complex .f64 (fo p) 4845873199050653696 := by unfold spC spL; rw [if_pos hf, hp]; dsimp only; rw [fo_top]; rfl
        have HS := Lib.hid hsp
        have HX := Lib.hid hp
        obtain ⟨q, hq⟩ : ∃ q, floatOfInt .f64 l.fin = q := ⟨_, rfl⟩
        clear hsp hp hi hk hli hlt hA hbi hf
        go_wp2_with fail
        apply GR.wp_region_grow (R := RB) 12 (by kernel_rfl) (by kernel_rfl) (by kernel_rfl)
        · intro c a d v w h; cases d <;> exact h
        simp only [List.take_succ_cons, List.take_zero, List.drop_succ_cons, List.drop_zero]
        repeat (first
          | (apply GR.gw_skip (by rfl); simp only [Act.put, List.setIfInBounds_toArray, List.set_cons_zero, List.set_cons_succ])
          | (apply GR.gw_val (by rfl); · (intro W' hB hD; have zn1 := n1 W' hB; have zn2 := n2 W' hB; go_simp; first | done | rfl)
             simp only [Act.put, List.setIfInBounds_toArray, List.set_cons_zero, List.set_cons_succ]))
        apply GR.gw_nil
        intro Wz hBz hF hP
        have HZ := Lib.hid (And.intro hBz (And.intro (n2 Wz hBz) (And.intro (hJ.out.2.1.below hBz) (And.intro (pw_own_below hJ.out.1 hBz) (bAfter hJ.out.2.2 hBz)))))
        have z2 := n2 Wz hBz
        clear hF hP hBz n1 n2
        obtain ⟨i0, hi0', hz0, hz1, hz2⟩ := info_parts info51
        have hown := HZ.out.2.2.2.1
        go_wp2_with (at_builtin; refine wpList_append_own_at (w := Wz.alloc (.cells #[.complex .f64 (fo p) 4845873199050653696] 51)) rfl _ _ 48 rfl w.heap.size 51 i0 _ 1 16 Try.underlying48 hi0' hz0 hz1 hz2 rfl (by decide) u2 i _ rfl (hown.alloc _) ⟨Wz.heap.size, 0, none⟩ 1 1 [.complex .f64 (fo p) 4845873199050653696] rfl rfl (World.news_of_block (cs := #[.complex .f64 (fo p) 4845873199050653696]) (t := 51) (fr := (0, 0)) (heap_alloc_new _ _)) (by simp [Value.oneCell']) ?h63 ?hby ?hba ?_)
        case h63 => have := HO.out.1; have := HI.out.1; simp only [maxLen]; omega
        case hby => have := HO.out.1; have := HI.out.1; omega
        case hba => have := HZ.out.2.2.2.2.size; simp; omega
        intro v9 w9 hown9 hg9 _ hat9
        have hal := bOne (w := Wz) (.cells #[.complex .f64 (fo p) 4845873199050653696] 51)
        have hL9 : LivesV w.heap.size w9 2000 (.slice (some ⟨g, 0, none⟩) all.length c) bs all := by
          have h1 := HZ.out.2.2.1.below hal
          have hty := own_typed (hown.alloc (.cells #[.complex .f64 (fo p) 4845873199050653696] 51))
          exact ⟨h1.row.kept hg9 (own_type_ne h1.row (hown.alloc _) (by decide)), h1.at_.grown hg9 (fun g hg => by obtain ⟨cs, hc⟩ := hty g hg; exact ⟨cs, 51, hc, by decide⟩)⟩
        have hB9 : Below w.heap.size w w9 := ((HZ.out.2.2.2.2.alloc HZ.out.2.2.2.2.size _).grown hg9 (by have := HZ.out.2.2.2.2.size; simp; omega) (fun k hk => own_base hown k hk))
        have hrow : (all.map spC).take (i + 1) = (all.map spC).take i ++ [.complex .f64 (fo p) 4845873199050653696] := by
          rw [List.take_add_one, List.getElem?_map, HI.out.2.2.1, ← HS.out]
          rfl
        rw [← hrow] at hown9
        have HN := Lib.hid (And.intro hown9 (And.intro hL9 hB9))
        clear hown9 hg9 hat9 hL9 hB9 hrow hal hown hi0' hz0 hz1 hz2 z2 a0
        go_wp2_with fail
        obtain ⟨k1, rfl⟩ : ∃ m, gk = m + 1 := ⟨gk - 1, by have := HI.out.1; have := HI.out.2.1; omega⟩
        go_roundg k1
        case measure => omega
        case rel => exact ⟨i + 1, by first | rfl | exact congrArg _ (wrap_next (by have := HO.out.1; have := HI.out.1; omega)), by have := HI.out.2.1; exact Lib.hid (by omega), HN⟩
      · have hf' : decide (l.fin < 0) = false := by simp; omega
        obtain ⟨q, hq⟩ : ∃ q : Nat, l.fin = q := ⟨l.fin.toNat, by omega⟩
        have hfq := ofInt_fo q
        have hsp : spC l = .complex .f64 (fo p) (fo q) := by unfold spC spL; rw [if_neg hf, hp, hq]; rfl
        have HS := Lib.hid hsp
        have HX := Lib.hid hp
        rw [hq] at hf' n2
        clear hsp hp hi hk hli hlt hA hbi hf hq
        go_wp2_with fail
        apply GR.wp_region_grow (R := RB) 12 (by kernel_rfl) (by kernel_rfl) (by kernel_rfl)
        · intro c a d v w h; cases d <;> exact h
        simp only [List.take_succ_cons, List.take_zero, List.drop_succ_cons, List.drop_zero]
        repeat (first
          | (apply GR.gw_skip (by rfl); simp only [Act.put, List.setIfInBounds_toArray, List.set_cons_zero, List.set_cons_succ])
          | (apply GR.gw_val (by rfl); · (intro W' hB hD; have zn1 := n1 W' hB; have zn2 := n2 W' hB; go_simp; first | done | rfl)
             simp only [Act.put, List.setIfInBounds_toArray, List.set_cons_zero, List.set_cons_succ]))
        apply GR.gw_nil
        intro Wz hBz hF hP
        have HZ := Lib.hid (And.intro hBz (And.intro (n2 Wz hBz) (And.intro (hJ.out.2.1.below hBz) (And.intro (pw_own_below hJ.out.1 hBz) (bAfter hJ.out.2.2 hBz)))))
        have z2 := n2 Wz hBz
        clear hF hP hBz n1 n2
        obtain ⟨i0, hi0', hz0, hz1, hz2⟩ := info_parts info51
        have hown := HZ.out.2.2.2.1
        go_wp2_with (at_builtin; refine wpList_append_own_at (w := Wz.alloc (.cells #[.complex .f64 (fo p) (fo q)] 51)) rfl _ _ 48 rfl w.heap.size 51 i0 _ 1 16 Try.underlying48 hi0' hz0 hz1 hz2 rfl (by decide) u2 i _ rfl (hown.alloc _) ⟨Wz.heap.size, 0, none⟩ 1 1 [.complex .f64 (fo p) (fo q)] rfl rfl (World.news_of_block (cs := #[.complex .f64 (fo p) (fo q)]) (t := 51) (fr := (0, 0)) (heap_alloc_new _ _)) (by simp [Value.oneCell']) ?h63 ?hby ?hba ?_)
        case h63 => have := HO.out.1; have := HI.out.1; simp only [maxLen]; omega
        case hby => have := HO.out.1; have := HI.out.1; omega
        case hba => have := HZ.out.2.2.2.2.size; simp; omega
        intro v9 w9 hown9 hg9 _ hat9
        have hal := bOne (w := Wz) (.cells #[.complex .f64 (fo p) (fo q)] 51)
        have hL9 : LivesV w.heap.size w9 2000 (.slice (some ⟨g, 0, none⟩) all.length c) bs all := by
          have h1 := HZ.out.2.2.1.below hal
          have hty := own_typed (hown.alloc (.cells #[.complex .f64 (fo p) (fo q)] 51))
          exact ⟨h1.row.kept hg9 (own_type_ne h1.row (hown.alloc _) (by decide)), h1.at_.grown hg9 (fun g hg => by obtain ⟨cs, hc⟩ := hty g hg; exact ⟨cs, 51, hc, by decide⟩)⟩
        have hB9 : Below w.heap.size w w9 := ((HZ.out.2.2.2.2.alloc HZ.out.2.2.2.2.size _).grown hg9 (by have := HZ.out.2.2.2.2.size; simp; omega) (fun k hk => own_base hown k hk))
        have hrow : (all.map spC).take (i + 1) = (all.map spC).take i ++ [.complex .f64 (fo p) (fo q)] := by
          rw [List.take_add_one, List.getElem?_map, HI.out.2.2.1, ← HS.out]
          rfl
        rw [← hrow] at hown9
        have HN := Lib.hid (And.intro hown9 (And.intro hL9 hB9))
        clear hown9 hg9 hat9 hL9 hB9 hrow hal hown hi0' hz0 hz1 hz2 z2 a0
        go_wp2_with fail
        obtain ⟨k1, rfl⟩ : ∃ m, gk = m + 1 := ⟨gk - 1, by have := HI.out.1; have := HI.out.2.1; omega⟩
        go_roundg k1
        case measure => omega
        case rel => exact ⟨i + 1, by first | rfl | exact congrArg _ (wrap_next (by have := HO.out.1; have := HI.out.1; omega)), by have := HI.out.2.1; exact Lib.hid (by omega), HN⟩
    · have hi2 : ¬ (i : Int) < all.length := by omega
      obtain rfl : i = all.length := by have := hk.out; omega
      have HF : Hid (wr.ownsRow w.heap.size 51 1 u2 all.length (all.map spC) ∧ Below w.heap.size w wr) := Lib.hid ⟨by have := hJ.out.1; rwa [List.take_of_length_le (by simp)] at this, hJ.out.2.2⟩
      clear hi hk hJ
      go_wp2_with fail
      go_ret
      exact ⟨_, rfl, HF.out⟩
end Go.Proofs.Ytkijjgdcbgmglaa.Q
