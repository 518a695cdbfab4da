/- A store's answers are the document's: plain. -/
import Derived.Test.YtnamlnlhigdnkaaHRef
set_option linter.unusedSimpArgs false
set_option linter.unusedVariables false
namespace Go.Proofs.Ytnamlnlhigdnkaa
open Go.RowKit Go.Proofs.Ytnamlnlhigdnkaa.Q Go.Proofs.YtnamlnlhigdnkaaW.PrintWords Go.Proofs.YtnamlnlhigdnkaaW.PrintLast Go.Proofs.YtnamlnlhigdnkaaW.PrintMore

theorem rd_th (l : List S40) (x : Int) (hx : 0 ≤ x ∧ x < (l.length : Int)) : rd_T35 (l.map th) x = th (rd_T40 l x) := by
  obtain ⟨i, rfl⟩ := Int.eq_ofNat_of_zero_le hx.1
  have hi : i < l.length := by omega
  unfold rd_T35 rd_T40
  simp [List.getD_eq_getElem?_getD, hi]

theorem get_th (l : List S40) (x : Int) : ∃ a b c d e f : Int, store_Get.f (l.map th) x = some (a, b, c, d, e, f) ∧ warpbeamref07_Get.f l x = some (a, b, c, d, e, f) := by
  unfold store_Get.f warpbeamref07_Get.f
  rw [List.length_map]
  by_cases h0 : x < 0
  · rw [if_pos h0, if_pos h0]; exact ⟨_, _, _, _, _, _, rfl, rfl⟩
  · by_cases h1 : x ≥ (l.length : Int)
    · rw [if_neg h0, if_neg h0, if_pos h1, if_pos h1]; exact ⟨_, _, _, _, _, _, rfl, rfl⟩
    · rw [if_neg h0, if_neg h0, if_neg h1, if_neg h1, if_pos (by omega), if_pos (by omega), if_pos (by omega), if_pos (by omega), rd_th l x (by omega)]
      exact ⟨_, _, _, _, _, _, rfl, rfl⟩

/-- What the document's put comes to. -/
def rput (l : List S40) (x a b ver wr : Int) : List S40 × Int :=
  if 0 ≤ x ∧ x < (l.length : Int) then (if (mayV a b && (decide (wr = -1) || slotB wr)) = true then (l.set x.toNat ⟨⟨a, b⟩, ver, wr, 0⟩, 0) else (l, 2)) else (l, 3)
theorem rmayV_f (a b : Int) : warpbeamref06_Right.f a b = some (mayV a b) := (show warpbeamref06_Right.f a b = value_Right.f a b from rfl).trans (mayV_f a b)
theorem rput_f (l : List S40) (hl : l.length ≤ 1000) (x a b ver wr : Int) : warpbeamref07_Put.f l x a b ver wr = some (rput l x a b ver wr) := by
  unfold warpbeamref07_Put.f rput
  by_cases hx : 0 ≤ x ∧ x < (l.length : Int)
  · obtain ⟨i, rfl⟩ := Int.eq_ofNat_of_zero_le hx.1
    have hi : i < l.length := by omega
    have hG : warpbeamref07_Get.f l (i : Int) = some ((rd_T40 l i).f0.f0, (rd_T40 l i).f0.f1, (rd_T40 l i).f1, (rd_T40 l i).f2, (rd_T40 l i).f3, 0) := by
      unfold warpbeamref07_Get.f
      rw [if_neg (by omega), if_neg (by omega), if_pos (by omega), if_pos (by omega)]
    rw [hG, Option.bind_some, if_pos rfl, rmayV_f, Option.bind_some, if_pos hx]
    cases hm : mayV a b with
    | false => rw [if_neg (by decide), if_neg (by simp)]
    | true =>
      rw [if_pos rfl, Bool.true_and]
      by_cases h1 : wr < -1
      · rw [if_pos h1, if_neg]
        unfold slotB
        simp; omega
      · by_cases h2 : wr ≥ 32
        · rw [if_neg h1, if_pos h2, if_neg]
          unfold slotB
          simp; omega
        · rw [if_neg h1, if_neg h2, with_set l i hi hl, Option.bind_some, if_pos]
          · rfl
          · unfold slotB
            simp; omega
  · have hG : warpbeamref07_Get.f l x = some (0, 0, 0, 0, 0, 3) := by
      unfold warpbeamref07_Get.f
      by_cases h0 : x < 0
      · rw [if_pos h0]
      · rw [if_neg h0, if_pos (by omega)]
    rw [hG, Option.bind_some, if_neg (by simp), if_neg hx]

theorem put_th (l : List S40) (hl : l.length ≤ 1000) (x a b ver wr : Int) : store_Put.f (l.map th) x a b ver wr = some ((rput l x a b ver wr).1.map th, (rput l x a b ver wr).2) := by
  unfold store_Put.f rput
  rw [List.length_map, if_pos (by omega)]
  split
  · split
    · rw [List.map_set]; rfl
    · rfl
  · rfl
theorem mark_th (l : List S40) (hl : l.length ≤ 1000) (x s : Int) : store_Mark.f (l.map th) x s = some ((rmark l x s).1.map th, (rmark l x s).2) := by
  unfold store_Mark.f rmark
  rw [List.length_map, if_pos (by omega)]
  by_cases hx : 0 ≤ x ∧ x < (l.length : Int)
  · rw [if_pos hx, if_pos hx, rd_th l x hx]
    by_cases hs : 0 ≤ s ∧ s < 32
    · rw [if_pos hs, if_pos (by unfold slotB; simp; omega), List.map_set]; rfl
    · rw [if_neg hs, if_neg (by unfold slotB; simp; omega)]
  · rw [if_neg hx, if_neg hx]
theorem drop_th (l : List S40) (hl : l.length ≤ 1000) (s : Int) : store_Drop.f (l.map th) s = some ((l.map (rdropOne s)).map th) := by
  unfold store_Drop.f
  rw [List.length_map, if_pos (by omega), List.map_map, List.map_map]
  rfl
theorem rput_len (l : List S40) (x a b ver wr : Int) : (rput l x a b ver wr).1.length = l.length := by
  unfold rput
  split
  · split
    · simp
    · rfl
  · rfl
theorem rmark_len (l : List S40) (x s : Int) : (rmark l x s).1.length = l.length := by
  unfold rmark
  split
  · split
    · simp
    · rfl
  · rfl

theorem rnew_loop (n : Nat) (hn : n ≤ 64) : ∀ (d i k : Nat), i + d = n → d < k → warpbeamref07_New.l0 k (n : Int) (List.replicate i (⟨⟨1, 0⟩, 0, -1, 0⟩ : S40)) (i : Int) = some (List.replicate n (⟨⟨1, 0⟩, 0, -1, 0⟩ : S40), true)
  | 0, i, k, hd, hk => by
    obtain ⟨k, rfl⟩ : ∃ m, k = m + 1 := ⟨k - 1, by omega⟩
    obtain rfl : i = n := by omega
    rw [warpbeamref07_New.l0, if_neg (by omega)]
  | d + 1, i, k, hd, hk => by
    obtain ⟨k, rfl⟩ : ∃ m, k = m + 1 := ⟨k - 1, by omega⟩
    rw [warpbeamref07_New.l0, if_pos (by omega), if_pos (by simp; omega), wrap_next (by omega), ← List.replicate_succ']
    exact rnew_loop n hn d (i + 1) k (by omega) (by omega)
theorem new_th (x : Int) : ∃ (r : List S40) (b : Bool), store_New.f x = some (r.map th, b) ∧ warpbeamref07_New.f 200 x = some (r, b) ∧ r.length ≤ 64 := by
  unfold store_New.f warpbeamref07_New.f
  by_cases hx : 0 ≤ x ∧ x ≤ 64
  · obtain ⟨n, rfl⟩ := Int.eq_ofNat_of_zero_le hx.1
    have hn : n ≤ 64 := by omega
    refine ⟨List.replicate n ⟨⟨1, 0⟩, 0, -1, 0⟩, true, ?_, ?_, by simp; exact hn⟩
    · rw [if_pos hx, Int.toNat_natCast, List.map_replicate]; rfl
    · rw [if_neg (by omega), show decide ((n : Int) > 64) = false by rw [decide_eq_false_iff_not]; omega, show (200 : Nat) = 199 + 1 from rfl, warpbeamref07_New.j0, if_neg (by decide)]
      exact rnew_loop n hn n 0 199 (by omega) (by omega)
  · refine ⟨[], false, ?_, ?_, by simp⟩
    · rw [if_neg hx]; rfl
    · by_cases h0 : x < 0
      · rw [if_pos h0, show (200 : Nat) = 199 + 1 from rfl, warpbeamref07_New.j0, if_pos rfl]
      · rw [if_neg h0, show decide (x > 64) = true by rw [decide_eq_true_iff]; omega, show (200 : Nat) = 199 + 1 from rfl, warpbeamref07_New.j0, if_pos rfl]
theorem ours_th (r : List S40) (hl : r.length ≤ 1000) (k : Nat) (hk : r.length < k) : warpbeamlaw07_Ours.f k (r.map th) = some r := by
  rw [ours_f (r.map th) (by simpa using hl) k (by simpa using hk), List.map_map]
  exact congrArg some (List.map_id' r)

/-- What is read of flat elements lies in one block. -/
theorem V_of_C {α : Type} {d : Kd α} (hflat : ∀ w w' x cs, d.K w x cs → d.K w' x cs) {e : Nat} {w : World} {B c : Nat} {A : Option Addr} {xs : List α} (h : d.C w A xs.length xs) (hc : xs.length ≤ c) : Kd.V d e w B (fun _ => True) (.slice A xs.length c) xs := by
  refine ⟨A, c, rfl, hc, fun W hW => ⟨rfl, h.2.1, fun hn => ?_⟩⟩
  obtain ⟨ad, hA, hcell⟩ := h.2.2 hn
  refine ⟨ad, hA, fun j p hj => ?_⟩
  obtain ⟨cs, h1, h2, h3⟩ := hcell j p hj
  refine ⟨cs, h1, hflat _ _ _ _ h2, fun i u hu => ?_⟩
  have h4 := h3 i u hu
  have hlt := World.block_lt_of_cell? w _ h4
  rw [World.cell?_of_block (w := w) (hW _ trivial hlt)]
  exact h4
theorem flatK40 (w w' : World) (x : S40) (cs : List Value) (h : k40.K w x cs) : k40.K w' x cs := by
  rw [k40_open h]; exact k40_mk w' x
theorem flatK35 (w w' : World) (x : S35) (cs : List Value) (h : k35.K w x cs) : k35.K w' x cs := by
  rw [k35_open h]; exact k35_mk w' x

end Go.Proofs.Ytnamlnlhigdnkaa
