/- All events are taken, one by one, by hand. -/
import Derived.Test.YtkijjgdcbgmglaaHTake
import Derived.Test.YtkijjgdcbgmglaaLoops
import Derived.Deep.LoopGhost
/-! All events are taken, one by one, by hand. -/
namespace Go.Proofs.Ytkijjgdcbgmglaa.Q
open Go.RowKit Go.Lib Go.Maps Go.Proofs.Ytkijjgdcbgmglaa Go.Proofs.YtkijjgdcbgmglaaW.PrintWords Go.Proofs.YtkijjgdcbgmglaaW.PrintLast Go.Proofs.YtkijjgdcbgmglaaW.PrintMore
set_option linter.unusedVariables false
set_option linter.unusedSimpArgs false
/-- How the taking of all events ends, in memory. -/
def Lived (W : World) (r : Option (List Life)) (x : Ending) (w' : World) : Prop :=
  Below W.heap.size W w' ∧ match r with
  | some all => ∃ v bs, x = .returned (.tuple #[v, .bool true]) ∧ LivesV W.heap.size w' 2000 v bs all
  | none => x = .returned (.tuple #[.slice none 0 0, .bool false])
theorem LivesV.nil (base : Nat) (W : World) (k : Nat) : LivesV base W k (.slice none 0 0) [] [] := ⟨own_nil W base 83 1, LivesAt.nil base W k⟩
theorem drop_rd44 (l : List S44) {i : Nat} (hi : i < l.length) : l.drop i = rd_T44 l (i : Int) :: l.drop (i + 1) := by
  rw [List.drop_eq_getElem_cons hi]
  congr 1
  unfold rd_T44
  rw [Int.toNat_natCast, List.getD_eq_getElem?_getD, List.getElem?_eq_getElem hi]
  rfl
/-- What holds at each round. -/
def LRel (W : World) (pb : Nat) (h : List S44) (r : Option (List Life)) (i : Nat) (V : World) : Prop :=
  ∃ v bs all, V.heap[pb]? = some (.cells #[v] 69 (0, 0)) ∧ LivesV W.heap.size V i v bs all ∧ all.length ≤ 32 ∧ Below W.heap.size W V ∧ livesFrom (h.drop i) i all = r
set_option maxRecDepth 100000 in
set_option maxHeartbeats 2000000 in
theorem lived_calls (A : Option Addr) (c : Nat) (h : List S44) (W : World) (hC : Kd.C k44 W A h.length h) :
    Calls Try.prog 30 #[.slice A h.length c] W (Lived W (livedL h)) := by
  have hu44 := Try.underlying44
  have hu42 := Try.underlying42
  have hu69 := Try.underlying69
  obtain ⟨W1, hW1, K1, hB1⟩ : ∃ V, W.alloc (.cells #[.slice none 0 0] 69) = V ∧ V.heap[W.heap.size]? = some (.cells #[.slice none 0 0] 69 (0, 0)) ∧ Below W.heap.size W V := ⟨_, rfl, heap_alloc_new _ _, bOne _⟩
  obtain ⟨r, hr⟩ : ∃ r, livedL h = r := ⟨_, rfl⟩
  rw [hr]
  by_cases hl : 2000 < h.length
  · have c0 := blk_cell K1 0
    have f0 := blk_frozen K1 0
    obtain ⟨W2, hW2⟩ : ∃ V, W1.setCell ⟨W.heap.size, 0, none⟩ (.slice none 0 0) = V := ⟨_, rfl⟩
    have K2 : W2.heap[W.heap.size]? = some (.cells #[.slice none 0 0] 69 (0, 0)) := by rw [← hW2]; exact blk_set K1 0 _
    have c2 := blk_cell K2 0
    have hB2 : Below W.heap.size W W2 := by rw [← hW2]; exact hB1.setCell (p := ⟨W.heap.size, 0, none⟩) (Nat.le_refl _) _
    have HR := Lib.hid (And.intro hr (And.intro hl hB2))
    have d0 : decide ((h.length : Int) > 2000) = true := by simp; omega
    clear hr hl hB1 K1 K2 hB2
    go_enter Try.func30, Try.ntmps30
    go_wp2_with fail
    refine bodyPost_ret (v := .tuple #[.slice none 0 0, .bool false]) (by simp [results, Try.results30, go_sem, c2]) rfl ?_
    have : r = none := by rw [← HR.out.1]; unfold livedL; rw [if_pos HR.out.2.1]
    subst this
    exact ⟨HR.out.2.2, rfl⟩
  · have d0 : decide ((h.length : Int) > 2000) = false := by simp; omega
    have R0 : LRel W W.heap.size h r 0 W1 := ⟨_, [], [], K1, LivesV.nil _ _ _, by simp, hB1, by rw [← hr]; unfold livedL; rw [if_neg hl]; rfl⟩
    have H0 := Lib.hid R0
    have HH := Lib.hid (And.intro hC (show h.length ≤ 2000 by omega))
    clear hr hl hB1 K1 R0 hC
    go_enter Try.func30, Try.ntmps30
    go_wp2_with fail
    go_loopg [11] h.length (fun kq v11 V => ∃ i : Nat, v11 = .int .i64 i ∧ Hid (kq + i = h.length) ∧ Hid (LRel W W.heap.size h r i V))
    case atStart => exact ⟨0, rfl, by simp [Hid], H0⟩
    case round =>
      obtain ⟨i, rfl, hk, hJ⟩ := hrel
      obtain ⟨v, bs, all, K, hL, hl, hB, hr⟩ := hJ.out
      clear hJ H0
      have hCr := Kd.C_below HH.out.1 hB
      by_cases hi : i < h.length
      · have hi2 : (i : Int) < h.length := by omega
        have hi0 : (0 : Int) ≤ i := by omega
        obtain ⟨ad, rfl, a0, a1, a2, a3, a4⟩ := at_T44 hCr (i : Int) hi0 hi2
        rw [drop_rd44 h hi] at hr
        simp only [Int.toNat_natCast] at a0 a1 a2 a3 a4
        generalize rd_T44 h (i : Int) = x at *
        obtain ⟨e0, e1, e2, ⟨e3, e4⟩⟩ := x
        dsimp only at a0 a1 a2 a3 a4
        obtain ⟨W3, hW3, B3, hB3⟩ : ∃ W3, wr.alloc (.cells #[.int .i64 e0, .int .i64 e1, .int .i64 e2, .int .i64 e3, .int .i64 e4] 44) = W3 ∧ W3.heap[wr.heap.size]? = some (.cells #[.int .i64 e0, .int .i64 e1, .int .i64 e2, .int .i64 e3, .int .i64 e4] 44 (0, 0)) ∧ Below wr.heap.size wr W3 := ⟨_, rfl, heap_alloc_new _ _, bOne _⟩
        have b0 := blk_cell B3 0
        have b1 := blk_cell B3 1
        have b2 := blk_cell B3 2
        have b3 := blk_cell B3 3
        have b4 := blk_cell B3 4
        obtain ⟨⟨all2, ok⟩, htr⟩ : ∃ t, takeL all (i : Int) ⟨e0, e1, e2, ⟨e3, e4⟩⟩ = t := ⟨_, rfl⟩
        have hmost : ok = true → all2.length ≤ 32 := fun ho => by have := takeL_most (n := (i : Int)) (e := ⟨e0, e1, e2, ⟨e3, e4⟩⟩) hl; rw [htr] at this; exact this ho
        have hr2 : (if ok = true then livesFrom (h.drop (i + 1)) ((i : Int) + 1) all2 else none) = r := by rw [← hr]; simp only [livesFrom, htr]
        have hT := take_calls W3 W.heap.size W.heap.size i v bs all (blk_below K hB3) (Nat.le_refl _) (hL.below hB3) (by omega) (by have := HH.out.2; omega) i e0 e1 e2 e3 e4
        rw [htr] at hT
        have HT := Lib.hid hT
        have HR := Lib.hid (And.intro hr2 (And.intro hmost (hB.trans (below_le hB3 hB.size))))
        have HI := Lib.hid (And.intro hi hk.out)
        clear hCr hr hl hB B3 hB3 K hL hk hi hr2 hmost htr hT
        go_wp2_with fail
        refine HT.out.mono ?_
        rintro e w5 ⟨rfl, v5, bs5, K5, hL5, hB5⟩
        dsimp only at hL5 ⊢
        cases ok with
        | true =>
          have hr3 := HR.out.1
          rw [if_pos rfl] at hr3
          have HN : Hid (LRel W W.heap.size h r (i + 1) w5) := Lib.hid ⟨v5, bs5, all2, K5, hL5, HR.out.2.1 rfl, HR.out.2.2.trans hB5, by rw [← hr3, Int.natCast_add]; rfl⟩
          clear hr3 K5 hL5 hB5 HR HT
          go_wp2_with fail
          obtain ⟨k1, rfl⟩ : ∃ m, gk = m + 1 := ⟨gk - 1, by have := HI.out; omega⟩
          go_roundg k1
          case measure => omega
          case rel => exact ⟨i + 1, by first | rfl | exact congrArg _ (wrap_next (by have := HH.out.2; have := HI.out.1; omega)), by have := HI.out.2; exact Lib.hid (by omega), HN⟩
        | false =>
          have c5 := blk_cell K5 0
          have f5 := blk_frozen K5 0
          obtain ⟨W6, hW6⟩ : ∃ V, w5.setCell ⟨W.heap.size, 0, none⟩ (.slice none 0 0) = V := ⟨_, rfl⟩
          have K6 : W6.heap[W.heap.size]? = some (.cells #[.slice none 0 0] 69 (0, 0)) := by rw [← hW6]; exact blk_set K5 0 _
          have c6 := blk_cell K6 0
          have hB6 : Below W.heap.size W W6 := by rw [← hW6]; exact (HR.out.2.2.trans hB5).setCell (p := ⟨W.heap.size, 0, none⟩) (Nat.le_refl _) _
          have hr3 := HR.out.1
          rw [if_neg (by simp)] at hr3
          have HN := Lib.hid (And.intro hr3 hB6)
          clear hr3 K5 hL5 hB5 HR HT K6 hB6
          go_wp2_with fail
          refine bodyPost_ret (v := .tuple #[.slice none 0 0, .bool false]) (by simp [results, Try.results30, go_sem, c6]) rfl ?_
          obtain ⟨rfl, h2⟩ := HN.out
          exact ⟨h2, rfl⟩
      · have hi2 : ¬ (i : Int) < h.length := by omega
        have hr3 : r = some all := by rw [← hr, List.drop_of_length_le (by omega)]; rfl
        subst hr3
        have c5 := blk_cell K 0
        have f5 := blk_frozen K 0
        obtain ⟨W6, hW6⟩ : ∃ V, wr.setCell ⟨W.heap.size, 0, none⟩ v = V := ⟨_, rfl⟩
        have K6 : W6.heap[W.heap.size]? = some (.cells #[v] 69 (0, 0)) := by rw [← hW6]; exact blk_set K 0 _
        have c6 := blk_cell K6 0
        have hB6 : Below W.heap.size W W6 := by rw [← hW6]; exact hB.setCell (p := ⟨W.heap.size, 0, none⟩) (Nat.le_refl _) _
        have hL6 : LivesV W.heap.size W6 2000 v bs all := by
          refine LivesV.more (k := i) ?_ (by have := HH.out.2; have := hk.out; omega)
          rw [← hW6]
          exact ⟨own_setCell hL.row (p := ⟨W.heap.size, 0, none⟩) (own_ne hL.row K (by decide)) _, hL.at_.same fun q hq => Below.heap_setCell _ _ _ q (hL.at_.apart K (by decide) q hq)⟩
        obtain ⟨A2, c2, rfl⟩ := own_slice hL.row
        have HN := Lib.hid (And.intro hL6 hB6)
        clear K hL hB K6 hB6 hL6 hCr hr hl hk hi
        go_wp2_with fail
        refine bodyPost_ret (v := .tuple #[.slice A2 all.length c2, .bool true]) (by simp [results, Try.results30, go_sem, c6]) rfl ?_
        exact ⟨HN.out.2, _, _, rfl, HN.out.1⟩
end Go.Proofs.Ytkijjgdcbgmglaa.Q

/-! May a row of events be; who is in it: by hand. -/
namespace Go.Proofs.Ytkijjgdcbgmglaa.Q
open Go.RowKit Go.Lib Go.Maps Go.Proofs.Ytkijjgdcbgmglaa Go.Proofs.YtkijjgdcbgmglaaW.PrintWords Go.Proofs.YtkijjgdcbgmglaaW.PrintLast Go.Proofs.YtkijjgdcbgmglaaW.PrintMore
set_option linter.unusedVariables false
set_option linter.unusedSimpArgs false
/-- All lives; none, if the row may not be. -/
def allL (h : List S44) : List Life := (livedL h).getD []
theorem allL_ok (h : List S44) : (allL h).length ≤ 32 ∧ ∀ l ∈ allL h, LifeOK l := by
  unfold allL livedL
  split
  · exact ⟨by simp, fun l hl => by simp at hl⟩
  · cases hr : livesFrom h 0 [] with
    | none => exact ⟨by simp, fun l hl => by simp at hl⟩
    | some r => exact livesFrom_ok h 0 [] r hr (by simp) (fun l hl => by simp at hl)
/-- All lives, in memory. -/
def LivedU (W : World) (all : List Life) (is : Bool) (x : Ending) (w' : World) : Prop :=
  ∃ A c bs, x = .returned (.tuple #[.slice A all.length c, .bool is]) ∧ LivesV W.heap.size w' 2000 (.slice A all.length c) bs all ∧ Below W.heap.size W w'
theorem lived_all (A : Option Addr) (c : Nat) (h : List S44) (W : World) (hC : Kd.C k44 W A h.length h) :
    Calls Try.prog 30 #[.slice A h.length c] W (LivedU W (allL h) (livedL h).isSome) := by
  refine (lived_calls A c h W hC).mono ?_
  unfold allL
  cases livedL h with
  | none =>
    rintro e w' ⟨hB, rfl⟩
    exact ⟨none, 0, [], rfl, LivesV.nil _ _ _, hB⟩
  | some all =>
    rintro e w' ⟨hB, v, bs, rfl, hL⟩
    obtain ⟨A2, c2, rfl⟩ := own_slice hL.row
    exact ⟨A2, c2, bs, rfl, hL, hB⟩
def history_Right.f (l0 : List (S44)) : Option (Bool) := some (livedL l0).isSome
theorem history_Right.calls (A0 : Option Addr) (c0 : Nat) (l0 : List (S44)) (r : Bool) (w : World) (hr0 : Kd.C k44 w A0 l0.length l0) (hc0 : l0.length ≤ c0) (h : history_Right.f l0 = some r) :
    Calls Try.prog 15 #[.slice A0 l0.length c0] w fun e w' => e = .returned (.bool r) ∧ Below w.heap.size w w' := by
  unfold history_Right.f at h
  injection h with h
  have HC := Lib.hid (lived_all A0 c0 l0 w hr0)
  rw [h] at HC
  clear hr0 hc0 h
  go_enter Try.func15, Try.ntmps15
  go_wp2_with fail
  refine HC.out.mono ?_
  rintro e w' ⟨A, c, bs, rfl, -, hB⟩
  have HB := Lib.hid hB
  clear hB
  go_wp2_with fail
  go_ret
  exact ⟨rfl, HB.out⟩
def idsOf (n : Nat) : List Int := (List.range n).map fun i : Nat => (i : Int) + 1
theorem idsOf_next (n : Nat) : idsOf (n + 1) = idsOf n ++ [(n : Int) + 1] := by simp [idsOf, List.range_succ]
def history_Ids.f (l0 : List (S44)) : Option (List Int) := some (idsOf (allL l0).length)
set_option maxRecDepth 100000 in
set_option maxHeartbeats 1000000 in
theorem history_Ids.calls (A0 : Option Addr) (c0 : Nat) (l0 : List (S44)) (r : List Int) (w : World) (hr0 : Kd.C k44 w A0 l0.length l0) (hc0 : l0.length ≤ c0) (h : history_Ids.f l0 = some r) :
    Calls Try.prog 21 #[.slice A0 l0.length c0] w fun e w' => ∃ v0_ : Value, e = .returned (v0_) ∧ Kd.R (Kd.int .i64) 3 w' w.heap.size (fun _ => True) v0_ r ∧ Below w.heap.size w w' := by
  unfold history_Ids.f at h
  injection h with h
  subst h
  have HC := Lib.hid (lived_all A0 c0 l0 w hr0)
  have HO := Lib.hid (allL_ok l0).1
  generalize allL l0 = all at *
  clear hr0 hc0
  go_enter Try.func21, Try.ntmps21
  go_wp2_with fail
  refine HC.out.mono ?_
  rintro e w1 ⟨A, c, bs, rfl, -, hB⟩
  have HB := Lib.hid hB
  clear hB HC
  go_wp2_with fail
  go_loopg [2, 13] all.length (fun kq v2 v13 V => ∃ i : Nat, v13 = .int .i64 i ∧ Hid (kq + i = all.length) ∧ Hid (Kd.R (Kd.int .i64) 3 V w.heap.size (fun _ => True) v2 (idsOf i) ∧ Below w.heap.size w V))
  case atStart => exact ⟨0, rfl, by simp [Hid], Lib.hid ⟨Kd.R_nil _ _ _ _ _, HB.out⟩⟩
  case round =>
    obtain ⟨i, rfl, hk, hJ⟩ := hrel
    clear HB
    have hi0 : (0 : Int) ≤ i := by omega
    by_cases hi : i < all.length
    · have hi2 : (i : Int) < all.length := by omega
      have hw : wrap64 ((i : Int) + 1) = (i : Int) + 1 := by have := HO.out; unfold wrap64; omega
      have HI := Lib.hid (And.intro hi hk.out)
      clear hi hk
      go_wp2_with (at_builtin; refine Kd.R_append (Kd.int .i64) (w0 := w) w.heap.size rfl (.tmp 16) (.tmp 19) 54 3 (.int .i64 0) 8 rfl Try.underlying54 info3 rfl (by decide) (by omega) u2 (idsOf i) ((i : Int) + 1) [.int .i64 ((i : Int) + 1)] (fun _ => True) (fun _ => False) rfl rfl rfl (fun _ hk => hk.elim) (fun _ _ => trivial) hJ.out.1 hJ.out.2 (hJ.out.2.size) ?aL ?_)
      case aL => have := HO.out; have := HI.out.1; simp [idsOf]; omega
      intro v9 w9 ho hb hg hat
      rw [← idsOf_next] at ho
      have HN := Lib.hid (And.intro ho hb)
      clear ho hb hg hat hJ
      go_wp2_with fail
      obtain ⟨k1, rfl⟩ : ∃ m, gk = m + 1 := ⟨gk - 1, by have := HI.out; omega⟩
      go_roundg k1
      case measure => omega
      case rel => exact ⟨i + 1, by first | rfl | exact congrArg _ (wrap_next (by have := HO.out; have := HI.out.1; omega)), by have := HI.out.2; exact Lib.hid (by omega), HN⟩
    · have hi2 : ¬ (i : Int) < all.length := by omega
      obtain rfl : i = all.length := by have := hk.out; omega
      clear hi hk
      go_wp2_with fail
      go_ret
      exact ⟨_, rfl, hJ.out⟩
end Go.Proofs.Ytkijjgdcbgmglaa.Q
