/- Drop of a store, by hand. -/
import Derived.Test.YtnamlnlhigdnkaaHMark
namespace Go.Proofs.Ytnamlnlhigdnkaa.Q
open Go.RowKit Go.Lib Go.Proofs.Ytnamlnlhigdnkaa Go.Proofs.YtnamlnlhigdnkaaW.PrintWords Go.Proofs.YtnamlnlhigdnkaaW.PrintLast Go.Proofs.YtnamlnlhigdnkaaW.PrintMore
set_option linter.unusedVariables false
set_option linter.unusedSimpArgs false

theorem less_f (m a : Int) : set_Less.f m a = some (Go.bits .andNot .u64 m (bitI a)) := by
  unfold set_Less.f
  rw [bitI_f]
  rfl
/-- A variable without a slot's mark. -/
def unmark (a : Int) (v : S35) : S35 := ⟨v.f0, v.f1, v.f2, Go.bits .andNot .u64 v.f3 (bitI a)⟩
/-- A variable from which a slot is gone. -/
def dropOne (a : Int) (v : S35) : S35 := ⟨v.f0, v.f1, if v.f2 = a then -1 else v.f2, Go.bits .andNot .u64 v.f3 (bitI a)⟩
/-- The row, as far as it has been gone through. -/
def dropTo (a : Int) (l : List S35) (i : Nat) : List S35 := (l.take i).map (dropOne a) ++ l.drop i
theorem dropTo_len (a : Int) (l : List S35) (i : Nat) : (dropTo a l i).length = l.length := by simp [dropTo]; omega
theorem dropTo_get (a : Int) (l : List S35) (i : Nat) (hi : i < l.length) : (dropTo a l i).getD i z35 = l.getD i z35 := by
  unfold dropTo
  simp [List.getD_eq_getElem?_getD, List.getElem?_append, Nat.min_eq_left (Nat.le_of_lt hi)]
theorem dropTo_set (a : Int) (l : List S35) (i : Nat) (hi : i < l.length) : (dropTo a l i).set i (dropOne a (l.getD i z35)) = dropTo a l (i + 1) := by
  apply List.ext_getElem?
  intro j
  unfold dropTo
  rw [List.getElem?_set]
  by_cases hj : i = j
  · subst hj
    simp [List.getElem?_append, List.getD_eq_getElem?_getD, hi, Nat.min_eq_left (Nat.le_of_lt hi), Nat.min_eq_left (show i + 1 ≤ l.length from hi)]
    omega
  · rw [if_neg hj]
    simp only [List.getElem?_append, List.length_map, List.length_take, List.getElem?_map, List.getElem?_take, List.getElem?_drop]
    by_cases h1 : j < i
    · rw [if_pos (by omega), if_pos (by omega), if_pos (by omega), if_pos (by omega)]
    · rw [if_neg (by omega), if_neg (by omega)]
      congr 1
      omega
theorem dropTo_all (a : Int) (l : List S35) : dropTo a l l.length = l.map (dropOne a) := by simp [dropTo]
theorem dropTo_none (a : Int) (l : List S35) : dropTo a l 0 = l := by simp [dropTo]

def store_Drop.f (l0 : List S35) (a1 : Int) : Option (List S35) := if l0.length < 3518437208883 then some (l0.map (dropOne a1)) else none

set_option maxHeartbeats 4000000 in
theorem store_Drop.calls (A0 : Option Addr) (c0 : Nat) (l0 : List S35) (a1 : Int) (r : List S35) (w : World) (hr0 : Kd.C k35 w A0 l0.length l0) (hc0 : l0.length ≤ c0) (h : store_Drop.f l0 a1 = some r) :
    Calls Try.prog 22 #[.slice A0 l0.length c0, .int .i64 a1] w fun e w' => ∃ v0_ : Value, e = .returned v0_ ∧ Kd.R k35 35 w' w.heap.size (fun _ => True) v0_ r ∧ Below w.heap.size w w' := by
  unfold store_Drop.f at h
  split at h
  case isFalse => cases h
  rename_i hl
  obtain rfl := Option.some.inj h
  have C1 := Lib.hid (clone_calls A0 c0 l0 w hr0 hl)
  have C2 := Lib.hid fun m W => set_Less.calls m a1 _ W (less_f m a1)
  clear h hr0 hc0
  have HL := Aside0.mk hl
  clear hl
  go_enter Try.func22, Try.ntmps22
  go_wp2_with fail
  refine C1.out.mono ?_
  rintro e w1 ⟨v, rfl, hR, hB⟩
  rcases Nat.eq_zero_or_pos l0.length with hz | hp
  · obtain rfl : l0 = [] := List.eq_nil_of_length_eq_zero hz
    obtain ⟨A, c, rfl⟩ := Kd.R_slice hR
    have HZ := Lib.hid (And.intro hR hB)
    clear hR hB C1 C2
    go_wp2_with fail
    go_loopg [12] 1 (fun kq v12 w' => v12 = .int .i64 0 ∧ w' = w1)
    case atStart => exact ⟨rfl, rfl⟩
    case round =>
      obtain ⟨rfl, rfl⟩ := hrel
      go_wp2_with fail
      go_ret
      exact ⟨_, rfl, HZ.out⟩
  · obtain ⟨g, cap, rfl, hg, hlt, _⟩ := Kd.R_form hR hp
    have HZ := Lib.hid (And.intro hR hB)
    have HG := Lib.hid hg
    clear hR hB C1 hg hlt
    go_wp2_with fail
    go_loopg [12] l0.length (fun kq v12 w' => ∃ i : Nat, v12 = .int .i64 i ∧ Hid (kq + i = l0.length) ∧ Hid (Kd.R k35 35 w' w.heap.size (fun _ => True) (.slice (some ⟨g, 0, none⟩) l0.length cap) (dropTo a1 l0 i) ∧ Below w.heap.size w w'))
    case atStart => exact ⟨0, rfl, by simp [Hid], Lib.hid (by rw [dropTo_none]; exact HZ.out)⟩
    case round =>
      obtain ⟨i, rfl, hk, hI⟩ := hrel
      clear HZ
      by_cases hi : i < l0.length
      · have hi2 : (i : Int) < l0.length := by omega
        have hi0 : (0 : Int) ≤ i := by omega
        obtain ⟨c, hcl, hM, hcc, hfz⟩ := Kd.R_elem hI.out.1 z35 (i : Int) hi0 hi2
        have e5 := k35_openM hM
        rw [Int.toNat_natCast, dropTo_get a1 l0 i hi] at e5
        have hset := dropTo_set a1 l0 i hi
        have hlen := dropTo_len a1 l0 i
        generalize l0.getD i z35 = v at e5 hset
        have hc4 : wr.cell? ⟨g, i * 5 + 4, none⟩ = some (.int .u64 v.f3) := hcc 4 _ (by rw [e5]; rfl)
        have HC := Lib.hid (And.intro hcl (And.intro e5 hcc))
        clear hM hcc hfz hcl e5
        have HI0 := Lib.hid (And.intro hi (And.intro hset hlen))
        clear hi hset hlen
        go_wp2_with fail
        refine (C2.out _ _).mono ?_
        rintro e w2 ⟨rfl, hd⟩
        obtain ⟨n, rfl⟩ := hd.out
        clear hd hc4
        have HR1 := Lib.hid (Kd.R_drewN hI.out.1 n)
        have HB1 := Lib.hid (pw_below_drewN hI.out.2 n)
        clear hI
        go_wp2_with (refine Kd.R_store k35 (w0 := w) w.heap.size rfl rfl 33 _ _ rfl 35 (i : Int) 4 (dropTo a1 l0 i) (unmark a1 v) _ [.int .u64 (Go.bits .andNot .u64 v.f3 (bitI a1))] c (fun _ => True) (fun k => True ∧ k ≠ g) rfl rfl rfl ?qc1 ?qc2 ?qc3 HR1.out hi0 hi2 HC.out.1 HC.out.2.2 (Nat.le_refl _) ?qc4 (fun _ h => h) HB1.out ?_)
        case qc1 => rfl
        case qc2 => kernel_rfl
        case qc3 => simp [Value.oneCell']
        case qc4 =>
          rw [HC.out.2.1]
          exact k35_mkM _ _ _ (unmark a1 v)
        intro w3 hR3 hB3 _
        clear HR1 HB1 HC
        obtain ⟨c', hcl', hM', hcc', -⟩ := Kd.R_elem hR3 z35 (i : Int) hi0 hi2
        have e5 := k35_openM hM'
        rw [Int.toNat_natCast, List.getD_eq_getElem?_getD, List.getElem?_set_self (by rw [HI0.out.2.2]; exact HI0.out.1), Option.getD_some] at e5
        have hc3 : w3.cell? ⟨g, i * 5 + 3, none⟩ = some (.int .i64 v.f2) := hcc' 3 _ (by rw [e5]; rfl)
        have HC := Lib.hid (And.intro hcl' (And.intro e5 hcc'))
        have HR3 := Lib.hid (And.intro hR3 hB3)
        clear hM' hcc' hcl' e5 hR3 hB3
        by_cases hv : v.f2 = a1
        · go_wp2_with (refine Kd.R_store k35 (w0 := w) w.heap.size rfl rfl 3 _ _ rfl 35 (i : Int) 3 ((dropTo a1 l0 i).set (i : Int).toNat (unmark a1 v)) (dropOne a1 v) _ [.int .i64 (-1)] c' (fun _ => True) (fun k => True ∧ k ≠ g) rfl rfl rfl ?qc1 ?qc2 ?qc3 HR3.out.1 hi0 hi2 HC.out.1 HC.out.2.2 ?qc5 ?qc4 (fun _ h => h) HR3.out.2 ?_)
          case qc1 => rfl
          case qc2 => kernel_rfl
          case qc3 => simp [Value.oneCell']
          case qc5 => decide
          case qc4 =>
            rw [HC.out.2.1]
            have := k35_mkM w3 w.heap.size (fun k => True ∧ k ≠ g) (dropOne a1 v)
            unfold dropOne at this ⊢
            rw [if_pos hv] at this ⊢
            exact this
          intro w4 hR4 hB4 _
          have HR4 := Lib.hid (And.intro hR4 hB4)
          clear hR4 hB4 HR3 HC hc3
          go_wp2_with fail
          obtain ⟨k1, rfl⟩ : ∃ m, gk = m + 1 := ⟨gk - 1, by have := hk.out; omega⟩
          go_roundg k1
          case measure => omega
          case rel =>
            refine ⟨i + 1, ?_, Lib.hid (by have := hk.out; omega), Lib.hid ⟨?_, HR4.out.2⟩⟩
            · have := HL.out
              rw [show wrap64 ((i : Int) + 1) = ((i + 1 : Nat) : Int) by unfold wrap64; omega]
            · have := HR4.out.1
              rw [Int.toNat_natCast, List.set_set, HI0.out.2.1] at this
              exact this
        · go_wp2_with fail
          obtain ⟨k1, rfl⟩ : ∃ m, gk = m + 1 := ⟨gk - 1, by have := hk.out; omega⟩
          go_roundg k1
          case measure => omega
          case rel =>
            refine ⟨i + 1, ?_, Lib.hid (by have := hk.out; omega), Lib.hid ⟨?_, HR3.out.2⟩⟩
            · have := HL.out
              rw [show wrap64 ((i : Int) + 1) = ((i + 1 : Nat) : Int) by unfold wrap64; omega]
            · have := HR3.out.1
              rw [Int.toNat_natCast, show unmark a1 v = dropOne a1 v by simp [unmark, dropOne, hv], HI0.out.2.1] at this
              exact this
      · have hi2 : ¬ (i : Int) < l0.length := by omega
        have hk0 : i = l0.length := by have := hk.out; omega
        subst hk0
        go_wp2_with fail
        go_ret
        exact ⟨_, rfl, by have := hI.out; rw [dropTo_all] at this; simpa using this⟩

end Go.Proofs.Ytnamlnlhigdnkaa.Q
