/- Decode, by hand. -/
import Derived.Test.YtbnchippfebdkaaHTake
import Derived.Test.YtbnchippfebdkaaHConv
namespace Go.Proofs.Ytbnchippfebdkaa.Q
open Go.RowKit Go.Lib Go.Proofs.Ytbnchippfebdkaa Go.Proofs.YtbnchippfebdkaaW.PrintWords Go.Proofs.YtbnchippfebdkaaW.PrintLast Go.Proofs.YtbnchippfebdkaaW.PrintMore
set_option linter.unusedVariables false
set_option linter.unusedSimpArgs false

theorem fieldT_less {b : Int} {l r : List Int} {x : Int} (h : fieldT b l = some (x, r)) : r.length ≤ l.length ∧ (∀ y ∈ r, y ∈ l) := by
  by_cases hb : b = 0
  · rw [hb, fieldT_zero] at h
    obtain ⟨-, rfl⟩ := Prod.mk.inj (Option.some.inj h)
    exact ⟨Nat.le_refl _, fun y hy => hy⟩
  · cases l with
    | nil => rw [fieldT_nil hb] at h; cases h
    | cons z l =>
      rw [fieldT_cons hb] at h
      obtain ⟨-, rfl⟩ := Prod.mk.inj (Option.some.inj h)
      exact ⟨by simp, fun y hy => List.mem_cons_of_mem _ hy⟩
theorem takeR_less {x b1 b2 b4 : Int} {nb is : Bool} {l r : List Int} {o : S46} (h : takeR x b1 b2 b4 nb is l = some (o, r)) : r.length ≤ l.length ∧ (∀ y ∈ r, y ∈ l) := by
  unfold takeR at h
  split at h
  · cases h
  · obtain ⟨⟨x1, r1⟩, h1, h⟩ := Option.bind_eq_some_iff.1 h
    obtain ⟨⟨x2, r2⟩, h2, h⟩ := Option.bind_eq_some_iff.1 h
    obtain ⟨⟨x3, r3⟩, h3, h⟩ := Option.bind_eq_some_iff.1 h
    have l1 := fieldT_less h1
    have l2 := fieldT_less h2
    have l3 := fieldT_less h3
    have l4 : r3.length ≤ l.length ∧ (∀ y ∈ r3, y ∈ l) := ⟨by have := l1.1; have := l2.1; have := l3.1; simp only at *; omega, fun y hy => l1.2 y (l2.2 y (l3.2 y hy))⟩
    split at h
    · obtain ⟨-, rfl⟩ := Prod.mk.inj (Option.some.inj h)
      exact l4
    · split at h
      · cases h
      · obtain ⟨-, rfl⟩ := Prod.mk.inj (Option.some.inj h)
        exact ⟨by rw [List.length_drop]; have := l4.1; simp only at *; omega, fun y hy => l4.2 y (List.mem_of_mem_drop hy)⟩
theorem takeOp_less {x : Int} {l r : List Int} {o : S46} (h : takeOp (x :: l) = some (o, r)) : r.length ≤ l.length ∧ (∀ y ∈ r, y ∈ l) := takeR_less h

/-- The operations of bytes, behind those that stand already. -/
def decA : Nat → List Int → List S46 → Option (List S46)
  | 0, _, _ => none
  | _ + 1, [], out => some out
  | k + 1, x :: l, out => (takeOp (x :: l)).bind fun p => decA k p.2 (out ++ [p.1])
def byteRow (l : List Int) : Bool := l.all fun x => decide (0 ≤ x) && decide (x < 256)
theorem byteRow_at {l : List Int} (h : byteRow l = true) : ∀ y ∈ l, 0 ≤ y ∧ y < 256 := fun y hy => by
  have := List.all_eq_true.1 h y hy
  simp only [Bool.and_eq_true, decide_eq_true_eq] at this
  exact this
/-- The block of bytes, and the error. -/
def code_Decode.f (l : List Int) : Option (List S46 × Int) := if byteRow l = true ∧ l.length ≤ 1000000 then (match decA (l.length + 1) l [] with
  | none => some ([], 8)
  | some out => if rightB out = true then some (out, 0) else some ([], 8)) else none

set_option maxHeartbeats 4000000 in
theorem decode_core (A0 : Option Addr) (c0 : Nat) (l : List Int) (w : World) (D : List S46) (E : Int) (hC : Kd.C u8 w A0 l.length l) (hc : l.length ≤ c0) (hb : byteRow l = true) (hl : l.length ≤ 1000000)
    (HD : Hid ((decA (l.length + 1) l [] = none ∧ D = [] ∧ E = 8) ∨ ∃ out, decA (l.length + 1) l [] = some out ∧ ((rightB out = true ∧ D = out ∧ E = 0) ∨ (rightB out = false ∧ D = [] ∧ E = 8)))) :
    Calls Try.prog 17 #[.slice A0 l.length c0] w fun e w' => ∃ v, e = .returned (.tuple #[v, .int .i64 E]) ∧ Kd.R k46 46 w' w.heap.size (fun _ => True) v D ∧ Below w.heap.size w w' := by
  have hu46 := Try.underlying46
  have H0 := Lib.hid (And.intro hC (And.intro hc (byteRow_at hb)))
  clear hC hc hb
  go_enter Try.func17, Try.ntmps17
  go_wp2_with fail
  go_loopg [0, 2, 3, 4, 5, 6] (l.length + 1) (fun kq v0 v2 v3 _ _ _ W => ∃ (A1 : Option Addr) (c1 : Nat) (r : List Int) (A : Option Addr) (c : Nat) (out : List S46), v0 = .slice A1 r.length c1 ∧ v2 = .slice A out.length c ∧ v3 = .int .i64 0 ∧ Hid (r.length < kq) ∧ Hid (decA kq r out = decA (l.length + 1) l []) ∧ Hid (Kd.R k46 46 W w.heap.size (fun _ => True) (.slice A out.length c) out ∧ Below w.heap.size w W ∧ out.length + r.length ≤ l.length) ∧ Hid (Kd.C u8 w A1 r.length r ∧ r.length ≤ c1 ∧ (∀ y ∈ r, 0 ≤ y ∧ y < 256)))
  case atStart => exact ⟨A0, c0, l, none, 0, [], rfl, rfl, rfl, Lib.hid (by omega), Lib.hid rfl, Lib.hid ⟨Kd.R_nil _ _ _ _ _, Below.refl _ _, by simp⟩, H0⟩
  case round =>
    clear H0
    obtain ⟨A1, c1, r, A, c, out, rfl, rfl, rfl, hk, hd, hJ, hr⟩ := hrel
    cases r with
    | cons x r =>
      have q0 : (0 : Int) < ((x :: r).length : Nat) := by simp only [List.length_cons]; omega
      have C1 := Lib.hid (take_calls A1 c1 x r w wr hJ.out.2.1 hr.out.1 hr.out.2.1 (hr.out.2.2 x List.mem_cons_self) (fun y hy => hr.out.2.2 y (List.mem_cons_of_mem _ hy)))
      obtain ⟨k1, rfl⟩ : ∃ m, gk = m + 1 := ⟨gk - 1, by have := hk.out; omega⟩
      have hn1 : (x :: r).length = r.length + 1 := rfl
      have hk1 : Hid (r.length < k1) := Lib.hid (by have := hk.out; omega)
      have hj1 : Hid (out.length + r.length + 1 ≤ l.length) := Lib.hid (by have := hJ.out.2.2; omega)
      generalize hn : (x :: r).length = n at *
      clear hk hn1 hn
      cases hT : takeOp (x :: r) with
      | none =>
        rw [hT] at C1
        have HE : Hid (D = [] ∧ E = 8) := Lib.hid (by
          have h1 := hd.out
          simp only [decA, hT, Option.bind_none] at h1
          rcases HD.out with ⟨-, h⟩ | ⟨o, h, -⟩
          · exact h
          · rw [h] at h1; cases h1)
        clear hT HD hd hr hk1
        go_wp2_with fail
        refine C1.out.mono ?_
        rintro e w1 ⟨⟨o, v, rfl⟩, hB1⟩
        have HB1 := Lib.hid (bAfter hJ.out.2.1 hB1)
        clear hB1 C1 hJ
        go_wp2_with fail
        go_ret2
        refine ⟨_, by rw [HE.out.2]; rfl, ?_, bAfter HB1.out (bOne _)⟩
        rw [HE.out.1]
        exact Kd.R_nil _ _ _ _ _
      | some p =>
        obtain ⟨v, r'⟩ := p
        rw [hT] at C1
        have HL := Lib.hid (takeOp_less hT)
        have hd2 : Hid (decA k1 r' (out ++ [v]) = decA (l.length + 1) l []) := Lib.hid (by
          have h1 := hd.out
          simp only [decA, hT, Option.bind_some] at h1
          exact h1)
        have hr2 : Hid (∀ y ∈ r', 0 ≤ y ∧ y < 256) := Lib.hid (fun y hy => hr.out.2.2 y (List.mem_cons_of_mem _ (HL.out.2 y hy)))
        clear hT hd hr
        go_wp2_with fail
        refine C1.out.mono ?_
        rintro e w1 ⟨⟨A2, c2, rfl, hC2, hc2⟩, hB1⟩
        have HC2 := Lib.hid (And.intro hC2 hc2)
        clear hC2 hc2 C1
        obtain ⟨W4, hW4, K4, hB4⟩ : ∃ W4, w1.alloc (.cells #[.int .i64 v.f0, .int .i64 v.f1, .int .i64 v.f2, .int .i64 v.f3, .int .i64 v.f4] 46) = W4 ∧ W4.heap[w1.heap.size]? = some (.cells #[.int .i64 v.f0, .int .i64 v.f1, .int .i64 v.f2, .int .i64 v.f3, .int .i64 v.f4] 46 (0, 0)) ∧ Below w1.heap.size w1 W4 := ⟨_, rfl, heap_alloc_new _ _, bOne _⟩
        have d0 : W4.cell? ⟨w1.heap.size, 0, none⟩ = some (.int .i64 v.f0) := blk_cell K4 0
        have d1 : W4.cell? ⟨w1.heap.size, 1, none⟩ = some (.int .i64 v.f1) := blk_cell K4 1
        have d2 : W4.cell? ⟨w1.heap.size, 2, none⟩ = some (.int .i64 v.f2) := blk_cell K4 2
        have d3 : W4.cell? ⟨w1.heap.size, 3, none⟩ = some (.int .i64 v.f3) := blk_cell K4 3
        have d4 : W4.cell? ⟨w1.heap.size, 4, none⟩ = some (.int .i64 v.f4) := blk_cell K4 4
        have HJ := Lib.hid (And.intro (Kd.R_below hJ.out.1 (bAfter hB1 hB4)) (bAfter hJ.out.2.1 (bAfter hB1 hB4)))
        clear K4 hB4 hB1 hJ
        go_wp2_with (at_builtin; refine Kd.R_append_rows k46 (w0 := W4.alloc (.cells #[.int .i64 v.f0, .int .i64 v.f1, .int .i64 v.f2, .int .i64 v.f3, .int .i64 v.f4] 46)) (Rr := k46.K W4) w.heap.size rfl _ _ 28 46 _ _ rfl Try.underlying28 info46 rfl (by decide) (by decide) _ out [v] (some ⟨W4.heap.size, 0, none⟩) 1 1 (fun _ => True) (fun _ => False) rfl rfl ?HO ?HR ?hKM (fun _ h => h.elim) (fun _ _ => trivial) (Below.refl _ _) ?hbase ?hl ?_)
        case HO => exact Kd.R_alloc HJ.out.1 _
        case HR => exact ⟨rfl, by decide, fun _ => ⟨_, rfl, fun j p hj => by
            rcases j with _ | j
            · have : v = p := by simpa using hj
              subst this
              exact ⟨[.int .i64 v.f0, .int .i64 v.f1, .int .i64 v.f2, .int .i64 v.f3, .int .i64 v.f4], rfl, k46_mk _ v, fun q u hu => by
                rw [Addr.add_lit]
                show (W4.alloc _).cell? ⟨W4.heap.size, 0 + (0 * 5 + q), none⟩ = _
                rw [Nat.zero_mul, Nat.zero_add, Nat.zero_add]
                exact (blk_cell (blk_new _ _) q).trans (by simpa using hu)⟩
            · simp at hj⟩⟩
        case hKM => exact fun x cs h => flat46 h _ _
        case hbase => have := HJ.out.2.size; simp; omega
        case hl => have := hj1.out; omega
        intro v2 w2 hR2 hB2' hg2 _
        generalize hl2 : out ++ [v] = l2 at hR2
        have HL2 := Lib.hid hl2
        have hlen2 : l2.length = out.length + 1 := by rw [← hl2, List.length_append, List.length_singleton]
        have HLEN := Lib.hid hlen2
        clear hl2
        obtain ⟨A3, c3, rfl⟩ := Kd.R_slice hR2
        have hBF := (bAfter HJ.out.2 (bOne (.cells #[.int .i64 v.f0, .int .i64 v.f1, .int .i64 v.f2, .int .i64 v.f3, .int .i64 v.f4] 46))).grown hg2 (by have := HJ.out.2.size; simp; omega) (fun k hk => Kd.R_base HJ.out.1 k hk)
        have HZ := Lib.hid (And.intro hR2 hBF)
        clear hR2 hB2' hg2 hBF d0 d1 d2 d3 d4 hW4 hlen2
        go_wp2_with fail
        go_roundg k1
        case measure => omega
        case rel => exact ⟨A2, c2, r', A3, c3, l2, rfl, rfl, rfl, Lib.hid (by have := hk1.out; have := HL.out.1; omega), Lib.hid (by rw [← HL2.out]; exact hd2.out), Lib.hid ⟨HZ.out.1, HZ.out.2, by rw [HLEN.out]; have := hj1.out; have := HL.out.1; omega⟩, Lib.hid ⟨HC2.out.1, HC2.out.2, hr2.out⟩⟩
    | nil =>
      have hT : decA (l.length + 1) l [] = some out := by
        rw [← hd.out]
        obtain ⟨m, rfl⟩ : ∃ m, gk = m + 1 := ⟨gk - 1, by have := hk.out; omega⟩
        rfl
      rw [hT] at HD
      cases hr2 : rightB out with
      | true =>
        have HE : Hid (D = out ∧ E = 0) := Lib.hid (by
          rcases HD.out with ⟨h, -⟩ | ⟨o, h, h3⟩
          · cases h
          · obtain rfl := Option.some.inj h
            rcases h3 with ⟨-, h⟩ | ⟨h, -⟩
            · exact h
            · rw [hr2] at h; cases h)
        have C1 := Lib.hid (code_Right.calls A c out true wr (Kd.R_reads' hJ.out.1).2.2 (Kd.R_reads' hJ.out.1).2.1 (by rw [right_f, hr2]))
        clear hT HD hd hk hr hr2
        go_wp2_with fail
        refine C1.out.mono ?_
        rintro e w1 ⟨rfl, hB1⟩
        have HJ := Lib.hid (And.intro (Kd.R_below hJ.out.1 hB1) (bAfter hJ.out.2.1 hB1))
        clear hB1 C1 hJ
        go_wp2_with fail
        go_ret2
        refine ⟨_, by rw [HE.out.2]; rfl, ?_, HJ.out.2⟩
        rw [HE.out.1]
        exact HJ.out.1
      | false =>
        have HE : Hid (D = [] ∧ E = 8) := Lib.hid (by
          rcases HD.out with ⟨h, -⟩ | ⟨o, h, h3⟩
          · cases h
          · obtain rfl := Option.some.inj h
            rcases h3 with ⟨h, -⟩ | ⟨-, h⟩
            · rw [hr2] at h; cases h
            · exact h)
        have C1 := Lib.hid (code_Right.calls A c out false wr (Kd.R_reads' hJ.out.1).2.2 (Kd.R_reads' hJ.out.1).2.1 (by rw [right_f, hr2]))
        clear hT HD hd hk hr hr2
        go_wp2_with fail
        refine C1.out.mono ?_
        rintro e w1 ⟨rfl, hB1⟩
        have HJ := Lib.hid (bAfter hJ.out.2.1 hB1)
        clear hB1 C1 hJ
        go_wp2_with fail
        go_ret2
        refine ⟨_, by rw [HE.out.2]; rfl, ?_, HJ.out⟩
        rw [HE.out.1]
        exact Kd.R_nil _ _ _ _ _

theorem code_Decode.calls (A0 : Option Addr) (c0 : Nat) (l0 : List Int) (r1 : List S46) (r2 : Int) (w : World) (hr0 : Kd.C (Kd.int .u8) w A0 l0.length l0) (hc0 : l0.length ≤ c0) (h : code_Decode.f l0 = some (r1, r2)) :
    Calls Try.prog 17 #[.slice A0 l0.length c0] w fun e w' => ∃ v0_ : Value, e = .returned (.tuple #[v0_, .int .i64 r2]) ∧ Kd.R k46 46 w' w.heap.size (fun _ => True) v0_ r1 ∧ Below w.heap.size w w' := by
  unfold code_Decode.f at h
  split at h
  case isFalse => cases h
  rename_i hg
  refine decode_core A0 c0 l0 w r1 r2 hr0 hc0 hg.1 hg.2 (Lib.hid ?_)
  cases hd : decA (l0.length + 1) l0 [] with
  | none =>
    rw [hd] at h
    obtain ⟨rfl, rfl⟩ := Prod.mk.inj (Option.some.inj h)
    exact .inl ⟨rfl, rfl, rfl⟩
  | some out =>
    rw [hd] at h
    refine .inr ⟨out, rfl, ?_⟩
    cases hr : rightB out with
    | true =>
      simp only [hr, if_true] at h
      obtain ⟨rfl, rfl⟩ := Prod.mk.inj (Option.some.inj h)
      exact .inl ⟨rfl, rfl, rfl⟩
    | false =>
      simp only [hr] at h
      obtain ⟨rfl, rfl⟩ := Prod.mk.inj (Option.some.inj h)
      exact .inr ⟨rfl, rfl, rfl⟩

end Go.Proofs.Ytbnchippfebdkaa.Q
