/- What is asked ahead of each statement about code: it answers as the document says. -/
import Derived.Test.YtbnchippfebdkaaHDecode
import Derived.Test.YtbnchippfebdkaaHFind
import Derived.Test.YtbnchippfebdkaaQ2
import Derived.Test.YtbnchippfebdkaaQ2
namespace Go.Proofs.Ytbnchippfebdkaa.Q
open Go.RowKit Go.Lib Go.Proofs.Ytbnchippfebdkaa Go.Proofs.YtbnchippfebdkaaW.PrintWords Go.Proofs.YtbnchippfebdkaaW.PrintLast Go.Proofs.YtbnchippfebdkaaW.PrintMore
set_option linter.unusedVariables false
set_option linter.unusedSimpArgs false

theorem eqA46 (d : Nat) (w : World) (x0 y0 : Int) (x1 y1 : Int) (x2 y2 : Int) (x3 y3 : Int) (x4 y4 : Int) :
    (Op.equalIn (d + 2) 46 (.agg #[.int .i64 x0, .int .i64 x1, .int .i64 x2, .int .i64 x3, .int .i64 x4]) (.agg #[.int .i64 y0, .int .i64 y1, .int .i64 y2, .int .i64 y3, .int .i64 y4])).run Try.prog w = .ok (x0 == y0 && (x1 == y1 && (x2 == y2 && (x3 == y3 && (x4 == y4))))) w := by
  refine eqA_of Try.underlying46 (by kernel_rfl) ?_
  refine eqf_cons (by rfl) (by go_simp; rfl) (by go_simp; rfl) (by go_simp) ?_
  refine eqf_cons (by rfl) (by go_simp; rfl) (by go_simp; rfl) (by go_simp) ?_
  refine eqf_cons (by rfl) (by go_simp; rfl) (by go_simp; rfl) (by go_simp) ?_
  refine eqf_cons (by rfl) (by go_simp; rfl) (by go_simp; rfl) (by go_simp) ?_
  exact eqf_last (by rfl) (by go_simp; rfl) (by go_simp; rfl) (by go_simp)

/-- A row of bytes that a statement lays. -/
theorem C_bytes {w : World} {g : Nat} {t : TypeId} {xs : List Int} {cs : Array Value} (h : w.heap[g]? = some (.cells cs t (0, 0))) (e : cs = (xs.map (Value.int .u8)).toArray) (hl : xs.length ≤ 1000) : Kd.C (Kd.int .u8) w (some ⟨g, 0, none⟩) xs.length xs := by
  subst e
  refine ⟨rfl, by omega, fun _ => ⟨_, rfl, fun j p hj => ⟨[.int .u8 p], rfl, rfl, fun q u hu => ?_⟩⟩⟩
  rcases q with _ | q
  · obtain rfl : .int .u8 p = u := by simpa using hu
    rw [Addr.add_lit]
    refine (blk_cell h _).trans ?_
    show ((xs.map (Value.int .u8)).toArray)[0 + (j * 1 + 0)]? = _
    rw [Nat.mul_one, Nat.zero_add, Nat.add_zero, List.getElem?_toArray, List.getElem?_map, hj]
    rfl
  · simp at hu

def opsA : List S46 := [⟨3, 1, 2, 0, 0⟩, ⟨16, 0, 0, 0, 0⟩]
/-- Two operations that a statement lays. -/
theorem C_two {w : World} {g : Nat} {t : TypeId} (a b : S46) (h : w.heap[g]? = some (.cells (opV a ++ opV b) t (0, 0))) : Kd.C k46 w (some ⟨g, 0, none⟩) 2 [a, b] := by
  refine ⟨rfl, by decide, fun _ => ⟨_, rfl, fun j p hj => ?_⟩⟩
  rcases j with _ | _ | j
  · obtain rfl : a = p := by simpa using hj
    refine ⟨_, rfl, k46_mk _ a, fun q u hu => ?_⟩
    rw [Addr.add_lit]
    refine (blk_cell h _).trans ?_
    show (opV a ++ opV b)[0 + (0 * 5 + q)]? = _
    have hq : q < 5 := by
      rcases Nat.lt_or_ge q 5 with h | h
      · exact h
      · rw [List.getElem?_eq_none (by exact h)] at hu; cases hu
    rw [Nat.zero_mul, Nat.zero_add, Nat.zero_add, ← hu]
    rcases q with _ | _ | _ | _ | _ | q <;> first | rfl | omega
  · obtain rfl : b = p := by simpa using hj
    refine ⟨_, rfl, k46_mk _ b, fun q u hu => ?_⟩
    rw [Addr.add_lit]
    refine (blk_cell h _).trans ?_
    show (opV a ++ opV b)[0 + ((0 + 1) * 5 + q)]? = _
    have hq : q < 5 := by
      rcases Nat.lt_or_ge q 5 with h | h
      · exact h
      · rw [List.getElem?_eq_none (by exact h)] at hu; cases hu
    rw [← hu]
    rcases q with _ | _ | _ | _ | _ | q <;> first | rfl | omega
  · simp at hj

theorem a1 : code_Encode.f opsA = some ([3, 1, 2, 16], 0) := by kernel_rfl
theorem a2 : code_Decode.f [3, 1, 2, 16] = some (opsA, 0) := by kernel_rfl
theorem a3 : code_Decode.f [3, 1] = some ([], 8) := by kernel_rfl
theorem a4 : code_Find.f ⟨#[114, 101, 116, 114, 121]⟩ = some (14, true) := by kernel_rfl
theorem a5 : slices_Equal_byte_byte.f 100 [3, 1, 2, 16] [3, 1, 2, 16] = some true := by kernel_rfl
theorem a6 : code_Name.f 16 = some ⟨#[101, 110, 100]⟩ := by kernel_rfl
theorem a7 : code_Right.f opsA = some true := by kernel_rfl
theorem a8 : code_Right.f [] = some false := by kernel_rfl

def warpbeamlaw16_alive.f : Option Bool := some true

attribute [local go_sem high] eqA46
set_option maxHeartbeats 2000000 in
theorem warpbeamlaw16_alive.calls (r : Bool) (w : World) (h : warpbeamlaw16_alive.f = some r) :
    Calls Try.prog 10 #[] w fun e w' => e = .returned (.bool r) ∧ Below w.heap.size w w' := by
  obtain rfl : true = r := Option.some.inj h
  clear h
  have hu46 := Try.underlying46
  obtain ⟨W0, hW0, K0, hB0⟩ : ∃ W0, w.alloc (.cells #[.int .i64 3, .int .i64 1, .int .i64 2, .int .i64 0, .int .i64 0, .int .i64 16, .int .i64 0, .int .i64 0, .int .i64 0, .int .i64 0] 46) = W0 ∧ W0.heap[w.heap.size]? = some (.cells #[.int .i64 3, .int .i64 1, .int .i64 2, .int .i64 0, .int .i64 0, .int .i64 16, .int .i64 0, .int .i64 0, .int .i64 0, .int .i64 0] 46 (0, 0)) ∧ Below w.heap.size w W0 := ⟨_, rfl, heap_alloc_new _ _, bOne _⟩
  have C1 := Lib.hid (code_Encode.calls (some ⟨w.heap.size, 0, none⟩) 2 opsA _ _ W0 (C_two _ _ K0) (by decide) a1)
  have HB := Lib.hid hB0
  clear K0 hB0
  go_enter Try.func10, Try.ntmps10
  go_wp2_with fail
  refine C1.out.mono ?_
  rintro e w1 ⟨v1, rfl, hR1, hB1⟩
  obtain ⟨A1, c1, rfl⟩ := Kd.R_slice hR1
  obtain ⟨W1, hW1, K1, hB1'⟩ : ∃ W1, w1.alloc (.cells #[.int .u8 3, .int .u8 1, .int .u8 2, .int .u8 16] 5) = W1 ∧ W1.heap[w1.heap.size]? = some (.cells #[.int .u8 3, .int .u8 1, .int .u8 2, .int .u8 16] 5 (0, 0)) ∧ Below w1.heap.size w1 W1 := ⟨_, rfl, heap_alloc_new _ _, bOne _⟩
  have C2 := Lib.hid (code_Decode.calls (some ⟨w1.heap.size, 0, none⟩) 4 [3, 1, 2, 16] _ _ W1 (C_bytes K1 rfl (by decide)) (by decide) a2)
  have HK := Lib.hid (Kept.add (kept_B (bAfter HB.out (bAfter hB1 hB1'))) (kept_R (Kd.R_below hR1 hB1')))
  clear hR1 hB1 hB1' K1 HB C1 hW0
  go_wp2_with fail
  refine C2.out.mono ?_
  rintro e w2 ⟨v2, rfl, hR2, hB2⟩
  obtain ⟨A2, c2, rfl⟩ := Kd.R_slice hR2
  obtain ⟨W2, hW2, K2, hB2'⟩ : ∃ W2, w2.alloc (.cells #[.int .u8 3, .int .u8 1] 5) = W2 ∧ W2.heap[w2.heap.size]? = some (.cells #[.int .u8 3, .int .u8 1] 5 (0, 0)) ∧ Below w2.heap.size w2 W2 := ⟨_, rfl, heap_alloc_new _ _, bOne _⟩
  have C3 := Lib.hid (code_Decode.calls (some ⟨w2.heap.size, 0, none⟩) 2 [3, 1] _ _ W2 (C_bytes K2 rfl (by decide)) (by decide) a3)
  replace HK := Lib.hid (Kept.add (HK.out.next (bAfter hB2 hB2')) (kept_R (Kd.R_below hR2 hB2')))
  clear hR2 hB2 hB2' K2 C2 hW1
  go_wp2_with fail
  refine C3.out.mono ?_
  rintro e w3 ⟨v3, rfl, hR3, hB3⟩
  replace HK := Lib.hid (HK.out.next hB3)
  have C4 := Lib.hid (code_Find.calls ⟨#[114, 101, 116, 114, 121]⟩ _ _ w3 a4)
  clear hR3 hB3 C3 hW2
  go_wp2_with fail
  refine C4.out.mono ?_
  rintro e w4 ⟨rfl, hB4⟩
  obtain ⟨W4, hW4, K4, hB4'⟩ : ∃ W4, w4.alloc (.cells #[.int .u8 3, .int .u8 1, .int .u8 2, .int .u8 16] 5) = W4 ∧ W4.heap[w4.heap.size]? = some (.cells #[.int .u8 3, .int .u8 1, .int .u8 2, .int .u8 16] 5 (0, 0)) ∧ Below w4.heap.size w4 W4 := ⟨_, rfl, heap_alloc_new _ _, bOne _⟩
  replace HK := Lib.hid (HK.out.next (bAfter hB4 hB4'))
  have HR1 := Kd.R_reads' HK.out.now.1.2
  have C5 := Lib.hid (slices_Equal_byte_byte.calls 100 A1 c1 [3, 1, 2, 16] (some ⟨w4.heap.size, 0, none⟩) 4 [3, 1, 2, 16] true W4 HR1.2.2 HR1.2.1 (C_bytes K4 rfl (by decide)) (by decide) a5)
  clear hB4 hB4' K4 C4 HR1
  go_wp2_with fail
  refine C5.out.mono ?_
  rintro e w5 ⟨rfl, nd, rfl⟩
  have hB5 : Below W4.heap.size W4 (W4.drewN nd) := pw_below_drewN (Below.refl _ _) nd
  replace HK := Lib.hid (HK.out.next hB5)
  obtain ⟨V5, hV5⟩ : ∃ V5, W4.drewN nd = V5 := ⟨_, rfl⟩
  rw [hV5] at HK
  have hC := (Kd.R_reads' HK.out.now.2).2
  obtain ⟨ad, hA, e0, e1, e2, e3, e4⟩ := at_T46 hC.2 0 (by decide) (by decide)
  subst hA
  have ea : ad.add 0 = ad := by cases ad; rfl
  have d0 : V5.cell? ad = some (.int .i64 3) := by
    have h : V5.cell? (ad.add 0) = some (.int .i64 3) := e0
    rwa [ea] at h
  have d1 : V5.cell? ⟨ad.block, ad.off + 1, none⟩ = some (.int .i64 1) := e1
  have d2 : V5.cell? ⟨ad.block, ad.off + 2, none⟩ = some (.int .i64 2) := e2
  have d3 : V5.cell? ⟨ad.block, ad.off + 3, none⟩ = some (.int .i64 0) := e3
  have d4 : V5.cell? ⟨ad.block, ad.off + 4, none⟩ = some (.int .i64 0) := e4
  have C6 := Lib.hid (code_Name.calls 16 _ V5 a6)
  have HN : opsA.length = 2 := rfl
  clear e0 e1 e2 e3 e4 ea hC C5 hB5 hW4
  go_wp2_with fail
  refine C6.out.mono ?_
  rintro e w6 ⟨rfl, hB6⟩
  replace HK := Lib.hid (HK.out.next hB6)
  have hC := (Kd.R_reads' HK.out.now.2).2
  have C7 := Lib.hid (code_Right.calls _ _ opsA true w6 hC.2 hC.1 a7)
  clear hC hB6 C6 d0 d1 d2 d3 d4
  go_wp2_with fail
  refine C7.out.mono ?_
  rintro e w7 ⟨rfl, hB7⟩
  replace HK := Lib.hid (HK.out.next hB7)
  have C8 := Lib.hid (code_Right.calls none 0 [] false w7 (Kd.C_nil _ _) (by decide) a8)
  clear hB7 C7
  go_wp2_with fail
  refine C8.out.mono ?_
  rintro e w8 ⟨rfl, hB8⟩
  replace HK := Lib.hid (HK.out.next hB8)
  clear hB8 C8
  go_wp2_with fail
  go_ret
  exact ⟨rfl, HK.out.now.1.1⟩

end Go.Proofs.Ytbnchippfebdkaa.Q
