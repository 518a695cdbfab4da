/- What is asked of a store ahead of each statement: it answers as it should. -/
import Derived.Test.YtnamlnlhigdnkaaHNew2
import Derived.Test.YtnamlnlhigdnkaaQ2
namespace Go.Proofs.Ytnamlnlhigdnkaa.Q
open Go.RowKit Go.Lib Go.Proofs.Ytnamlnlhigdnkaa Go.Proofs.YtnamlnlhigdnkaaW.PrintWords Go.Proofs.YtnamlnlhigdnkaaW.PrintLast Go.Proofs.YtnamlnlhigdnkaaW.PrintMore
set_option linter.unusedVariables false
set_option linter.unusedSimpArgs false

def L1 : List S35 := [var0, var0]
def L2 : List S35 := [var0, ⟨⟨1, 7⟩, 3, 4, 0⟩]
def L3 : List S35 := [var0, ⟨⟨1, 7⟩, 3, 4, 32⟩]
def L4 : List S35 := [var0, ⟨⟨1, 7⟩, 3, -1, 32⟩]
def L5 : List S31 := [⟨1, 0⟩, ⟨1, 7⟩]
theorem a1 : store_New.f 2 = some (L1, true) := by kernel_rfl
theorem a2 : store_Put.f L1 1 1 7 3 4 = some (L2, 0) := by kernel_rfl
theorem a3 : store_Mark.f L2 1 5 = some (L3, 0) := by kernel_rfl
theorem a4 : store_Get.f L3 1 = some (1, 7, 3, 4, 32, 0) := by kernel_rfl
theorem a5 : store_Get.f L3 2 = some (0, 0, 0, 0, 0, 3) := by kernel_rfl
theorem a6 : store_Drop.f L3 4 = some L4 := by kernel_rfl
theorem a7 : store_Values.f 5 L3 = some L5 := by kernel_rfl

def warpbeamlaw07_alive.f : Option Bool := some true

attribute [local go_sem high] eqA35

set_option maxHeartbeats 1000000 in
theorem warpbeamlaw07_alive.calls (r : Bool) (w : World) (h : warpbeamlaw07_alive.f = some r) :
    Calls Try.prog 9 #[] w fun e w' => e = .returned (.bool r) ∧ Below w.heap.size w w' := by
  obtain rfl : true = r := Option.some.inj h
  clear h
  have hu35 := Try.underlying35
  have hu31 := Try.underlying31
  have C1 := Lib.hid (store_New.calls 2 L1 true w a1)
  go_enter Try.func9, Try.ntmps9
  go_wp2_with fail
  refine C1.out.mono ?_
  rintro e w1 ⟨v1, rfl, hR1, hB1⟩
  have HV1 := Kd.V_mono (ok' := fun _ => True) (V_of_R (B := w1.heap.size) hR1) (fun _ _ => trivial)
  obtain ⟨A1, c1, rfl⟩ := Kd.V_slice HV1
  have HB1 := Lib.hid hB1
  have C2 := Lib.hid (store_Put.calls (fun _ => True) A1 c1 L1 1 1 7 3 4 L2 0 w1 HV1 a2)
  clear hR1 hB1 C1 HV1
  go_wp2_with fail
  refine C2.out.mono ?_
  rintro e w2 ⟨v2, rfl, hV2, hB2⟩
  have HV2 := Kd.V_mono (ok' := fun _ => True) hV2 (fun _ _ => trivial)
  obtain ⟨A2, c2, rfl⟩ := Kd.V_slice HV2
  have HB2 := Lib.hid (bAfter HB1.out hB2)
  have C3 := Lib.hid (store_Mark.calls (fun _ => True) A2 c2 L2 1 5 L3 0 w2 HV2 a3)
  clear hV2 hB2 C2 HV2 HB1
  go_wp2_with fail
  refine C3.out.mono ?_
  rintro e w3 ⟨v3, rfl, hV3, hB3⟩
  obtain ⟨A3, c3, rfl⟩ := Kd.V_slice hV3
  obtain ⟨-, hc3, hC3⟩ := Kd.V_reads' hV3
  have HB3 := Lib.hid (bAfter HB2.out hB3)
  have C4 := Lib.hid (store_Get.calls A3 c3 L3 1 _ _ _ _ _ _ w3 hC3 hc3 a4)
  have HC3 := Lib.hid (And.intro hc3 hC3)
  clear hV3 hB3 C3 HB2 hc3 hC3
  go_wp2_with fail
  refine C4.out.mono ?_
  rintro e w4 ⟨rfl, hb4⟩
  have HB4 := Lib.hid (bAfter hb4 (bOne (w := w4) (.cells #[.int .i64 1, .int .i64 7, .int .i64 3, .int .i64 4, .int .u64 32] 35)))
  have C5 := Lib.hid (store_Get.calls A3 c3 L3 2 _ _ _ _ _ _ _ (Kd.C_below HC3.out.2 HB4.out) HC3.out.1 a5)
  clear C4 hb4
  go_wp2_with fail
  refine C5.out.mono ?_
  rintro e w5 ⟨rfl, hb5⟩
  have hx := one_box hb5
  have HX := Lib.hid hx.1
  have hp : w4.heap.size < w5.heap.size := by have := hx.2.1; omega
  have HB5 := Lib.hid (bAfter HB4.out hb5)
  have HB6 := Lib.hid (bAfter HB5.out (bOne (w := w5) (.cells #[.int .i64 0, .int .i64 0, .int .i64 0, .int .i64 0, .int .u64 0] 35)))
  have C6 := Lib.hid (store_Drop.calls A3 c3 L3 4 L4 _ (Kd.C_below HC3.out.2 HB6.out) HC3.out.1 a6)
  clear C5 hb5 hx HB4 HB5
  go_wp2_with fail
  refine C6.out.mono ?_
  rintro e w6 ⟨v6, rfl, hR6, hB6⟩
  have HB7 := Lib.hid (bAfter HB6.out hB6)
  have C7 := Lib.hid (store_Values.calls 5 A3 c3 L3 L5 w6 (Kd.C_below HC3.out.2 HB7.out) HC3.out.1 a7)
  obtain ⟨g6, p6, rfl, -, hg6, -⟩ := Kd.R_form hR6 (by decide)
  have HX6 : Hid (w6.heap[w4.heap.size]? = _) := Lib.hid ((hB6.block _ (by rw [World.size_alloc]; omega)).trans ((Below.heap_alloc _ _ _ hp).trans HX.out))
  have hp6 : w4.heap.size < w6.heap.size := (Array.getElem?_eq_some_iff.1 HX6.out).1
  have HR6 := Lib.hid hR6
  clear C6 hR6 hB6 HB6 HX
  go_wp2_with fail
  refine C7.out.mono ?_
  rintro e w7 ⟨v7, rfl, hR7, hB7⟩
  obtain ⟨g7, p7, rfl, -, hg7, -⟩ := Kd.R_form hR7 (by decide)
  have HX7 : w7.heap[w4.heap.size]? = _ := (hB7.block _ hp6).trans HX6.out
  have k0 : w7.cell? ⟨w4.heap.size, 0, none⟩ = some (.int .i64 1) := by simp [World.cell?, HX7]
  have k1 : w7.cell? ⟨w4.heap.size, 1, none⟩ = some (.int .i64 7) := by simp [World.cell?, HX7]
  have k2 : w7.cell? ⟨w4.heap.size, 2, none⟩ = some (.int .i64 3) := by simp [World.cell?, HX7]
  have k3 : w7.cell? ⟨w4.heap.size, 3, none⟩ = some (.int .i64 4) := by simp [World.cell?, HX7]
  have k4 : w7.cell? ⟨w4.heap.size, 4, none⟩ = some (.int .u64 32) := by simp [World.cell?, HX7]
  obtain ⟨c, hcl, hM, hcc, -⟩ := Kd.R_elem (Kd.R_below HR6.out hB7) z35 1 (by decide) (by decide)
  have m3 : w7.cell? ⟨g6, 8, none⟩ = some (.int .i64 (-1)) := hcc 3 _ (by rw [k35_openM hM]; rfl)
  obtain ⟨d, hdl, hM1, hdc, -⟩ := Kd.R_elem hR7 z31 1 (by decide) (by decide)
  have m1 : w7.cell? ⟨g7, 3, none⟩ = some (.int .i64 7) := hdc 1 _ (by rw [k31_openM hM1]; rfl)
  obtain ⟨d', hdl', hM0, hdc', -⟩ := Kd.R_elem hR7 z31 0 (by decide) (by decide)
  have m0 : w7.cell? ⟨g7, 0, none⟩ = some (.int .i64 1) := hdc' 0 _ (by rw [k31_openM hM0]; rfl)
  have HZ := Lib.hid (bAfter HB3.out (bAfter HB7.out hB7))
  have N4 : L4.length = 2 := rfl
  have N5 : L5.length = 2 := rfl
  clear C7 hR7 hB7 HR6 HX6 HX7 hcc hdc hdc' hM hM1 hM0 HB7 HB3 HC3 hcl hdl hdl' hg6 hg7 hp hp6
  go_wp2_with fail
  go_ret
  exact ⟨rfl, HZ.out⟩

end Go.Proofs.Ytnamlnlhigdnkaa.Q
