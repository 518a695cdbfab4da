/- A loop counts down: the law. -/
import Derived.Test.YtgnjkegnddekeaaAliveM
import Derived.Test.YtgnjkegnddekeaaRows
import Derived.ProofKit
import Derived.OpenShut
import Derived.SizedLaws
import Derived.WideLaws
namespace Go.Proofs.Ytgnjkegnddekeaa.Q
open Go.RowKit Go.Lib Go.Proofs.Ytgnjkegnddekeaa Go.Proofs.YtgnjkegnddekeaaW.PrintWords Go.Proofs.YtgnjkegnddekeaaW.PrintLast Go.Proofs.YtgnjkegnddekeaaW.PrintMore
set_option linter.unusedVariables false
set_option linter.unusedSimpArgs false

set_option maxRecDepth 100000 in
set_option maxHeartbeats 2000000 in
theorem loops_core (n f : Int) (hn0 : 0 ≤ n) (hn1 : n < 256) (hf0 : 0 ≤ f) (hf1 : f < 65536) (W : World) :
    Calls Try.prog 6 #[.int .u8 n, .int .u16 f] W fun e w' => e = .returned (.bool true) ∧ Below W.heap.size W w' := by
  have hu34 := Try.underlying34
  have hu42 := Try.underlying42
  have hu59 := Try.underlying59
  have hu74 := Try.underlying74
  obtain ⟨k, hk⟩ : ∃ k : Nat, n % 50 = k := ⟨(n % 50).toNat, by omega⟩
  obtain ⟨g, hg⟩ : ∃ g : Int, f % 400 = g := ⟨_, rfl⟩
  have hk1 : k < 50 := by omega
  have hg0 : 0 ≤ g := by omega
  have hg1 : g < 400 := by omega
  have hm1 : wrap64 (3 * (k : Int)) = 3 * k := by unfold wrap64; omega
  have hm2 : wrap64 (2 + 3 * (k : Int)) = 2 + 3 * k := by unfold wrap64; omega
  have hm3 : wrap64 (2 + 3 * (k : Int) + 2) = 2 + 3 * k + 2 := by unfold wrap64; omega
  have HA := Lib.hid (alive_calls W)
  have hall := loop_all k g (by omega) hg0 (by omega)
  by_cases hlt : g < 2 + 3 * (k : Int) + 2
  · obtain ⟨rs, hr⟩ := hall.1 hlt
    clear hall
    have hlt' : decide (g < 2 + 3 * (k : Int) + 2) = true := by simpa using hlt
    go_enter Try.func6, Try.ntmps6
    go_wp2_with fail
    refine HA.out.mono ?_
    rintro e w1 ⟨rfl, hB1⟩
    obtain ⟨W2, hW2, K2, hB2⟩ : ∃ V, w1.alloc (.cells #[.int .i64 0, .int .i64 0, .int .i64 0, .int .i64 0, .int .i64 k, .int .i64 0, .int .i64 1, .int .i64 0, .int .i64 0, .int .i64 1, .int .i64 11, .int .i64 0, .int .i64 0, .int .i64 4, .int .i64 0, .int .i64 16, .int .i64 0, .int .i64 0, .int .i64 0, .int .i64 0, .int .i64 5, .int .i64 0, .int .i64 0, .int .i64 1, .int .i64 0, .int .i64 10, .int .i64 0, .int .i64 0, .int .i64 2, .int .i64 0] 74) = V ∧ V.heap[w1.heap.size]? = some (.cells #[.int .i64 0, .int .i64 0, .int .i64 0, .int .i64 0, .int .i64 k, .int .i64 0, .int .i64 1, .int .i64 0, .int .i64 0, .int .i64 1, .int .i64 11, .int .i64 0, .int .i64 0, .int .i64 4, .int .i64 0, .int .i64 16, .int .i64 0, .int .i64 0, .int .i64 0, .int .i64 0, .int .i64 5, .int .i64 0, .int .i64 0, .int .i64 1, .int .i64 0, .int .i64 10, .int .i64 0, .int .i64 0, .int .i64 2, .int .i64 0] 74 (0, 0)) ∧ Below w1.heap.size w1 V := ⟨_, rfl, heap_alloc_new _ _, bOne _⟩
    have hC := C_lit k74 encO (fun W x => k74_mk W x) (loopL k) K2 rfl (by simp [loopL])
    have hR := run_calls W2 _ 6 (loopL k) none 0 [] g zR hC (Nat.le_refl _) (C_nil _ _) (Nat.le_refl _) (by intro o ho; simp only [loopL, List.mem_cons, List.not_mem_nil, or_false] at ho; rcases ho with rfl | rfl | rfl | rfl | rfl | rfl <;> refine ⟨?_, ?_⟩ <;> unfold R64 <;> dsimp only <;> omega) (by simp) zR_ok (by omega)
    rw [hr] at hR
    have HR := Lib.hid hR
    have HB := Lib.hid (bAfter hB1 hB2)
    clear hC hR K2 hB1 hB2 hr HA
    go_wp2_with fail
    refine HR.out.mono ?_
    rintro e w3 ⟨TA, tc, rfl, hl8, -, -, hB3⟩
    dsimp only at hl8
    obtain ⟨Va, hVa, KVa, hBVa⟩ : ∃ V, w3.alloc (.cells #[.int .i64 0, .int .i64 0, .int .i64 0, .int .i64 0, .int .i64 0, .int .i64 0, .int .i64 0, .int .i64 0, .int .i64 0, .int .i64 0, .int .i64 0, .int .i64 0, .int .i64 0, .int .i64 0, .int .i64 0, .int .i64 0, .int .i64 0, .int .i64 0, .slice none 0 0] 59) = V ∧ V.heap[w3.heap.size]? = some (.cells #[.int .i64 0, .int .i64 0, .int .i64 0, .int .i64 0, .int .i64 0, .int .i64 0, .int .i64 0, .int .i64 0, .int .i64 0, .int .i64 0, .int .i64 0, .int .i64 0, .int .i64 0, .int .i64 0, .int .i64 0, .int .i64 0, .int .i64 0, .int .i64 0, .slice none 0 0] 59 (0, 0)) ∧ Below w3.heap.size w3 V := ⟨_, rfl, heap_alloc_new _ _, bOne _⟩
    obtain ⟨V, hSV, KV, hOV⟩ := st_whole (P := Try.prog) (ty := 59) (vs := .int .i64 3 :: .int .i64 (g) :: (rc rs ++ [.slice TA 0 tc])) KVa (by have := rc_length rs; simp [this, hl8]) (by have := rc_length rs; rw [size59]; simp [this, hl8]) (by
      intro v hv
      simp only [List.mem_cons, List.mem_append, List.not_mem_nil, or_false] at hv
      rcases hv with rfl | rfl | hv | rfl
      · rfl
      · rfl
      · exact rc_one _ v hv
      · rfl)
    have HB4 := Lib.hid (bAfter (bAfter HB.out hB3) (hBVa.trans (hOV.below (Nat.le_refl _) hBVa.size)))
    have r0 : V.cell? ⟨w3.heap.size, 0, none⟩ = some (.int .i64 3) := blk_cell KV 0
    have r1 : V.cell? ⟨w3.heap.size, 1, none⟩ = some (.int .i64 (g)) := blk_cell KV 1
    clear KVa hBVa KV hOV hB3 HR
    go_wp2_with (refine wpList_st rfl rfl hSV ?_)
    go_ret
    exact ⟨rfl, HB4.out⟩
  · have hr := hall.2 hlt
    clear hall
    have hlt' : decide (g < 2 + 3 * (k : Int) + 2) = false := by simpa using hlt
    go_enter Try.func6, Try.ntmps6
    go_wp2_with fail
    refine HA.out.mono ?_
    rintro e w1 ⟨rfl, hB1⟩
    obtain ⟨W2, hW2, K2, hB2⟩ : ∃ V, w1.alloc (.cells #[.int .i64 0, .int .i64 0, .int .i64 0, .int .i64 0, .int .i64 k, .int .i64 0, .int .i64 1, .int .i64 0, .int .i64 0, .int .i64 1, .int .i64 11, .int .i64 0, .int .i64 0, .int .i64 4, .int .i64 0, .int .i64 16, .int .i64 0, .int .i64 0, .int .i64 0, .int .i64 0, .int .i64 5, .int .i64 0, .int .i64 0, .int .i64 1, .int .i64 0, .int .i64 10, .int .i64 0, .int .i64 0, .int .i64 2, .int .i64 0] 74) = V ∧ V.heap[w1.heap.size]? = some (.cells #[.int .i64 0, .int .i64 0, .int .i64 0, .int .i64 0, .int .i64 k, .int .i64 0, .int .i64 1, .int .i64 0, .int .i64 0, .int .i64 1, .int .i64 11, .int .i64 0, .int .i64 0, .int .i64 4, .int .i64 0, .int .i64 16, .int .i64 0, .int .i64 0, .int .i64 0, .int .i64 0, .int .i64 5, .int .i64 0, .int .i64 0, .int .i64 1, .int .i64 0, .int .i64 10, .int .i64 0, .int .i64 0, .int .i64 2, .int .i64 0] 74 (0, 0)) ∧ Below w1.heap.size w1 V := ⟨_, rfl, heap_alloc_new _ _, bOne _⟩
    have hC := C_lit k74 encO (fun W x => k74_mk W x) (loopL k) K2 rfl (by simp [loopL])
    have hR := run_calls W2 _ 6 (loopL k) none 0 [] g zR hC (Nat.le_refl _) (C_nil _ _) (Nat.le_refl _) (by intro o ho; simp only [loopL, List.mem_cons, List.not_mem_nil, or_false] at ho; rcases ho with rfl | rfl | rfl | rfl | rfl | rfl <;> refine ⟨?_, ?_⟩ <;> unfold R64 <;> dsimp only <;> omega) (by simp) zR_ok (by omega)
    rw [hr] at hR
    have HR := Lib.hid hR
    have HB := Lib.hid (bAfter hB1 hB2)
    clear hC hR K2 hB1 hB2 hr HA
    go_wp2_with fail
    refine HR.out.mono ?_
    rintro e w3 ⟨TA, tc, rfl, hl8, -, -, hB3⟩
    dsimp only at hl8
    obtain ⟨Va, hVa, KVa, hBVa⟩ : ∃ V, w3.alloc (.cells #[.int .i64 0, .int .i64 0, .int .i64 0, .int .i64 0, .int .i64 0, .int .i64 0, .int .i64 0, .int .i64 0, .int .i64 0, .int .i64 0, .int .i64 0, .int .i64 0, .int .i64 0, .int .i64 0, .int .i64 0, .int .i64 0, .int .i64 0, .int .i64 0, .slice none 0 0] 59) = V ∧ V.heap[w3.heap.size]? = some (.cells #[.int .i64 0, .int .i64 0, .int .i64 0, .int .i64 0, .int .i64 0, .int .i64 0, .int .i64 0, .int .i64 0, .int .i64 0, .int .i64 0, .int .i64 0, .int .i64 0, .int .i64 0, .int .i64 0, .int .i64 0, .int .i64 0, .int .i64 0, .int .i64 0, .slice none 0 0] 59 (0, 0)) ∧ Below w3.heap.size w3 V := ⟨_, rfl, heap_alloc_new _ _, bOne _⟩
    obtain ⟨V, hSV, KV, hOV⟩ := st_whole (P := Try.prog) (ty := 59) (vs := .int .i64 0 :: .int .i64 (2 + 3 * (k : Int) + 2) :: (rc (loopR 0) ++ [.slice TA 0 tc])) KVa (by have := rc_length (loopR 0); simp [this, hl8]) (by have := rc_length (loopR 0); rw [size59]; simp [this, hl8]) (by
      intro v hv
      simp only [List.mem_cons, List.mem_append, List.not_mem_nil, or_false] at hv
      rcases hv with rfl | rfl | hv | rfl
      · rfl
      · rfl
      · exact rc_one _ v hv
      · rfl)
    have HB4 := Lib.hid (bAfter (bAfter HB.out hB3) (hBVa.trans (hOV.below (Nat.le_refl _) hBVa.size)))
    have r0 : V.cell? ⟨w3.heap.size, 0, none⟩ = some (.int .i64 0) := blk_cell KV 0
    have r1 : V.cell? ⟨w3.heap.size, 1, none⟩ = some (.int .i64 (2 + 3 * (k : Int) + 2)) := blk_cell KV 1
    have r3 : V.cell? ⟨w3.heap.size, 3, none⟩ = some (.int .i64 0) := blk_cell KV 3
    clear KVa hBVa KV hOV hB3 HR
    go_wp2_with (refine wpList_st rfl rfl hSV ?_)
    go_ret
    exact ⟨rfl, HB4.out⟩
end Go.Proofs.Ytgnjkegnddekeaa.Q
namespace Go.Proofs.Ytgnjkegnddekeaa
open Go.ChangeShapes Go.WideShapes Go.ChangeAt Go.RowKit Go.Proofs.Ytgnjkegnddekeaa.Q Go.Proofs.YtgnjkegnddekeaaW.PrintWords Go.Proofs.YtgnjkegnddekeaaW.PrintLast Go.Proofs.YtgnjkegnddekeaaW.PrintMore
set_option maxRecDepth 100000 in
theorem walk_BlockLoops {H : Type} {enc : TypeId × Value → H} (W : World) (base : Nat) (v0 : Value) (d0 : DataW H) (p0 : List MemPlace) (o0 : Value.okWide Try.prog W .any base 5 v0) (h0 : DataW.Trod enc Try.prog W 0 (fun _ => true) true 5 v0 d0 p0) (v1 : Value) (d1 : DataW H) (p1 : List MemPlace) (o1 : Value.okWide Try.prog W .any base 71 v1) (h1 : DataW.Trod enc Try.prog W 0 (fun _ => true) true 71 v1 d1 p1) (_hsz : (DataW.weightsEach Try.prog (Try.f6.params.toList ++ Rows.blockLoopsSpec.plain.varTypes Try.prog) ([d0, d1] ++ [])).all (· ≤ reachBytes) = true) :
    Calls Try.prog 6 #[v0, v1] W fun e w' => e = .returned (.bool true) ∧ Below W.heap.size W w' := by
  obtain ⟨n, rfl, _, _, hn⟩ := open_int Try.underlying5 o0 h0
  obtain ⟨f, rfl, _, _, hf⟩ := open_int Try.underlying71 o1 h1
  simp only [Lit.wf, Bool.and_eq_true, decide_eq_true_eq] at hn hf
  have m1 : IntKind.u8.min = 0 := by decide
  have m2 : IntKind.u8.max = 255 := by decide
  have m3 : IntKind.u16.min = 0 := by decide
  have m4 : IntKind.u16.max = 65535 := by decide
  rw [m1, m2] at hn
  rw [m3, m4] at hf
  exact loops_core n f (by omega) (by omega) (by omega) (by omega) W
end Go.Proofs.Ytgnjkegnddekeaa
