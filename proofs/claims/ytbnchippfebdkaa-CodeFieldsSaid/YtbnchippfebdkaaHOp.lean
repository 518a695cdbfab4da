/- May an operation be, by hand. -/
import Derived.Test.YtbnchippfebdkaaHFields
namespace Go.Proofs.Ytbnchippfebdkaa.Q
open Go.RowKit Go.Lib Go.Proofs.Ytbnchippfebdkaa Go.Proofs.YtbnchippfebdkaaW.PrintWords Go.Proofs.YtbnchippfebdkaaW.PrintLast Go.Proofs.YtbnchippfebdkaaW.PrintMore
set_option linter.unusedVariables false
set_option linter.unusedSimpArgs false

/-- What holds in every world that grew out of this one. -/
def Kept (W : World) (F : World → Prop) : Prop := ∀ W', Below W.heap.size W W' → F W'
theorem Kept.now {W : World} {F : World → Prop} (h : Kept W F) : F W := h W (Below.refl _ _)
theorem Kept.next {W W' : World} {F : World → Prop} (h : Kept W F) (hb : Below W.heap.size W W') : Kept W' F := fun W2 hb2 => h W2 (bAfter hb hb2)
theorem Kept.add {W : World} {F G : World → Prop} (h : Kept W F) (g : Kept W G) : Kept W (fun v => F v ∧ G v) := fun W' hb => ⟨h W' hb, g W' hb⟩
theorem kept_C {α : Type} {d : Kd α} {W : World} {A : Option Addr} {n : Nat} {xs : List α} (h : d.C W A n xs) : Kept W (fun V => d.C V A n xs) := fun W' hb => Kd.C_below h hb
theorem kept_R {α : Type} {d : Kd α} {e : TypeId} {W : World} {base : Nat} {ok : Nat → Prop} {v : Value} {xs : List α} (h : Kd.R d e W base ok v xs) : Kept W (fun V => Kd.R d e V base ok v xs) := fun W' hb => Kd.R_below h hb
theorem kept_B {w W : World} (h : Below w.heap.size w W) : Kept W (fun V => Below w.heap.size w V) := fun W' hb => bAfter h hb
theorem kept_K {W : World} {b : Nat} {cs : Array Value} {t : TypeId} {f : Nat × Nat} (h : W.heap[b]? = some (.cells cs t f)) : Kept W (fun V => V.heap[b]? = some (.cells cs t f)) := fun W' hb => blk_below h hb
theorem callD {P : Program} {f : FuncId} {args : Array Value} {W : World} {c : Value} (h : Calls P f args W fun e w' => e = .returned c ∧ Drawn0 W w') : Calls P f args W fun e w' => e = .returned c ∧ Below W.heap.size W w' :=
  h.mono fun e w' hh => by
    obtain ⟨n, rfl⟩ := hh.2
    exact ⟨hh.1, pw_below_drewN (Below.refl _ _) n⟩

abbrev opV (o : S46) : Array Value := #[.int .i64 o.f0, .int .i64 o.f1, .int .i64 o.f2, .int .i64 o.f3, .int .i64 o.f4]
/-- All shapes. -/
def shapesL : List S60 := (code_shapes.f).getD []
def isCode (c : Int) : Bool := decide (0 ≤ c) && decide (c < 17)
def sh (c : Int) : S60 := if 0 ≤ c ∧ c < 17 then rd_T60 shapesL c else z60
theorem find_f (c : Int) : code_find.f c = some ((sh c).f0, (sh c).f1, (sh c).f2, (sh c).f3, (sh c).f4, (sh c).f5, isCode c) := by
  unfold code_find.f
  rw [show code_shapes.f = some shapesL from rfl, Option.bind_some]
  have hl : (shapesL.length : Int) = 17 := rfl
  rw [hl]
  unfold sh isCode
  by_cases h0 : c < 0
  · rw [if_pos h0, if_neg (by omega), decide_eq_false (by omega)]; rfl
  · by_cases h1 : c ≥ 17
    · rw [if_neg h0, if_pos h1, if_neg (by omega), decide_eq_false (p := c < 17) (by omega), Bool.and_false]; rfl
    · rw [if_neg h0, if_neg h1, if_pos (by omega), if_pos (by omega), if_pos (by omega), decide_eq_true (by omega), decide_eq_true (by omega)]; rfl
def least1 (b : Int) : Int := if b < 1 then 1 else b
theorem max_least (ats : Array TypeId) (ty : TypeId) (b : Int) : Builtin.max_ ats ty #[.int .i64 b, .int .i64 1] = pure (.int .i64 (least1 b)) := by rw [max_two, max2_int]; rfl
/-- Does a field fit? -/
def fits (n below : Int) : Bool := decide (0 ≤ n) && decide (n < least1 below)
/-- May an operation be, in a block of so many? -/
def opRight (o : S46) (many : Int) : Bool := isCode o.f0 && ((o.f4 == 0) || (sh o.f0).f5) && (fits o.f1 (sh o.f0).f1 && (fits o.f2 (sh o.f0).f2 && fits o.f3 (third (sh o.f0) many)))

theorem idx0 (g : Nat) (b0 b1 b2 : Int) (W : World) : (Instr.index 65 (.agg #[.pointer (some ⟨g, 1, none⟩), .int .i64 b0, .pointer (some ⟨g, 2, none⟩), .int .i64 b1, .pointer (some ⟨g, 3, none⟩), .int .i64 b2]) (.int .i64 0)).run Try.prog W = .ok (.agg #[.pointer (some ⟨g, 1, none⟩), .int .i64 b0]) W := by kernel_rfl
theorem idx1 (g : Nat) (b0 b1 b2 : Int) (W : World) : (Instr.index 65 (.agg #[.pointer (some ⟨g, 1, none⟩), .int .i64 b0, .pointer (some ⟨g, 2, none⟩), .int .i64 b1, .pointer (some ⟨g, 3, none⟩), .int .i64 b2]) (.int .i64 1)).run Try.prog W = .ok (.agg #[.pointer (some ⟨g, 2, none⟩), .int .i64 b1]) W := by kernel_rfl
theorem idx2 (g : Nat) (b0 b1 b2 : Int) (W : World) : (Instr.index 65 (.agg #[.pointer (some ⟨g, 1, none⟩), .int .i64 b0, .pointer (some ⟨g, 2, none⟩), .int .i64 b1, .pointer (some ⟨g, 3, none⟩), .int .i64 b2]) (.int .i64 2)).run Try.prog W = .ok (.agg #[.pointer (some ⟨g, 3, none⟩), .int .i64 b2]) W := by kernel_rfl

attribute [local go_sem high] idx0 idx1 idx2 max_least
theorem fits_in {n b : Int} (h : fits n b = true) : decide (n < 0) = false ∧ decide (least1 b ≤ n) = false := by
  unfold fits at h
  simp only [Bool.and_eq_true, decide_eq_true_eq] at h
  exact ⟨decide_eq_false (by omega), decide_eq_false (by omega)⟩
theorem fits_out {n b : Int} (h : fits n b = false) : decide (n < 0) = true ∨ (decide (n < 0) = false ∧ decide (least1 b ≤ n) = true) := by
  unfold fits at h
  by_cases h0 : n < 0
  · exact .inl (decide_eq_true h0)
  · refine .inr ⟨decide_eq_false h0, decide_eq_true ?_⟩
    rw [decide_eq_true (by omega : 0 ≤ n), Bool.true_and, decide_eq_false_iff_not] at h
    omega

set_option maxHeartbeats 4000000 in
theorem right_core (o : S46) (many : Int) (w : World) (n0 : ByteArray) (b1 b2 b3 b4 : Int) (pl nb is res : Bool)
    (C1 : Hid (∀ W, Calls Try.prog 27 #[.int .i64 o.f0] W fun e w' => e = .returned (.tuple #[.agg #[.string n0, .int .i64 b1, .int .i64 b2, .int .i64 b3, .bool pl, .bool nb], .bool is]) ∧ Below W.heap.size W w'))
    (C2 : Hid (∀ W, Calls Try.prog 28 #[.pointer (some ⟨w.heap.size, 0, none⟩), .agg #[.string n0, .int .i64 b1, .int .i64 b2, .int .i64 b3, .bool pl, .bool nb], .int .i64 many] W fun e w' => e = .returned (.agg #[.pointer (some ⟨w.heap.size, 1, none⟩), .int .i64 b1, .pointer (some ⟨w.heap.size, 2, none⟩), .int .i64 b2, .pointer (some ⟨w.heap.size, 3, none⟩), .int .i64 b4]) ∧ Below W.heap.size W w'))
    (HRES : Hid ((is && ((o.f4 == 0) || nb) && (fits o.f1 b1 && (fits o.f2 b2 && fits o.f3 b4))) = res)) :
    Calls Try.prog 32 #[.agg (opV o), .int .i64 many] w fun e w' => e = .returned (.bool res) ∧ Below w.heap.size w w' := by
  have hu60 := Try.underlying60
  have hu46 := Try.underlying46
  have hu64 := Try.underlying64
  have hu65 := Try.underlying65
  obtain ⟨W0, hW0, K0, HB0⟩ : ∃ W0, w.alloc (.cells (opV o) 46) = W0 ∧ W0.heap[w.heap.size]? = some (.cells (opV o) 46 (0, 0)) ∧ Below w.heap.size w W0 := ⟨_, rfl, heap_alloc_new _ _, bOne _⟩
  have HK := Lib.hid (Kept.add (kept_B HB0) (kept_K K0))
  have k0 : W0.cell? ⟨w.heap.size, 0, none⟩ = some (.int .i64 o.f0) := blk_cell K0 0
  clear K0 HB0
  go_enter Try.func32, Try.ntmps32
  go_wp2_with fail
  refine (C1.out _).mono ?_
  rintro e w1 ⟨rfl, hB1⟩
  obtain ⟨W1, hW1, K1, hB1b⟩ : ∃ W1, w1.alloc (.cells (#[.string n0, .int .i64 b1, .int .i64 b2, .int .i64 b3, .bool pl, .bool nb]) 60) = W1 ∧ W1.heap[w1.heap.size]? = some (.cells (#[.string n0, .int .i64 b1, .int .i64 b2, .int .i64 b3, .bool pl, .bool nb]) 60 (0, 0)) ∧ Below w1.heap.size w1 W1 := ⟨_, rfl, heap_alloc_new _ _, bOne _⟩
  replace HK := Lib.hid (Kept.add (HK.out.next (bAfter hB1 hB1b)) (kept_K K1))
  clear k0 hB1 hB1b K1 C1 hW0
  have s0 : W1.cell? ⟨w1.heap.size, 0, none⟩ = some (.string n0) := blk_cell HK.out.now.2 0
  have s1 : W1.cell? ⟨w1.heap.size, 1, none⟩ = some (.int .i64 b1) := blk_cell HK.out.now.2 1
  have s2 : W1.cell? ⟨w1.heap.size, 2, none⟩ = some (.int .i64 b2) := blk_cell HK.out.now.2 2
  have s3 : W1.cell? ⟨w1.heap.size, 3, none⟩ = some (.int .i64 b3) := blk_cell HK.out.now.2 3
  have s4 : W1.cell? ⟨w1.heap.size, 4, none⟩ = some (.bool pl) := blk_cell HK.out.now.2 4
  have s5 : W1.cell? ⟨w1.heap.size, 5, none⟩ = some (.bool nb) := blk_cell HK.out.now.2 5
  have k4 : W1.cell? ⟨w.heap.size, 4, none⟩ = some (.int .i64 o.f4) := blk_cell HK.out.now.1.2 4
  cases is with
  | false =>
    go_wp2_with fail
    go_ret
    exact ⟨by rw [← HRES.out]; rfl, HK.out.now.1.1⟩
  | true =>
    cases hN : (o.f4 == 0 || nb) with
    | false =>
      have hres : false = res := by rw [← HRES.out, hN]; rfl
      subst hres
      obtain ⟨h1, h2⟩ : (o.f4 != 0) = true ∧ nb = false := by
        rw [Bool.or_eq_false_iff] at hN
        exact ⟨by rw [bne, hN.1]; rfl, hN.2⟩
      rw [h2] at s5
      clear h2 hN
      go_wp2_with fail
      go_ret
      exact ⟨rfl, HK.out.now.1.1⟩
    | true =>
      replace HRES : Hid ((fits o.f1 b1 && (fits o.f2 b2 && fits o.f3 b4)) = res) := Lib.hid (by rw [← HRES.out, hN]; rfl)
      have hN' : (o.f4 != 0) = false ∨ ((o.f4 != 0) = true ∧ nb = true) := by
        by_cases h : o.f4 = 0
        · exact .inl (by simp [h])
        · refine .inr ⟨by simp [h], ?_⟩
          simpa [h] using hN
      clear hN
      rcases hN' with e1 | ⟨e1, e2⟩
      all_goals
        try subst e2
        go_wp2_with fail
        refine (C2.out _).mono ?_
        rintro e w2 ⟨rfl, hB2⟩
        replace HK := Lib.hid (HK.out.next hB2)
        clear s0 s1 s2 s3 s4 s5 k4 hB2 hW1 C2
        go_wp2_with fail
        go_loopg [8, 9, 31] 3 (fun kq _ _ v31 W => ∃ i : Nat, v31 = .int .i64 i ∧ Hid (kq + i = 3) ∧ Hid (Below w2.heap.size w2 W) ∧ Hid ((0 < i → fits o.f1 b1 = true) ∧ (1 < i → fits o.f2 b2 = true) ∧ (2 < i → fits o.f3 b4 = true)))
        case atStart => exact ⟨0, rfl, by simp [Hid], Lib.hid (Below.refl _ _), Lib.hid ⟨fun h => by omega, fun h => by omega, fun h => by omega⟩⟩
        case round =>
          obtain ⟨i, rfl, hk, hJ, hF⟩ := hrel
          have HI := Lib.hid (HK.out.next hJ.out)
          have hi3 : i = 0 ∨ i = 1 ∨ i = 2 ∨ i = 3 := by have := hk.out; omega
          rcases hi3 with rfl | rfl | rfl | rfl
          · obtain ⟨W3, hW3, K3, hB3⟩ : ∃ W3, wr.alloc (.cells #[.pointer (some ⟨w.heap.size, 1, none⟩), .int .i64 b1] 64) = W3 ∧ W3.heap[wr.heap.size]? = some (.cells #[.pointer (some ⟨w.heap.size, 1, none⟩), .int .i64 b1] 64 (0, 0)) ∧ Below wr.heap.size wr W3 := ⟨_, rfl, heap_alloc_new _ _, bOne _⟩
            replace HI := Lib.hid (HI.out.next hB3)
            have a0 : W3.cell? ⟨wr.heap.size, 0, none⟩ = some (.pointer (some ⟨w.heap.size, 1, none⟩)) := blk_cell K3 0
            have a1 : W3.cell? ⟨wr.heap.size, 1, none⟩ = some (.int .i64 b1) := blk_cell K3 1
            have a2 : W3.cell? ⟨w.heap.size, 1, none⟩ = some (.int .i64 o.f1) := blk_cell HI.out.now.1.2 1
            have HB3 := Lib.hid (bAfter hJ.out hB3)
            clear K3 hB3
            cases hf : fits o.f1 b1 with
            | false =>
              have hres : false = res := by rw [← HRES.out, hf]; simp
              subst hres
              rcases fits_out hf with g1 | ⟨g1, g2⟩
              all_goals
                clear hf
                go_wp2_with fail
                go_ret
                exact ⟨rfl, HI.out.now.1.1⟩
            | true =>
              obtain ⟨g1, g2⟩ := fits_in hf
              have HFF := Lib.hid hf
              clear hf
              go_wp2_with fail
              obtain ⟨k1, rfl⟩ : ∃ m, gk = m + 1 := ⟨gk - 1, by have := hk.out; omega⟩
              go_roundg k1
              case measure => omega
              case rel => exact ⟨1, by first | rfl | rw [wrap_next (by omega)], Lib.hid (by have := hk.out; omega), HB3, Lib.hid ⟨fun h => by first | exact HFF.out | exact hF.out.1 (by omega), fun h => by first | exact HFF.out | exact hF.out.2.1 (by omega) | omega, fun h => by first | exact HFF.out | exact hF.out.2.2 (by omega) | omega⟩⟩
          · obtain ⟨W3, hW3, K3, hB3⟩ : ∃ W3, wr.alloc (.cells #[.pointer (some ⟨w.heap.size, 2, none⟩), .int .i64 b2] 64) = W3 ∧ W3.heap[wr.heap.size]? = some (.cells #[.pointer (some ⟨w.heap.size, 2, none⟩), .int .i64 b2] 64 (0, 0)) ∧ Below wr.heap.size wr W3 := ⟨_, rfl, heap_alloc_new _ _, bOne _⟩
            replace HI := Lib.hid (HI.out.next hB3)
            have a0 : W3.cell? ⟨wr.heap.size, 0, none⟩ = some (.pointer (some ⟨w.heap.size, 2, none⟩)) := blk_cell K3 0
            have a1 : W3.cell? ⟨wr.heap.size, 1, none⟩ = some (.int .i64 b2) := blk_cell K3 1
            have a2 : W3.cell? ⟨w.heap.size, 2, none⟩ = some (.int .i64 o.f2) := blk_cell HI.out.now.1.2 2
            have HB3 := Lib.hid (bAfter hJ.out hB3)
            clear K3 hB3
            cases hf : fits o.f2 b2 with
            | false =>
              have hres : false = res := by rw [← HRES.out, hf]; simp
              subst hres
              rcases fits_out hf with g1 | ⟨g1, g2⟩
              all_goals
                clear hf
                go_wp2_with fail
                go_ret
                exact ⟨rfl, HI.out.now.1.1⟩
            | true =>
              obtain ⟨g1, g2⟩ := fits_in hf
              have HFF := Lib.hid hf
              clear hf
              go_wp2_with fail
              obtain ⟨k1, rfl⟩ : ∃ m, gk = m + 1 := ⟨gk - 1, by have := hk.out; omega⟩
              go_roundg k1
              case measure => omega
              case rel => exact ⟨2, by first | rfl | rw [wrap_next (by omega)], Lib.hid (by have := hk.out; omega), HB3, Lib.hid ⟨fun h => by first | exact HFF.out | exact hF.out.1 (by omega), fun h => by first | exact HFF.out | exact hF.out.2.1 (by omega) | omega, fun h => by first | exact HFF.out | exact hF.out.2.2 (by omega) | omega⟩⟩
          · obtain ⟨W3, hW3, K3, hB3⟩ : ∃ W3, wr.alloc (.cells #[.pointer (some ⟨w.heap.size, 3, none⟩), .int .i64 b4] 64) = W3 ∧ W3.heap[wr.heap.size]? = some (.cells #[.pointer (some ⟨w.heap.size, 3, none⟩), .int .i64 b4] 64 (0, 0)) ∧ Below wr.heap.size wr W3 := ⟨_, rfl, heap_alloc_new _ _, bOne _⟩
            replace HI := Lib.hid (HI.out.next hB3)
            have a0 : W3.cell? ⟨wr.heap.size, 0, none⟩ = some (.pointer (some ⟨w.heap.size, 3, none⟩)) := blk_cell K3 0
            have a1 : W3.cell? ⟨wr.heap.size, 1, none⟩ = some (.int .i64 b4) := blk_cell K3 1
            have a2 : W3.cell? ⟨w.heap.size, 3, none⟩ = some (.int .i64 o.f3) := blk_cell HI.out.now.1.2 3
            have HB3 := Lib.hid (bAfter hJ.out hB3)
            clear K3 hB3
            cases hf : fits o.f3 b4 with
            | false =>
              have hres : false = res := by rw [← HRES.out, hf]; simp
              subst hres
              rcases fits_out hf with g1 | ⟨g1, g2⟩
              all_goals
                clear hf
                go_wp2_with fail
                go_ret
                exact ⟨rfl, HI.out.now.1.1⟩
            | true =>
              obtain ⟨g1, g2⟩ := fits_in hf
              have HFF := Lib.hid hf
              clear hf
              go_wp2_with fail
              obtain ⟨k1, rfl⟩ : ∃ m, gk = m + 1 := ⟨gk - 1, by have := hk.out; omega⟩
              go_roundg k1
              case measure => omega
              case rel => exact ⟨3, by first | rfl | rw [wrap_next (by omega)], Lib.hid (by have := hk.out; omega), HB3, Lib.hid ⟨fun h => by first | exact HFF.out | exact hF.out.1 (by omega), fun h => by first | exact HFF.out | exact hF.out.2.1 (by omega) | omega, fun h => by first | exact HFF.out | exact hF.out.2.2 (by omega) | omega⟩⟩
          · have hres : true = res := by rw [← HRES.out, hF.out.1 (by omega), hF.out.2.1 (by omega), hF.out.2.2 (by omega)]; rfl
            subst hres
            go_wp2_with fail
            go_ret
            exact ⟨rfl, HI.out.now.1.1⟩

theorem right_calls (o : S46) (many : Int) (w : World) :
    Calls Try.prog 32 #[.agg (opV o), .int .i64 many] w fun e w' => e = .returned (.bool (opRight o many)) ∧ Below w.heap.size w w' :=
  right_core o many w _ _ _ _ _ _ _ _ _ (Lib.hid (fun W => code_find.calls o.f0 _ _ _ _ _ _ _ W (find_f o.f0))) (Lib.hid (fun W => fields_calls w.heap.size (sh o.f0) many W)) (Lib.hid rfl)

end Go.Proofs.Ytbnchippfebdkaa.Q
