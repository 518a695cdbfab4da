/- Find, by hand: slices.IndexFunc of shapes, with a function value that compares names. -/
import Derived.Test.YtbnchippfebdkaaHRight
namespace Go.Proofs.Ytbnchippfebdkaa.Q
open Go.RowKit Go.Lib Go.Proofs.Ytbnchippfebdkaa Go.Proofs.YtbnchippfebdkaaW.PrintWords Go.Proofs.YtbnchippfebdkaaW.PrintLast Go.Proofs.YtbnchippfebdkaaW.PrintMore
set_option linter.unusedVariables false
set_option linter.unusedSimpArgs false

set_option maxHeartbeats 2000000 in
theorem indexFunc_shape (g : Nat) (lb : Array Value) (p : S60 → Bool) (I : List S60 → World → Prop) (A : Option Addr) (c : Nat) (l : List S60) (w : World)
    (eg : ∀ args W, (callFunc g args).run Try.prog W = .ok (.enter g args) W) (hI : ∀ pre W, I pre W → Kd.C k60 W A l.length l)
    (hcall : ∀ pre x W, pre.length < l.length → I pre W → Calls Try.prog g (#[.agg (shapeV x)] ++ lb) W fun e w' => e = .returned (.bool (p x)) ∧ I (pre ++ [x]) w') (h0 : I [] w) (hl : l.length < 1000000000) :
    Calls Try.prog 37 #[.slice A l.length c, .func (.func g) #[] lb] w fun e w' => ∃ r : Int, e = .returned (.int .i64 r) ∧ Found p I l r w' := by
  have hu := Try.underlying60
  have HI := Lib.hid hI
  have HC := Lib.hid hcall
  clear hI hcall
  go_enter Try.func37, Try.ntmps37
  go_wp2_with fail
  go_loopg [5, 8] l.length (fun kq _ v8 W => ∃ i : Nat, v8 = .int .i64 i ∧ Hid (kq + i = l.length) ∧ Hid (I (l.take i) W ∧ (l.take i).all (fun x => !p x) = true))
  case atStart => exact ⟨0, rfl, by simp [Hid], Lib.hid ⟨by simpa using h0, by simp⟩⟩
  case round =>
    obtain ⟨i, rfl, hk, hJ⟩ := hrel
    by_cases hi : i < l.length
    · have hi2 : (i : Int) < l.length := by omega
      have hi0 : (0 : Int) ≤ i := by omega
      obtain ⟨ad, rfl, a0, a1, a2, a3, a4, a5⟩ := at_T60 (HI.out _ _ hJ.out.1) (i : Int) hi0 hi2
      have hx : l[i]? = some (rd_T60 l i) := by
        unfold rd_T60
        simp [List.getD_eq_getElem?_getD, hi]
      have HX := Lib.hid hx
      clear hx
      generalize rd_T60 l i = x at *
      simp only [Int.toNat_natCast] at a0 a1 a2 a3 a4 a5
      have hc := HC.out _ x _ (by rw [List.length_take]; omega) hJ.out.1
      have HJ := hJ
      clear hJ
      cases hp : p x with
      | true =>
        rw [hp] at hc
        have hp := Lib.hid hp
        go_wp2_with fail
        refine hc.mono ?_
        rintro e w' ⟨rfl, hI1⟩
        have HI1 := Lib.hid hI1
        clear hI1 hc
        go_wp2_with fail
        go_ret
        exact ⟨_, rfl, .inr ⟨i, rfl, hi, HJ.out.2, ⟨x, HX.out, hp.out⟩, by rw [take_next HX.out]; exact HI1.out⟩⟩
      | false =>
        rw [hp] at hc
        have hp := Lib.hid hp
        go_wp2_with fail
        refine hc.mono ?_
        rintro e w' ⟨rfl, hI1⟩
        have HI1 := Lib.hid hI1
        clear hI1 hc
        go_wp2_with fail
        obtain ⟨k1, rfl⟩ : ∃ m, gk = m + 1 := ⟨gk - 1, by have := hk.out; omega⟩
        go_roundg k1
        case measure => omega
        case rel => exact ⟨i + 1, by first | rfl | rw [wrap_next (by omega)] | (unfold wrap64; congr 1; omega), Lib.hid (by have := hk.out; omega), Lib.hid ⟨by rw [take_next HX.out]; exact HI1.out, by rw [take_next HX.out, List.all_append, HJ.out.2]; simp [hp.out]⟩⟩
    · have hi2 : ¬ (i : Int) < l.length := by omega
      have hk0 : i = l.length := by have := hk.out; omega
      subst hk0
      go_wp2_with fail
      go_ret
      have h2 := hJ.out
      rw [List.take_length] at h2
      exact ⟨_, rfl, .inl ⟨rfl, fun x hx => by have := List.all_eq_true.1 h2.2 x hx; simpa using this, h2.1⟩⟩


def named (s : ByteArray) (x : S60) : Bool := x.f0.toList == s.toList
theorem find1_calls (b : Nat) (s : ByteArray) (x : S60) (W : World) (hb : W.cell? ⟨b, 0, none⟩ = some (.string s)) (hlt : b < W.heap.size) :
    Calls Try.prog 39 #[.agg (shapeV x), .pointer (some ⟨b, 0, none⟩)] W fun e w' => e = .returned (.bool (named s x)) ∧ Below W.heap.size W w' := by
  have hu := Try.underlying60
  obtain ⟨W0, hW0, K0, HB0⟩ : ∃ W0, W.alloc (.cells (shapeV x) 60) = W0 ∧ W0.heap[W.heap.size]? = some (.cells (shapeV x) 60 (0, 0)) ∧ Below W.heap.size W W0 := ⟨_, rfl, heap_alloc_new _ _, bOne _⟩
  have k0 : W0.cell? ⟨W.heap.size, 0, none⟩ = some (.string x.f0) := blk_cell K0 0
  have hb0 : W0.cell? ⟨b, 0, none⟩ = some (.string s) := (HB0.cell (p := ⟨b, 0, none⟩) hlt).trans hb
  have HB := Lib.hid HB0
  clear K0 HB0 hb
  go_enter Try.func39, Try.ntmps39
  go_wp2_with fail
  go_ret
  exact ⟨rfl, HB.out⟩

def fidx {α : Type} (p : α → Bool) (l : List α) : Int := match l.findIdx? p with
  | some i => i
  | none => -1
theorem found_fidx {α : Type} {p : α → Bool} {I : List α → World → Prop} {l : List α} {r : Int} {W : World} (h : Found p I l r W) : r = fidx p l := by
  unfold fidx
  rcases h with ⟨rfl, hn, -⟩ | ⟨i, rfl, hi, ha, ⟨x, hx, hp⟩, -⟩
  · rw [List.findIdx?_eq_none_iff.2 hn]
  · rw [List.findIdx?_eq_some_iff_getElem.2 ⟨hi, by rw [List.getElem?_eq_getElem hi] at hx; rw [Option.some.inj hx]; exact hp, fun j hj => by
      have := List.all_eq_true.1 ha (l[j]'(by omega)) (by rw [List.mem_take_iff_getElem]; exact ⟨j, by omega, rfl⟩)
      simpa using this⟩]
def max0 (b : Int) : Int := if b < 0 then 0 else b
theorem max_max0 (ats : Array TypeId) (ty : TypeId) (b : Int) : Builtin.max_ ats ty #[.int .i64 b, .int .i64 0] = pure (.int .i64 (max0 b)) := by rw [max_two, max2_int]; rfl

/-- The code of a name. -/
def code_Find.f (s : ByteArray) : Option (Int × Bool) := some (max0 (fidx (named s) shapesL), decide (0 ≤ fidx (named s) shapesL))

attribute [local go_sem high] max_max0
set_option maxHeartbeats 2000000 in
theorem code_Find.calls (a0 : ByteArray) (r1 : Int) (r2 : Bool) (w : World) (h : code_Find.f a0 = some (r1, r2)) :
    Calls Try.prog 23 #[.string a0] w fun e w' => e = .returned (.tuple #[.int .i64 r1, .bool r2]) ∧ Below w.heap.size w w' := by
  unfold code_Find.f at h
  obtain ⟨rfl, rfl⟩ := Prod.mk.inj (Option.some.inj h)
  clear h
  obtain ⟨r0, hr0⟩ : ∃ r0, fidx (named a0) shapesL = r0 := ⟨_, rfl⟩
  rw [hr0]
  have H0 := Lib.hid hr0
  clear hr0
  obtain ⟨W0, hW0, K0, HB0⟩ : ∃ W0, w.alloc (.cells #[.string a0] 9) = W0 ∧ W0.heap[w.heap.size]? = some (.cells #[.string a0] 9 (0, 0)) ∧ Below w.heap.size w W0 := ⟨_, rfl, heap_alloc_new _ _, bOne _⟩
  have C1 := Lib.hid (code_shapes.calls shapesL W0 rfl)
  have HB := Lib.hid (And.intro HB0 K0)
  clear K0 HB0
  go_enter Try.func23, Try.ntmps23
  go_wp2_with fail
  refine C1.out.mono ?_
  rintro e w1 ⟨v, rfl, hR, hB1⟩
  obtain ⟨A, c, rfl⟩ := Kd.R_slice hR
  have hr := Kd.R_reads' hR
  have K1 := blk_below HB.out.2 hB1
  have C2 : Hid (Calls Try.prog 37 #[.slice A shapesL.length c, .func (.func 39) #[] #[.pointer (some ⟨w.heap.size, 0, none⟩)]] w1 fun e w' => ∃ r : Int, e = .returned (.int .i64 r) ∧ Found (named a0) (fun _ W => Below w1.heap.size w1 W) shapesL r w') := by
    refine Lib.hid (indexFunc_shape 39 _ _ _ A c shapesL w1 (fun args W => rfl) (fun pre W hW => Kd.C_below hr.2.2 hW) (fun pre x W _ hW => ?_) (Below.refl _ _) (by decide))
    have hK := blk_below K1 hW
    refine (find1_calls w.heap.size a0 x W (blk_cell hK 0) (blk_lt hK)).mono ?_
    rintro e w' ⟨rfl, hB⟩
    exact ⟨rfl, bAfter hW hB⟩
  have HB1 := Lib.hid (bAfter HB.out.1 hB1)
  clear hR hr K1 C1 hB1 HB hW0
  generalize shapesL = sl at *
  go_wp2_with fail
  refine C2.out.mono ?_
  rintro e w2 ⟨r, rfl, hF⟩
  have HF : Hid (Below w.heap.size w w2) := Lib.hid ( bAfter HB1.out (by rcases hF with ⟨-, -, h⟩ | ⟨i, -, -, -, -, h⟩ <;> exact h))
  have hr0 : r = r0 := (found_fidx hF).trans H0.out
  subst hr0
  clear hF C2
  go_wp2_with fail
  go_ret2
  exact ⟨rfl, HF.out⟩

end Go.Proofs.Ytbnchippfebdkaa.Q
