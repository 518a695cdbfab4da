/- Encode, by hand. -/
import Derived.Test.YtbnchippfebdkaaHRight
namespace Go.Proofs.Ytbnchippfebdkaa.Q
open Go.RowKit Go.Lib Go.Proofs.Ytbnchippfebdkaa Go.Proofs.YtbnchippfebdkaaW.PrintWords Go.Proofs.YtbnchippfebdkaaW.PrintLast Go.Proofs.YtbnchippfebdkaaW.PrintMore
set_option linter.unusedVariables false
set_option linter.unusedSimpArgs false

/-- The byte of a field, if there may be any. -/
def encOne (n b : Int) : List Int := if 0 < b then [n % 256] else []
/-- The bytes of the first fields. -/
def encF (o : S46) (b1 b2 b4 : Int) : Nat → List Int
  | 0 => []
  | 1 => encOne o.f1 b1
  | 2 => encOne o.f1 b1 ++ encOne o.f2 b2
  | _ => encOne o.f1 b1 ++ encOne o.f2 b2 ++ encOne o.f3 b4
/-- One byte of a number. -/
def byteAt (n : Int) (i : Nat) : Int := n / 2 ^ (8 * i) % 256
/-- The bytes of an operation, in a block of so many. -/
def encOp (many : Nat) (o : S46) : List Int := [o.f0 % 256] ++ encF o (sh o.f0).f1 (sh o.f0).f2 (third (sh o.f0) many) 3 ++ (if (sh o.f0).f5 = true then (List.range 8).map (byteAt o.f4) else [])
theorem flat_next {α : Type} {l : List α} {i : Nat} {x : α} {g : α → List Int} (h : l[i]? = some x) : (l.take (i + 1)).flatMap g = (l.take i).flatMap g ++ g x := by
  rw [take_next h, List.flatMap_append, List.flatMap_cons, List.flatMap_nil, List.append_nil]
theorem range_next (i : Nat) (g : Nat → Int) : (List.range (i + 1)).map g = (List.range i).map g ++ [g i] := by rw [List.range_succ, List.map_append]; rfl

/-- What is kept in a round: the bytes so far, the box of the operation, and that of its shape. -/
def ES (w W : World) (g g2 : Nat) (c1 c2 : Array Value) (v : Value) (out : List Int) : Prop := Kd.R (Kd.int .u8) 5 W w.heap.size (fun _ => True) v out ∧ Below w.heap.size w W ∧ W.heap[g]? = some (.cells c1 46 (0, 0)) ∧ W.heap[g2]? = some (.cells c2 60 (0, 0))
theorem ES.next {w W W' : World} {g g2 : Nat} {c1 c2 : Array Value} {v : Value} {out : List Int} (h : ES w W g g2 c1 c2 v out) (hb : Below W.heap.size W W') : ES w W' g g2 c1 c2 v out :=
  ⟨Kd.R_below h.1 hb, bAfter h.2.1 hb, blk_below h.2.2.1 hb, blk_below h.2.2.2 hb⟩
theorem ES.app {w W W' : World} {g g2 : Nat} {c1 c2 : Array Value} {v v' : Value} {out out' : List Int} (h : ES w W g g2 c1 c2 v out) (hR : Kd.R (Kd.int .u8) 5 W' w.heap.size (fun _ => True) v' out') (hb : Below w.heap.size w W') (hg : W.grownBy W' v.ownBlock) : ES w W' g g2 c1 c2 v' out' :=
  ⟨hR, hb, blk_grown h.2.2.1 hg (Kd.R_ne h.1 h.2.2.1 (by decide)), blk_grown h.2.2.2 hg (Kd.R_ne h.1 h.2.2.2 (by decide))⟩

def cells60 (n0 : ByteArray) (b1 b2 b3 : Int) (pl nb : Bool) : Array Value := #[.string n0, .int .i64 b1, .int .i64 b2, .int .i64 b3, .bool pl, .bool nb]

attribute [local go_sem high] idx0 idx1 idx2
set_option maxHeartbeats 8000000 in
theorem encode_core (A0 : Option Addr) (c0 : Nat) (l : List S46) (w : World) (hC : Kd.C k46 w A0 l.length l) (hc : l.length ≤ c0) (hl : l.length ≤ 200) (HR : Hid (Calls Try.prog 14 #[.slice A0 l.length c0] w fun e w' => e = .returned (.bool true) ∧ Below w.heap.size w w')) :
    Calls Try.prog 11 #[.slice A0 l.length c0] w fun e w' => ∃ v, e = .returned (.tuple #[v, .int .i64 0]) ∧ Kd.R (Kd.int .u8) 5 w' w.heap.size (fun _ => True) v (l.flatMap (encOp l.length)) ∧ Below w.heap.size w w' := by
  have hu60 := Try.underlying60
  have hu46 := Try.underlying46
  have hu64 := Try.underlying64
  have hu65 := Try.underlying65
  have HC := Lib.hid hC
  clear hC
  go_enter Try.func11, Try.ntmps11
  go_wp2_with fail
  refine HR.out.mono ?_
  rintro e w0 ⟨rfl, hB0⟩
  have HB0 := Lib.hid hB0
  clear hB0 HR
  go_wp2_with fail
  go_loopg [2, 16, 5, 6, 7, 9, 10] l.length (fun kq v2 v16 _ _ _ _ _ W => ∃ (i : Nat) (A : Option Addr) (c : Nat) (out : List Int), v2 = .slice A out.length c ∧ v16 = .int .i64 i ∧ Hid (kq + i = l.length) ∧ Hid (Kd.R (Kd.int .u8) 5 W w.heap.size (fun _ => True) (.slice A out.length c) out ∧ Below w.heap.size w W ∧ out = (l.take i).flatMap (encOp l.length) ∧ out.length ≤ 12 * i))
  case atStart => exact ⟨0, none, 0, [], rfl, rfl, by simp [Hid], Lib.hid ⟨Kd.R_nil _ _ _ _ _, HB0.out, by simp, by simp⟩⟩
  case round =>
    obtain ⟨i, A, c, out, rfl, rfl, hk, hJ⟩ := hrel
    by_cases hi : i < l.length
    · have hi2 : (i : Int) < l.length := by omega
      have hi0 : (0 : Int) ≤ i := by omega
      obtain ⟨ad, rfl, a0, a1, a2, a3, a4⟩ := at_T46 (Kd.C_below HC.out hJ.out.2.1) (i : Int) hi0 hi2
      have hx : l[i]? = some (rd_T46 l i) := by
        unfold rd_T46
        simp [List.getD_eq_getElem?_getD, hi]
      have HX := Lib.hid hx
      clear hx
      generalize rd_T46 l i = v at *
      simp only [Int.toNat_natCast] at a0 a1 a2 a3 a4
      obtain ⟨n0, b1, b2, b3, pl, nb, hsh⟩ : ∃ n0 b1 b2 b3 pl nb, sh v.f0 = ⟨n0, b1, b2, b3, pl, nb⟩ := ⟨_, _, _, _, _, _, rfl⟩
      obtain ⟨b4, hb4⟩ : ∃ b4, third (sh v.f0) l.length = b4 := ⟨_, rfl⟩
      have C1 : Hid (∀ W, Calls Try.prog 27 #[.int .i64 v.f0] W fun e w' => e = .returned (.tuple #[.agg (cells60 n0 b1 b2 b3 pl nb), .bool (isCode v.f0)]) ∧ Below W.heap.size W w') := Lib.hid fun W => by
        have := code_find.calls v.f0 _ _ _ _ _ _ _ W (find_f v.f0)
        rw [hsh] at this
        exact this
      have C2 : Hid (∀ W, Calls Try.prog 28 #[.pointer (some ⟨wr.heap.size, 0, none⟩), .agg (cells60 n0 b1 b2 b3 pl nb), .int .i64 l.length] W fun e w' => e = .returned (.agg #[.pointer (some ⟨wr.heap.size, 1, none⟩), .int .i64 b1, .pointer (some ⟨wr.heap.size, 2, none⟩), .int .i64 b2, .pointer (some ⟨wr.heap.size, 3, none⟩), .int .i64 b4]) ∧ Below W.heap.size W w') := Lib.hid fun W => by
        have := fields_calls wr.heap.size (sh v.f0) l.length W
        unfold fieldsV at this
        rw [hb4, hsh] at this
        exact this
      have HE : Hid (encOp l.length v = [v.f0 % 256] ++ encF v b1 b2 b4 3 ++ (if nb = true then (List.range 8).map (byteAt v.f4) else [])) := Lib.hid (by unfold encOp; rw [hb4, hsh])
      unfold cells60 at C1 C2
      clear hsh hb4
      obtain ⟨W0, hW0, K0, hB1⟩ : ∃ W0, wr.alloc (.cells (opV v) 46) = W0 ∧ W0.heap[wr.heap.size]? = some (.cells (opV v) 46 (0, 0)) ∧ Below wr.heap.size wr W0 := ⟨_, rfl, heap_alloc_new _ _, bOne _⟩
      have k0 : W0.cell? ⟨wr.heap.size, 0, none⟩ = some (.int .i64 v.f0) := blk_cell K0 0
      have HB1 := Lib.hid (And.intro hB1 K0)
      clear hB1 K0
      go_wp2_with fail
      refine (C1.out _).mono ?_
      rintro e w1 ⟨rfl, hB1⟩
      obtain ⟨W1, hW1, K1, hB2⟩ : ∃ W1, w1.alloc (.cells (#[.string n0, .int .i64 b1, .int .i64 b2, .int .i64 b3, .bool pl, .bool nb]) 60) = W1 ∧ W1.heap[w1.heap.size]? = some (.cells (#[.string n0, .int .i64 b1, .int .i64 b2, .int .i64 b3, .bool pl, .bool nb]) 60 (0, 0)) ∧ Below w1.heap.size w1 W1 := ⟨_, rfl, heap_alloc_new _ _, bOne _⟩
      have HW := bAfter hB1 hB2
      have HS : Hid (ES w W1 wr.heap.size w1.heap.size (opV v) #[.string n0, .int .i64 b1, .int .i64 b2, .int .i64 b3, .bool pl, .bool nb] (.slice A out.length c) out) := Lib.hid ⟨Kd.R_below hJ.out.1 (bAfter HB1.out.1 HW), bAfter hJ.out.2.1 (bAfter HB1.out.1 HW), blk_below HB1.out.2 HW, K1⟩
      have HJ := Lib.hid hJ.out.2.2
      clear hJ a0 a1 a2 a3 a4 k0 hB1 HW hW0 hB2 K1 C1
      have k0 : W1.cell? ⟨wr.heap.size, 0, none⟩ = some (.int .i64 v.f0) := blk_cell HS.out.2.2.1 0
      generalize hg : wr.heap.size = g at *
      generalize hg2 : w1.heap.size = g2 at *
      clear hg HB1
      go_wp2_with (first | ((with_reducible refine gate_builtin (b := .append) (xs := #[.tmp 26, .tmp 30]) rfl ?_); at_builtin; refine Kd.R_append (Kd.int .u8) (w0 := w) (W := W1) w.heap.size rfl (.tmp 26) (.tmp 30) 24 5 (.int .u8 0) 1 rfl Try.underlying24 info5 rfl (by decide) (by omega) (.slice A out.length c) out (v.f0 % 256) [.int .u8 (v.f0 % 256)] (fun _ => True) (fun _ => False) rfl rfl rfl (fun _ hk => hk.elim) (fun _ _ => trivial) HS.out.1 HS.out.2.1 HS.out.2.1.size ?aL ?_))
      case aL => have := HJ.out.2; omega
      intro v3 w3 hR3 hB3 hg3 _
      generalize hl3 : out ++ [(v.f0 % 256)] = out1 at hR3
      have HL := Lib.hid hl3
      have HN : Hid (out1.length = out.length + 1) := Lib.hid (by rw [← hl3, List.length_append, List.length_singleton])
      obtain ⟨A3, c3, rfl⟩ := Kd.R_slice hR3
      replace HS := Lib.hid (HS.out.app hR3 hB3 hg3)
      clear hR3 hB3 hg3 hl3
      clear hW1 k0
      have s0 : w3.cell? ⟨g2, 0, none⟩ = some (.string n0) := blk_cell HS.out.2.2.2 0
      have s1 : w3.cell? ⟨g2, 1, none⟩ = some (.int .i64 b1) := blk_cell HS.out.2.2.2 1
      have s2 : w3.cell? ⟨g2, 2, none⟩ = some (.int .i64 b2) := blk_cell HS.out.2.2.2 2
      have s3 : w3.cell? ⟨g2, 3, none⟩ = some (.int .i64 b3) := blk_cell HS.out.2.2.2 3
      have s4 : w3.cell? ⟨g2, 4, none⟩ = some (.bool pl) := blk_cell HS.out.2.2.2 4
      have s5 : w3.cell? ⟨g2, 5, none⟩ = some (.bool nb) := blk_cell HS.out.2.2.2 5
      go_wp2_with fail
      refine (C2.out _).mono ?_
      rintro e w4 ⟨rfl, hB4⟩
      replace HS := Lib.hid (HS.out.next hB4)
      clear s0 s1 s2 s3 s4 s5 hB4 C2
      obtain ⟨kk, hkk⟩ : ∃ m, gk = m + 1 := ⟨gk - 1, by have := hk.out; omega⟩
      subst hkk
      have HF : Hid (out1 = (l.take i).flatMap (encOp l.length) ++ [v.f0 % 256] ∧ out1.length ≤ 12 * i + 1) := Lib.hid ⟨by rw [← HL.out, HJ.out.1], by have := HN.out; have := HJ.out.2; omega⟩
      have HI := Lib.hid hi
      generalize hpre : (l.take i).flatMap (encOp l.length) = pre at *
      have HP := Lib.hid hpre
      clear HL HN HJ hi hi0 hi2 hpre
      go_wp2_with fail
      go_loopg [2, 9, 36] 3 (fun kq v2 _ v36 W => ∃ (j : Nat) (A : Option Addr) (c : Nat) (o2 : List Int), v2 = .slice A o2.length c ∧ v36 = .int .i64 j ∧ Hid (kq + j = 3) ∧ Hid (ES w W g g2 (opV v) #[.string n0, .int .i64 b1, .int .i64 b2, .int .i64 b3, .bool pl, .bool nb] (.slice A o2.length c) o2) ∧ Hid (o2 = out1 ++ encF v b1 b2 b4 j ∧ o2.length ≤ out1.length + j))
      case atStart => exact ⟨0, A3, c3, out1, rfl, rfl, by simp [Hid], HS, Lib.hid ⟨by simp [encF], by simp⟩⟩
      case round =>
        clear HS
        obtain ⟨j, A, c, o2, rfl, rfl, hj, HS, HQ⟩ := hrel
        have hj3 : j = 0 ∨ j = 1 ∨ j = 2 ∨ j = 3 := by have := hj.out; omega
        rcases hj3 with rfl | rfl | rfl | rfl
        · obtain ⟨W3, hW3, K3, hB3⟩ : ∃ W3, wr.alloc (.cells #[.pointer (some ⟨g, 1, none⟩), .int .i64 b1] 64) = W3 ∧ W3.heap[wr.heap.size]? = some (.cells #[.pointer (some ⟨g, 1, none⟩), .int .i64 b1] 64 (0, 0)) ∧ Below wr.heap.size wr W3 := ⟨_, rfl, heap_alloc_new _ _, bOne _⟩
          replace HS := Lib.hid (HS.out.next hB3)
          have a0 : W3.cell? ⟨wr.heap.size, 0, none⟩ = some (.pointer (some ⟨g, 1, none⟩)) := blk_cell K3 0
          have a1 : W3.cell? ⟨wr.heap.size, 1, none⟩ = some (.int .i64 b1) := blk_cell K3 1
          have a2 : W3.cell? ⟨g, 1, none⟩ = some (.int .i64 v.f1) := blk_cell HS.out.2.2.1 1
          clear K3 hB3
          obtain ⟨k1, rfl⟩ : ∃ m, gk = m + 1 := ⟨gk - 1, by have := hj.out; omega⟩
          cases hq : decide (0 < b1) with
          | true =>
            have HQ1 : Hid (encOne v.f1 b1 = [v.f1 % 256]) := Lib.hid (by unfold encOne; rw [if_pos (of_decide_eq_true hq)])
            go_wp2_with (first | ((with_reducible refine gate_builtin (b := .append) (xs := #[.tmp 42, .tmp 48]) rfl ?_); at_builtin; refine Kd.R_append (Kd.int .u8) (w0 := w) (W := W3) w.heap.size rfl (.tmp 42) (.tmp 48) 24 5 (.int .u8 0) 1 rfl Try.underlying24 info5 rfl (by decide) (by omega) (.slice A o2.length c) o2 (v.f1 % 256) [.int .u8 (v.f1 % 256)] (fun _ => True) (fun _ => False) rfl rfl rfl (fun _ hk => hk.elim) (fun _ _ => trivial) HS.out.1 HS.out.2.1 HS.out.2.1.size ?aL ?_))
            case aL => have := HQ.out.2; have := HF.out.2; have := HI.out; omega
            intro v3 w3 hR3 hB3 hg3 _
            generalize hl3 : o2 ++ [(v.f1 % 256)] = o3 at hR3
            have HL := Lib.hid hl3
            have HN : Hid (o3.length = o2.length + 1) := Lib.hid (by rw [← hl3, List.length_append, List.length_singleton])
            obtain ⟨A3, c3, rfl⟩ := Kd.R_slice hR3
            replace HS := Lib.hid (HS.out.app hR3 hB3 hg3)
            clear hR3 hB3 hg3 hl3
            clear hW3 a0 a1 a2 hq
            go_wp2_with fail
            go_roundg k1
            case measure => omega
            case rel => exact ⟨1, A3, c3, o3, rfl, by first | rfl | rw [wrap_next (by omega)], Lib.hid (by have := hj.out; omega), HS, Lib.hid ⟨by rw [← HL.out, HQ.out.1]; simp only [encF, HQ1.out, List.append_assoc, List.nil_append], by have := HN.out; have := HQ.out.2; omega⟩⟩
          | false =>
            have HQ1 : Hid (encOne v.f1 b1 = []) := Lib.hid (by unfold encOne; rw [if_neg (of_decide_eq_false hq)])
            go_wp2_with fail
            go_roundg k1
            case measure => omega
            case rel => exact ⟨1, A, c, o2, rfl, by first | rfl | rw [wrap_next (by omega)], Lib.hid (by have := hj.out; omega), HS, Lib.hid ⟨by rw [HQ.out.1]; simp only [encF, HQ1.out, List.append_nil], by have := HQ.out.2; omega⟩⟩
        · obtain ⟨W3, hW3, K3, hB3⟩ : ∃ W3, wr.alloc (.cells #[.pointer (some ⟨g, 2, none⟩), .int .i64 b2] 64) = W3 ∧ W3.heap[wr.heap.size]? = some (.cells #[.pointer (some ⟨g, 2, none⟩), .int .i64 b2] 64 (0, 0)) ∧ Below wr.heap.size wr W3 := ⟨_, rfl, heap_alloc_new _ _, bOne _⟩
          replace HS := Lib.hid (HS.out.next hB3)
          have a0 : W3.cell? ⟨wr.heap.size, 0, none⟩ = some (.pointer (some ⟨g, 2, none⟩)) := blk_cell K3 0
          have a1 : W3.cell? ⟨wr.heap.size, 1, none⟩ = some (.int .i64 b2) := blk_cell K3 1
          have a2 : W3.cell? ⟨g, 2, none⟩ = some (.int .i64 v.f2) := blk_cell HS.out.2.2.1 2
          clear K3 hB3
          obtain ⟨k1, rfl⟩ : ∃ m, gk = m + 1 := ⟨gk - 1, by have := hj.out; omega⟩
          cases hq : decide (0 < b2) with
          | true =>
            have HQ1 : Hid (encOne v.f2 b2 = [v.f2 % 256]) := Lib.hid (by unfold encOne; rw [if_pos (of_decide_eq_true hq)])
            go_wp2_with (first | ((with_reducible refine gate_builtin (b := .append) (xs := #[.tmp 42, .tmp 48]) rfl ?_); at_builtin; refine Kd.R_append (Kd.int .u8) (w0 := w) (W := W3) w.heap.size rfl (.tmp 42) (.tmp 48) 24 5 (.int .u8 0) 1 rfl Try.underlying24 info5 rfl (by decide) (by omega) (.slice A o2.length c) o2 (v.f2 % 256) [.int .u8 (v.f2 % 256)] (fun _ => True) (fun _ => False) rfl rfl rfl (fun _ hk => hk.elim) (fun _ _ => trivial) HS.out.1 HS.out.2.1 HS.out.2.1.size ?aL ?_))
            case aL => have := HQ.out.2; have := HF.out.2; have := HI.out; omega
            intro v3 w3 hR3 hB3 hg3 _
            generalize hl3 : o2 ++ [(v.f2 % 256)] = o3 at hR3
            have HL := Lib.hid hl3
            have HN : Hid (o3.length = o2.length + 1) := Lib.hid (by rw [← hl3, List.length_append, List.length_singleton])
            obtain ⟨A3, c3, rfl⟩ := Kd.R_slice hR3
            replace HS := Lib.hid (HS.out.app hR3 hB3 hg3)
            clear hR3 hB3 hg3 hl3
            clear hW3 a0 a1 a2 hq
            go_wp2_with fail
            go_roundg k1
            case measure => omega
            case rel => exact ⟨2, A3, c3, o3, rfl, by first | rfl | rw [wrap_next (by omega)], Lib.hid (by have := hj.out; omega), HS, Lib.hid ⟨by rw [← HL.out, HQ.out.1]; simp only [encF, HQ1.out, List.append_assoc, List.nil_append], by have := HN.out; have := HQ.out.2; omega⟩⟩
          | false =>
            have HQ1 : Hid (encOne v.f2 b2 = []) := Lib.hid (by unfold encOne; rw [if_neg (of_decide_eq_false hq)])
            go_wp2_with fail
            go_roundg k1
            case measure => omega
            case rel => exact ⟨2, A, c, o2, rfl, by first | rfl | rw [wrap_next (by omega)], Lib.hid (by have := hj.out; omega), HS, Lib.hid ⟨by rw [HQ.out.1]; simp only [encF, HQ1.out, List.append_nil], by have := HQ.out.2; omega⟩⟩
        · obtain ⟨W3, hW3, K3, hB3⟩ : ∃ W3, wr.alloc (.cells #[.pointer (some ⟨g, 3, none⟩), .int .i64 b4] 64) = W3 ∧ W3.heap[wr.heap.size]? = some (.cells #[.pointer (some ⟨g, 3, none⟩), .int .i64 b4] 64 (0, 0)) ∧ Below wr.heap.size wr W3 := ⟨_, rfl, heap_alloc_new _ _, bOne _⟩
          replace HS := Lib.hid (HS.out.next hB3)
          have a0 : W3.cell? ⟨wr.heap.size, 0, none⟩ = some (.pointer (some ⟨g, 3, none⟩)) := blk_cell K3 0
          have a1 : W3.cell? ⟨wr.heap.size, 1, none⟩ = some (.int .i64 b4) := blk_cell K3 1
          have a2 : W3.cell? ⟨g, 3, none⟩ = some (.int .i64 v.f3) := blk_cell HS.out.2.2.1 3
          clear K3 hB3
          obtain ⟨k1, rfl⟩ : ∃ m, gk = m + 1 := ⟨gk - 1, by have := hj.out; omega⟩
          cases hq : decide (0 < b4) with
          | true =>
            have HQ1 : Hid (encOne v.f3 b4 = [v.f3 % 256]) := Lib.hid (by unfold encOne; rw [if_pos (of_decide_eq_true hq)])
            go_wp2_with (first | ((with_reducible refine gate_builtin (b := .append) (xs := #[.tmp 42, .tmp 48]) rfl ?_); at_builtin; refine Kd.R_append (Kd.int .u8) (w0 := w) (W := W3) w.heap.size rfl (.tmp 42) (.tmp 48) 24 5 (.int .u8 0) 1 rfl Try.underlying24 info5 rfl (by decide) (by omega) (.slice A o2.length c) o2 (v.f3 % 256) [.int .u8 (v.f3 % 256)] (fun _ => True) (fun _ => False) rfl rfl rfl (fun _ hk => hk.elim) (fun _ _ => trivial) HS.out.1 HS.out.2.1 HS.out.2.1.size ?aL ?_))
            case aL => have := HQ.out.2; have := HF.out.2; have := HI.out; omega
            intro v3 w3 hR3 hB3 hg3 _
            generalize hl3 : o2 ++ [(v.f3 % 256)] = o3 at hR3
            have HL := Lib.hid hl3
            have HN : Hid (o3.length = o2.length + 1) := Lib.hid (by rw [← hl3, List.length_append, List.length_singleton])
            obtain ⟨A3, c3, rfl⟩ := Kd.R_slice hR3
            replace HS := Lib.hid (HS.out.app hR3 hB3 hg3)
            clear hR3 hB3 hg3 hl3
            clear hW3 a0 a1 a2 hq
            go_wp2_with fail
            go_roundg k1
            case measure => omega
            case rel => exact ⟨3, A3, c3, o3, rfl, by first | rfl | rw [wrap_next (by omega)], Lib.hid (by have := hj.out; omega), HS, Lib.hid ⟨by rw [← HL.out, HQ.out.1]; simp only [encF, HQ1.out, List.append_assoc, List.nil_append], by have := HN.out; have := HQ.out.2; omega⟩⟩
          | false =>
            have HQ1 : Hid (encOne v.f3 b4 = []) := Lib.hid (by unfold encOne; rw [if_neg (of_decide_eq_false hq)])
            go_wp2_with fail
            go_roundg k1
            case measure => omega
            case rel => exact ⟨3, A, c, o2, rfl, by first | rfl | rw [wrap_next (by omega)], Lib.hid (by have := hj.out; omega), HS, Lib.hid ⟨by rw [HQ.out.1]; simp only [encF, HQ1.out, List.append_nil], by have := HQ.out.2; omega⟩⟩
        · have s5 : wr.cell? ⟨g2, 5, none⟩ = some (.bool nb) := blk_cell HS.out.2.2.2 5
          cases nb with
          | false =>
            go_wp2_with fail
            go_roundg kk
            case measure => omega
            case rel => exact ⟨i + 1, A, c, o2, rfl, by first | rfl | rw [wrap_next (by have := HI.out; omega)], Lib.hid (by have := hk.out; omega), Lib.hid ⟨HS.out.1, HS.out.2.1, by rw [flat_next HX.out, HE.out, HP.out, HQ.out.1, HF.out.1]; simp, by have := HQ.out.2; have := HF.out.2; omega⟩⟩
          | true =>
            go_wp2_with fail
            go_loopg [2, 10, 53] 8 (fun kq v2 _ v53 W => ∃ (j : Nat) (A : Option Addr) (c : Nat) (o3 : List Int), v2 = .slice A o3.length c ∧ v53 = .int .i64 j ∧ Hid (kq + j = 8) ∧ Hid (ES w W g g2 (opV v) #[.string n0, .int .i64 b1, .int .i64 b2, .int .i64 b3, .bool pl, .bool true] (.slice A o3.length c) o3) ∧ Hid (o3 = o2 ++ (List.range j).map (byteAt v.f4) ∧ o3.length ≤ o2.length + j))
            case atStart => exact ⟨0, A, c, o2, rfl, rfl, by simp [Hid], HS, Lib.hid ⟨by simp, by simp⟩⟩
            case round =>
              clear HS s5
              obtain ⟨j, A, c, o3, rfl, rfl, hj2, HS, HU⟩ := hrel
              have a4 : wr.cell? ⟨g, 4, none⟩ = some (.int .i64 v.f4) := blk_cell HS.out.2.2.1 4
              by_cases hj3 : j < 8
              · have hj4 : (j : Int) < 8 := by omega
                obtain ⟨k1, rfl⟩ : ∃ m, gk = m + 1 := ⟨gk - 1, by have := hj2.out; omega⟩
                go_wp2_with (first | ((with_reducible refine gate_builtin (b := .append) (xs := #[.tmp 56, .tmp 63]) rfl ?_); at_builtin; refine Kd.R_append (Kd.int .u8) (w0 := w) (W := wr) w.heap.size rfl (.tmp 56) (.tmp 63) 24 5 (.int .u8 0) 1 rfl Try.underlying24 info5 rfl (by decide) (by omega) (.slice A o3.length c) o3 (byteAt v.f4 j) [.int .u8 (byteAt v.f4 j)] (fun _ => True) (fun _ => False) rfl rfl rfl (fun _ hk => hk.elim) (fun _ _ => trivial) HS.out.1 HS.out.2.1 HS.out.2.1.size ?aL ?_))
                case aL => have := HU.out.2; have := HQ.out.2; have := HF.out.2; have := HI.out; omega
                intro v3 w3 hR3 hB3 hg3 _
                generalize hl3 : o3 ++ [(byteAt v.f4 j)] = o4 at hR3
                have HL := Lib.hid hl3
                have HN : Hid (o4.length = o3.length + 1) := Lib.hid (by rw [← hl3, List.length_append, List.length_singleton])
                obtain ⟨A3, c3, rfl⟩ := Kd.R_slice hR3
                replace HS := Lib.hid (HS.out.app hR3 hB3 hg3)
                clear hR3 hB3 hg3 hl3
                clear a4
                go_wp2_with fail
                go_roundg k1
                case measure => omega
                case rel => exact ⟨j + 1, A3, c3, o4, rfl, by first | rfl | rw [wrap_next (by omega)], Lib.hid (by have := hj2.out; omega), HS, Lib.hid ⟨by rw [← HL.out, HU.out.1, range_next, List.append_assoc], by have := HN.out; have := HU.out.2; omega⟩⟩
              · have hj4 : ¬ (j : Int) < 8 := by omega
                have hj8 : j = 8 := by have := hj2.out; omega
                subst hj8
                go_wp2_with fail
                go_roundg kk
                case measure => omega
                case rel => exact ⟨i + 1, A, c, o3, rfl, by first | rfl | rw [wrap_next (by have := HI.out; omega)], Lib.hid (by have := hk.out; omega), Lib.hid ⟨HS.out.1, HS.out.2.1, by rw [flat_next HX.out, HE.out, HP.out, HU.out.1, HQ.out.1, HF.out.1]; simp, by have := HU.out.2; have := HQ.out.2; have := HF.out.2; omega⟩⟩
    · have hi2 : ¬ (i : Int) < l.length := by omega
      have hk0 : i = l.length := by have := hk.out; omega
      subst hk0
      go_wp2_with fail
      go_ret2
      have h2 := hJ.out
      rw [List.take_length] at h2
      refine ⟨_, rfl, ?_, h2.2.1⟩
      rw [← h2.2.2.1]
      exact h2.1

/-- May these operations be? -/
def rightB (l : List S46) : Bool := decide ((1 : Int) ≤ l.length) && decide ((l.length : Int) ≤ 200) && l.all (fun o => opRight o l.length)
theorem right_f (l : List S46) : code_Right.f l = some (rightB l) := rfl
/-- The bytes of operations, and the error. -/
def code_Encode.f (l : List S46) : Option (List Int × Int) := if rightB l = true then some (l.flatMap (encOp l.length), 0) else some ([], 8)

theorem code_Encode.calls (A0 : Option Addr) (c0 : Nat) (l0 : List S46) (r1 : List Int) (r2 : Int) (w : World) (hr0 : Kd.C k46 w A0 l0.length l0) (hc0 : l0.length ≤ c0) (h : code_Encode.f l0 = some (r1, r2)) :
    Calls Try.prog 11 #[.slice A0 l0.length c0] w fun e w' => ∃ v0_ : Value, e = .returned (.tuple #[v0_, .int .i64 r2]) ∧ Kd.R (Kd.int .u8) 5 w' w.heap.size (fun _ => True) v0_ r1 ∧ Below w.heap.size w w' := by
  unfold code_Encode.f at h
  cases hr : rightB l0 with
  | true =>
    rw [hr, if_pos rfl] at h
    obtain ⟨rfl, rfl⟩ := Prod.mk.inj (Option.some.inj h)
    have hl : l0.length ≤ 200 := by
      unfold rightB at hr
      simp only [Bool.and_eq_true, decide_eq_true_eq] at hr
      omega
    exact encode_core A0 c0 l0 w hr0 hc0 hl (Lib.hid (code_Right.calls A0 c0 l0 true w hr0 hc0 (by rw [right_f, hr])))
  | false =>
    rw [hr, if_neg (by decide)] at h
    obtain ⟨rfl, rfl⟩ := Prod.mk.inj (Option.some.inj h)
    have HR := Lib.hid (code_Right.calls A0 c0 l0 false w hr0 hc0 (by rw [right_f, hr]))
    clear hr0 hc0 hr h
    go_enter Try.func11, Try.ntmps11
    go_wp2_with fail
    refine HR.out.mono ?_
    rintro e w0 ⟨rfl, hB0⟩
    have HB0 := Lib.hid hB0
    clear hB0 HR
    go_wp2_with fail
    go_ret2
    exact ⟨_, rfl, Kd.R_nil _ _ _ _ _, HB0.out⟩

end Go.Proofs.Ytbnchippfebdkaa.Q
