/- Theirs and Ours of the law, by hand: each step told as the other package's. -/
import Derived.Test.YtkecbdeekpbbjaaMem
import Derived.Test.YtkecbdeekpbbjaaLoops
import Derived.Test.YtkecbdeekpbbjaaQ0
import Derived.Deep.LoopGhost
import Derived.WalkKit
import Derived.Lib.Hide
namespace Go.Proofs.Ytkecbdeekpbbjaa.Q
open Go.RowKit Go.Lib Go.Proofs.Ytkecbdeekpbbjaa Go.Proofs.YtkecbdeekpbbjaaW.PrintWords Go.Proofs.YtkecbdeekpbbjaaW.PrintLast Go.Proofs.YtkecbdeekpbbjaaW.PrintMore
set_option linter.unusedVariables false
set_option linter.unusedSimpArgs false

theorem take_next1 {α : Type} {l : List α} {i : Nat} {x : α} (h : l[i]? = some x) : l.take (i + 1) = l.take i ++ [x] := by
  rw [List.take_add_one, h]
  rfl
theorem flat54 {w w' : World} {x : S54} {cs : List Value} (h : k54.K w x cs) (base : Nat) (ok : Nat → Prop) : k54.M w' base ok x cs := by
  rw [k54_open h]
  exact k54_mkM w' base ok x
theorem flat69 {w w' : World} {x : S69} {cs : List Value} (h : k69.K w x cs) (base : Nat) (ok : Nat → Prop) : k69.M w' base ok x cs := by
  rw [k69_open h]
  exact k69_mkM w' base ok x
def conv54 (o : S69) : S54 := ⟨o.f0, ⟨o.f1.f0, o.f1.f1⟩, o.f2⟩
def conv69 (o : S54) : S69 := ⟨o.f0, ⟨o.f1.f0, o.f1.f1⟩, o.f2⟩

def warpbeamlaw08_Theirs.f (l : List S69) : Option (List S54) := if l.length ≤ 1000000 then some (l.map conv54) else none
set_option maxHeartbeats 4000000 in
theorem warpbeamlaw08_Theirs.calls (A0 : Option Addr) (c0 : Nat) (l : List S69) (r : List S54) (w : World) (hC : Kd.C k69 w A0 l.length l) (hc : l.length ≤ c0) (h : warpbeamlaw08_Theirs.f l = some r) :
    Calls Try.prog 25 #[.slice A0 l.length c0] w fun e w' => ∃ v, e = .returned v ∧ Kd.R k54 54 w' w.heap.size (fun _ => True) v r ∧ Below w.heap.size w w' := by
  unfold warpbeamlaw08_Theirs.f at h
  split at h
  case isFalse => cases h
  rename_i hl
  obtain rfl := Option.some.inj h
  clear h
  have hu := Try.underlying69
  have hut := Try.underlying54
  have hu2 := Try.underlying67
  have hu3 := Try.underlying44
  have HC := Lib.hid hC
  clear hC
  go_enter Try.func25, Try.ntmps25
  go_wp2_with fail
  go_loopg [3, 8, 5] l.length (fun kq v3 v8 _ W => ∃ (i : Nat) (A : Option Addr) (c : Nat), v3 = .slice A i c ∧ v8 = .int .i64 i ∧ Hid (kq + i = l.length) ∧ Hid (Kd.R k54 54 W w.heap.size (fun _ => True) (.slice A i c) ((l.take i).map conv54) ∧ Below w.heap.size w W))
  case atStart => exact ⟨0, none, 0, rfl, rfl, by simp [Hid], Lib.hid ⟨Kd.R_nil _ _ _ _ _, Below.refl _ _⟩⟩
  case round =>
    obtain ⟨i, A, c, rfl, rfl, hk, hJ⟩ := hrel
    by_cases hi : i < l.length
    · have hi2 : (i : Int) < l.length := by omega
      have hi0 : (0 : Int) ≤ i := by omega
      obtain ⟨ad, rfl, a0, a1, a2, a3⟩ := at_T69 (Kd.C_below HC.out hJ.out.2) (i : Int) hi0 hi2
      have hx : l[i]? = some (rd_T69 l i) := by
        unfold rd_T69
        simp [List.getD_eq_getElem?_getD, hi]
      have HX := Lib.hid hx
      clear hx
      generalize rd_T69 l i = v at *
      rcases v with ⟨x0, ⟨x1, x2⟩, x3⟩
      simp only [Int.toNat_natCast] at a0 a1 a2 a3
      have hlo : ((l.take i).map conv54).length = i := by rw [List.length_map, List.length_take]; omega
      generalize hout : (l.take i).map conv54 = out at *
      have HO := Lib.hid hout
      have hlo2 : out.length = i := hlo
      subst hlo2
      have HJ := Lib.hid hJ.out
      clear hJ hlo hout
      obtain ⟨W4, hW4, K4, hB4⟩ : ∃ W4, wr.alloc (.cells #[.int .i64 x0, .int .i64 x1, .int .i64 x2, .bool x3] 69) = W4 ∧ W4.heap[wr.heap.size]? = some (.cells #[.int .i64 x0, .int .i64 x1, .int .i64 x2, .bool x3] 69 (0, 0)) ∧ Below wr.heap.size wr W4 := ⟨_, rfl, heap_alloc_new _ _, bOne _⟩
      have d0 : W4.cell? ⟨wr.heap.size, 0, none⟩ = some (.int .i64 x0) := blk_cell K4 0
      have d1 : W4.cell? ⟨wr.heap.size, 1, none⟩ = some (.int .i64 x1) := blk_cell K4 1
      have d2 : W4.cell? ⟨wr.heap.size, 2, none⟩ = some (.int .i64 x2) := blk_cell K4 2
      have d3 : W4.cell? ⟨wr.heap.size, 3, none⟩ = some (.bool x3) := blk_cell K4 3
      have HB4 := Lib.hid hB4
      clear K4 hB4
      go_wp2_with (at_builtin; refine Kd.R_append_rows k54 (w0 := W4.alloc (.cells #[.int .i64 x0, .int .i64 x1, .int .i64 x2, .bool x3] 54)) (Rr := k54.K W4) w.heap.size rfl _ _ 35 54 _ _ rfl Try.underlying35 info54 rfl (by decide) (by decide) _ out [(⟨x0, ⟨x1, x2⟩, x3⟩ : S54)] (some ⟨W4.heap.size, 0, none⟩) 1 1 (fun _ => True) (fun _ => False) rfl rfl ?HO ?HR ?hKM (fun _ h => h.elim) (fun _ _ => trivial) (Below.refl _ _) ?hbase ?hl ?_)
      case HO => exact Kd.R_alloc (Kd.R_below HJ.out.1 HB4.out) _
      case HR => exact ⟨rfl, by decide, fun _ => ⟨_, rfl, fun j p hj => by
          rcases j with _ | j
          · have : (⟨x0, ⟨x1, x2⟩, x3⟩ : S54) = p := by simpa using hj
            subst this
            exact ⟨[.int .i64 x0, .int .i64 x1, .int .i64 x2, .bool x3], rfl, k54_mk _ (⟨x0, ⟨x1, x2⟩, x3⟩ : S54), fun q u hu => by
              rw [Addr.add_lit]
              show (W4.alloc _).cell? ⟨W4.heap.size, 0 + (0 * 4 + q), none⟩ = _
              rw [Nat.zero_mul, Nat.zero_add, Nat.zero_add]
              exact (blk_cell (blk_new _ _) q).trans (by simpa using hu)⟩
          · simp at hj⟩⟩
      case hKM => exact fun x cs h => flat54 h _ _
      case hbase => have := HJ.out.2.size; have := HB4.out.size; simp; omega
      case hl => omega
      intro v2 w2 hR2 hB2' hg2 _
      generalize hl2 : out ++ [(⟨x0, ⟨x1, x2⟩, x3⟩ : S54)] = l2 at hR2
      have HL2 := Lib.hid hl2
      clear hl2
      have hlen2 : l2.length = out.length + 1 := by rw [← HL2.out, List.length_append, List.length_singleton]
      have HLEN := Lib.hid hlen2
      obtain ⟨A2, c2, rfl⟩ := Kd.R_slice hR2
      have hBF := (bAfter (bAfter HJ.out.2 HB4.out) (bOne (.cells #[.int .i64 x0, .int .i64 x1, .int .i64 x2, .bool x3] 54))).grown hg2 (by have := HJ.out.2.size; have := HB4.out.size; simp; omega) (fun k hk => Kd.R_base HJ.out.1 k hk)
      have HZ := Lib.hid (And.intro hR2 hBF)
      clear hR2 hB2' hg2 hBF d0 d1 d2 d3 hW4 hlen2
      go_wp2_with fail
      obtain ⟨kk, rfl⟩ : ∃ m, gk = m + 1 := ⟨gk - 1, by have := hk.out; omega⟩
      go_roundg kk
      case measure => omega
      case rel =>
        have h3 : (l.take (out.length + 1)).map conv54 = l2 := by
          rw [take_next1 HX.out, List.map_append, HO.out, ← HL2.out]
          rfl
        refine ⟨out.length + 1, A2, c2, by rw [HLEN.out], by first | rfl | rw [wrap_next (by omega)], Lib.hid (by have := hk.out; omega), Lib.hid ⟨?_, HZ.out.2⟩⟩
        rw [h3, ← HLEN.out]
        exact HZ.out.1
    · have hi2 : ¬ (i : Int) < l.length := by omega
      have hk0 : i = l.length := by have := hk.out; omega
      subst hk0
      go_wp2_with fail
      go_ret
      have h2 := hJ.out
      rw [List.take_length] at h2
      exact ⟨_, rfl, h2.1, h2.2⟩

end Go.Proofs.Ytkecbdeekpbbjaa.Q
