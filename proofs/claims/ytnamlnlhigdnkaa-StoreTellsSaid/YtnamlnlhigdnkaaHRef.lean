/- The document's Mark and Drop, by hand. -/
import Derived.Test.YtnamlnlhigdnkaaRef01
import Derived.Test.YtnamlnlhigdnkaaPure0
import Derived.Test.YtnamlnlhigdnkaaHAlive
import Derived.Test.YtnamlnlhigdnkaaQ5
set_option linter.unusedSimpArgs false
set_option linter.unusedVariables false
namespace Go.Proofs.Ytnamlnlhigdnkaa
open Go.RowKit Go.Proofs.Ytnamlnlhigdnkaa.Q Go.Proofs.YtnamlnlhigdnkaaW.PrintWords Go.Proofs.YtnamlnlhigdnkaaW.PrintLast Go.Proofs.YtnamlnlhigdnkaaW.PrintMore

def word40 (x : S40) : Prop := 0 ≤ x.f3 ∧ x.f3 < 2 ^ 64
theorem with_set (l : List S40) (i : Nat) (hi : i < l.length) (hl : l.length ≤ 1000) (v0 v1 v2 v3 v4 : Int) : warpbeamref07_with.f l (i : Int) v0 v1 v2 v3 v4 = some (l.set i ⟨⟨v0, v1⟩, v2, v3, v4⟩) := by
  unfold warpbeamref07_with.f
  rw [Option.bind_some, if_pos (by omega), if_pos (by omega), Option.bind_some, if_pos (by simp; omega), Option.bind_some, if_pos (by simp; omega), Option.bind_some, wrap_next (by omega), if_pos (by omega), if_pos (by omega), Option.bind_some, if_pos (by simp; omega)]
  congr 1
  rw [Int.toNat_natCast, Int.toNat_natCast, List.nil_append]
  apply List.ext_getElem?
  intro j
  rw [List.getElem?_set]
  by_cases hj : i = j
  · subst hj
    simp [List.getElem?_append, hi, Nat.min_eq_left (Nat.le_of_lt hi)]
  · rw [if_neg hj]
    simp only [List.getElem?_append, List.length_take, List.length_append, List.length_singleton, List.getElem?_take, List.getElem?_drop, Nat.min_eq_left (Nat.le_of_lt hi)]
    by_cases h1 : j < i
    · rw [if_pos (by omega), if_pos (by omega), if_pos h1]
    · rw [if_neg (by omega)]
      congr 1
      omega

/-- What the document's mark comes to. -/
def rmark (l : List S40) (x s : Int) : List S40 × Int :=
  if 0 ≤ x ∧ x < (l.length : Int) then (if 0 ≤ s ∧ s < 32 then (l.set x.toNat ⟨(rd_T40 l x).f0, (rd_T40 l x).f1, (rd_T40 l x).f2, Go.bits .or .u64 (rd_T40 l x).f3 (bitI s)⟩, 0) else (l, 2)) else (l, 3)

set_option maxHeartbeats 2000000 in
theorem rmark_calls (A0 : Option Addr) (c0 : Nat) (l : List S40) (x s : Int) (w : World) (hC : Kd.C k40 w A0 l.length l) (hc : l.length ≤ c0) (hg : ∀ y ∈ l, word40 y) (hl : l.length ≤ 1000) :
    Calls Try.prog 16 #[.slice A0 l.length c0, .int .i64 x, .int .i64 s] w fun e w' => ∃ A c, e = .returned (.tuple #[.slice A l.length c, .int .i64 (rmark l x s).2]) ∧ Kd.C k40 w' A l.length (rmark l x s).1 ∧ l.length ≤ c ∧ Below w.heap.size w w' := by
  have hu := Try.underlying40
  have hu2 := Try.underlying24
  by_cases hx : 0 ≤ x ∧ x < (l.length : Int)
  · obtain ⟨i, rfl⟩ := Int.eq_ofNat_of_zero_le hx.1
    have hi : i < l.length := by omega
    have hv : rd_T40 l (i : Int) ∈ l := by
      unfold rd_T40
      rw [Int.toNat_natCast, List.getD_eq_getElem?_getD, List.getElem?_eq_getElem hi]
      exact List.getElem_mem hi
    have hw := hg _ hv
    have hG : warpbeamref07_Get.f l (i : Int) = some ((rd_T40 l i).f0.f0, (rd_T40 l i).f0.f1, (rd_T40 l i).f1, (rd_T40 l i).f2, (rd_T40 l i).f3, 0) := by
      unfold warpbeamref07_Get.f
      rw [if_neg (by omega), if_neg (by omega), if_pos (by omega), if_pos (by omega)]
    have C1 := Lib.hid (warpbeamref07_Get.calls A0 c0 l i _ _ _ _ _ _ w hC hc hG)
    have hm : rmark l (i : Int) s = if 0 ≤ s ∧ s < 32 then (l.set i ⟨(rd_T40 l i).f0, (rd_T40 l i).f1, (rd_T40 l i).f2, Go.bits .or .u64 (rd_T40 l i).f3 (bitI s)⟩, 0) else (l, 2) := by
      unfold rmark
      rw [if_pos hx]
      rfl
    by_cases hs : 0 ≤ s ∧ s < 32
    · rw [hm, if_pos hs]
      have C2 := Lib.hid fun W => warpbeamref01_With.calls 200 (rd_T40 l i).f3 s _ W (rwith_f _ s hw (by omega))
      have C3 := Lib.hid fun W (hW : Below w.heap.size w W) => warpbeamref07_with.calls A0 c0 l i _ _ _ _ _ _ W (Kd.C_below hC hW) hc (with_set l i hi hl (rd_T40 l i).f0.f0 (rd_T40 l i).f0.f1 (rd_T40 l i).f1 (rd_T40 l i).f2 (Go.bits .or .u64 (rd_T40 l i).f3 (bitI s)))
      clear hm hG hw hv hg hC hx
      generalize rd_T40 l i = v at *
      generalize Go.bits .or .u64 v.f3 (bitI s) = m at *
      have s0 : ¬ s < 0 := by omega
      have s1 : ¬ s ≥ 32 := by omega
      clear hs
      go_enter Try.func16, Try.ntmps16
      go_wp2_with fail
      refine C1.out.mono ?_
      rintro e w1 ⟨rfl, hB1⟩
      obtain ⟨W2, hW2, K2, hB2⟩ : ∃ W2, w1.alloc (.cells #[.int .i64 v.f0.f0, .int .i64 v.f0.f1, .int .i64 v.f1, .int .i64 v.f2, .int .u64 v.f3] 40) = W2 ∧ W2.heap[w1.heap.size]? = some (.cells #[.int .i64 v.f0.f0, .int .i64 v.f0.f1, .int .i64 v.f1, .int .i64 v.f2, .int .u64 v.f3] 40 (0, 0)) ∧ Below w1.heap.size w1 W2 := ⟨_, rfl, heap_alloc_new _ _, bOne _⟩
      have g4 : W2.cell? ⟨w1.heap.size, 4, none⟩ = some (.int .u64 v.f3) := blk_cell K2 4
      have HB2 := Lib.hid (And.intro (bAfter hB1 hB2) (And.intro K2 hB1.size))
      clear hB1 hB2 K2 C1
      go_wp2_with fail
      refine (C2.out _).mono ?_
      rintro e w3 ⟨rfl, hd⟩
      obtain ⟨n, rfl⟩ := hd
      clear C2 g4 hW2
      have K2 := blk_drewN HB2.out.2.1 n
      have g0 : (W2.drewN n).cell? ⟨w1.heap.size, 0, none⟩ = some (.int .i64 v.f0.f0) := blk_cell K2 0
      have g1 : (W2.drewN n).cell? ⟨w1.heap.size, 1, none⟩ = some (.int .i64 v.f0.f1) := blk_cell K2 1
      have g2 : (W2.drewN n).cell? ⟨w1.heap.size, 2, none⟩ = some (.int .i64 v.f1) := blk_cell K2 2
      have g3 : (W2.drewN n).cell? ⟨w1.heap.size, 3, none⟩ = some (.int .i64 v.f2) := blk_cell K2 3
      have g4 : (W2.drewN n).cell? ⟨w1.heap.size, 4, none⟩ = some (.int .u64 v.f3) := blk_cell K2 4
      have f4 := blk_frozen K2 4
      have HB3 := Lib.hid ((pw_below_drewN HB2.out.1 n).setCell (p := ⟨w1.heap.size, 4, none⟩) HB2.out.2.2 (.int .u64 m))
      clear K2
      generalize W2.drewN n = W3 at *
      go_wp2_with fail
      refine (C3.out _ HB3.out).mono ?_
      rintro e w5 ⟨v5, rfl, hR, hB5⟩
      obtain ⟨A, c, rfl⟩ := Kd.R_slice hR
      have hr := Kd.R_reads' hR
      have HZ := Lib.hid (And.intro hr (bAfter HB3.out hB5))
      clear hR hB5 hr C3 g0 g1 g2 g3 g4 f4
      go_wp2_with fail
      go_ret2
      refine ⟨A, c, ?_, ?_, ?_, HZ.out.2⟩
      · first | rfl | (rw [List.length_set]; rfl)
      · have := HZ.out.1.2.2; rw [List.length_set] at this; exact this
      · have := HZ.out.1.2.1; rw [List.length_set] at this; exact this
    · rw [hm, if_neg hs]
      clear hm hG hw hv hg hx
      generalize rd_T40 l i = v at *
      have HC := Lib.hid hC
      clear hC
      by_cases s0 : s < 0
      · clear hs
        go_enter Try.func16, Try.ntmps16
        go_wp2_with fail
        refine C1.out.mono ?_
        rintro e w1 ⟨rfl, hB1⟩
        have HB := Lib.hid (bAfter hB1 (bOne (w := w1) (.cells #[.int .i64 v.f0.f0, .int .i64 v.f0.f1, .int .i64 v.f1, .int .i64 v.f2, .int .u64 v.f3] 40)))
        clear hB1 C1
        go_wp2_with fail
        go_ret2
        exact ⟨A0, c0, rfl, Kd.C_below HC.out HB.out, hc, HB.out⟩
      · have s1 : s ≥ 32 := by omega
        clear hs
        go_enter Try.func16, Try.ntmps16
        go_wp2_with fail
        refine C1.out.mono ?_
        rintro e w1 ⟨rfl, hB1⟩
        have HB := Lib.hid (bAfter hB1 (bOne (w := w1) (.cells #[.int .i64 v.f0.f0, .int .i64 v.f0.f1, .int .i64 v.f1, .int .i64 v.f2, .int .u64 v.f3] 40)))
        clear hB1 C1
        go_wp2_with fail
        go_ret2
        exact ⟨A0, c0, rfl, Kd.C_below HC.out HB.out, hc, HB.out⟩
  · have hG : warpbeamref07_Get.f l x = some (0, 0, 0, 0, 0, 3) := by
      unfold warpbeamref07_Get.f
      by_cases h0 : x < 0
      · rw [if_pos h0]
      · rw [if_neg h0, if_pos (by omega)]
    have C1 := Lib.hid (warpbeamref07_Get.calls A0 c0 l x _ _ _ _ _ _ w hC hc hG)
    have hm : rmark l x s = (l, 3) := if_neg hx
    rw [hm]
    have HC := Lib.hid hC
    clear hm hG hC hx hg
    go_enter Try.func16, Try.ntmps16
    go_wp2_with fail
    refine C1.out.mono ?_
    rintro e w1 ⟨rfl, hB1⟩
    have HB := Lib.hid (bAfter hB1 (bOne (w := w1) (.cells #[.int .i64 0, .int .i64 0, .int .i64 0, .int .i64 0, .int .u64 0] 40)))
    clear hB1 C1
    go_wp2_with fail
    go_ret2
    exact ⟨A0, c0, rfl, Kd.C_below HC.out HB.out, hc, HB.out⟩

/-- A variable from which a slot is gone, by the document. -/
def rdropOne (s : Int) (v : S40) : S40 := ⟨v.f0, v.f1, if v.f2 = s then -1 else v.f2, Go.bits .andNot .u64 v.f3 (bitI s)⟩
theorem infoR : (Try.prog.info? 40).map (fun i => (i.zero, i.size, i.bytes)) = some (some (.agg #[(.int .i64 0), (.int .i64 0), (.int .i64 0), (.int .i64 0), (.int .u64 0)]), 5, 40) := by kernel_rfl
theorem flatR {w w' : World} {x : S40} {cs : List Value} (h : k40.K w x cs) (base : Nat) (ok : Nat → Prop) : k40.M w' base ok x cs := by
  rw [k40_open h]
  exact k40_mkM w' base ok x

set_option maxHeartbeats 4000000 in
theorem rdrop_calls (A0 : Option Addr) (c0 : Nat) (l : List S40) (s : Int) (w : World) (hC : Kd.C k40 w A0 l.length l) (hc : l.length ≤ c0) (hg : ∀ y ∈ l, word40 y) (hl : l.length ≤ 1000) :
    Calls Try.prog 23 #[.slice A0 l.length c0, .int .i64 s] w fun e w' => ∃ A c, e = .returned (.slice A l.length c) ∧ Kd.C k40 w' A l.length (l.map (rdropOne s)) ∧ l.length ≤ c ∧ Below w.heap.size w w' := by
  have hu := Try.underlying40
  have hu2 := Try.underlying24
  have HC := Lib.hid (And.intro hC hg)
  clear hC hg
  go_enter Try.func23, Try.ntmps23
  go_wp2_with fail
  go_loopg [5, 6, 7] l.length (fun kq v5 v6 _ W => ∃ (i : Nat) (A : Option Addr) (c : Nat), v5 = .slice A i c ∧ v6 = .int .i64 i ∧ Hid (kq + i = l.length) ∧ Hid (Kd.R k40 40 W w.heap.size (fun _ => True) (.slice A i c) ((l.take i).map (rdropOne s)) ∧ Below w.heap.size w W))
  case atStart => exact ⟨0, none, 0, rfl, rfl, by simp [Hid], Lib.hid ⟨Kd.R_nil _ _ _ _ _, Below.refl _ _⟩⟩
  case round =>
    obtain ⟨i, A, c, rfl, rfl, hk, hJ⟩ := hrel
    by_cases hi : i < l.length
    · have hi2 : (i : Int) < l.length := by omega
      have hi0 : (0 : Int) ≤ i := by omega
      obtain ⟨ad, rfl, a0, a1, a2, a3, a4⟩ := at_T40 (Kd.C_below HC.out.1 hJ.out.2) (i : Int) hi0 hi2
      have hx : l[i]? = some (rd_T40 l i) := by
        unfold rd_T40
        simp [List.getD_eq_getElem?_getD, hi]
      have hw := HC.out.2 _ (List.mem_of_getElem? hx)
      have HX := Lib.hid hx
      clear hx
      generalize rd_T40 l i = v at *
      simp only [Int.toNat_natCast] at a0 a1 a2 a3 a4
      have C2 := Lib.hid fun W => warpbeamref01_Less.calls 200 v.f3 s _ W (rless_f _ s hw)
      have hlo : ((l.take i).map (rdropOne s)).length = i := by rw [List.length_map, List.length_take]; omega
      generalize hout : (l.take i).map (rdropOne s) = out at *
      have HO := Lib.hid hout
      have hlo2 : out.length = i := hlo
      subst hlo2
      have HRD : Hid ((v.f2 = s → rdropOne s v = ⟨v.f0, v.f1, -1, Go.bits .andNot .u64 v.f3 (bitI s)⟩) ∧ (¬ v.f2 = s → rdropOne s v = ⟨v.f0, v.f1, v.f2, Go.bits .andNot .u64 v.f3 (bitI s)⟩)) := Lib.hid ⟨fun h => by unfold rdropOne; rw [if_pos h], fun h => by unfold rdropOne; rw [if_neg h]⟩
      have HI := Lib.hid (And.intro hJ.out HC.out)
      have HJ := Lib.hid hJ.out
      clear hJ hlo hout hw
      generalize Go.bits .andNot .u64 v.f3 (bitI s) = m at *
      obtain ⟨W2, hW2, K2, hB2⟩ : ∃ W2, wr.alloc (.cells #[.int .i64 v.f0.f0, .int .i64 v.f0.f1, .int .i64 v.f1, .int .i64 v.f2, .int .u64 v.f3] 40) = W2 ∧ W2.heap[wr.heap.size]? = some (.cells #[.int .i64 v.f0.f0, .int .i64 v.f0.f1, .int .i64 v.f1, .int .i64 v.f2, .int .u64 v.f3] 40 (0, 0)) ∧ Below wr.heap.size wr W2 := ⟨_, rfl, heap_alloc_new _ _, bOne _⟩
      have g4 : W2.cell? ⟨wr.heap.size, 4, none⟩ = some (.int .u64 v.f3) := blk_cell K2 4
      have HB2 := Lib.hid (And.intro hB2 K2)
      clear hB2 K2
      go_wp2_with fail
      refine (C2.out _).mono ?_
      rintro e w3 ⟨rfl, hd⟩
      obtain ⟨n, rfl⟩ := hd
      clear C2 g4 hW2 a0 a1 a2 a3 a4
      have K3 := blk_drewN HB2.out.2 n
      have hB3 := pw_below_drewN HB2.out.1 n
      generalize W2.drewN n = W3 at *
      have g2 : W3.cell? ⟨wr.heap.size, 3, none⟩ = some (.int .i64 v.f2) := blk_cell K3 3
      have g4 : W3.cell? ⟨wr.heap.size, 4, none⟩ = some (.int .u64 v.f3) := blk_cell K3 4
      have f3 := blk_frozen K3 3
      have f4 := blk_frozen K3 4
      by_cases hv : v.f2 = s
      · obtain ⟨W4, hW4, K4, hB4⟩ : ∃ W4, (W3.setCell ⟨wr.heap.size, 4, none⟩ (.int .u64 m)).setCell ⟨wr.heap.size, 3, none⟩ (.int .i64 (-1)) = W4 ∧ W4.heap[wr.heap.size]? = some (.cells #[.int .i64 v.f0.f0, .int .i64 v.f0.f1, .int .i64 v.f1, .int .i64 (-1), .int .u64 m] 40 (0, 0)) ∧ Below wr.heap.size wr W4 := ⟨_, rfl, blk_put (blk_put K3 4 _ rfl) 3 _ rfl, (hB3.setCell (p := ⟨wr.heap.size, 4, none⟩) (Nat.le_refl _) (.int .u64 m)).setCell (p := ⟨wr.heap.size, 3, none⟩) (Nat.le_refl _) (.int .i64 (-1))⟩
        have d0 : W4.cell? ⟨wr.heap.size, 0, none⟩ = some (.int .i64 v.f0.f0) := blk_cell K4 0
        have d1 : W4.cell? ⟨wr.heap.size, 1, none⟩ = some (.int .i64 v.f0.f1) := blk_cell K4 1
        have d2 : W4.cell? ⟨wr.heap.size, 2, none⟩ = some (.int .i64 v.f1) := blk_cell K4 2
        have d3 : W4.cell? ⟨wr.heap.size, 3, none⟩ = some (.int .i64 (-1)) := blk_cell K4 3
        have d4 : W4.cell? ⟨wr.heap.size, 4, none⟩ = some (.int .u64 m) := blk_cell K4 4
        have HB4 := Lib.hid hB4
        clear K4 hB4 K3 hB3
        go_wp2_with (at_builtin; refine Kd.R_append_rows k40 (w0 := W4.alloc (.cells #[.int .i64 v.f0.f0, .int .i64 v.f0.f1, .int .i64 v.f1, .int .i64 (-1), .int .u64 m] 40)) (Rr := k40.K W4) w.heap.size rfl _ _ 22 40 _ _ rfl Try.underlying22 infoR rfl (by decide) (by decide) _ out [(⟨v.f0, v.f1, (-1), m⟩ : S40)] (some ⟨W4.heap.size, 0, none⟩) 1 1 (fun _ => True) (fun _ => False) rfl rfl ?HO ?HR ?hKM (fun _ h => h.elim) (fun _ _ => trivial) (Below.refl _ _) ?hbase ?hl ?_)
        case HO => exact Kd.R_alloc (Kd.R_below HJ.out.1 HB4.out) _
        case HR => exact ⟨rfl, by decide, fun _ => ⟨_, rfl, fun j p hj => by
            rcases j with _ | j
            · have : (⟨v.f0, v.f1, (-1), m⟩ : S40) = p := by simpa using hj
              subst this
              exact ⟨[.int .i64 v.f0.f0, .int .i64 v.f0.f1, .int .i64 v.f1, .int .i64 (-1), .int .u64 m], rfl, k40_mk _ (⟨v.f0, v.f1, (-1), m⟩ : S40), fun q u hu => by
                rw [Addr.add_lit]
                show (W4.alloc _).cell? ⟨W4.heap.size, 0 + (0 * 5 + q), none⟩ = _
                rw [Nat.zero_mul, Nat.zero_add, Nat.zero_add]
                exact (blk_cell (blk_new _ _) q).trans (by simpa using hu)⟩
            · simp at hj⟩⟩
        case hKM => exact fun x cs h => flatR h _ _
        case hbase => have := HJ.out.2.size; have := HB4.out.size; simp; omega
        case hl => omega
        intro v2 w2 hR2 hB2' hg2 _
        generalize hl2 : out ++ [(⟨v.f0, v.f1, (-1), m⟩ : S40)] = l2 at hR2
        have HL2 := Lib.hid hl2
        clear hl2
        have hlen2 : l2.length = out.length + 1 := by rw [← HL2.out, List.length_append, List.length_singleton]
        have HLEN := Lib.hid hlen2
        obtain ⟨A2, c2, rfl⟩ := Kd.R_slice hR2
        have hBF := (bAfter (bAfter HJ.out.2 HB4.out) (bOne (.cells #[.int .i64 v.f0.f0, .int .i64 v.f0.f1, .int .i64 v.f1, .int .i64 (-1), .int .u64 m] 40))).grown hg2 (by have := HJ.out.2.size; have := HB4.out.size; simp; omega) (fun k hk => Kd.R_base HJ.out.1 k hk)
        have HZ := Lib.hid (And.intro hR2 hBF)
        clear hR2 hB2' hg2 hBF d0 d1 d2 d3 d4 hW4 hlen2 g2 g4 f3 f4
        have HV := Lib.hid hv
        clear hv
        go_wp2_with fail
        obtain ⟨kk, rfl⟩ : ∃ m, gk = m + 1 := ⟨gk - 1, by have := hk.out; omega⟩
        go_roundg kk
        case measure => omega
        case rel =>
          have h3 : (l.take (out.length + 1)).map (rdropOne s) = l2 := by
            rw [List.take_add_one, HX.out, List.map_append, HO.out, ← HL2.out]
            show out ++ [rdropOne s v] = out ++ [(⟨v.f0, v.f1, (-1), m⟩ : S40)]
            rw [HRD.out.1 HV.out]
          refine ⟨out.length + 1, A2, c2, by rw [HLEN.out], by first | rfl | rw [wrap_next (by omega)], Lib.hid (by have := hk.out; omega), Lib.hid ⟨?_, HZ.out.2⟩⟩
          rw [h3, ← HLEN.out]
          exact HZ.out.1
      · obtain ⟨W4, hW4, K4, hB4⟩ : ∃ W4, W3.setCell ⟨wr.heap.size, 4, none⟩ (.int .u64 m) = W4 ∧ W4.heap[wr.heap.size]? = some (.cells #[.int .i64 v.f0.f0, .int .i64 v.f0.f1, .int .i64 v.f1, .int .i64 v.f2, .int .u64 m] 40 (0, 0)) ∧ Below wr.heap.size wr W4 := ⟨_, rfl, blk_put K3 4 _ rfl, hB3.setCell (p := ⟨wr.heap.size, 4, none⟩) (Nat.le_refl _) (.int .u64 m)⟩
        have d0 : W4.cell? ⟨wr.heap.size, 0, none⟩ = some (.int .i64 v.f0.f0) := blk_cell K4 0
        have d1 : W4.cell? ⟨wr.heap.size, 1, none⟩ = some (.int .i64 v.f0.f1) := blk_cell K4 1
        have d2 : W4.cell? ⟨wr.heap.size, 2, none⟩ = some (.int .i64 v.f1) := blk_cell K4 2
        have d3 : W4.cell? ⟨wr.heap.size, 3, none⟩ = some (.int .i64 v.f2) := blk_cell K4 3
        have d4 : W4.cell? ⟨wr.heap.size, 4, none⟩ = some (.int .u64 m) := blk_cell K4 4
        have HB4 := Lib.hid hB4
        clear K4 hB4 K3 hB3
        go_wp2_with (at_builtin; refine Kd.R_append_rows k40 (w0 := W4.alloc (.cells #[.int .i64 v.f0.f0, .int .i64 v.f0.f1, .int .i64 v.f1, .int .i64 v.f2, .int .u64 m] 40)) (Rr := k40.K W4) w.heap.size rfl _ _ 22 40 _ _ rfl Try.underlying22 infoR rfl (by decide) (by decide) _ out [(⟨v.f0, v.f1, v.f2, m⟩ : S40)] (some ⟨W4.heap.size, 0, none⟩) 1 1 (fun _ => True) (fun _ => False) rfl rfl ?HO ?HR ?hKM (fun _ h => h.elim) (fun _ _ => trivial) (Below.refl _ _) ?hbase ?hl ?_)
        case HO => exact Kd.R_alloc (Kd.R_below HJ.out.1 HB4.out) _
        case HR => exact ⟨rfl, by decide, fun _ => ⟨_, rfl, fun j p hj => by
            rcases j with _ | j
            · have : (⟨v.f0, v.f1, v.f2, m⟩ : S40) = p := by simpa using hj
              subst this
              exact ⟨[.int .i64 v.f0.f0, .int .i64 v.f0.f1, .int .i64 v.f1, .int .i64 v.f2, .int .u64 m], rfl, k40_mk _ (⟨v.f0, v.f1, v.f2, m⟩ : S40), fun q u hu => by
                rw [Addr.add_lit]
                show (W4.alloc _).cell? ⟨W4.heap.size, 0 + (0 * 5 + q), none⟩ = _
                rw [Nat.zero_mul, Nat.zero_add, Nat.zero_add]
                exact (blk_cell (blk_new _ _) q).trans (by simpa using hu)⟩
            · simp at hj⟩⟩
        case hKM => exact fun x cs h => flatR h _ _
        case hbase => have := HJ.out.2.size; have := HB4.out.size; simp; omega
        case hl => omega
        intro v2 w2 hR2 hB2' hg2 _
        generalize hl2 : out ++ [(⟨v.f0, v.f1, v.f2, m⟩ : S40)] = l2 at hR2
        have HL2 := Lib.hid hl2
        clear hl2
        have hlen2 : l2.length = out.length + 1 := by rw [← HL2.out, List.length_append, List.length_singleton]
        have HLEN := Lib.hid hlen2
        obtain ⟨A2, c2, rfl⟩ := Kd.R_slice hR2
        have hBF := (bAfter (bAfter HJ.out.2 HB4.out) (bOne (.cells #[.int .i64 v.f0.f0, .int .i64 v.f0.f1, .int .i64 v.f1, .int .i64 v.f2, .int .u64 m] 40))).grown hg2 (by have := HJ.out.2.size; have := HB4.out.size; simp; omega) (fun k hk => Kd.R_base HJ.out.1 k hk)
        have HZ := Lib.hid (And.intro hR2 hBF)
        clear hR2 hB2' hg2 hBF d0 d1 d2 d3 d4 hW4 hlen2 g2 g4 f3 f4
        have HV := Lib.hid hv
        clear hv
        go_wp2_with fail
        obtain ⟨kk, rfl⟩ : ∃ m, gk = m + 1 := ⟨gk - 1, by have := hk.out; omega⟩
        go_roundg kk
        case measure => omega
        case rel =>
          have h3 : (l.take (out.length + 1)).map (rdropOne s) = l2 := by
            rw [List.take_add_one, HX.out, List.map_append, HO.out, ← HL2.out]
            show out ++ [rdropOne s v] = out ++ [(⟨v.f0, v.f1, v.f2, m⟩ : S40)]
            rw [HRD.out.2 HV.out]
          refine ⟨out.length + 1, A2, c2, by rw [HLEN.out], by first | rfl | rw [wrap_next (by omega)], Lib.hid (by have := hk.out; omega), Lib.hid ⟨?_, HZ.out.2⟩⟩
          rw [h3, ← HLEN.out]
          exact HZ.out.1
    · have hi2 : ¬ (i : Int) < l.length := by omega
      have hk0 : i = l.length := by have := hk.out; omega
      subst hk0
      go_wp2_with fail
      go_ret
      have h2 := hJ.out
      rw [List.take_length] at h2
      have h3 := Kd.R_reads' h2.1
      rw [List.length_map] at h3
      exact ⟨A, c, rfl, h3.2.2, h3.2.1, h2.2⟩

end Go.Proofs.Ytnamlnlhigdnkaa
