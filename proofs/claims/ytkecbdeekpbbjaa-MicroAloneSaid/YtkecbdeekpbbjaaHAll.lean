/- What comes of transactions, one behind the other, by hand: where each of them fits. -/
import Derived.Test.YtkecbdeekpbbjaaPureM
import Derived.BigQuiet
namespace Go.Proofs.Ytkecbdeekpbbjaa.Q
open Go.RowKit Go.Lib Go.Proofs.Ytkecbdeekpbbjaa Go.Proofs.YtkecbdeekpbbjaaW.PrintWords Go.Proofs.YtkecbdeekpbbjaaW.PrintLast Go.Proofs.YtkecbdeekpbbjaaW.PrintMore
set_option linter.unusedVariables false
set_option linter.unusedSimpArgs false
attribute [local go_sem high] eqA44

abbrev c44 (v : S44) : List Value := [.int .i64 v.f0, .int .i64 v.f1]
theorem len44 (l : List S44) : (l.flatMap c44).length = l.length * 2 := by induction l with | nil => rfl | cons a l ih => rw [List.flatMap_cons, List.length_append, ih]; simp; omega
theorem get44 {l : List S44} {x : Nat} {v : S44} (h : l[x]? = some v) : ∀ i, i < 2 → (l.flatMap c44)[x * 2 + i]? = (c44 v)[i]? := by
  induction l generalizing x with
  | nil => cases h
  | cons a l ih =>
    intro i hi
    rw [List.flatMap_cons]
    rcases x with _ | x
    · have : a = v := by simpa using h
      subst this
      rw [Nat.zero_mul, Nat.zero_add, List.getElem?_append_left (by simp; omega)]
    · rw [List.getElem?_append_right (by simp; omega)]
      have h' : l[x]? = some v := by simpa using h
      rw [show (x + 1) * 2 + i - (c44 a).length = x * 2 + i by simp; omega]
      exact ih h' i hi
theorem set44 (l : List S44) {x : Nat} (h : x < l.length) (a b : Int) : ((l.flatMap c44).set (x * 2) (.int .i64 a)).set (x * 2 + 1) (.int .i64 b) = (l.set x ⟨a, b⟩).flatMap c44 := by
  induction l generalizing x with
  | nil => simp at h
  | cons y l ih =>
    rw [List.flatMap_cons]
    rcases x with _ | x
    · simp
    · rw [List.set_append_right _ _ (by simp; omega), List.set_append_right _ _ (by simp; omega), List.set_cons_succ, List.flatMap_cons]
      rw [show (x + 1) * 2 - (c44 y).length = x * 2 by simp; omega, show (x + 1) * 2 + 1 - (c44 y).length = x * 2 + 1 by simp; omega, ih (by simpa using h)]
abbrev nrow (g n c : Nat) : Value := .slice (some ⟨g, 0, none⟩) n c
/-- The row of values of one's own. -/
def NR (W : World) (base g n c : Nat) (l : List S44) : Prop := l.length = n ∧ W.ownsRow base 44 2 (nrow g n c) n (l.flatMap c44)
theorem NR.below {W W' : World} {base g n c : Nat} {l : List S44} (h : NR W base g n c l) (hB : Below W.heap.size W W') : NR W' base g n c l := ⟨h.1, own_below hB h.2⟩
theorem NR.at_ {W : World} {base g n c : Nat} {l : List S44} (h : NR W base g n c l) {x : Nat} {v : S44} (hx : l[x]? = some v) :
    (W.cell? ⟨g, x * 2, none⟩ = some (.int .i64 v.f0) ∧ W.frozen? ⟨g, x * 2, none⟩ = false) ∧ (W.cell? ⟨g, x * 2 + 1, none⟩ = some (.int .i64 v.f1) ∧ W.frozen? ⟨g, x * 2 + 1, none⟩ = false) := by
  rcases own_at h.2 with ⟨h1, h2⟩ | ⟨g', c', h1, -, -, -, hc⟩
  · have := (List.getElem?_eq_some_iff.1 hx).1
    have := h.1
    omega
  · injection h1 with h1 _ _
    injection h1 with h1
    injection h1 with h1
    subst h1
    exact ⟨hc _ _ (get44 hx 0 (by decide)), hc _ _ (get44 hx 1 (by decide))⟩
theorem NR.put {W : World} {base g n c : Nat} {l : List S44} (h : NR W base g n c l) {x : Nat} (hx : x < n) (a b : Int) : NR ((W.setCell ⟨g, x * 2, none⟩ (.int .i64 a)).setCell ⟨g, x * 2 + 1, none⟩ (.int .i64 b)) base g n c (l.set x ⟨a, b⟩) := by
  refine ⟨by rw [List.length_set]; exact h.1, ?_⟩
  rw [← set44 l (by rw [h.1]; exact hx)]
  exact ((h.2.stored (x * 2) (.int .i64 a)).1.stored (x * 2 + 1) (.int .i64 b)).1
theorem NR.base {W : World} {base g n c : Nat} {l : List S44} (h : NR W base g n c l) : base ≤ g ∧ g < W.heap.size := ⟨own_base h.2 g rfl, own_lt h.2 g rfl⟩
theorem NR.put_below {W : World} {base g n c : Nat} {l : List S44} {w0 : World} (h : NR W base g n c l) (hB : Below base w0 W) (x : Nat) (a b : Int) : Below base w0 ((W.setCell ⟨g, x * 2, none⟩ (.int .i64 a)).setCell ⟨g, x * 2 + 1, none⟩ (.int .i64 b)) :=
  (hB.setCell (p := ⟨g, x * 2, none⟩) h.base.1 _).setCell (p := ⟨g, x * 2 + 1, none⟩) h.base.1 _

/-- What transactions read and wrote. -/
def pr (E : List S38) : List (List S54 × List S54) := E.map fun x => (x.f3, x.f4)
def mid (n i : Nat) : List S44 := List.replicate i v0 ++ List.replicate (n - i) ⟨0, 0⟩
theorem mid_set {n i : Nat} (h : i < n) : (mid n i).set i v0 = mid n (i + 1) := by
  unfold mid
  rw [List.set_append_right _ _ (by simp)]
  simp only [List.length_replicate, Nat.sub_self]
  obtain ⟨d, hd⟩ : ∃ d, n - i = d + 1 := ⟨n - i - 1, by omega⟩
  rw [hd, List.replicate_succ, List.set_cons_zero, List.replicate_succ', List.append_assoc, show n - (i + 1) = d by omega]
  rfl
theorem mid_at {n i : Nat} (h : i < n) : (mid n i)[i]? = some ⟨0, 0⟩ := by
  unfold mid
  rw [List.getElem?_append_right (by simp), List.length_replicate, Nat.sub_self, List.getElem?_replicate, if_pos (by omega)]
theorem madeFlat (n : Nat) : (madeCells (Value.agg #[.int .i64 0, .int .i64 0]).cells (n * 2)).toList = (mid n 0).flatMap c44 := by
  have h2 : ∀ n, (List.replicate n (⟨0, 0⟩ : S44)).flatMap c44 = List.replicate (n * 2) (.int .i64 0) := fun n => by
    induction n with
    | zero => rfl
    | succ n ih => rw [List.replicate_succ, List.flatMap_cons, ih, show (n + 1) * 2 = n * 2 + 1 + 1 by omega]; rfl
  unfold mid
  rw [List.replicate_zero, List.nil_append, Nat.sub_zero, h2]
  apply List.ext_getElem
  · simp [madeCells]
  · intro i h1 h3
    simp only [madeCells, Array.toList_map, List.getElem_map, List.getElem_replicate]
    have : ∀ j, j < 2 → (Value.agg #[.int .i64 0, .int .i64 0]).cells[j]! = .int .i64 0 := fun j hj => by
      rcases j with _ | _ | j
      · rfl
      · rfl
      · omega
    exact this _ (Nat.mod_lt _ (by decide))

set_option maxHeartbeats 1000000 in
set_option maxRecDepth 100000 in
theorem all_calls (n : Nat) (hn : n ≤ 64) (A : Option Addr) (c : Nat) (E : List S38) (w : World) (hC : Kd.C k38 w A E.length E) (hl : E.length ≤ 1000) (hr : ∀ x ∈ E, (∀ s ∈ x.f3, inR n s) ∧ (∀ s ∈ x.f4, inR n s) ∧ x.f3.length ≤ 1000 ∧ x.f4.length ≤ 1000) (hleg : legal (pr E) (zeros n)) :
    Calls Try.prog 18 #[.int .i64 n, .slice A E.length c] w fun e w' => ∃ g cap, e = .returned (.tuple #[nrow g n cap, .int .i64 (-1)]) ∧ NR w' w.heap.size g n cap (after (pr E) (zeros n)) ∧ Below w.heap.size w w' := by
  have hu44 := Try.underlying44
  have hu54 := Try.underlying54
  have hu38 := Try.underlying38
  obtain ⟨i0, hi0, hz0, hz1, hz2⟩ := info_parts info44
  obtain ⟨w1, hrun, hown, hgrow⟩ := run_makeSlice_full (P := Try.prog) w w.heap.size 39 44 i0 _ 2 Try.underlying39 hi0 hz0 hz1 .i64 .i64 n (by omega) (by rw [hz2]; omega) (by simp only [maxLen]; omega) (Nat.le_refl _)
  have hn0 : (0 : Int) ≤ n := by omega
  have hn1 : (n : Int) ≤ 64 := by omega
  have hNR : NR w1 w.heap.size w.heap.size n n (mid n 0) := ⟨by unfold mid; simp, by rw [← madeFlat]; exact hown⟩
  have hB1 : Below w.heap.size w w1 := (Below.refl _ _).grown hgrow (Nat.le_refl _) (fun k e => by cases e)
  have H1 := Lib.hid (And.intro hNR hB1)
  have HX := Lib.hid (And.intro hC (And.intro hl (And.intro hr hleg)))
  have hE0 : (E.length : Int) ≤ 1000 := by omega
  clear hown hgrow hNR hB1 hC hl hr hleg hi0 hz0 hz1 hz2
  go_enter Try.func18, Try.ntmps18
  go_wp2_with fail
  clear hrun
  go_loopg [7, 18] n (fun kq _ v18 W => ∃ i : Nat, v18 = .int .i64 i ∧ Hid (kq + i = n) ∧ Hid (NR W w.heap.size w.heap.size n n (mid n i) ∧ Below w.heap.size w W))
  case atStart => exact ⟨0, rfl, by simp [Hid], H1⟩
  case round =>
    obtain ⟨i, rfl, hk, hJ⟩ := hrel
    by_cases hi : i < n
    · have hi2 : (i : Int) < n := by omega
      have hi0 : (0 : Int) ≤ i := by omega
      have hib : (i : Int) ≤ 64 := by omega
      obtain ⟨⟨a0, f0⟩, ⟨a1, f1⟩⟩ := hJ.out.1.at_ (mid_at hi)
      have HN : Hid (NR ((wr.setCell ⟨w.heap.size, i * 2, none⟩ (.int .i64 1)).setCell ⟨w.heap.size, i * 2 + 1, none⟩ (.int .i64 0)) w.heap.size w.heap.size n n (mid n (i + 1)) ∧ Below w.heap.size w ((wr.setCell ⟨w.heap.size, i * 2, none⟩ (.int .i64 1)).setCell ⟨w.heap.size, i * 2 + 1, none⟩ (.int .i64 0))) := Lib.hid ⟨by rw [← mid_set hi]; exact hJ.out.1.put hi 1 0, hJ.out.1.put_below hJ.out.2 i 1 0⟩
      dsimp only at a0 a1
      go_wp2_with fail
      obtain ⟨k1, rfl⟩ : ∃ q, gk = q + 1 := ⟨gk - 1, by have := hk.out; omega⟩
      go_roundg k1
      case measure => omega
      case rel => exact ⟨i + 1, by first | rfl | (congr 1), Lib.hid (by have := hk.out; omega), HN⟩
    · have hi2 : ¬ (i : Int) < n := by omega
      have hk0 : i = n := by have := hk.out; omega
      subst hk0
      have hz : mid i i = zeros i := by unfold mid zeros; rw [Nat.sub_self]; simp
      have H2 : Hid (NR wr w.heap.size w.heap.size i i (zeros i) ∧ Below w.heap.size w wr) := Lib.hid (by have := hJ.out; rw [hz] at this; exact this)
      clear hJ hz
      obtain ⟨wo, rfl⟩ : ∃ wo : World, wo = wr := ⟨_, rfl⟩
      obtain ⟨gko, rfl⟩ : ∃ q : Nat, q = gk := ⟨_, rfl⟩
      go_wp2_with fail
      go_loopg [8, 9, 11, 13, 28] E.length (fun kq _ _ _ _ v28 W => ∃ q : Nat, v28 = .int .i64 q ∧ Hid (kq + q = E.length) ∧ Hid (NR W w.heap.size w.heap.size i i (after (pr (E.take q)) (zeros i)) ∧ Below w.heap.size w W ∧ legal (pr (E.drop q)) (after (pr (E.take q)) (zeros i))))
      case atStart => exact ⟨0, rfl, by simp [Hid], Lib.hid ⟨H2.out.1, H2.out.2, HX.out.2.2.2⟩⟩
      case round =>
        obtain ⟨q, rfl, hkq, hJq⟩ := hrel
        by_cases hq : q < E.length
        · have hq2 : (q : Int) < E.length := by omega
          have hq0 : (0 : Int) ≤ q := by omega
          obtain ⟨ad, A3, c3, A4, c4, rfl, e0', e1', e2', e3', e4', l3, g3, l4, g4⟩ := at_T38 HX.out.1 (q : Int) hq0 hq2
          have e0 := pw_cell_below hJq.out.2.1 e0'
          have e1 := pw_cell_below hJq.out.2.1 e1'
          have e2 := pw_cell_below hJq.out.2.1 e2'
          have e3 := pw_cell_below hJq.out.2.1 e3'
          have e4 := pw_cell_below hJq.out.2.1 e4'
          clear e0' e1' e2' e3' e4'
          have hx : E[q]? = some (rd_T38 E q) := by
            unfold rd_T38
            rw [Int.toNat_natCast, List.getD_eq_getElem?_getD, List.getElem?_eq_getElem hq]
            rfl
          obtain ⟨hr3, hr4, hr5, hr6⟩ := HX.out.2.2.1 _ (List.mem_of_getElem? hx)
          have hstep : pr (E.take (q + 1)) = pr (E.take q) ++ [((rd_T38 E q).f3, (rd_T38 E q).f4)] := by rw [take_next hx]; simp [pr]
          have hleg : (∀ s ∈ (rd_T38 E q).f3, (after (pr (E.take q)) (zeros i)).getD (wx s) v0 = s.f1) ∧ legal (pr (E.drop (q + 1))) (putAll (after (pr (E.take q)) (zeros i)) (rd_T38 E q).f4) := by
            have h1 := hJq.out.2.2
            have h2 : E.drop q = rd_T38 E q :: E.drop (q + 1) := by
              rw [List.drop_eq_getElem_cons hq]
              rw [List.getElem?_eq_getElem hq] at hx
              rw [Option.some.inj hx]
            rw [h2] at h1
            exact h1
          have hqb : (q : Int) ≤ 1000 := by omega
          simp only [Int.toNat_natCast] at e0 e1 e2 e3 e4
          generalize hnow : after (pr (E.take q)) (zeros i) = now at *
          generalize rd_T38 E q = x at *
          obtain ⟨xi, xc, xo, xr, xw⟩ := x
          dsimp only at e0 e1 e2 e3 e4 l3 g3 l4 g4 hr3 hr4 hr5 hr6 hstep hleg
          obtain ⟨W5, hW5, K5, hB5⟩ : ∃ W5, wr.alloc (.cells #[.int .i64 xi, .bool xc, .bool xo, .slice A3 xr.length c3, .slice A4 xw.length c4] 38) = W5 ∧ W5.heap[wr.heap.size]? = some (.cells #[.int .i64 xi, .bool xc, .bool xo, .slice A3 xr.length c3, .slice A4 xw.length c4] 38 (0, 0)) ∧ Below wr.heap.size wr W5 := ⟨_, rfl, heap_alloc_new _ _, bOne _⟩
          have k3 := blk_cell K5 3
          have k4 := blk_cell K5 4
          have HQ := Lib.hid (And.intro (hJq.out.1.below hB5) (And.intro (hJq.out.2.1.trans (hB5.mono hJq.out.2.1.size)) (And.intro g3 (And.intro g4 (And.intro K5 (And.intro hr3 (And.intro hr4 (And.intro hstep (And.intro hleg hnow)))))))))
          have hr5i : (xr.length : Int) ≤ 1000 := by omega
          have hr6i : (xw.length : Int) ≤ 1000 := by omega
          clear hJq hB5 g3 g4 K5 hr3 hr4 hstep hleg hnow hx
          obtain ⟨wq, rfl⟩ : ∃ wq : World, wq = wr := ⟨_, rfl⟩
          obtain ⟨gkq, rfl⟩ : ∃ z : Nat, z = gk := ⟨_, rfl⟩
          go_wp2_with fail
          go_loopg [11, 36] xr.length (fun kq _ v36 W => ∃ y : Nat, v36 = .int .i64 y ∧ Hid (kq + y = xr.length) ∧ Hid (Below W5.heap.size W5 W))
          case atStart => exact ⟨0, rfl, by simp [Hid], Lib.hid (Below.refl _ _)⟩
          case round =>
            obtain ⟨y, rfl, hky, hJy⟩ := hrel
            by_cases hy : y < xr.length
            · have hy2 : (y : Int) < xr.length := by omega
              have hy0 : (0 : Int) ≤ y := by omega
              obtain ⟨ad3, rfl, s0, s1, s2, s3⟩ := at_T54 (Kd.C_below HQ.out.2.2.1 (HQ.out.2.1.trans (hJy.out.mono HQ.out.2.1.size))) (y : Int) hy0 hy2
              have hs : rd_T54 xr y ∈ xr := by
                unfold rd_T54
                rw [Int.toNat_natCast, List.getD_eq_getElem?_getD, List.getElem?_eq_getElem hy]
                exact List.getElem_mem hy
              have hin := HQ.out.2.2.2.2.2.1 _ hs
              have hval := HQ.out.2.2.2.2.2.2.2.2.1.1 _ hs
              have hyb : (y : Int) ≤ 1000 := by omega
              simp only [Int.toNat_natCast] at s0 s1 s2 s3
              generalize rd_T54 xr y = st at *
              obtain ⟨t0, ⟨t1, t2⟩, t3⟩ := st
              dsimp only at s0 s1 s2 s3
              obtain ⟨x, hx⟩ := Int.eq_ofNat_of_zero_le hin.1
              have hx1 : (x : Int) < i := by have := hin.2; dsimp only at this hx; omega
              dsimp only at hx
              subst hx
              have hx0 : (0 : Int) ≤ x := by omega
              have hnx : now[x]? = some ⟨t1, t2⟩ := by
                have h1 : x < now.length := by rw [HQ.out.1.1]; omega
                have h2 : now.getD x v0 = ⟨t1, t2⟩ := hval
                rw [List.getD_eq_getElem?_getD, List.getElem?_eq_getElem h1] at h2
                rw [List.getElem?_eq_getElem h1]
                exact congrArg some h2
              obtain ⟨W6, hW6, K6, hB6⟩ : ∃ W6, wr.alloc (.cells #[.int .i64 (x : Int), .int .i64 t1, .int .i64 t2, .bool t3] 54) = W6 ∧ W6.heap[wr.heap.size]? = some (.cells #[.int .i64 (x : Int), .int .i64 t1, .int .i64 t2, .bool t3] 54 (0, 0)) ∧ Below wr.heap.size wr W6 := ⟨_, rfl, heap_alloc_new _ _, bOne _⟩
              obtain ⟨⟨n0, -⟩, ⟨n1, -⟩⟩ := (HQ.out.1.below (bAfter hJy.out hB6)).at_ hnx
              dsimp only at n0 n1
              have d0 := blk_cell K6 0
              have d1 := blk_cell K6 1
              have d2 := blk_cell K6 2
              have H6 := Lib.hid (bAfter hJy.out hB6)
              clear hs hin hval hnx K6 hB6
              go_wp2_with fail
              go_quiet (fail)
              go_wp2_with fail
              obtain ⟨k1, rfl⟩ : ∃ z, gk = z + 1 := ⟨gk - 1, by have := hky.out; omega⟩
              go_roundg k1
              case measure => omega
              case rel => exact ⟨y + 1, by first | rfl | (congr 1), Lib.hid (by have := hky.out; omega), Lib.hid (pw_below_drewN H6.out nq)⟩
            · have hy2 : ¬ (y : Int) < xr.length := by omega
              have H7 : Hid (NR wr w.heap.size w.heap.size i i now ∧ Below w.heap.size w wr ∧ Below W5.heap.size W5 wr) := Lib.hid ⟨HQ.out.1.below hJy.out, HQ.out.2.1.trans (hJy.out.mono HQ.out.2.1.size), hJy.out⟩
              have k4' := pw_cell_below hJy.out k4
              clear hJy
              obtain ⟨wy, rfl⟩ : ∃ wy : World, wy = wr := ⟨_, rfl⟩
              obtain ⟨gky, rfl⟩ : ∃ z : Nat, z = gk := ⟨_, rfl⟩
              go_wp2_with fail
              go_loopg [13, 54] xw.length (fun kq _ v54 W => ∃ y : Nat, v54 = .int .i64 y ∧ Hid (kq + y = xw.length) ∧ Hid (NR W w.heap.size w.heap.size i i (putAll now (xw.take y)) ∧ Below w.heap.size w W))
              case atStart => exact ⟨0, rfl, by simp [Hid], Lib.hid ⟨H7.out.1, H7.out.2.1⟩⟩
              case round =>
                obtain ⟨y, rfl, hky, hJy⟩ := hrel
                by_cases hy : y < xw.length
                · have hy2 : (y : Int) < xw.length := by omega
                  have hy0 : (0 : Int) ≤ y := by omega
                  obtain ⟨ad4, rfl, s0, s1, s2, s3⟩ := at_T54 (Kd.C_below HQ.out.2.2.2.1 hJy.out.2) (y : Int) hy0 hy2
                  have hs : xw[y]? = some (rd_T54 xw y) := by
                    unfold rd_T54
                    rw [Int.toNat_natCast, List.getD_eq_getElem?_getD, List.getElem?_eq_getElem hy]
                    rfl
                  have hin := HQ.out.2.2.2.2.2.2.1 _ (List.mem_of_getElem? hs)
                  have hput : putAll now (xw.take (y + 1)) = (putAll now (xw.take y)).set (wx (rd_T54 xw y)) (rd_T54 xw y).f1 := by
                    rw [take_next hs]
                    unfold putAll
                    rw [List.foldl_append]
                    rfl
                  have hyb : (y : Int) ≤ 1000 := by omega
                  simp only [Int.toNat_natCast] at s0 s1 s2 s3
                  generalize rd_T54 xw y = st at *
                  obtain ⟨t0, ⟨t1, t2⟩, t3⟩ := st
                  dsimp only at s0 s1 s2 s3
                  obtain ⟨x, hx⟩ := Int.eq_ofNat_of_zero_le hin.1
                  have hx1n : x < i := by have := hin.2; dsimp only at this hx; omega
                  have hx1 : (x : Int) < i := by omega
                  dsimp only at hx
                  subst hx
                  have hx0 : (0 : Int) ≤ x := by omega
                  obtain ⟨W6, hW6, K6, hB6⟩ : ∃ W6, wr.alloc (.cells #[.int .i64 (x : Int), .int .i64 t1, .int .i64 t2, .bool t3] 54) = W6 ∧ W6.heap[wr.heap.size]? = some (.cells #[.int .i64 (x : Int), .int .i64 t1, .int .i64 t2, .bool t3] 54 (0, 0)) ∧ Below wr.heap.size wr W6 := ⟨_, rfl, heap_alloc_new _ _, bOne _⟩
                  have hN6 := hJy.out.1.below hB6
                  obtain ⟨o, ho⟩ : ∃ o, (putAll now (xw.take y))[x]? = some o := ⟨_, List.getElem?_eq_getElem (show x < (putAll now (xw.take y)).length by rw [hN6.1]; exact hx1n)⟩
                  obtain ⟨⟨n0, f0⟩, ⟨n1, f1⟩⟩ := hN6.at_ ho
                  have d0 := blk_cell K6 0
                  have d1 := blk_cell K6 1
                  have d2 := blk_cell K6 2
                  have HN : Hid (NR ((W6.setCell ⟨w.heap.size, x * 2, none⟩ (.int .i64 t1)).setCell ⟨w.heap.size, x * 2 + 1, none⟩ (.int .i64 t2)) w.heap.size w.heap.size i i (putAll now (xw.take (y + 1))) ∧ Below w.heap.size w ((W6.setCell ⟨w.heap.size, x * 2, none⟩ (.int .i64 t1)).setCell ⟨w.heap.size, x * 2 + 1, none⟩ (.int .i64 t2))) := Lib.hid ⟨by rw [hput]; exact hN6.put hx1n t1 t2, hN6.put_below (hJy.out.2.trans (hB6.mono hJy.out.2.size)) x t1 t2⟩
                  clear hs hin hput K6 hB6 hN6 hx1n ho
                  go_wp2_with fail
                  obtain ⟨k1, rfl⟩ : ∃ z, gk = z + 1 := ⟨gk - 1, by have := hky.out; omega⟩
                  go_roundg k1
                  case measure => omega
                  case rel => exact ⟨y + 1, by first | rfl | (congr 1), Lib.hid (by have := hky.out; omega), HN⟩
                · have hy2 : ¬ (y : Int) < xw.length := by omega
                  have hy3 : y = xw.length := by have := hky.out; omega
                  subst hy3
                  go_wp2_with fail
                  obtain ⟨k1, rfl⟩ : ∃ z, gkq = z + 1 := ⟨gkq - 1, by have := hkq.out; omega⟩
                  go_roundg k1
                  case measure => omega
                  case rel =>
                    have hfin : after (pr (E.take (q + 1))) (zeros i) = putAll now xw := by rw [HQ.out.2.2.2.2.2.2.2.1, after_snoc, HQ.out.2.2.2.2.2.2.2.2.2]
                    have h1 := hJy.out
                    rw [List.take_length] at h1
                    exact ⟨q + 1, by first | rfl | (congr 1), Lib.hid (by have := hkq.out; omega), Lib.hid ⟨by rw [hfin]; exact h1.1, h1.2, by rw [hfin]; exact HQ.out.2.2.2.2.2.2.2.2.1.2⟩⟩
        · have hq2 : ¬ (q : Int) < E.length := by omega
          have hq0 : q = E.length := by have := hkq.out; omega
          subst hq0
          go_wp2_with fail
          go_ret2
          have := hJq.out
          rw [List.take_length] at this
          exact ⟨_, _, rfl, this.1, this.2.1⟩
end Go.Proofs.Ytkecbdeekpbbjaa.Q
