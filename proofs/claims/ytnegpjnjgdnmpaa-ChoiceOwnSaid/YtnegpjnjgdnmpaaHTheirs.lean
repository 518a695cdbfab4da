/- Theirs and Ours, by hand: the same lot, in memory of the call's own. -/
import Derived.Test.YtnegpjnjgdnmpaaHAlive
namespace Go.Proofs.Ytnegpjnjgdnmpaa.Q
open Go.RowKit Go.Lib Go.Proofs.Ytnegpjnjgdnmpaa Go.Proofs.YtnegpjnjgdnmpaaW.PrintWords Go.Proofs.YtnegpjnjgdnmpaaW.PrintLast Go.Proofs.YtnegpjnjgdnmpaaW.PrintMore
set_option linter.unusedVariables false
set_option linter.unusedSimpArgs false

theorem flat37 {w w' : World} {x : S37} {cs : List Value} (h : k37.K w x cs) (base : Nat) (ok : Nat → Prop) : k37.M w' base ok x cs := by
  rw [k37_open h]
  exact k37_mkM w' base ok x
theorem flatK37 {w w' : World} {x : S37} {cs : List Value} (h : k37.K w x cs) : k37.K w' x cs := by
  rw [k37_open h]
  exact k37_mk w' x
theorem infoR : (Try.prog.info? 37).map (fun i => (i.zero, i.size, i.bytes)) = some (some (.agg #[(.int .i64 0), (.int .u64 0)]), 2, 16) := by kernel_rfl
def thS (s : S37) : S43 := ⟨s.f0, s.f1⟩
def ouS (s : S43) : S37 := ⟨s.f0, s.f1⟩

theorem results_c1 {P : Program} {fn : Func} {p : Tmp} {ty : TypeId} (h : fn.results = #[.cell p ty]) (tmps : Array Value) (w : World) (g : Nat) (t : TypeId) (cs : Array Value) (fr : Nat × Nat) (d : TypeDesc)
    (hp : tmps.getD p undef = .pointer (some ⟨g, 0, none⟩)) (hg : w.heap[g]? = some (.cells cs t fr))
    (hu : P.underlying ty = some d) (hd : (match d with | .struct _ | .array _ _ => true | _ => false) = true) (hi : (P.info? ty).map (·.size) = some cs.size) :
    (results fn tmps).run P w = .ok (.agg cs) w := by
  have hp' : tmps[p]?.getD undef = .pointer (some ⟨g, 0, none⟩) := by simpa using hp
  simp [results, h, hp', asAddr, run_loadVar_row w g t ty cs fr d hg hu hd hi]

/-- The same of the document's lot. -/
def LotR (W : World) (ok : Nat → Prop) (A : Option Addr) (c : Nat) (P : List S37) (B : Option Addr) (d : Nat) (Q : List Int) : Prop :=
  Kd.V k37 37 W W.heap.size (fun k => ok k) (.slice A P.length c) P ∧ Kd.V (Kd.int .i64) 3 W W.heap.size (fun k => ok k) (.slice B Q.length d) Q

/-- The state between two rounds. -/
structure Sttheirs (w : World) (lot : Array Value) (g : Nat) (out : List S43) (Q : List Int) (W : World) : Prop where
  k0 : W.heap[w.heap.size]? = some (.cells lot 46)
  k1 : W.heap[w.heap.size + 1]? = some (.cells #[.slice none 0 0, .slice none 0 0] 27)
  rows : ∃ A c B d, W.heap[g]? = some (.cells #[.slice A out.length c, .slice B Q.length d] 27) ∧ Kd.R k43 43 W (g + 1) (fun k => g < k) (.slice A out.length c) out ∧ Kd.V (Kd.int .i64) 3 W w.heap.size (fun k => w.heap.size + 2 ≤ k ∧ k < g) (.slice B Q.length d) Q
  below : Below w.heap.size w W
  big : w.heap.size + 2 ≤ g
  old : g < W.heap.size
theorem Sttheirs.after {w W W' : World} {lot : Array Value} {g : Nat} {out : List S43} {Q : List Int} (h : Sttheirs w lot g out Q W) (hb : Below W.heap.size W W') : Sttheirs w lot g out Q W' := by
  obtain ⟨A, c, B, d, k, hR, hV⟩ := h.rows
  exact ⟨blk_below h.k0 hb, blk_below h.k1 hb, ⟨A, c, B, d, blk_below k hb, Kd.R_below hR hb, Kd.V_below hV hb⟩, bAfter h.below hb, h.big, Nat.lt_of_lt_of_le h.old hb.size⟩

set_option maxHeartbeats 4000000 in
theorem theirs_lot (A0 : Option Addr) (c0 : Nat) (P : List S37) (B0 : Option Addr) (d0 : Nat) (Q : List Int) (w : World) (hP : Kd.C k37 w A0 P.length P) (hc : P.length ≤ c0) (hQ : Kd.C (Kd.int .i64) w B0 Q.length Q) (hd : Q.length ≤ d0) (hl : P.length ≤ 1000000) (hl2 : Q.length ≤ 1000000) :
    Calls Try.prog 14 #[.agg #[.slice A0 P.length c0, .slice B0 Q.length d0]] w fun e w' => ∃ A c B d, e = .returned (.agg #[.slice A P.length c, .slice B Q.length d]) ∧ Lot w' (fun k => w.heap.size ≤ k) A c (P.map thS) B d Q ∧ Below w.heap.size w w' := by
  have huI := Try.underlying46
  have huO := Try.underlying27
  have huS := Try.underlying37
  have huT := Try.underlying43
  obtain ⟨W0, hW0, K0, K1, HB0, hz⟩ := two_named w (.cells #[.slice A0 P.length c0, .slice B0 Q.length d0] 46) (.cells #[.slice none 0 0, .slice none 0 0] 27)
  have c00 : W0.cell? ⟨w.heap.size, 0, none⟩ = some (.slice A0 P.length c0) := blk_cell K0 0
  have c01 : W0.cell? ⟨w.heap.size, 1, none⟩ = some (.slice B0 Q.length d0) := blk_cell K0 1
  have HK := Lib.hid (And.intro K0 (And.intro K1 (And.intro HB0 (And.intro (Kd.C_below hQ HB0) hz))))
  have HP := Lib.hid (And.intro hP (And.intro hl hl2))
  clear K0 K1 HB0 hz hP hQ hc hd hl hl2
  go_enter Try.func14, Try.ntmps14
  go_wp2_with (at_builtin; refine Kd.R_append_rows (Kd.int .i64) (w0 := W0) (Rr := (Kd.int .i64).K W0) W0.heap.size rfl _ _ 25 3 _ _ rfl Try.underlying25 infoI rfl (by decide) (by decide) _ [] Q B0 Q.length d0 (fun _ => True) (fun _ => False) rfl rfl ?HO ?HR ?hKM (fun _ h => h.elim) (fun _ _ => trivial) (Below.refl _ _) (Nat.le_refl _) ?hl ?_)
  case HO => exact Kd.R_nil _ _ _ _ _
  case HR => exact HK.out.2.2.2.1
  case hKM => exact fun x cs h => flatI h _ _
  case hl => have := HP.out.2.2; simp; omega
  intro v1 w1 hR hB _ _

  obtain ⟨B1, d1, rfl⟩ := Kd.R_slice hR
  have hVq := Kd.V_bound (V_of_R (B := w.heap.size) hR)
  have K0 := blk_below HK.out.1 hB
  have K1 := blk_below HK.out.2.1 hB
  have hbw := bAfter HK.out.2.2.1 hB
  have hzz : w.heap.size + 2 ≤ w1.heap.size := by have := hB.size; have := HK.out.2.2.2.2; omega
  obtain ⟨W2, hW2, K2, hB2⟩ : ∃ W2, w1.alloc (.cells #[.slice none 0 0, .slice B1 Q.length d1] 27) = W2 ∧ W2.heap[w1.heap.size]? = some (.cells #[.slice none 0 0, .slice B1 Q.length d1] 27 (0, 0)) ∧ Below w1.heap.size w1 W2 := ⟨_, rfl, heap_alloc_new _ _, bOne _⟩
  have hS : Sttheirs w #[.slice A0 P.length c0, .slice B0 Q.length d0] w1.heap.size [] Q W2 := ⟨blk_below K0 hB2, blk_below K1 hB2, ⟨none, 0, B1, d1, K2, Kd.R_nil _ _ _ _ _, Kd.V_mono (Kd.V_below hVq hB2) (fun k hk => ⟨by have := HK.out.2.2.2.2; omega, hk.2⟩)⟩, bAfter hbw hB2, hzz, blk_lt K2⟩
  have HS := Lib.hid hS
  have d00 : W2.cell? ⟨w.heap.size, 0, none⟩ = some (.slice A0 P.length c0) := blk_cell hS.k0 0
  clear hVq K0 K1 K2 hB2 hbw hzz hR hB c00 c01 hS HK hW0
  go_wp2_with fail
  go_loopg [5, 13] P.length (fun kq _ v13 W => ∃ i : Nat, v13 = .int .i64 i ∧ Hid (kq + i = P.length) ∧ Hid (Sttheirs w #[.slice A0 P.length c0, .slice B0 Q.length d0] w1.heap.size ((P.take i).map thS) Q W))
  case atStart => exact ⟨0, rfl, by simp [Hid], HS⟩
  case round =>
    obtain ⟨i, rfl, hk, hJ⟩ := hrel
    clear HS d00
    have hS := hJ.out
    clear hJ
    obtain ⟨A, c, B, d, k2, hRr, hVr⟩ := hS.rows
    by_cases hi : i < P.length
    · have hi2 : (i : Int) < P.length := by omega
      have hi0 : (0 : Int) ≤ i := by omega
      obtain ⟨ad, rfl, a0, a1⟩ := at_T37 (Kd.C_below HP.out.1 hS.below) (i : Int) hi0 hi2
      have hx : P[i]? = some (rd_T37 P i) := by
        unfold rd_T37
        simp [List.getD_eq_getElem?_getD, hi]
      have HX := Lib.hid hx
      clear hx
      generalize rd_T37 P i = x at *
      simp only [Int.toNat_natCast] at a0 a1
      obtain ⟨W3, hW3, B3, hB3⟩ : ∃ W3, wr.alloc (.cells #[.int .i64 x.f0, .int .u64 x.f1] 37) = W3 ∧ W3.heap[wr.heap.size]? = some (.cells #[.int .i64 x.f0, .int .u64 x.f1] 37 (0, 0)) ∧ Below wr.heap.size wr W3 := ⟨_, rfl, heap_alloc_new _ _, bOne _⟩
      have b0 : W3.cell? ⟨wr.heap.size, 0, none⟩ = some (.int .i64 x.f0) := blk_cell B3 0
      have b1 : W3.cell? ⟨wr.heap.size, 1, none⟩ = some (.int .u64 x.f1) := blk_cell B3 1
      have hS3 := hS.after hB3
      have k23 := blk_below k2 hB3
      have e0 : W3.cell? ⟨w1.heap.size, 0, none⟩ = some (.slice A ((P.take i).map thS).length c) := blk_cell k23 0
      have HS3 := Lib.hid (And.intro hS3 (And.intro (Kd.R_below hRr hB3) (And.intro (Kd.V_below hVr hB3) k23)))
      generalize hout : (P.take i).map thS = out at *
      have HO := Lib.hid hout
      have hlo : out.length ≤ 1000000 := by have := HP.out.2.1; rw [← hout, List.length_map, List.length_take]; omega
      have HLO := Lib.hid hlo
      clear hS3 hRr hVr k23 k2 hS B3 hB3 hout hlo
      go_wp2_with (at_builtin; refine Kd.R_append_rows k43 (w0 := W3.alloc (.cells #[.int .i64 x.f0, .int .u64 x.f1] 43)) (Rr := k43.K W3) (w1.heap.size + 1) rfl _ _ 24 43 _ _ rfl Try.underlying24 info43 rfl (by decide) (by decide) _ out [thS x] (some ⟨W3.heap.size, 0, none⟩) 1 1 (fun k => w1.heap.size < k) (fun _ => False) rfl rfl ?HO ?HR ?hKM (fun _ h => h.elim) ?hfr (Below.refl _ _) ?hbase ?hl ?_)
      case HO => exact Kd.R_alloc HS3.out.2.1 _
      case HR => exact ⟨rfl, by decide, fun _ => ⟨_, rfl, fun j p hj => by
          rcases j with _ | j
          · have : thS x = p := by simpa using hj
            subst this
            exact ⟨[.int .i64 x.f0, .int .u64 x.f1], rfl, k43_mk _ (thS x), fun q u hu => by
              rw [Addr.add_lit]
              show (W3.alloc _).cell? ⟨W3.heap.size, 0 + (0 * 2 + q), none⟩ = _
              rw [Nat.zero_mul, Nat.zero_add, Nat.zero_add]
              exact (blk_cell (blk_new _ _) q).trans (by simpa using hu)⟩
          · simp at hj⟩⟩
      case hKM => exact fun x cs h => flat43 h _ _
      case hfr =>
        intro k hk
        have := HS3.out.1.old
        rw [World.size_alloc] at hk
        omega
      case hbase => have := HS3.out.1.old; simp; omega
      case hl => have := HLO.out; omega
      intro v2 w2 hR2 hB2 hg2 _
      generalize hl2 : out ++ [thS x] = l2 at hR2
      have HL2 := Lib.hid hl2
      clear hl2
      obtain ⟨A2, c2, rfl⟩ := Kd.R_slice hR2
      have hne : ∀ k, (Value.slice A out.length c).ownBlock = some k → w1.heap.size < k := fun k hk => Kd.R_base HS3.out.2.1 k hk
      have h4 := HS3.out.1.after (bOne (.cells #[.int .i64 x.f0, .int .u64 x.f1] 43))
      have hbig := h4.big
      have k24 := blk_grown (blk_alloc HS3.out.2.2.2 (.cells #[.int .i64 x.f0, .int .u64 x.f1] 43)) hg2 (by intro e; have := hne _ e.symm; omega)
      have k04 := blk_grown h4.k0 hg2 (by intro e; have := hne _ e.symm; omega)
      have k14 := blk_grown h4.k1 hg2 (by intro e; have := hne _ e.symm; omega)
      have hV4 := Kd.V_grown (Kd.V_alloc HS3.out.2.2.1 (.cells #[.int .i64 x.f0, .int .u64 x.f1] 43)) hg2 (fun k hk e => by have := hne _ e.symm; omega)
      have hB4 := h4.below.grown hg2 h4.below.size (fun k hk => by have := hne _ hk; omega)
      have hz4 := hg2.size
      have f0 : w2.cell? ⟨w1.heap.size, 0, none⟩ = some (.slice A out.length c) := blk_cell k24 0
      have g0 := blk_frozen k24 0
      have HZ := Lib.hid (And.intro hR2 (And.intro k24 (And.intro k04 (And.intro k14 (And.intro hV4 (And.intro hB4 (And.intro hbig (And.intro h4.old hz4))))))))
      clear hR2 hB2 hg2 hne h4 hbig k24 k04 k14 hV4 hB4 hz4 b0 b1 e0 a0 a1 hW3
      go_wp2_with fail
      obtain ⟨kk, rfl⟩ : ∃ m, gk = m + 1 := ⟨gk - 1, by have := hk.out; omega⟩
      go_roundg kk
      case measure => omega
      case rel =>
        refine ⟨i + 1, by first | rfl | rw [wrap_next (by have := HP.out.2.1; omega)], Lib.hid (by have := hk.out; omega), Lib.hid ?_⟩
        obtain ⟨hR2, k24, k04, k14, hV4, hB4, hbig, hold, hz4⟩ := HZ.out
        have hlen : (P.take (i + 1)).map thS = l2 := by rw [take_next HX.out, List.map_append, HO.out, ← HL2.out]; rfl
        rw [hlen]
        have far : ∀ k, k ≠ w1.heap.size → (w2.setCell ⟨w1.heap.size, 0, none⟩ (.slice A2 l2.length c2)).heap[k]? = w2.heap[k]? := fun k hk => Below.heap_setCell _ _ _ _ hk
        refine ⟨(far _ (by omega)).trans k04, (far _ (by omega)).trans k14, ⟨A2, c2, B, d, blk_put k24 0 _ rfl, Kd.R_far (p := ⟨w1.heap.size, 0, none⟩) hR2 (fun k hk => by show k ≠ w1.heap.size; omega) _, Kd.V_far (p := ⟨w1.heap.size, 0, none⟩) hV4 (fun k hk => by show k ≠ w1.heap.size; omega) _⟩, hB4.setCell (p := ⟨w1.heap.size, 0, none⟩) (by show _ ≤ w1.heap.size; omega) _, hbig, ?_⟩
        have hsz : (w2.setCell ⟨w1.heap.size, 0, none⟩ (.slice A2 l2.length c2)).heap.size = w2.heap.size := by simp [World.setCell]
        rw [hsz]
        exact Nat.lt_of_lt_of_le hold hz4
    · have hi2 : ¬ (i : Int) < P.length := by omega
      have hk0 : i = P.length := by have := hk.out; omega
      subst hk0
      rw [List.take_length] at k2 hRr
      have e0 : wr.cell? ⟨w1.heap.size, 0, none⟩ = some (.slice A (P.map thS).length c) := blk_cell k2 0
      have e1 : wr.cell? ⟨w1.heap.size, 1, none⟩ = some (.slice B Q.length d) := blk_cell k2 1
      have f0 : wr.cell? ⟨w.heap.size + 1, 0, none⟩ = some (.slice none 0 0) := blk_cell hS.k1 0
      have f1 : wr.cell? ⟨w.heap.size + 1, 1, none⟩ = some (.slice none 0 0) := blk_cell hS.k1 1
      have g0 := blk_frozen hS.k1 0
      have g1 := blk_frozen hS.k1 1
      have hlm : (P.map thS).length = P.length := List.length_map _
      rw [hlm] at e0
      have HS2 := Lib.hid (And.intro hS (And.intro hRr hVr))
      have HLM := Lib.hid hlm
      clear hS hRr hVr k2 hlm
      go_wp2_with fail
      refine bodyPost_ret (results_c1 rfl _ _ (w.heap.size + 1) 27 #[.slice A P.length c, .slice B Q.length d] (0, 0) _ rfl (by refine blk_put (cs := #[.slice A P.length c, .slice none 0 0]) ?_ 1 _ rfl; refine blk_put (cs := #[.slice none 0 0, .slice none 0 0]) ?_ 0 _ rfl; exact HS2.out.1.k1) huO rfl (by kernel_rfl)) rfl ?_
      have hbig := HS2.out.1.big
      refine ⟨A, c, B, d, rfl, ⟨?_, ?_⟩, (HS2.out.1.below.setCell (p := ⟨w.heap.size + 1, 0, none⟩) (by show _ ≤ w.heap.size + 1; omega) _).setCell (p := ⟨w.heap.size + 1, 1, none⟩) (by show _ ≤ w.heap.size + 1; omega) _⟩
      · exact Kd.V_mono (Kd.V_far (p := ⟨w.heap.size + 1, 1, none⟩) (Kd.V_far (p := ⟨w.heap.size + 1, 0, none⟩) (V_of_R HS2.out.2.1) (fun k hk => by show k ≠ w.heap.size + 1; omega) _) (fun k hk => by show k ≠ w.heap.size + 1; omega) _) (fun k hk => by omega)
      · exact Kd.V_mono (Kd.V_far (p := ⟨w.heap.size + 1, 1, none⟩) (Kd.V_far (p := ⟨w.heap.size + 1, 0, none⟩) HS2.out.2.2 (fun k hk => by show k ≠ w.heap.size + 1; omega) _) (fun k hk => by show k ≠ w.heap.size + 1; omega) _) (fun k hk => by omega)

/-- The state between two rounds. -/
structure Stours (w : World) (lot : Array Value) (g : Nat) (out : List S37) (Q : List Int) (W : World) : Prop where
  k0 : W.heap[w.heap.size]? = some (.cells lot 27)
  k1 : W.heap[w.heap.size + 1]? = some (.cells #[.slice none 0 0, .slice none 0 0] 46)
  rows : ∃ A c B d, W.heap[g]? = some (.cells #[.slice A out.length c, .slice B Q.length d] 46) ∧ Kd.R k37 37 W (g + 1) (fun k => g < k) (.slice A out.length c) out ∧ Kd.V (Kd.int .i64) 3 W w.heap.size (fun k => w.heap.size + 2 ≤ k ∧ k < g) (.slice B Q.length d) Q
  below : Below w.heap.size w W
  big : w.heap.size + 2 ≤ g
  old : g < W.heap.size
theorem Stours.after {w W W' : World} {lot : Array Value} {g : Nat} {out : List S37} {Q : List Int} (h : Stours w lot g out Q W) (hb : Below W.heap.size W W') : Stours w lot g out Q W' := by
  obtain ⟨A, c, B, d, k, hR, hV⟩ := h.rows
  exact ⟨blk_below h.k0 hb, blk_below h.k1 hb, ⟨A, c, B, d, blk_below k hb, Kd.R_below hR hb, Kd.V_below hV hb⟩, bAfter h.below hb, h.big, Nat.lt_of_lt_of_le h.old hb.size⟩

set_option maxHeartbeats 4000000 in
theorem ours_lot (A0 : Option Addr) (c0 : Nat) (P : List S43) (B0 : Option Addr) (d0 : Nat) (Q : List Int) (w : World) (hP : Kd.C k43 w A0 P.length P) (hc : P.length ≤ c0) (hQ : Kd.C (Kd.int .i64) w B0 Q.length Q) (hd : Q.length ≤ d0) (hl : P.length ≤ 1000000) (hl2 : Q.length ≤ 1000000) :
    Calls Try.prog 16 #[.agg #[.slice A0 P.length c0, .slice B0 Q.length d0]] w fun e w' => ∃ A c B d, e = .returned (.agg #[.slice A P.length c, .slice B Q.length d]) ∧ LotR w' (fun k => w.heap.size ≤ k) A c (P.map ouS) B d Q ∧ Below w.heap.size w w' := by
  have huI := Try.underlying27
  have huO := Try.underlying46
  have huS := Try.underlying43
  have huT := Try.underlying37
  obtain ⟨W0, hW0, K0, K1, HB0, hz⟩ := two_named w (.cells #[.slice A0 P.length c0, .slice B0 Q.length d0] 27) (.cells #[.slice none 0 0, .slice none 0 0] 46)
  have c00 : W0.cell? ⟨w.heap.size, 0, none⟩ = some (.slice A0 P.length c0) := blk_cell K0 0
  have c01 : W0.cell? ⟨w.heap.size, 1, none⟩ = some (.slice B0 Q.length d0) := blk_cell K0 1
  have HK := Lib.hid (And.intro K0 (And.intro K1 (And.intro HB0 (And.intro (Kd.C_below hQ HB0) hz))))
  have HP := Lib.hid (And.intro hP (And.intro hl hl2))
  clear K0 K1 HB0 hz hP hQ hc hd hl hl2
  go_enter Try.func16, Try.ntmps16
  go_wp2_with (at_builtin; refine Kd.R_append_rows (Kd.int .i64) (w0 := W0) (Rr := (Kd.int .i64).K W0) W0.heap.size rfl _ _ 25 3 _ _ rfl Try.underlying25 infoI rfl (by decide) (by decide) _ [] Q B0 Q.length d0 (fun _ => True) (fun _ => False) rfl rfl ?HO ?HR ?hKM (fun _ h => h.elim) (fun _ _ => trivial) (Below.refl _ _) (Nat.le_refl _) ?hl ?_)
  case HO => exact Kd.R_nil _ _ _ _ _
  case HR => exact HK.out.2.2.2.1
  case hKM => exact fun x cs h => flatI h _ _
  case hl => have := HP.out.2.2; simp; omega
  intro v1 w1 hR hB _ _

  obtain ⟨B1, d1, rfl⟩ := Kd.R_slice hR
  have hVq := Kd.V_bound (V_of_R (B := w.heap.size) hR)
  have K0 := blk_below HK.out.1 hB
  have K1 := blk_below HK.out.2.1 hB
  have hbw := bAfter HK.out.2.2.1 hB
  have hzz : w.heap.size + 2 ≤ w1.heap.size := by have := hB.size; have := HK.out.2.2.2.2; omega
  obtain ⟨W2, hW2, K2, hB2⟩ : ∃ W2, w1.alloc (.cells #[.slice none 0 0, .slice B1 Q.length d1] 46) = W2 ∧ W2.heap[w1.heap.size]? = some (.cells #[.slice none 0 0, .slice B1 Q.length d1] 46 (0, 0)) ∧ Below w1.heap.size w1 W2 := ⟨_, rfl, heap_alloc_new _ _, bOne _⟩
  have hS : Stours w #[.slice A0 P.length c0, .slice B0 Q.length d0] w1.heap.size [] Q W2 := ⟨blk_below K0 hB2, blk_below K1 hB2, ⟨none, 0, B1, d1, K2, Kd.R_nil _ _ _ _ _, Kd.V_mono (Kd.V_below hVq hB2) (fun k hk => ⟨by have := HK.out.2.2.2.2; omega, hk.2⟩)⟩, bAfter hbw hB2, hzz, blk_lt K2⟩
  have HS := Lib.hid hS
  have d00 : W2.cell? ⟨w.heap.size, 0, none⟩ = some (.slice A0 P.length c0) := blk_cell hS.k0 0
  clear hVq K0 K1 K2 hB2 hbw hzz hR hB c00 c01 hS HK hW0
  go_wp2_with fail
  go_loopg [5, 13] P.length (fun kq _ v13 W => ∃ i : Nat, v13 = .int .i64 i ∧ Hid (kq + i = P.length) ∧ Hid (Stours w #[.slice A0 P.length c0, .slice B0 Q.length d0] w1.heap.size ((P.take i).map ouS) Q W))
  case atStart => exact ⟨0, rfl, by simp [Hid], HS⟩
  case round =>
    obtain ⟨i, rfl, hk, hJ⟩ := hrel
    clear HS d00
    have hS := hJ.out
    clear hJ
    obtain ⟨A, c, B, d, k2, hRr, hVr⟩ := hS.rows
    by_cases hi : i < P.length
    · have hi2 : (i : Int) < P.length := by omega
      have hi0 : (0 : Int) ≤ i := by omega
      obtain ⟨ad, rfl, a0, a1⟩ := at_T43 (Kd.C_below HP.out.1 hS.below) (i : Int) hi0 hi2
      have hx : P[i]? = some (rd_T43 P i) := by
        unfold rd_T43
        simp [List.getD_eq_getElem?_getD, hi]
      have HX := Lib.hid hx
      clear hx
      generalize rd_T43 P i = x at *
      simp only [Int.toNat_natCast] at a0 a1
      obtain ⟨W3, hW3, B3, hB3⟩ : ∃ W3, wr.alloc (.cells #[.int .i64 x.f0, .int .u64 x.f1] 43) = W3 ∧ W3.heap[wr.heap.size]? = some (.cells #[.int .i64 x.f0, .int .u64 x.f1] 43 (0, 0)) ∧ Below wr.heap.size wr W3 := ⟨_, rfl, heap_alloc_new _ _, bOne _⟩
      have b0 : W3.cell? ⟨wr.heap.size, 0, none⟩ = some (.int .i64 x.f0) := blk_cell B3 0
      have b1 : W3.cell? ⟨wr.heap.size, 1, none⟩ = some (.int .u64 x.f1) := blk_cell B3 1
      have hS3 := hS.after hB3
      have k23 := blk_below k2 hB3
      have e0 : W3.cell? ⟨w1.heap.size, 0, none⟩ = some (.slice A ((P.take i).map ouS).length c) := blk_cell k23 0
      have HS3 := Lib.hid (And.intro hS3 (And.intro (Kd.R_below hRr hB3) (And.intro (Kd.V_below hVr hB3) k23)))
      generalize hout : (P.take i).map ouS = out at *
      have HO := Lib.hid hout
      have hlo : out.length ≤ 1000000 := by have := HP.out.2.1; rw [← hout, List.length_map, List.length_take]; omega
      have HLO := Lib.hid hlo
      clear hS3 hRr hVr k23 k2 hS B3 hB3 hout hlo
      go_wp2_with (at_builtin; refine Kd.R_append_rows k37 (w0 := W3.alloc (.cells #[.int .i64 x.f0, .int .u64 x.f1] 37)) (Rr := k37.K W3) (w1.heap.size + 1) rfl _ _ 34 37 _ _ rfl Try.underlying34 infoR rfl (by decide) (by decide) _ out [ouS x] (some ⟨W3.heap.size, 0, none⟩) 1 1 (fun k => w1.heap.size < k) (fun _ => False) rfl rfl ?HO ?HR ?hKM (fun _ h => h.elim) ?hfr (Below.refl _ _) ?hbase ?hl ?_)
      case HO => exact Kd.R_alloc HS3.out.2.1 _
      case HR => exact ⟨rfl, by decide, fun _ => ⟨_, rfl, fun j p hj => by
          rcases j with _ | j
          · have : ouS x = p := by simpa using hj
            subst this
            exact ⟨[.int .i64 x.f0, .int .u64 x.f1], rfl, k37_mk _ (ouS x), fun q u hu => by
              rw [Addr.add_lit]
              show (W3.alloc _).cell? ⟨W3.heap.size, 0 + (0 * 2 + q), none⟩ = _
              rw [Nat.zero_mul, Nat.zero_add, Nat.zero_add]
              exact (blk_cell (blk_new _ _) q).trans (by simpa using hu)⟩
          · simp at hj⟩⟩
      case hKM => exact fun x cs h => flat37 h _ _
      case hfr =>
        intro k hk
        have := HS3.out.1.old
        rw [World.size_alloc] at hk
        omega
      case hbase => have := HS3.out.1.old; simp; omega
      case hl => have := HLO.out; omega
      intro v2 w2 hR2 hB2 hg2 _
      generalize hl2 : out ++ [ouS x] = l2 at hR2
      have HL2 := Lib.hid hl2
      clear hl2
      obtain ⟨A2, c2, rfl⟩ := Kd.R_slice hR2
      have hne : ∀ k, (Value.slice A out.length c).ownBlock = some k → w1.heap.size < k := fun k hk => Kd.R_base HS3.out.2.1 k hk
      have h4 := HS3.out.1.after (bOne (.cells #[.int .i64 x.f0, .int .u64 x.f1] 37))
      have hbig := h4.big
      have k24 := blk_grown (blk_alloc HS3.out.2.2.2 (.cells #[.int .i64 x.f0, .int .u64 x.f1] 37)) hg2 (by intro e; have := hne _ e.symm; omega)
      have k04 := blk_grown h4.k0 hg2 (by intro e; have := hne _ e.symm; omega)
      have k14 := blk_grown h4.k1 hg2 (by intro e; have := hne _ e.symm; omega)
      have hV4 := Kd.V_grown (Kd.V_alloc HS3.out.2.2.1 (.cells #[.int .i64 x.f0, .int .u64 x.f1] 37)) hg2 (fun k hk e => by have := hne _ e.symm; omega)
      have hB4 := h4.below.grown hg2 h4.below.size (fun k hk => by have := hne _ hk; omega)
      have hz4 := hg2.size
      have f0 : w2.cell? ⟨w1.heap.size, 0, none⟩ = some (.slice A out.length c) := blk_cell k24 0
      have g0 := blk_frozen k24 0
      have HZ := Lib.hid (And.intro hR2 (And.intro k24 (And.intro k04 (And.intro k14 (And.intro hV4 (And.intro hB4 (And.intro hbig (And.intro h4.old hz4))))))))
      clear hR2 hB2 hg2 hne h4 hbig k24 k04 k14 hV4 hB4 hz4 b0 b1 e0 a0 a1 hW3
      go_wp2_with fail
      obtain ⟨kk, rfl⟩ : ∃ m, gk = m + 1 := ⟨gk - 1, by have := hk.out; omega⟩
      go_roundg kk
      case measure => omega
      case rel =>
        refine ⟨i + 1, by first | rfl | rw [wrap_next (by have := HP.out.2.1; omega)], Lib.hid (by have := hk.out; omega), Lib.hid ?_⟩
        obtain ⟨hR2, k24, k04, k14, hV4, hB4, hbig, hold, hz4⟩ := HZ.out
        have hlen : (P.take (i + 1)).map ouS = l2 := by rw [take_next HX.out, List.map_append, HO.out, ← HL2.out]; rfl
        rw [hlen]
        have far : ∀ k, k ≠ w1.heap.size → (w2.setCell ⟨w1.heap.size, 0, none⟩ (.slice A2 l2.length c2)).heap[k]? = w2.heap[k]? := fun k hk => Below.heap_setCell _ _ _ _ hk
        refine ⟨(far _ (by omega)).trans k04, (far _ (by omega)).trans k14, ⟨A2, c2, B, d, blk_put k24 0 _ rfl, Kd.R_far (p := ⟨w1.heap.size, 0, none⟩) hR2 (fun k hk => by show k ≠ w1.heap.size; omega) _, Kd.V_far (p := ⟨w1.heap.size, 0, none⟩) hV4 (fun k hk => by show k ≠ w1.heap.size; omega) _⟩, hB4.setCell (p := ⟨w1.heap.size, 0, none⟩) (by show _ ≤ w1.heap.size; omega) _, hbig, ?_⟩
        have hsz : (w2.setCell ⟨w1.heap.size, 0, none⟩ (.slice A2 l2.length c2)).heap.size = w2.heap.size := by simp [World.setCell]
        rw [hsz]
        exact Nat.lt_of_lt_of_le hold hz4
    · have hi2 : ¬ (i : Int) < P.length := by omega
      have hk0 : i = P.length := by have := hk.out; omega
      subst hk0
      rw [List.take_length] at k2 hRr
      have e0 : wr.cell? ⟨w1.heap.size, 0, none⟩ = some (.slice A (P.map ouS).length c) := blk_cell k2 0
      have e1 : wr.cell? ⟨w1.heap.size, 1, none⟩ = some (.slice B Q.length d) := blk_cell k2 1
      have f0 : wr.cell? ⟨w.heap.size + 1, 0, none⟩ = some (.slice none 0 0) := blk_cell hS.k1 0
      have f1 : wr.cell? ⟨w.heap.size + 1, 1, none⟩ = some (.slice none 0 0) := blk_cell hS.k1 1
      have g0 := blk_frozen hS.k1 0
      have g1 := blk_frozen hS.k1 1
      have hlm : (P.map ouS).length = P.length := List.length_map _
      rw [hlm] at e0
      have HS2 := Lib.hid (And.intro hS (And.intro hRr hVr))
      have HLM := Lib.hid hlm
      clear hS hRr hVr k2 hlm
      go_wp2_with fail
      refine bodyPost_ret (results_c1 rfl _ _ (w.heap.size + 1) 46 #[.slice A P.length c, .slice B Q.length d] (0, 0) _ rfl (by refine blk_put (cs := #[.slice A P.length c, .slice none 0 0]) ?_ 1 _ rfl; refine blk_put (cs := #[.slice none 0 0, .slice none 0 0]) ?_ 0 _ rfl; exact HS2.out.1.k1) huO rfl (by kernel_rfl)) rfl ?_
      have hbig := HS2.out.1.big
      refine ⟨A, c, B, d, rfl, ⟨?_, ?_⟩, (HS2.out.1.below.setCell (p := ⟨w.heap.size + 1, 0, none⟩) (by show _ ≤ w.heap.size + 1; omega) _).setCell (p := ⟨w.heap.size + 1, 1, none⟩) (by show _ ≤ w.heap.size + 1; omega) _⟩
      · exact Kd.V_mono (Kd.V_far (p := ⟨w.heap.size + 1, 1, none⟩) (Kd.V_far (p := ⟨w.heap.size + 1, 0, none⟩) (V_of_R HS2.out.2.1) (fun k hk => by show k ≠ w.heap.size + 1; omega) _) (fun k hk => by show k ≠ w.heap.size + 1; omega) _) (fun k hk => by omega)
      · exact Kd.V_mono (Kd.V_far (p := ⟨w.heap.size + 1, 1, none⟩) (Kd.V_far (p := ⟨w.heap.size + 1, 0, none⟩) HS2.out.2.2 (fun k hk => by show k ≠ w.heap.size + 1; omega) _) (fun k hk => by show k ≠ w.heap.size + 1; omega) _) (fun k hk => by omega)

end Go.Proofs.Ytnegpjnjgdnmpaa.Q
