/- What is done with the next variable of a commit, by hand. -/
import Derived.Test.YtkecbdeekpbbjaaHMach
import Derived.Test.YtkecbdeekpbbjaaGrow
import Derived.BigQuiet
import Derived.RegionTactic
import Derived.Test.YtkecbdeekpbbjaaQ1
/-! What is done with the next variable of a commit, by hand. -/
namespace Go.Proofs.Ytkecbdeekpbbjaa.Q
open Go.RowKit Go.Lib Go.Proofs.Ytkecbdeekpbbjaa Go.Proofs.YtkecbdeekpbbjaaW.PrintWords Go.Proofs.YtkecbdeekpbbjaaW.PrintLast Go.Proofs.YtkecbdeekpbbjaaW.PrintMore
set_option linter.unusedVariables false
set_option linter.unusedSimpArgs false

abbrev stV (x : S54) : Array Value := #[.int .i64 x.f0, .int .i64 x.f1.f0, .int .i64 x.f1.f1, .bool x.f2]
abbrev vrow (g n c : Nat) : Value := .slice (some ⟨g, 0, none⟩) n c
/-- The row of variables in a block is written, and nothing else. -/
structure Put (g : Nat) (F : List Value → List Value) (W W' : World) : Prop where
  grown : W.grownBy W' (some g)
  own : ∀ base n c xs, W.ownsRow base 76 3 (vrow g n c) n xs → W'.ownsRow base 76 3 (vrow g n c) n (F xs)
theorem own_below {W W' : World} (hb : Below W.heap.size W W') {base e size n : Nat} {v : Value} {xs : List Value} (ho : W.ownsRow base e size v n xs) : W'.ownsRow base e size v n xs := by
  refine ⟨ho.1, ?_⟩
  rcases ho.2 with h1 | ⟨g, cap, cur, h1, h2, h3, h4⟩
  · exact .inl h1
  · exact .inr ⟨g, cap, cur, h1, h2, blk_below h3 hb, h4⟩
theorem Put.set {W W1 : World} (hB : Below W.heap.size W W1) (g i : Nat) (u : Value) : Put g (fun xs => xs.set i u) W (W1.setCell ⟨g, i, none⟩ u) := by
  refine ⟨(grown_of_below hB _).trans ?_, fun base n c xs h => ((own_below hB h).stored i u).1⟩
  exact ⟨rfl, rfl, rfl, by simp [World.setCell], fun k hk hne => Below.heap_setCell _ _ _ _ (fun e => hne (by rw [e]))⟩

set_option maxRecDepth 100000 in
theorem do_lock (W : World) (g q bx : Nat) (id l0 : Int) (x : S54) (h0 : W.cell? ⟨g, q + 2, none⟩ = some (.int .i64 l0)) (hf : W.frozen? ⟨g, q + 2, none⟩ = false) (hb : W.cell? ⟨bx, 0, none⟩ = some (.int .i64 id)) :
    Calls Try.prog 34 (#[.pointer (some ⟨g, q, none⟩), .agg (stV x)] ++ #[ptr bx]) W fun e w' => e = .returned (.tuple #[]) ∧ Put g (fun xs => xs.set (q + 2) (.int .i64 id)) W w' := by
  have hu := Try.underlying76
  have hu44 := Try.underlying44
  obtain ⟨x0, ⟨x1, x2⟩, x3⟩ := x
  try dsimp only
  obtain ⟨W1, hW1, hB1⟩ : ∃ W1, W.alloc (.cells #[.int .i64 x0, .int .i64 x1, .int .i64 x2, .bool x3] 54) = W1 ∧ Below W.heap.size W W1 := ⟨_, rfl, bOne _⟩
  have a0 := (hB1.cell (p := ⟨g, q + 2, none⟩) (World.block_lt_of_cell? _ _ h0)).trans h0
  have f0 := (hB1.frozen (p := ⟨g, q + 2, none⟩) (World.block_lt_of_cell? _ _ h0)).trans hf
  have b0 := (hB1.cell (p := ⟨bx, 0, none⟩) (World.block_lt_of_cell? _ _ hb)).trans hb
  have HP := Lib.hid (Put.set hB1 g (q + 2) (.int .i64 id))
  clear hB1 h0 hf hb
  go_enter Try.func34, Try.ntmps34
  go_wp2_with fail
  go_end0
  exact ⟨rfl, HP.out⟩
set_option maxRecDepth 100000 in
theorem do_free (W : World) (g q : Nat) (l0 : Int) (x : S54) (h0 : W.cell? ⟨g, q + 2, none⟩ = some (.int .i64 l0)) (hf : W.frozen? ⟨g, q + 2, none⟩ = false) :
    Calls Try.prog 38 (#[.pointer (some ⟨g, q, none⟩), .agg (stV x)] ++ #[]) W fun e w' => e = .returned (.tuple #[]) ∧ Put g (fun xs => xs.set (q + 2) (.int .i64 0)) W w' := by
  have hu := Try.underlying76
  have hu44 := Try.underlying44
  obtain ⟨x0, ⟨x1, x2⟩, x3⟩ := x
  try dsimp only
  obtain ⟨W1, hW1, hB1⟩ : ∃ W1, W.alloc (.cells #[.int .i64 x0, .int .i64 x1, .int .i64 x2, .bool x3] 54) = W1 ∧ Below W.heap.size W W1 := ⟨_, rfl, bOne _⟩
  have a0 := (hB1.cell (p := ⟨g, q + 2, none⟩) (World.block_lt_of_cell? _ _ h0)).trans h0
  have f0 := (hB1.frozen (p := ⟨g, q + 2, none⟩) (World.block_lt_of_cell? _ _ h0)).trans hf
  have HP := Lib.hid (Put.set hB1 g (q + 2) (.int .i64 0))
  clear hB1 h0 hf
  go_enter Try.func38, Try.ntmps38
  go_wp2_with fail
  go_end0
  exact ⟨rfl, HP.out⟩
set_option maxRecDepth 100000 in
theorem do_put (W : World) (g q : Nat) (l0 l1 : Int) (x : S54) (h0 : W.cell? ⟨g, q, none⟩ = some (.int .i64 l0)) (hf : W.frozen? ⟨g, q, none⟩ = false) (h1 : W.cell? ⟨g, q + 1, none⟩ = some (.int .i64 l1)) (hf1 : W.frozen? ⟨g, q + 1, none⟩ = false) :
    Calls Try.prog 36 (#[.pointer (some ⟨g, q, none⟩), .agg (stV x)] ++ #[]) W fun e w' => e = .returned (.tuple #[]) ∧ Put g (fun xs => (xs.set q (.int .i64 x.f1.f0)).set (q + 1) (.int .i64 x.f1.f1)) W w' := by
  have hu := Try.underlying76
  have hu44 := Try.underlying44
  have hu54 := Try.underlying54
  obtain ⟨x0, ⟨x1, x2⟩, x3⟩ := x
  try dsimp only
  obtain ⟨W1, hW1, K1, hB1⟩ : ∃ W1, W.alloc (.cells #[.int .i64 x0, .int .i64 x1, .int .i64 x2, .bool x3] 54) = W1 ∧ W1.heap[W.heap.size]? = some (.cells #[.int .i64 x0, .int .i64 x1, .int .i64 x2, .bool x3] 54 (0, 0)) ∧ Below W.heap.size W W1 := ⟨_, rfl, heap_alloc_new _ _, bOne _⟩
  have a0 := (hB1.cell (p := ⟨g, q, none⟩) (World.block_lt_of_cell? _ _ h0)).trans h0
  have f0 := (hB1.frozen (p := ⟨g, q, none⟩) (World.block_lt_of_cell? _ _ h0)).trans hf
  have a1 := (hB1.cell (p := ⟨g, q + 1, none⟩) (World.block_lt_of_cell? _ _ h1)).trans h1
  have f1 := (hB1.frozen (p := ⟨g, q + 1, none⟩) (World.block_lt_of_cell? _ _ h1)).trans hf1
  have d1 := blk_cell K1 1
  have d2 := blk_cell K1 2
  have HP : Hid (Put g (fun xs => (xs.set q (.int .i64 x1)).set (q + 1) (.int .i64 x2)) W ((W1.setCell ⟨g, q, none⟩ (.int .i64 x1)).setCell ⟨g, q + 1, none⟩ (.int .i64 x2))) := Lib.hid (by
    have p1 := Put.set hB1 g q (.int .i64 x1)
    have p2 := Put.set (Below.refl (W1.setCell ⟨g, q, none⟩ (.int .i64 x1)).heap.size (W1.setCell ⟨g, q, none⟩ (.int .i64 x1))) g (q + 1) (.int .i64 x2)
    exact ⟨p1.grown.trans p2.grown, fun base n c xs h => p2.own base n c _ (p1.own base n c xs h)⟩)
  clear hB1 h0 hf h1 hf1 K1
  go_enter Try.func36, Try.ntmps36
  go_wp2_with fail
  go_end0
  exact ⟨rfl, HP.out⟩

end Go.Proofs.Ytkecbdeekpbbjaa.Q

/-! The next variable of a commit, by hand. -/
namespace Go.Proofs.Ytkecbdeekpbbjaa.Q
open Go.RowKit Go.Lib Go.Proofs.Ytkecbdeekpbbjaa Go.Proofs.YtkecbdeekpbbjaaW.PrintWords Go.Proofs.YtkecbdeekpbbjaaW.PrintLast Go.Proofs.YtkecbdeekpbbjaaW.PrintMore
set_option linter.unusedVariables false
set_option linter.unusedSimpArgs false

theorem staysA {w : World} {p : Addr} {v : Value} (h : w.cell? p = some v) : ∀ W, Below w.heap.size w W → W.cell? p = some v := fun W hB => (hB.cell (World.block_lt_of_cell? w _ h)).trans h
/-- Four cells, put. -/
theorem put4 {W W' : World} {B g : Nat} {t : TypeId} {a b c d : Value} (a' b' c' d' : Value) (h : W.heap[g]? = some (.cells #[a, b, c, d] t (0, 0))) (hb : B ≤ g)
    (e : (((W.setCell ⟨g, 0, none⟩ a').setCell ⟨g, 1, none⟩ b').setCell ⟨g, 2, none⟩ c').setCell ⟨g, 3, none⟩ d' = W') : W'.heap[g]? = some (.cells #[a', b', c', d'] t (0, 0)) ∧ Below B W W' := by
  subst e
  exact ⟨blk_put (blk_put (blk_put (blk_put h 0 _ rfl) 1 _ rfl) 2 _ rfl) 3 _ rfl, ((((Below.refl B W).setCell (p := ⟨g, 0, none⟩) hb _).setCell (p := ⟨g, 1, none⟩) hb _).setCell (p := ⟨g, 2, none⟩) hb _).setCell (p := ⟨g, 3, none⟩) hb _⟩

theorem grown_set (W : World) (b i : Nat) (u : Value) : W.grownBy (W.setCell ⟨b, i, none⟩ u) (some b) := ⟨rfl, rfl, rfl, by simp [World.setCell], fun k hk hne => Below.heap_setCell _ _ _ _ (fun e => hne (by rw [e]))⟩
theorem grown_drewN (W : World) (n : Nat) (row : Option Nat) : W.grownBy (W.drewN n) row := ⟨rfl, rfl, rfl, Nat.le_refl _, fun k hk hne => rfl⟩
theorem blk_drewN {W : World} {b : Nat} {o : Obj} (h : W.heap[b]? = some o) (n : Nat) : (W.drewN n).heap[b]? = some o := h
/-- What 'each' leaves. -/
def EachDone (W : World) (b g n cap : Nat) (F : List Value → List Value) (cs : Array Value) (w' : World) : Prop :=
  w'.heap[b]? = some (.cells cs 83 (0, 0)) ∧ (∀ base xs, W.ownsRow base 76 3 (vrow g n cap) n xs → w'.ownsRow base 76 3 (vrow g n cap) n (F xs)) ∧ Turned (fun k => k = g ∨ k = b) W w'

theorem each_end {W W3 w4 w5 : World} {b g n cap : Nat} {F : List Value → List Value} {cs cs' cur : Array Value} (hg : W.heap[g]? = some (.cells cur 76 (0, 0))) (hb : W.heap[b]? = some (.cells cs 83 (0, 0)))
    (hB : Below W.heap.size W W3) (hP : Put g F W3 w4) (h5 : w5.heap[b]? = some (.cells cs' 83 (0, 0))) (hG : w4.grownBy w5 (some b)) : EachDone W b g n cap F cs' w5 := by
  have hne : g ≠ b := by
    rintro rfl
    rw [hg] at hb
    injection hb with hb
    injection hb with _ hb
    cases hb
  refine ⟨h5, fun base xs h => ?_, ?_⟩
  · exact (hP.own base n cap xs (own_below hB h)).kept hG (.inr (by show some g ≠ some b; intro e; injection e with e; exact hne e))
  · exact ((Turned.below hB).trans (Turned.grown hP.grown fun p e => by injection e with e; exact .inl e.symm)).trans (Turned.grown hG fun p e => by injection e with e; exact .inr e.symm)

set_option maxHeartbeats 4000000 in
set_option maxRecDepth 100000 in
theorem each_core (W : World) (mb b g n cap : Nat) (js ds rv : Value) (A : Option Addr) (wc nx : Nat) (ws : List S54) (st : Int) (fl : Bool) (tt : Int) (x : Nat) (s : S54) (pf : Nat) (lb : Array Value) (F : List Value → List Value) (cur : Array Value) (st' nx' : Int)
    (hd : (nx + 1 = ws.length ∧ st' = tt ∧ nx' = 0) ∨ (nx + 1 ≠ ws.length ∧ st' = st ∧ nx' = (nx : Int) + 1))
    (hm : W.heap[mb]? = some (.cells #[.bool true, vrow g n cap, js, ds] 60 (0, 0)))
    (hj : W.heap[b]? = some (.cells #[rv, .slice A ws.length wc, .int .i64 st, .int .i64 (nx : Int), .bool fl] 83 (0, 0)))
    (hg : W.heap[g]? = some (.cells cur 76 (0, 0)))
    (hC : Kd.C k54 W A ws.length ws) (hs : ws[nx]? = some s) (hx : s.f0 = (x : Int)) (hxn : x < n) (hl : ws.length ≤ 1000000) (hn : n ≤ 1000000)
    (eg : ∀ args W, (callFunc pf args).run Try.prog W = .ok (.enter pf args) W)
    (hdo : ∀ W', Below W.heap.size W W' → Calls Try.prog pf (#[.pointer (some ⟨g, x * 3, none⟩), .agg (stV s)] ++ lb) W' fun e w' => e = .returned (.tuple #[]) ∧ Put g F W' w') :
    Calls Try.prog 33 #[ptr mb, ptr b, .int .i64 tt, .func (.func pf) #[] lb] W fun e w' => e = .returned (.tuple #[]) ∧
      EachDone W b g n cap F #[rv, .slice A ws.length wc, .int .i64 st', .int .i64 nx', .bool fl] w' := by
  have hu60 := Try.underlying60
  have hu76 := Try.underlying76
  have hu54 := Try.underlying54
  have hu83 := Try.underlying83
  have hu44 := Try.underlying44
  have hu57 := Try.underlying57
  have hk : nx < ws.length := (List.getElem?_eq_some_iff.1 hs).1
  have hi0 : (0 : Int) ≤ nx := by omega
  have hi1 : (nx : Int) < ws.length := by omega
  have hx0 : (0 : Int) ≤ x := by omega
  have hx1 : (x : Int) < n := by omega
  obtain ⟨ad, rfl, a0, a1, a2, a3⟩ := at_T54 hC (nx : Int) hi0 hi1
  have hsr : rd_T54 ws nx = s := by
    unfold rd_T54
    simp [List.getD_eq_getElem?_getD, hs]
  rw [hsr] at a0 a1 a2 a3
  simp only [Int.toNat_natCast] at a0 a1 a2 a3
  obtain ⟨x0, ⟨x1, x2⟩, x3⟩ := s
  dsimp only at hx a0 a1 a2 a3
  subst hx
  have F0 := staysA a0
  have F1 := staysA a1
  have F2 := staysA a2
  have F3 := staysA a3
  have G1 := staysA (blk_cell hj 1)
  have G3 := staysA (blk_cell hj 3)
  have HX := Lib.hid (And.intro hm (And.intro hj (And.intro hg hdo)))
  have HS := Lib.hid hs
  have HD := Lib.hid hd
  clear hd
  clear a0 a1 a2 a3 hsr hm hj hg hdo hs hC
  go_enter Try.func33, Try.ntmps33
  go_wp2_with fail
  apply wp_region_grow 11 (by kernel_rfl) (by kernel_rfl) (by kernel_rfl)
  simp only [List.take_succ_cons, List.take_zero, List.drop_succ_cons, List.drop_zero]
  repeat
    apply gw_val (by rfl)
    · (intro W hB hD; go_simp; try rfl)
    simp only [Act.put, List.setIfInBounds_toArray, List.set_cons_zero, List.set_cons_succ]
  apply gw_alloc (by rfl)
  · intro W hB hD
    go_simp
    rfl
  intro p1 hp1
  simp only [Act.put, List.setIfInBounds_toArray, List.set_cons_zero, List.set_cons_succ]
  apply gw_nil
  intro Wa hW hF hP
  simp [List.forall_mem_append, blockOf] at hF hP
  obtain ⟨W3, hW3, K3, hB3⟩ : ∃ W3, ((((Wa.setCell ⟨p1, 0, none⟩ (.int .i64 x)).setCell ⟨p1, 1, none⟩ (.int .i64 x1)).setCell ⟨p1, 2, none⟩ (.int .i64 x2)).setCell ⟨p1, 3, none⟩ (.bool x3)) = W3 ∧ W3.heap[p1]? = some (.cells (stV ⟨x, ⟨x1, x2⟩, x3⟩) 54 (0, 0)) ∧ Below W.heap.size W W3 := by
    have := put4 (.int .i64 x) (.int .i64 x1) (.int .i64 x2) (.bool x3) hF hp1 rfl
    exact ⟨_, rfl, this.1, hW.trans this.2⟩
  have d0 := blk_cell hF 0
  have d1 := blk_cell hF 1
  have d2 := blk_cell hF 2
  have d3 := blk_cell hF 3
  have f0 := blk_frozen hF 0
  have f1 := blk_frozen hF 1
  have f2 := blk_frozen hF 2
  have f3 := blk_frozen hF 3
  have e1 := blk_cell (blk_below HX.out.1 hB3) 1
  have H3 := Lib.hid (And.intro K3 hB3)
  have E0 := staysA (blk_cell K3 0)
  have E1 := staysA (blk_cell K3 1)
  have E2 := staysA (blk_cell K3 2)
  have E3 := staysA (blk_cell K3 3)
  have E4 := staysA e1
  clear hF hP hp1 hB3 K3 e1 F0 F1 F2 F3 G1 G3 hW
  go_wp2_with fail
  apply wp_region_grow 9 (by kernel_rfl) (by kernel_rfl) (by kernel_rfl)
  simp only [List.take_succ_cons, List.take_zero, List.drop_succ_cons, List.drop_zero]
  repeat
    apply gw_val (by rfl)
    · (intro W hB hD; go_simp; try rfl)
    simp only [Act.put, List.setIfInBounds_toArray, List.set_cons_zero, List.set_cons_succ]
  apply gw_nil
  intro Wb hB hF hP
  have HB := Lib.hid (H3.out.2.trans (hB.mono H3.out.2.size))
  clear hF hP hB E0 E1 E2 E3 E4 hW3
  go_wp2_with fail
  refine (HX.out.2.2.2 Wb HB.out).mono ?_
  rintro e w4 ⟨rfl, hP⟩
  have hgb : (some b : Option Nat) ≠ some g := by
    intro e
    injection e with e
    subst e
    have h1 := HX.out.2.1
    rw [HX.out.2.2.1] at h1
    injection h1 with h1
    injection h1 with _ h1
    cases h1
  have hJ := (hP.grown.block b (blk_lt (blk_below HX.out.2.1 HB.out)) hgb).trans (blk_below HX.out.2.1 HB.out)
  have HP := Lib.hid hP
  obtain ⟨W5, hW5, K5, hG5⟩ : ∃ W5, w4.setCell ⟨b, 3, none⟩ (.int .i64 ((nx : Int) + 1)) = W5 ∧ W5.heap[b]? = some (.cells #[rv, .slice (some ad) ws.length wc, .int .i64 st, .int .i64 ((nx : Int) + 1), .bool fl] 83 (0, 0)) ∧ w4.grownBy W5 (some b) :=
    ⟨_, rfl, blk_put hJ 3 _ rfl, ⟨rfl, rfl, rfl, by simp [World.setCell], fun k hk hne => Below.heap_setCell _ _ _ _ (fun e => hne (by rw [e]))⟩⟩
  have j1 := blk_cell hJ 1
  have j3 := blk_cell hJ 3
  have g3 := blk_frozen hJ 3
  have k1 := blk_cell K5 1
  have k2 := blk_cell K5 2
  have k3 := blk_cell K5 3
  have l2 := blk_frozen K5 2
  have l3 := blk_frozen K5 3
  have HJ := Lib.hid (And.intro K5 hG5)
  have hgb' := Lib.hid hgb
  clear hP hJ hgb K5 hG5
  by_cases hq : nx + 1 = ws.length
  · have hb : ((nx : Int) + 1 == (ws.length : Int)) = true := by rw [beq_iff_eq]; omega
    have HE : Hid (st' = tt ∧ nx' = 0) := Lib.hid (HD.out.elim (fun h => h.2) (fun h => absurd hq h.1))
    clear hq HD
    go_wp2_with fail
    go_quiet (fail)
    go_wp2_with fail
    obtain ⟨rfl, rfl⟩ := HE.out
    go_end0
    refine ⟨rfl, each_end HX.out.2.2.1 HX.out.2.1 HB.out HP.out (blk_put (blk_put (blk_drewN HJ.out.1 nq) 3 _ rfl) 2 _ rfl) ?_⟩
    exact ((HJ.out.2.trans (grown_drewN W5 nq _)).trans (grown_set _ b 3 _)).trans (grown_set _ b 2 _)
  · have hb : ((nx : Int) + 1 == (ws.length : Int)) = false := by rw [beq_eq_false_iff_ne]; omega
    have HE : Hid (st' = st ∧ nx' = (nx : Int) + 1) := Lib.hid (HD.out.elim (fun h => absurd h.1 hq) (fun h => h.2))
    clear hq HD
    go_wp2_with fail
    go_quiet (fail)
    go_wp2_with fail
    obtain ⟨rfl, rfl⟩ := HE.out
    go_end0
    exact ⟨rfl, each_end HX.out.2.2.1 HX.out.2.1 HB.out HP.out (blk_drewN HJ.out.1 nq) (HJ.out.2.trans (grown_drewN W5 nq _))⟩

/-- A commit behind one more of its writes. -/
def onward (j : Job) (tt : Int) : Job := if j.next + 1 = j.writes.length then { j with next := 0, state := tt } else { j with next := j.next + 1 }
theorem each_calls (W : World) (mb b g n cap : Nat) (js ds rv : Value) (A : Option Addr) (wc : Nat) (j : Job) (tt : Int) (x : Nat) (s : S54) (pf : Nat) (lb : Array Value) (F : List Value → List Value) (cur : Array Value)
    (hm : W.heap[mb]? = some (.cells #[.bool true, vrow g n cap, js, ds] 60 (0, 0)))
    (hj : W.heap[b]? = some (.cells #[rv, .slice A j.writes.length wc, .int .i64 j.state, .int .i64 (j.next : Int), .bool j.failed] 83 (0, 0)))
    (hg : W.heap[g]? = some (.cells cur 76 (0, 0)))
    (hC : Kd.C k54 W A j.writes.length j.writes) (hs : j.writes[j.next]? = some s) (hx : s.f0 = (x : Int)) (hxn : x < n) (hl : j.writes.length ≤ 1000000) (hn : n ≤ 1000000)
    (eg : ∀ args W, (callFunc pf args).run Try.prog W = .ok (.enter pf args) W)
    (hdo : ∀ W', Below W.heap.size W W' → Calls Try.prog pf (#[.pointer (some ⟨g, x * 3, none⟩), .agg (stV s)] ++ lb) W' fun e w' => e = .returned (.tuple #[]) ∧ Put g F W' w') :
    Calls Try.prog 33 #[ptr mb, ptr b, .int .i64 tt, .func (.func pf) #[] lb] W fun e w' => e = .returned (.tuple #[]) ∧
      EachDone W b g n cap F #[rv, .slice A (onward j tt).writes.length wc, .int .i64 (onward j tt).state, .int .i64 ((onward j tt).next : Int), .bool (onward j tt).failed] w' := by
  unfold onward
  split
  · exact each_core W mb b g n cap js ds rv A wc j.next j.writes j.state j.failed tt x s pf lb F cur tt 0 (.inl ⟨‹_›, rfl, rfl⟩) hm hj hg hC hs hx hxn hl hn eg hdo
  · exact each_core W mb b g n cap js ds rv A wc j.next j.writes j.state j.failed tt x s pf lb F cur j.state ((j.next + 1 : Nat) : Int) (.inr ⟨‹_›, rfl, by omega⟩) hm hj hg hC hs hx hxn hl hn eg hdo
end Go.Proofs.Ytkecbdeekpbbjaa.Q

/-! A machine's blocks, some of which are turned: what stays. No walk. -/
namespace Go.Proofs.Ytkecbdeekpbbjaa.Q
open Go.RowKit Go.Lib Go.Proofs.Ytkecbdeekpbbjaa Go.Proofs.YtkecbdeekpbbjaaW.PrintWords Go.Proofs.YtkecbdeekpbbjaaW.PrintLast Go.Proofs.YtkecbdeekpbbjaaW.PrintMore
set_option linter.unusedVariables false
set_option linter.unusedSimpArgs false

/-- None of the turned blocks is a row of such elements. -/
def SpT (W : World) (T : Nat → Prop) (e : Nat) : Prop := ∀ k, T k → ∀ cs, W.heap[k]? ≠ some (.cells cs e (0, 0))
theorem SpT.of {W : World} {p t e : Nat} {cs : Array Value} (h : W.heap[p]? = some (.cells cs t (0, 0))) (hne : t ≠ e) : SpT W (fun k => k = p) e := fun k hk cs' h' => by
  subst hk
  rw [h] at h'
  injection h' with h'
  injection h' with _ h'
  exact hne h'
theorem SpT.or {W : World} {S T : Nat → Prop} {e : Nat} (h : SpT W S e) (k : SpT W T e) : SpT W (fun k => S k ∨ T k) e := fun i hi => hi.elim (h i) (k i)
theorem SpT.row {W : World} {base size n t e : Nat} {v : Value} {xs : List Value} (h : W.ownsRow base t size v n xs) (hne : t ≠ e) : SpT W (fun k => v.ownBlock = some k) e := fun k hk cs' h' => by
  obtain ⟨cells, hc⟩ := own_typed h k hk
  rw [hc] at h'
  injection h' with h'
  injection h' with _ h'
  exact hne h'
theorem SpT.not {W : World} {T : Nat → Prop} {e k : Nat} {cs : Array Value} (h : SpT W T e) (hk : W.heap[k]? = some (.cells cs e (0, 0))) : ¬ T k := fun ht => h k ht cs hk
theorem own_T {W W' : World} {T : Nat → Prop} {base e size n : Nat} {v : Value} {xs : List Value} (h : W.ownsRow base e size v n xs) (hT : Turned T W W') (hs : SpT W T e) : W'.ownsRow base e size v n xs :=
  own_move h fun k hk => by
    obtain ⟨cs, hc⟩ := own_typed h k hk
    exact hT.block k (blk_lt hc) (hs.not hc)
theorem Row54.T {W W' : World} {T : Nat → Prop} {v : Value} {xs : List S54} (h : Row54 W v xs) (hT : Turned T W W') (hp : SpT W T 54) : Row54 W' v xs := by
  obtain ⟨A, c, h1, h2, ⟨h3, h4, h5⟩, h6⟩ := h
  refine ⟨A, c, h1, h2, ⟨h3, h4, fun hm => ?_⟩, fun ad e => ?_⟩
  · obtain ⟨ad, e, hc⟩ := h5 hm
    obtain ⟨cs, hcs⟩ := h6 ad e
    refine ⟨ad, e, fun j q hq => ?_⟩
    obtain ⟨cl, hl, hk, hcell⟩ := hc j q hq
    refine ⟨cl, hl, by rw [k54_open hk]; exact k54_mk _ q, fun i u hu => ?_⟩
    have hblk : (ad.add (j * k54.sz + i)).block = ad.block := by unfold Addr.add; split <;> rfl
    exact (World.cell?_of_block (w := W) (w' := W') (by rw [hblk]; exact hT.block _ (blk_lt hcs) (hp.not hcs))).trans (hcell i u hu)
  · obtain ⟨cs, hcs⟩ := h6 ad e
    exact ⟨cs, (hT.block _ (blk_lt hcs) (hp.not hcs)).trans hcs⟩
theorem JobAt.T {W W' : World} {T : Nat → Prop} {b : Nat} {j : Job} (h : JobAt W b j) (hT : Turned T W W') (hp : SpT W T 54) (hb : ¬ T b) : JobAt W' b j := by
  obtain ⟨rv, wv, h1, h2, h3⟩ := h
  exact ⟨rv, wv, (hT.block _ (blk_lt h1) hb).trans h1, h2.T hT hp, h3.T hT hp⟩
/-- A commit's block, turned. -/
theorem JobAt.new {W W' : World} {T : Nat → Prop} {b : Nat} {j : Job} {rv wv : Value} (h2 : Row54 W rv j.reads) (h3 : Row54 W wv j.writes) (hT : Turned T W W') (hp : SpT W T 54)
    (h1 : W'.heap[b]? = some (.cells #[rv, wv, .int .i64 j.state, .int .i64 (j.next : Int), .bool j.failed] 83 (0, 0))) : JobAt W' b j := ⟨rv, wv, h1, h2.T hT hp, h3.T hT hp⟩

theorem At.mono {base : Nat} {ok ok' : Nat → Prop} {W : World} {mb : Nat} {m : Mach} {vs js ds : Value} {bs : List Nat} (h : At base ok W mb m vs js ds bs) (hk : ∀ k, ok k → ok' k) : At base ok' W mb m vs js ds bs :=
  ⟨h.hbm, hk _ h.okm, h.hm, h.hv, fun k e => hk _ (h.okv k e), h.hj, fun k e => hk _ (h.okj k e), h.hd, fun k e => hk _ (h.okd k e), h.len, h.nd, fun i b j h1 h2 => let ⟨a, c, d⟩ := h.at_ i b j h1 h2; ⟨a, hk _ c, d⟩⟩
/-- No two commits lie in one block. -/
theorem At.apart {base : Nat} {ok : Nat → Prop} {W : World} {mb : Nat} {m : Mach} {vs js ds : Value} {bs : List Nat} (h : At base ok W mb m vs js ds bs) {i k : Nat} {b : Nat} (h1 : bs[i]? = some b) (h2 : bs[k]? = some b) : i = k := by
  have a1 := (List.getElem?_eq_some_iff.1 h1)
  have a2 := (List.getElem?_eq_some_iff.1 h2)
  exact (List.getElem_inj h.nd).1 (a1.2.trans a2.2.symm)

section
variable {base : Nat} {ok : Nat → Prop} {W W' : World} {mb : Nat} {m : Mach} {vs js ds : Value} {bs : List Nat}
theorem At.m_ne (h : At base ok W mb m vs js ds bs) {b t : Nat} {cs : Array Value} (hb : W.heap[b]? = some (.cells cs t (0, 0))) (ht : t ≠ 60) : mb ≠ b := by
  rintro rfl
  have := h.hm
  rw [hb] at this
  injection this with this
  injection this with _ this
  exact ht this
/-- One commit is turned. -/
theorem At.job (h : At base ok W mb m vs js ds bs) {k b : Nat} {j' : Job} (hk : bs[k]? = some b) (hT : Turned (fun q => q = b) W W') {j : Job} (hj : JobAt W b j) (hJ : JobAt W' b j') : At base ok W' mb { m with jobs := m.jobs.set k j' } vs js ds bs := by
  obtain ⟨rv, wv, hb, -, -⟩ := hj
  have sp : ∀ e, 83 ≠ e → SpT W (fun q => q = b) e := fun e he => SpT.of hb he
  refine ⟨h.hbm, h.okm, (hT.block _ (blk_lt h.hm) (h.m_ne hb (by decide))).trans h.hm, own_T h.hv hT (sp _ (by decide)), h.okv, ?_, h.okj, own_T h.hd hT (sp _ (by decide)), h.okd, by simpa using h.len, h.nd, fun i c jj h1 h2 => ?_⟩
  · have := own_T h.hj hT (sp _ (by decide))
    simpa using this
  · by_cases hi : i = k
    · subst hi
      rw [hk] at h1
      injection h1 with h1
      subst h1
      rw [List.getElem?_set_self (by rw [← h.len]; exact (List.getElem?_eq_some_iff.1 hk).1)] at h2
      injection h2 with h2
      subst h2
      have hl : i < m.jobs.length := by rw [← h.len]; exact (List.getElem?_eq_some_iff.1 hk).1
      obtain ⟨a1, a2, -⟩ := h.at_ i b _ hk (List.getElem?_eq_getElem hl)
      exact ⟨a1, a2, hJ⟩
    · rw [List.getElem?_set_ne (fun e => hi e.symm)] at h2
      obtain ⟨a1, a2, a3⟩ := h.at_ i c jj h1 h2
      exact ⟨a1, a2, a3.T hT (sp _ (by decide)) (fun e => hi (h.apart h1 (e ▸ hk)))⟩
/-- The variables, and one commit, are turned. -/
theorem At.each {g n cap : Nat} (h : At base ok W mb m (vrow g n cap) js ds bs) {k b : Nat} {j' : Job} {vars' : List Vr} {cur : Array Value} (hg : W.heap[g]? = some (.cells cur 76 (0, 0))) (hk : bs[k]? = some b) (hT : Turned (fun q => q = g ∨ q = b) W W') {j : Job} (hj : JobAt W b j) (hJ : JobAt W' b j')
    (hv : W'.ownsRow base 76 3 (vrow g n cap) vars'.length (vars'.flatMap cV)) : At base ok W' mb { m with vars := vars', jobs := m.jobs.set k j' } (vrow g n cap) js ds bs := by
  obtain ⟨rv, wv, hb, -, -⟩ := hj
  have sp : ∀ e, 76 ≠ e → 83 ≠ e → SpT W (fun q => q = g ∨ q = b) e := fun e he hf => (SpT.of hg he).or (SpT.of hb hf)
  refine ⟨h.hbm, h.okm, (hT.block _ (blk_lt h.hm) (fun e => e.elim (h.m_ne hg (by decide)) (h.m_ne hb (by decide)))).trans h.hm, hv, h.okv, ?_, h.okj, own_T h.hd hT (sp _ (by decide) (by decide)), h.okd, by simpa using h.len, h.nd, fun i c jj h1 h2 => ?_⟩
  · have := own_T h.hj hT (sp _ (by decide) (by decide))
    simpa using this
  · by_cases hi : i = k
    · subst hi
      rw [hk] at h1
      injection h1 with h1
      subst h1
      rw [List.getElem?_set_self (by rw [← h.len]; exact (List.getElem?_eq_some_iff.1 hk).1)] at h2
      injection h2 with h2
      subst h2
      have hl : i < m.jobs.length := by rw [← h.len]; exact (List.getElem?_eq_some_iff.1 hk).1
      obtain ⟨a1, a2, -⟩ := h.at_ i b _ hk (List.getElem?_eq_getElem hl)
      exact ⟨a1, a2, hJ⟩
    · rw [List.getElem?_set_ne (fun e => hi e.symm)] at h2
      obtain ⟨a1, a2, a3⟩ := h.at_ i c jj h1 h2
      have hcg : c ≠ g := by
        rintro rfl
        obtain ⟨rv', wv', h5, -⟩ := a3
        rw [hg] at h5
        injection h5 with h5
        injection h5 with _ h5
        cases h5
      exact ⟨a1, a2, a3.T hT (sp _ (by decide) (by decide)) (fun e => e.elim hcg fun e => hi (h.apart h1 (e ▸ hk)))⟩
/-- The row of those that were decided has grown: 'W1' behind append, 'W'' behind the store of it. -/
theorem At.decides (h : At base ok W mb m vs js ds bs) {ok' : Nat → Prop} {ds' : Value} {l : List Int} (hT : Turned (fun q => ds.ownBlock = some q ∨ q = mb) W W') (hm : W'.heap[mb]? = some (.cells #[.bool true, vs, js, ds'] 60 (0, 0)))
    (hd : W'.ownsRow base 3 1 ds' l.length (l.map fun x => .int .i64 x)) (hok : ∀ k, ds'.ownBlock = some k → ok' k) (hk : ∀ k, ok k → ok' k) : At base ok' W' mb { m with decided := l } vs js ds' bs := by
  have sp : ∀ e, 3 ≠ e → 60 ≠ e → SpT W (fun q => ds.ownBlock = some q ∨ q = mb) e := fun e he hf => (SpT.row h.hd he).or (SpT.of h.hm hf)
  refine ⟨h.hbm, hk _ h.okm, hm, own_T h.hv hT (sp _ (by decide) (by decide)), fun k e => hk _ (h.okv k e), own_T h.hj hT (sp _ (by decide) (by decide)), fun k e => hk _ (h.okj k e), hd, hok, h.len, h.nd, fun i c jj h1 h2 => ?_⟩
  obtain ⟨a1, a2, a3⟩ := h.at_ i c jj h1 h2
  refine ⟨a1, hk _ a2, a3.T hT (sp _ (by decide) (by decide)) ?_⟩
  obtain ⟨rv, wv, h5, -⟩ := a3
  exact (sp 83 (by decide) (by decide)).not h5
/-- The row of commits has grown. -/
theorem At.starts (h : At base ok W mb m vs js ds bs) {ok' : Nat → Prop} {js' : Value} {b : Nat} {j : Job} (hT : Turned (fun q => js.ownBlock = some q ∨ q = mb) W W') (hm : W'.heap[mb]? = some (.cells #[.bool true, vs, js', ds] 60 (0, 0)))
    (hj : W'.ownsRow base 79 1 js' (bs ++ [b]).length ((bs ++ [b]).map ptr)) (hok : ∀ k, js'.ownBlock = some k → ok' k) (hk : ∀ k, ok k → ok' k) (hb : base ≤ b) (hob : ok' b) (hnew : ∀ c, c ∈ bs → c ≠ b) (hJ : JobAt W b j) : At base ok' W' mb { m with jobs := m.jobs ++ [j] } vs js' ds (bs ++ [b]) := by
  have sp : ∀ e, 79 ≠ e → 60 ≠ e → SpT W (fun q => js.ownBlock = some q ∨ q = mb) e := fun e he hf => (SpT.row h.hj he).or (SpT.of h.hm hf)
  have hJ' : ∀ c jj, JobAt W c jj → JobAt W' c jj := fun c jj a3 => by
    refine a3.T hT (sp _ (by decide) (by decide)) ?_
    obtain ⟨rv, wv, h5, -⟩ := a3
    exact (sp 83 (by decide) (by decide)).not h5
  refine ⟨h.hbm, hk _ h.okm, hm, own_T h.hv hT (sp _ (by decide) (by decide)), fun k e => hk _ (h.okv k e), ?_, hok, own_T h.hd hT (sp _ (by decide) (by decide)), fun k e => hk _ (h.okd k e), by simp [h.len], ?_, fun i c jj h1 h2 => ?_⟩
  · have : ({ m with jobs := m.jobs ++ [j] } : Mach).jobs.length = (bs ++ [b]).length := by simp [h.len]
    rw [this]
    exact hj
  · rw [List.nodup_append]
    exact ⟨h.nd, by simp, fun a ha c hc => by simp at hc; subst hc; exact hnew a ha⟩
  · rcases Nat.lt_or_ge i bs.length with hi | hi
    · rw [List.getElem?_append_left hi] at h1
      rw [List.getElem?_append_left (by rw [← h.len]; exact hi)] at h2
      obtain ⟨a1, a2, a3⟩ := h.at_ i c jj h1 h2
      exact ⟨a1, hk _ a2, hJ' _ _ a3⟩
    · rw [List.getElem?_append_right hi] at h1
      rw [List.getElem?_append_right (by rw [← h.len]; exact hi), ← h.len] at h2
      rcases hd : i - bs.length with _ | q
      · rw [hd] at h1 h2
        simp at h1 h2
        subst h1; subst h2
        exact ⟨hb, hob, hJ' _ _ hJ⟩
      · rw [hd] at h1
        simp at h1
end
end Go.Proofs.Ytkecbdeekpbbjaa.Q

/-! Does all that a commit read fit, by hand. -/
namespace Go.Proofs.Ytkecbdeekpbbjaa.Q
open Go.RowKit Go.Lib Go.Proofs.Ytkecbdeekpbbjaa Go.Proofs.YtkecbdeekpbbjaaW.PrintWords Go.Proofs.YtkecbdeekpbbjaaW.PrintLast Go.Proofs.YtkecbdeekpbbjaaW.PrintMore
set_option linter.unusedVariables false
set_option linter.unusedSimpArgs false
attribute [local go_sem high] eqA44

/-- A read that does not fit. -/
def badV (v : Vr) (id : Int) (s : S54) : Bool := (v.lock != 0 && v.lock != id) || !(v.val.f0 == s.f1.f0 && v.val.f1 == s.f1.f1)
def badR (m : Mach) (id : Int) (s : S54) : Bool := badV (m.vars.getD s.f0.toNat zV) id s
/-- A step of one of so many variables. -/
def inR (n : Nat) (s : S54) : Prop := 0 ≤ s.f0 ∧ s.f0 < n

theorem put3n {W W' : World} {B g : Nat} {t : TypeId} {a b c : Value} (a' b' c' : Value) (h : W.heap[g]? = some (.cells #[a, b, c] t (0, 0))) (hb : B ≤ g)
    (e : ((W.setCell ⟨g, 0, none⟩ a').setCell ⟨g, 1, none⟩ b').setCell ⟨g, 2, none⟩ c' = W') : W'.heap[g]? = some (.cells #[a', b', c'] t (0, 0)) ∧ Below B W W' := by
  subst e
  exact put3 a' b' c' h hb

set_option maxHeartbeats 4000000 in
set_option maxRecDepth 100000 in
theorem fits1_calls (W : World) (mb base n cap g x bm bi : Nat) (js ds : Value) (vars : List Vr) (v : Vr) (id : Int) (s : S54) (hm : W.heap[mb]? = some (.cells #[.bool true, vrow g vars.length cap, js, ds] 60 (0, 0)))
    (hv : W.ownsRow base 76 3 (vrow g vars.length cap) vars.length (vars.flatMap cV)) (hk : vars[x]? = some v) (hx : s.f0 = (x : Int)) (k0 : W.cell? ⟨bm, 0, none⟩ = some (ptr mb)) (k1 : W.cell? ⟨bi, 0, none⟩ = some (.int .i64 id)) :
    Calls Try.prog 55 (#[] ++ #[.agg (stV s)] ++ #[ptr bm, ptr bi]) W fun e w' => e = .returned (.bool (badV v id s)) ∧ Below W.heap.size W w' := by
  have hu60 := Try.underlying60
  have hu76 := Try.underlying76
  have hu54 := Try.underlying54
  have hu44 := Try.underlying44
  have hu57 := Try.underlying57
  have hlt : x < vars.length := (List.getElem?_eq_some_iff.1 hk).1
  obtain ⟨s0, ⟨s1, s2⟩, s3⟩ := s
  dsimp only at hx
  subst hx
  obtain ⟨W1, hW1, K1, hB1⟩ : ∃ W1, W.alloc (.cells #[.int .i64 (x : Int), .int .i64 s1, .int .i64 s2, .bool s3] 54) = W1 ∧ W1.heap[W.heap.size]? = some (.cells #[.int .i64 (x : Int), .int .i64 s1, .int .i64 s2, .bool s3] 54 (0, 0)) ∧ Below W.heap.size W W1 := ⟨_, rfl, heap_alloc_new _ _, bOne _⟩
  rcases own_at hv with ⟨h, h0⟩ | ⟨g', c, h, -, -, ⟨cur, hg⟩, hc⟩
  · cases h
  · injection h with h h'
    injection h with h
    injection h with h
    subst h
    have e0 := (hc (x * 3 + 0) (.int .i64 v.val.f0) (by rw [cells3 vars hk 0 (by decide)]; rfl)).1
    have e1 := (hc (x * 3 + 1) (.int .i64 v.val.f1) (by rw [cells3 vars hk 1 (by decide)]; rfl)).1
    have e2 := (hc (x * 3 + 2) (.int .i64 v.lock) (by rw [cells3 vars hk 2 (by decide)]; rfl)).1
    have F0 : ∀ V, Below W1.heap.size W1 V → V.cell? ⟨g, x * 3, none⟩ = some (.int .i64 v.val.f0) := staysA ((hB1.cell (p := ⟨g, x * 3 + 0, none⟩) (blk_lt hg)).trans e0)
    have F1 : ∀ V, Below W1.heap.size W1 V → V.cell? ⟨g, x * 3 + 1, none⟩ = some (.int .i64 v.val.f1) := staysA ((hB1.cell (p := ⟨g, x * 3 + 1, none⟩) (blk_lt hg)).trans e1)
    have F2 : ∀ V, Below W1.heap.size W1 V → V.cell? ⟨g, x * 3 + 2, none⟩ = some (.int .i64 v.lock) := staysA ((hB1.cell (p := ⟨g, x * 3 + 2, none⟩) (blk_lt hg)).trans e2)
    have F3 := staysA (blk_cell (blk_below hm hB1) 1)
    have F4 := staysA (blk_cell K1 0)
    have F5 := staysA ((hB1.cell (p := ⟨bm, 0, none⟩) (World.block_lt_of_cell? _ _ k0)).trans k0)
    have hi0 : (0 : Int) ≤ x := by omega
    have hi1 : (x : Int) < vars.length := by omega
    have HB := Lib.hid (And.intro hB1 (And.intro K1 ((hB1.cell (p := ⟨bi, 0, none⟩) (World.block_lt_of_cell? _ _ k1)).trans k1)))
    clear hm hv hk e0 e1 e2 hg hc k0 k1 K1 hB1
    obtain ⟨⟨v0, v1⟩, v2⟩ := v
    dsimp only at F0 F1 F2
    go_enter Try.func55, Try.ntmps55
    go_wp2_with fail
    apply wp_region_grow 9 (by kernel_rfl) (by kernel_rfl) (by kernel_rfl)
    simp only [List.take_succ_cons, List.take_zero, List.drop_succ_cons, List.drop_zero]
    repeat
      apply gw_val (by rfl)
      · (intro W hB hD; go_simp; try rfl)
      simp only [Act.put, List.setIfInBounds_toArray, List.set_cons_zero, List.set_cons_succ]
    apply gw_alloc (by rfl)
    · intro W hB hD
      go_simp
      rfl
    intro p1 hp1
    simp only [Act.put, List.setIfInBounds_toArray, List.set_cons_zero, List.set_cons_succ]
    apply gw_nil
    intro Wa hW hF hP
    simp [List.forall_mem_append, blockOf] at hF hP
    obtain ⟨W3, hW3, K3, hB3⟩ : ∃ W3, ((Wa.setCell ⟨p1, 0, none⟩ (.int .i64 v0)).setCell ⟨p1, 1, none⟩ (.int .i64 v1)).setCell ⟨p1, 2, none⟩ (.int .i64 v2) = W3 ∧ W3.heap[p1]? = some (.cells #[.int .i64 v0, .int .i64 v1, .int .i64 v2] 76 (0, 0)) ∧ Below W1.heap.size W1 W3 := by
      have := put3n (.int .i64 v0) (.int .i64 v1) (.int .i64 v2) hF hp1 rfl
      exact ⟨_, rfl, this.1, hW.trans this.2⟩
    have d0 := blk_cell hF 0
    have d1 := blk_cell hF 1
    have d2 := blk_cell hF 2
    have f0 := blk_frozen hF 0
    have f1 := blk_frozen hF 1
    have f2 := blk_frozen hF 2
    have e0 := blk_cell K3 0
    have e1 := blk_cell K3 1
    have e2 := blk_cell K3 2
    have q0 := blk_cell (blk_below HB.out.2.1 hB3) 1
    have q1 := blk_cell (blk_below HB.out.2.1 hB3) 2
    have q2 := (hB3.cell (p := ⟨bi, 0, none⟩) (World.block_lt_of_cell? _ _ HB.out.2.2)).trans HB.out.2.2
    have HZ := Lib.hid (bAfter HB.out.1 hB3)
    clear hF hP hp1 hB3 K3 F0 F1 F2 F3 F4 F5 hW HB hW1
    cases h1 : (v2 != 0) with
    | false =>
      go_wp2_with fail
      go_ret
      exact ⟨by simp [badV, *], HZ.out⟩
    | true =>
      cases h2 : (v2 != id) with
      | false =>
        go_wp2_with fail
        go_ret
        exact ⟨by simp [badV, *], HZ.out⟩
      | true =>
        go_wp2_with fail
        go_ret
        exact ⟨by simp [badV, *], HZ.out⟩

/-- The machine's row of variables. -/
theorem vs_form {W : World} {base : Nat} {vs : Value} {vars : List Vr} (h : W.ownsRow base 76 3 vs vars.length (vars.flatMap cV)) (hn : 0 < vars.length) : ∃ g cap cur, vs = vrow g vars.length cap ∧ W.heap[g]? = some (.cells cur 76 (0, 0)) := by
  rcases own_at h with ⟨rfl, h0⟩ | ⟨g, c, rfl, -, -, ⟨cur, hg⟩, hc⟩
  · omega
  · exact ⟨g, c, cur, rfl, hg⟩
def fitsM (m : Mach) (id : Int) (j : Job) : Bool := !(j.reads.any (badR m id))
set_option maxHeartbeats 4000000 in
set_option maxRecDepth 100000 in
theorem fits_calls (base : Nat) (ok : Nat → Prop) (W : World) (mb b : Nat) (m : Mach) (vs js ds : Value) (bs : List Nat) (id : Int) (j : Job) (h : At base ok W mb m vs js ds bs) (hJ : JobAt W b j) (hr : ∀ s ∈ j.reads, inR m.vars.length s) (hl : j.reads.length ≤ 1000000) :
    Calls Try.prog 48 #[ptr mb, .int .i64 id, ptr b] W fun e w' => e = .returned (.bool (fitsM m id j)) ∧ Below W.heap.size W w' := by
  have hu83 := Try.underlying83
  obtain ⟨rv, wv, hb, ⟨A, c, rfl, hc, hC, hty⟩, hw⟩ := hJ
  obtain ⟨W1, hW1, K1, K2, hB1, hz1⟩ := two_named W (.cells #[ptr mb] 26) (.cells #[.int .i64 id] 3)
  have C := contains_calls 55 #[] #[ptr W.heap.size, ptr (W.heap.size + 1)] (badR m id) A c j.reads W1 (fun args W => rfl) (Kd.C_below hC hB1) hl (fun s hs W2 hW2 => by
    obtain ⟨h1, h2⟩ := hr s hs
    obtain ⟨k, hk⟩ := Int.eq_ofNat_of_zero_le h1
    have hkl : k < m.vars.length := by omega
    obtain ⟨g, cap, cur, hvs, hg⟩ := vs_form h.hv (by omega)
    have hB2 := bAfter hB1 hW2
    have hv := m.vars[k]?
    have e1 : m.vars[k]? = some (m.vars[k]'hkl) := List.getElem?_eq_getElem hkl
    have e2 : badR m id s = badV (m.vars[k]'hkl) id s := by
      unfold badR
      rw [hk, Int.toNat_natCast, List.getD_eq_getElem?_getD, e1]
      rfl
    rw [e2]
    subst hvs
    exact fits1_calls W2 mb base m.vars.length cap g k W.heap.size (W.heap.size + 1) js ds m.vars _ id s (blk_below h.hm hB2) (own_below hB2 h.hv) e1 hk (blk_cell (blk_below K1 hW2) 0) (blk_cell (blk_below K2 hW2) 0))
  have HC := Lib.hid C
  have g0 := blk_cell (blk_below hb hB1) 0
  have HB := Lib.hid hB1
  clear C hC hty hw hb K1 K2 hB1 h hr
  go_enter Try.func48, Try.ntmps48
  go_wp2_with fail
  refine HC.out.mono ?_
  rintro e w2 ⟨rfl, hB2⟩
  have HZ := Lib.hid (bAfter HB.out hB2)
  clear hB2
  go_wp2_with fail
  go_ret
  exact ⟨rfl, HZ.out⟩

end Go.Proofs.Ytkecbdeekpbbjaa.Q

/-! A commit is decided, by hand. -/
namespace Go.Proofs.Ytkecbdeekpbbjaa.Q
open Go.RowKit Go.Lib Go.Proofs.Ytkecbdeekpbbjaa Go.Proofs.YtkecbdeekpbbjaaW.PrintWords Go.Proofs.YtkecbdeekpbbjaaW.PrintLast Go.Proofs.YtkecbdeekpbbjaaW.PrintMore
set_option linter.unusedVariables false
set_option linter.unusedSimpArgs false

def decideM (m : Mach) (id : Int) (k : Nat) (j : Job) : Mach :=
  if fitsM m id j then { m with decided := m.decided ++ [id], jobs := m.jobs.set k { j with state := if j.writes.length = 0 then 4 else 2 } }
  else { m with jobs := m.jobs.set k { j with failed := true, state := if j.writes.length = 0 then 5 else 3 } }
theorem turned_set (W : World) (b i : Nat) (u : Value) : Turned (fun q => q = b) W (W.setCell ⟨b, i, none⟩ u) := Turned.grown (grown_set W b i u) fun p e => by injection e with e; exact e.symm
theorem Turned.weaken {S T : Nat → Prop} {W W' : World} (h : Turned S W W') (k : ∀ q, S q → T q) : Turned T W W' := ⟨h.os, h.tape, h.output, h.size, fun i hi hn => h.block i hi (fun hs => hn (k i hs))⟩

set_option maxHeartbeats 4000000 in
set_option maxRecDepth 100000 in
theorem decide_no (base : Nat) (ok : Nat → Prop) (W : World) (mb b k : Nat) (m : Mach) (vs js ds : Value) (bs : List Nat) (id : Int) (j : Job) (h : At base ok W mb m vs js ds bs) (hk : bs[k]? = some b) (hjk : m.jobs[k]? = some j) (hr : ∀ s ∈ j.reads, inR m.vars.length s) (hl : j.reads.length ≤ 1000000) (hf : fitsM m id j = false) :
    Calls Try.prog 35 #[ptr mb, .int .i64 id, ptr b] W fun e w' => e = .returned (.tuple #[]) ∧ (∃ vs js ds bs, At base ok w' mb (decideM m id k j) vs js ds bs ∧ bs[k]? = some b) ∧ Turned ok W w' := by
  have hu83 := Try.underlying83
  have hu60 := Try.underlying60
  obtain ⟨a1, a2, hJ⟩ := h.at_ k b j hk hjk
  have HC := Lib.hid (fits_calls base ok W mb b m vs js ds bs id j h hJ hr hl)
  obtain ⟨rv, wv, hb, h2, ⟨A, c, rfl, hc, hC, hty⟩⟩ := (fun x => x : JobAt W b j → JobAt W b j) hJ
  have b1 := blk_cell hb 1
  have HK := Lib.hid (And.intro h (And.intro hJ (And.intro hb (And.intro h2 (And.intro (show Row54 W (.slice A j.writes.length c) j.writes from ⟨A, c, rfl, hc, hC, hty⟩) (And.intro hk (And.intro a2 hf)))))))
  clear h hJ hb h2 hC hty hjk
  have fin : ∀ (w2 W5 : World) (st : Int), Below W.heap.size W w2 → Turned (fun q => q = b) w2 W5 → W5.heap[b]? = some (.cells #[rv, .slice A j.writes.length c, .int .i64 st, .int .i64 (j.next : Int), .bool true] 83 (0, 0)) → (st = if j.writes.length = 0 then 5 else 3) → (∃ vs js ds bs, At base ok W5 mb (decideM m id k j) vs js ds bs ∧ bs[k]? = some b) ∧ Turned ok W W5 := by
    intro w2 W5 st hB hT h5 hst
    obtain ⟨h, hJ, hb, h2, h3, hk, a2, hf⟩ := HK.out
    refine ⟨⟨vs, js, ds, bs, ?_, hk⟩, (Turned.below hB).trans (hT.weaken fun q e => e ▸ a2)⟩
    unfold decideM
    rw [if_neg (by rw [hf]; decide)]
    exact (h.below hB).job hk hT (hJ.below hB) (JobAt.new (h2.below hB) (h3.below hB) hT (SpT.of (blk_below hb hB) (by decide)) (by rw [← hst]; exact h5))
  have FIN := Lib.hid fin
  clear fin
  by_cases hw : j.writes.length = 0
  · have hwb : ((j.writes.length : Int) == 0) = true := by rw [beq_iff_eq]; omega
    have hst : (5 : Int) = if j.writes.length = 0 then 5 else 3 := by rw [if_pos hw]
    have HS := Lib.hid hst
    clear hst
    clear hw
    go_enter Try.func35, Try.ntmps35
    go_wp2_with fail
    refine HC.out.mono ?_
    rintro e w2 ⟨rfl, hB⟩
    obtain ⟨h, hJ, hb, h2, h3, hk, a2, hf⟩ := HK.out
    have hb2 := blk_below hb hB
    have g2 := blk_cell hb2 2
    have g4 := blk_cell hb2 4
    have f2 := blk_frozen hb2 2
    have f4 := blk_frozen hb2 4
    have HZ := Lib.hid (And.intro hB hb2)
    clear h hJ hb h2 h3 hk a2 hB hb2
    have hf' := hf
    clear hf
    rw [hf']
    go_wp2_with fail
    refine bodyPost_ret (v := .tuple #[]) (by simp [results, Try.results35, go_sem]) rfl ?_
    exact ⟨rfl, FIN.out w2 _ 5 HZ.out.1 (((turned_set _ _ _ _).trans (turned_set _ _ _ _)).trans (turned_set _ _ _ _)) (blk_put (blk_put (blk_put HZ.out.2 4 _ rfl) 2 _ rfl) 2 _ rfl) HS.out⟩
  · have hwb : ((j.writes.length : Int) == 0) = false := by rw [beq_eq_false_iff_ne]; omega
    have hst : (3 : Int) = if j.writes.length = 0 then 5 else 3 := by rw [if_neg hw]
    have HS := Lib.hid hst
    clear hst
    clear hw
    go_enter Try.func35, Try.ntmps35
    go_wp2_with fail
    refine HC.out.mono ?_
    rintro e w2 ⟨rfl, hB⟩
    obtain ⟨h, hJ, hb, h2, h3, hk, a2, hf⟩ := HK.out
    have hb2 := blk_below hb hB
    have g2 := blk_cell hb2 2
    have g4 := blk_cell hb2 4
    have f2 := blk_frozen hb2 2
    have f4 := blk_frozen hb2 4
    have HZ := Lib.hid (And.intro hB hb2)
    clear h hJ hb h2 h3 hk a2 hB hb2
    have hf' := hf
    clear hf
    rw [hf']
    go_wp2_with fail
    refine bodyPost_ret (v := .tuple #[]) (by simp [results, Try.results35, go_sem]) rfl ?_
    exact ⟨rfl, FIN.out w2 _ 3 HZ.out.1 ((turned_set _ _ _ _).trans (turned_set _ _ _ _)) (blk_put (blk_put HZ.out.2 4 _ rfl) 2 _ rfl) HS.out⟩

theorem SpT.at60 {W : World} {mb : Nat} {cs : Array Value} (h : W.heap[mb]? = some (.cells cs 60 (0, 0))) {e : Nat} (he : 60 ≠ e) : SpT W (fun q => q = mb) e := SpT.of h he

set_option maxHeartbeats 4000000 in
set_option maxRecDepth 100000 in
theorem decide_yes (base : Nat) (ok : Nat → Prop) (W : World) (mb b k : Nat) (m : Mach) (vs js ds : Value) (bs : List Nat) (id : Int) (j : Job) (h : At base ok W mb m vs js ds bs) (hk : bs[k]? = some b) (hjk : m.jobs[k]? = some j) (hr : ∀ s ∈ j.reads, inR m.vars.length s) (hl : j.reads.length ≤ 1000000) (hf : fitsM m id j = true) (hd : m.decided.length ≤ 1000000) (hbase : base ≤ W.heap.size) :
    Calls Try.prog 35 #[ptr mb, .int .i64 id, ptr b] W fun e w' => e = .returned (.tuple #[]) ∧ (∃ vs js ds bs, At base (fun q => ok q ∨ W.heap.size ≤ q) w' mb (decideM m id k j) vs js ds bs ∧ bs[k]? = some b) ∧ Turned ok W w' := by
  have hu83 := Try.underlying83
  have hu60 := Try.underlying60
  obtain ⟨a1, a2, hJ⟩ := h.at_ k b j hk hjk
  have HC := Lib.hid (fits_calls base ok W mb b m vs js ds bs id j h hJ hr hl)
  obtain ⟨rv, wv, hb, h2, ⟨A, c, rfl, hc, hC, hty⟩⟩ := (fun x => x : JobAt W b j → JobAt W b j) hJ
  have b1 := blk_cell hb 1
  have HK := Lib.hid (And.intro h (And.intro hJ (And.intro hb (And.intro h2 (And.intro (show Row54 W (.slice A j.writes.length c) j.writes from ⟨A, c, rfl, hc, hC, hty⟩) (And.intro hk (And.intro a2 (And.intro hf hd))))))))
  clear h hJ hb h2 hC hty hjk hd
  have fin : ∀ (w2 W4 W5 : World) (st : Int) (ds' : Value), Below W.heap.size W w2 → Turned (fun q => ds.ownBlock = some q ∨ q = mb) w2 W4 → W4.heap[mb]? = some (.cells #[.bool true, vs, js, ds'] 60 (0, 0)) → W4.ownsRow base 3 1 ds' (m.decided.length + 1) ((m.decided ++ [id]).map fun x => .int .i64 x) → (∀ k, ds'.ownBlock = some k → ok k ∨ W.heap.size ≤ k) → Turned (fun q => q = b) W4 W5 → W5.heap[b]? = some (.cells #[rv, .slice A j.writes.length c, .int .i64 st, .int .i64 (j.next : Int), .bool j.failed] 83 (0, 0)) → (st = if j.writes.length = 0 then 4 else 2) → (∃ vs js ds bs, At base (fun q => ok q ∨ W.heap.size ≤ q) W5 mb (decideM m id k j) vs js ds bs ∧ bs[k]? = some b) ∧ Turned ok W W5 := by
    intro w2 W4 W5 st ds' hB hT4 hm4 hd4 hok hT h5 hst
    obtain ⟨h, hJ, hb, h2, h3, hk, a2, hf, hd⟩ := HK.out
    have hB4 := h.below hB
    have sp : ∀ e, 3 ≠ e → 60 ≠ e → SpT w2 (fun q => ds.ownBlock = some q ∨ q = mb) e := fun e he hf => (SpT.row hB4.hd he).or (SpT.of hB4.hm hf)
    refine ⟨⟨vs, js, ds', bs, ?_, hk⟩, ((Turned.below hB).trans (hT4.weaken fun q e => e.elim (h.okd q) (fun e => e ▸ h.okm))).trans (hT.weaken fun q e => e ▸ a2)⟩
    unfold decideM
    rw [if_pos hf]
    have h4 : At base (fun q => ok q ∨ W.heap.size ≤ q) W4 mb { m with decided := m.decided ++ [id] } vs js ds' bs := hB4.decides hT4 hm4 (by rw [show (m.decided ++ [id]).length = m.decided.length + 1 by simp]; exact hd4) hok (fun k => .inl)
    have hnb : ¬ (ds.ownBlock = some b ∨ b = mb) := (sp 83 (by decide) (by decide)).not (blk_below hb hB)
    have hb4 : W4.heap[b]? = _ := (hT4.block _ (blk_lt (blk_below hb hB)) hnb).trans (blk_below hb hB)
    have r2 := (h2.below hB).T hT4 (sp 54 (by decide) (by decide))
    have r3 := (h3.below hB).T hT4 (sp 54 (by decide) (by decide))
    exact h4.job hk hT ((hJ.below hB).T hT4 (sp 54 (by decide) (by decide)) hnb) (JobAt.new r2 r3 hT (SpT.of hb4 (by decide)) (by rw [← hst]; exact h5))
  have FIN := Lib.hid fin
  clear fin
  have HBase := Lib.hid hbase
  clear hbase
  by_cases hw : j.writes.length = 0
  all_goals
    have hwb : ((j.writes.length : Int) == 0) = decide (j.writes.length = 0) := by first | (rw [decide_eq_true hw, beq_iff_eq]; omega) | (rw [decide_eq_false hw, beq_eq_false_iff_ne]; omega)
    have HW := Lib.hid hw
    first | rw [decide_eq_true hw] at hwb | rw [decide_eq_false hw] at hwb
    clear hw
    go_enter Try.func35, Try.ntmps35
    go_wp2_with fail
    refine HC.out.mono ?_
    rintro e w2 ⟨rfl, hB⟩
    obtain ⟨h, hJ, hb, h2, h3, hk, a2, hf, hd⟩ := HK.out
    obtain ⟨AD, cD, hdc, -, -⟩ := decided_own h.hd
    subst hdc
    have hm2 := blk_below h.hm hB
    have g3 := blk_cell hm2 3
    have HZ := Lib.hid (And.intro hB (And.intro hm2 (And.intro (own_below hB h.hd) (And.intro hd (And.intro (blk_below hb hB) (And.intro h.okd (SpT.row (own_below hB h.hd) (e := 60) (by decide))))))))
    have HZ3 := Lib.hid (SpT.row (own_below hB h.hd) (e := 83) (by decide))
    have HMB := Lib.hid (h.m_ne hb (by decide))
    clear h hJ hb h2 h3 hk a2 hB hd hm2
    have hf' := hf
    clear hf
    rw [hf']
    go_wp2_with (at_builtin; refine print_append_num (w0 := w2) base rfl _ _ 30 3 .i64 8 rfl Try.underlying30 info30 (by decide) (.slice AD m.decided.length cD) m.decided id rfl rfl HZ.out.2.2.1 (Below.refl _ _) (Nat.le_trans HBase.out HZ.out.1.size) (by have := HZ.out.2.2.2.1; omega) ?_)
    intro v1 w3 hown hB3 hg3 hat
    obtain ⟨A3, c3, rfl⟩ := own_slice hown
    have hm3 := (hg3.block mb (blk_lt HZ.out.2.1) (fun e => (HZ.out.2.2.2.2.2.2).not HZ.out.2.1 e.symm)).trans HZ.out.2.1
    have hb3 := (hg3.block b (blk_lt HZ.out.2.2.2.2.1) (fun e => HZ3.out.not HZ.out.2.2.2.2.1 e.symm)).trans HZ.out.2.2.2.2.1
    obtain ⟨W4, hW4, K4, J4, hT4, hO4⟩ : ∃ W4, w3.setCell ⟨mb, 3, none⟩ (.slice A3 (m.decided.length + 1) c3) = W4 ∧ W4.heap[mb]? = some (.cells #[.bool true, vs, js, .slice A3 (m.decided.length + 1) c3] 60 (0, 0)) ∧ W4.heap[b]? = some (.cells #[rv, .slice A j.writes.length c, .int .i64 j.state, .int .i64 (j.next : Int), .bool j.failed] 83 (0, 0)) ∧ Turned (fun q => (Value.slice AD m.decided.length cD).ownBlock = some q ∨ q = mb) w2 W4 ∧ W4.ownsRow base 3 1 (.slice A3 (m.decided.length + 1) c3) (m.decided.length + 1) ((m.decided ++ [id]).map fun x => .int .i64 x) :=
      ⟨_, rfl, blk_put hm3 3 _ rfl, (Below.heap_setCell _ _ _ _ (fun e => HMB.out e.symm)).trans hb3, (Turned.grown hg3 fun p e => .inl e).trans ((turned_set _ _ _ _).weaken fun q e => .inr e), own_T hown (turned_set _ _ _ _) (SpT.of hm3 (by decide))⟩
    have HO : Hid (∀ k, (Value.slice A3 (m.decided.length + 1) c3).ownBlock = some k → ok k ∨ W.heap.size ≤ k) := Lib.hid (fun k hk => by
      rcases hat with e | ⟨q, e, hq⟩
      · rw [e] at hk; exact .inl (HZ.out.2.2.2.2.2.1 k hk)
      · rw [e] at hk; injection hk with hk; subst hk; exact .inr (Nat.le_trans HZ.out.1.size hq))
    have m3 := blk_cell hm3 3
    have n3 := blk_frozen hm3 3
    have j2 := blk_cell J4 2
    have k2 := blk_frozen J4 2
    have H4 := Lib.hid (And.intro K4 (And.intro J4 (And.intro hT4 hO4)))
    clear hown hB3 hg3 hat hm3 hb3 K4 J4 hT4 hO4
    go_wp2_with fail
    go_end0
    first
      | exact ⟨rfl, FIN.out w2 W4 _ 4 _ HZ.out.1 H4.out.2.2.1 H4.out.1 H4.out.2.2.2 HO.out ((turned_set _ _ _ _).trans (turned_set _ _ _ _)) (blk_put (blk_put H4.out.2.1 2 _ rfl) 2 _ rfl) (by rw [if_pos HW.out])⟩
      | exact ⟨rfl, FIN.out w2 W4 _ 2 _ HZ.out.1 H4.out.2.2.1 H4.out.1 H4.out.2.2.2 HO.out (turned_set _ _ _ _) (blk_put H4.out.2.1 2 _ rfl) (by rw [if_neg HW.out])⟩

end Go.Proofs.Ytkecbdeekpbbjaa.Q

/-! A step of a commit, by hand. -/
namespace Go.Proofs.Ytkecbdeekpbbjaa.Q
open Go.RowKit Go.Lib Go.Proofs.Ytkecbdeekpbbjaa Go.Proofs.YtkecbdeekpbbjaaW.PrintWords Go.Proofs.YtkecbdeekpbbjaaW.PrintLast Go.Proofs.YtkecbdeekpbbjaaW.PrintMore
set_option linter.unusedVariables false
set_option linter.unusedSimpArgs false

/-- A commit, as it may stand. -/
structure JobOk (n : Nat) (j : Job) : Prop where
  reads : ∀ s ∈ j.reads, inR n s
  writes : ∀ s ∈ j.writes, inR n s
  next : j.state = 0 ∨ j.state = 2 ∨ j.state = 3 → j.next < j.writes.length
  lr : j.reads.length ≤ 1000000
  lw : j.writes.length ≤ 1000000
structure MOk (m : Mach) : Prop where
  vars : m.vars.length ≤ 1000000
  jobs : m.jobs.length ≤ 1000000
  decided : m.decided.length ≤ 1000000
  each : ∀ j ∈ m.jobs, JobOk m.vars.length j

def atW (j : Job) : S54 := j.writes.getD j.next z54
def varAt (m : Mach) (x : Int) : Vr := m.vars.getD x.toNat zV
def putVar (m : Mach) (x : Int) (v : Vr) : List Vr := m.vars.set x.toNat v
def endOf (j : Job) : Int := if j.failed then 5 else 4
/-- A step. -/
def stepJ (m : Mach) (id : Int) (k : Nat) (j : Job) : Mach × Int × Int :=
  if j.state = 0 then
    (if (varAt m (atW j).f0).lock ≠ 0 then (m, 0, 10)
     else ({ m with vars := putVar m (atW j).f0 { varAt m (atW j).f0 with lock := id }, jobs := m.jobs.set k (onward j 1) }, (onward j 1).state, 0))
  else if j.state = 1 then (decideM m id k j, ((decideM m id k j).jobs.getD k j).state, 0)
  else if j.state = 2 then ({ m with vars := putVar m (atW j).f0 { varAt m (atW j).f0 with val := ⟨(atW j).f1.f0, (atW j).f1.f1⟩ }, jobs := m.jobs.set k (onward j 3) }, (onward j 3).state, 0)
  else if j.state = 3 then ({ m with vars := putVar m (atW j).f0 { varAt m (atW j).f0 with lock := 0 }, jobs := m.jobs.set k (onward j (endOf j)) }, (onward j (endOf j)).state, 0)
  else (m, j.state, 6)
def stepM (m : Mach) (id : Int) : Mach × Int × Int := match getJob m id with | none => (m, 0, 3) | some j => stepJ m id (id - 1).toNat j

theorem flat_set (vars : List Vr) {x : Nat} {v v' : Vr} (h : vars[x]? = some v) : ∀ (i : Nat) (u : Value), i < 3 → cV v' = (cV v).set i u → (vars.flatMap cV).set (x * 3 + i) u = (vars.set x v').flatMap cV := by
  induction vars generalizing x with
  | nil => cases h
  | cons a vars ih =>
    intro i u hi he
    rw [List.flatMap_cons]
    rcases x with _ | x
    · have : a = v := by simpa using h
      subst this
      rw [Nat.zero_mul, Nat.zero_add, List.set_append_left _ _ (by simp; omega), List.set_cons_zero, List.flatMap_cons, he]
    · rw [List.set_append_right _ _ (by simp; omega), List.set_cons_succ, List.flatMap_cons]
      have h' : vars[x]? = some v := by simpa using h
      rw [show (x + 1) * 3 + i - (cV a).length = x * 3 + i by simp; omega, ih h' i u hi he]

section
variable {base : Nat} {ok : Nat → Prop} {W w' : World} {mb : Nat} {m : Mach} {vs js ds : Value} {bs : List Nat}
/-- Behind 'each' a machine is there, with another row of variables and another commit. -/
theorem At.eachDone {g cap : Nat} (h : At base ok W mb m (vrow g m.vars.length cap) js ds bs) {k b : Nat} {j j' : Job} {rv wv : Value} {vars' : List Vr} {cur : Array Value} {F : List Value → List Value} (hg : W.heap[g]? = some (.cells cur 76 (0, 0))) (hk : bs[k]? = some b)
    (hb : W.heap[b]? = some (.cells #[rv, wv, .int .i64 j.state, .int .i64 (j.next : Int), .bool j.failed] 83 (0, 0))) (h2 : Row54 W rv j.reads) (h3 : Row54 W wv j.writes) (hr : j'.reads = j.reads) (hw : j'.writes = j.writes)
    (hE : EachDone W b g m.vars.length cap F #[rv, wv, .int .i64 j'.state, .int .i64 (j'.next : Int), .bool j'.failed] w') (hl : vars'.length = m.vars.length) (hF : F (m.vars.flatMap cV) = vars'.flatMap cV) :
    At base ok w' mb { m with vars := vars', jobs := m.jobs.set k j' } (vrow g m.vars.length cap) js ds bs ∧ Turned ok W w' ∧ w'.heap[b]? = some (.cells #[rv, wv, .int .i64 j'.state, .int .i64 (j'.next : Int), .bool j'.failed] 83 (0, 0)) := by
  obtain ⟨hb', ho, hT⟩ := hE
  have sp : SpT W (fun q => q = g ∨ q = b) 54 := (SpT.of hg (by decide)).or (SpT.of hb (by decide))
  have hJ : JobAt w' b j' := JobAt.new (by rw [hr]; exact h2) (by rw [hw]; exact h3) hT sp hb'
  have hjk : k < m.jobs.length := by rw [← h.len]; exact (List.getElem?_eq_some_iff.1 hk).1
  obtain ⟨-, okb, -⟩ := h.at_ k b _ hk (List.getElem?_eq_getElem hjk)
  refine ⟨h.each hg hk hT (j := j) ⟨rv, wv, hb, h2, h3⟩ hJ ?_, hT.weaken fun q e => e.elim (fun e => e ▸ h.okv g rfl) (fun e => e ▸ okb), hb'⟩
  rw [hl, ← hF]
  exact ho _ _ h.hv
end
theorem onward_reads (j : Job) (t : Int) : (onward j t).reads = j.reads := by unfold onward; split <;> rfl
theorem onward_writes (j : Job) (t : Int) : (onward j t).writes = j.writes := by unfold onward; split <;> rfl
set_option maxRecDepth 100000 in
theorem end_calls (W : World) (b : Nat) (rv wv : Value) (st nx : Int) (fl : Bool) (hb : W.heap[b]? = some (.cells #[rv, wv, .int .i64 st, .int .i64 nx, .bool fl] 83 (0, 0))) :
    Calls Try.prog 37 #[ptr b] W fun e w' => e = .returned (.int .i64 (if fl then 5 else 4)) ∧ w' = W := by
  have hu83 := Try.underlying83
  have b4 := blk_cell hb 4
  clear hb
  cases fl with
  | true =>
    go_enter Try.func37, Try.ntmps37
    go_wp2_with fail
    go_ret
    exact ⟨rfl, rfl⟩
  | false =>
    go_enter Try.func37, Try.ntmps37
    go_wp2_with fail
    go_ret
    exact ⟨rfl, rfl⟩

/-- A commit in its block, behind the box of the number: what the cases ask. -/
structure Here (base : Nat) (ok : Nat → Prop) (W : World) (mb : Nat) (m : Mach) (vs js ds : Value) (bs : List Nat) (k b : Nat) (j : Job) (rv wv : Value) : Prop where
  at_ : At base ok W mb m vs js ds bs
  hk : bs[k]? = some b
  hjk : m.jobs[k]? = some j
  hb : W.heap[b]? = some (.cells #[rv, wv, .int .i64 j.state, .int .i64 (j.next : Int), .bool j.failed] 83 (0, 0))
  r2 : Row54 W rv j.reads
  r3 : Row54 W wv j.writes
theorem Here.of {base : Nat} {ok : Nat → Prop} {W : World} {mb : Nat} {m : Mach} {vs js ds : Value} {bs : List Nat} {k : Nat} {j : Job} (h : At base ok W mb m vs js ds bs) (hjk : m.jobs[k]? = some j) : ∃ b rv wv, Here base ok W mb m vs js ds bs k b j rv wv := by
  have hl : k < bs.length := by rw [h.len]; exact (List.getElem?_eq_some_iff.1 hjk).1
  obtain ⟨-, -, rv, wv, h1, h2, h3⟩ := h.at_ k _ j (List.getElem?_eq_getElem hl) hjk
  exact ⟨_, rv, wv, h, List.getElem?_eq_getElem hl, hjk, h1, h2, h3⟩
theorem Here.below {base : Nat} {ok : Nat → Prop} {W W' : World} {mb : Nat} {m : Mach} {vs js ds : Value} {bs : List Nat} {k b : Nat} {j : Job} {rv wv : Value} (h : Here base ok W mb m vs js ds bs k b j rv wv) (hB : Below W.heap.size W W') : Here base ok W' mb m vs js ds bs k b j rv wv :=
  ⟨h.at_.below hB, h.hk, h.hjk, blk_below h.hb hB, h.r2.below hB, h.r3.below hB⟩
/-- What a step leaves. -/
def StepDone (base : Nat) (ok : Nat → Prop) (W : World) (mb : Nat) (r : Mach × Int × Int) (e : Ending) (w' : World) : Prop :=
  e = .returned (.tuple #[.int .i64 r.2.1, .int .i64 r.2.2]) ∧ IsM base (fun q => ok q ∨ W.heap.size ≤ q) w' mb r.1 ∧ Turned ok W w'

theorem varAt_some {m : Mach} {x : Nat} (h : x < m.vars.length) : m.vars[x]? = some (varAt m x) := by
  unfold varAt
  rw [Int.toNat_natCast, List.getD_eq_getElem?_getD, List.getElem?_eq_getElem h]
  rfl

set_option maxHeartbeats 4000000 in
set_option maxRecDepth 100000 in
theorem step_none (base : Nat) (ok : Nat → Prop) (W : World) (mb : Nat) (m : Mach) (vs js ds : Value) (bs : List Nat) (id : Int) (h : At base ok W mb m vs js ds bs) (hn : getJob m id = none) :
    Calls Try.prog 20 #[ptr mb, .int .i64 id] W (StepDone base ok W mb (m, 0, 3)) := by
  obtain ⟨W1, hW1, K1, hB1⟩ : ∃ W1, W.alloc (.cells #[.int .i64 id] 3) = W1 ∧ W1.heap[W.heap.size]? = some (.cells #[.int .i64 id] 3 (0, 0)) ∧ Below W.heap.size W W1 := ⟨_, rfl, heap_alloc_new _ _, bOne _⟩
  have h1 := h.below hB1
  have C := Lib.hid (find_none W1 mb base vs js ds bs id h1.hm (by rw [h1.len]; exact h1.hj) (by rw [h1.len]; exact getJob_none hn))
  have q0 := blk_cell K1 0
  have HK := Lib.hid (And.intro h1 hB1)
  clear h h1 K1 hB1 hn
  go_enter Try.func20, Try.ntmps20
  go_wp2_with fail
  refine C.out.mono ?_
  rintro e w' ⟨rfl, rfl⟩
  go_wp2_with fail
  go_ret2
  exact ⟨rfl, ⟨vs, js, ds, bs, HK.out.1.mono fun q => .inl⟩, Turned.below HK.out.2⟩

set_option maxHeartbeats 4000000 in
set_option maxRecDepth 100000 in
theorem step_over (base : Nat) (ok : Nat → Prop) (W : World) (mb : Nat) (m : Mach) (vs js ds : Value) (bs : List Nat) (k b : Nat) (j : Job) (rv wv : Value) (h : Here base ok W mb m vs js ds bs k b j rv wv) (hM : MOk m) (h0 : j.state ≠ 0) (h1 : j.state ≠ 1) (h2 : j.state ≠ 2) (h3 : j.state ≠ 3) :
    Calls Try.prog 20 #[ptr mb, .int .i64 ((k : Int) + 1)] W (StepDone base ok W mb (m, j.state, 6)) := by
  have hu83 := Try.underlying83
  obtain ⟨W1, hW1, K1, hB1⟩ : ∃ W1, W.alloc (.cells #[.int .i64 ((k : Int) + 1)] 3) = W1 ∧ W1.heap[W.heap.size]? = some (.cells #[.int .i64 ((k : Int) + 1)] 3 (0, 0)) ∧ Below W.heap.size W W1 := ⟨_, rfl, heap_alloc_new _ _, bOne _⟩
  have hh := h.below hB1
  have C := Lib.hid (find_some W1 mb base vs js ds bs k b hh.at_.hm (by rw [hh.at_.len]; exact hh.at_.hj) hh.hk (by rw [hh.at_.len]; exact hM.jobs))
  have q0 := blk_cell K1 0
  have s2 := blk_cell hh.hb 2
  have c0 : (j.state == 0) = false := by simpa using h0
  have c1 : (j.state == 1) = false := by simpa using h1
  have c2 : (j.state == 2) = false := by simpa using h2
  have c3 : (j.state == 3) = false := by simpa using h3
  have HK := Lib.hid (And.intro hh hB1)
  clear h hh K1 hB1 hM h0 h1 h2 h3
  go_enter Try.func20, Try.ntmps20
  go_wp2_with fail
  refine C.out.mono ?_
  rintro e w' ⟨rfl, rfl⟩
  go_wp2_with fail
  go_ret2
  exact ⟨rfl, ⟨vs, js, ds, bs, HK.out.1.at_.mono fun q => .inl⟩, Turned.below HK.out.2⟩

/-- The row in which a commit's writes lie. -/
theorem Row54.form {W : World} {v : Value} {xs : List S54} (h : Row54 W v xs) (hn : 0 < xs.length) : ∃ ad c, v = .slice (some ad) xs.length c ∧ Kd.C k54 W (some ad) xs.length xs := by
  obtain ⟨A, c, rfl, hc, hC, hty⟩ := h
  obtain ⟨ad, rfl, -⟩ := hC.2.2 hn
  exact ⟨ad, c, rfl, hC⟩
theorem atW_some {j : Job} (h : j.next < j.writes.length) : j.writes[j.next]? = some (atW j) := by
  unfold atW
  rw [List.getD_eq_getElem?_getD, List.getElem?_eq_getElem h]
  rfl

theorem each_here {base : Nat} {ok : Nat → Prop} {W : World} {mb : Nat} {m : Mach} {js ds : Value} {bs : List Nat} {k b g cap x : Nat} {j : Job} {rv wv : Value} {cur : Array Value} (h : Here base ok W mb m (vrow g m.vars.length cap) js ds bs k b j rv wv) (hM : MOk m) (hnx : j.next < j.writes.length)
    (hg : W.heap[g]? = some (.cells cur 76 (0, 0))) (hx : (atW j).f0 = (x : Int)) (hxl : x < m.vars.length) (tt : Int) (pf : Nat) (lb : Array Value) (F : List Value → List Value) (v' : Vr) (hF : F (m.vars.flatMap cV) = (m.vars.set x v').flatMap cV) (eg : ∀ args W, (callFunc pf args).run Try.prog W = .ok (.enter pf args) W)
    (hdo : ∀ W', Below W.heap.size W W' → Calls Try.prog pf (#[.pointer (some ⟨g, x * 3, none⟩), .agg (stV (atW j))] ++ lb) W' fun e w' => e = .returned (.tuple #[]) ∧ Put g F W' w') :
    Calls Try.prog 33 #[ptr mb, ptr b, .int .i64 tt, .func (.func pf) #[] lb] W fun e w' => e = .returned (.tuple #[]) ∧
      At base ok w' mb { m with vars := m.vars.set x v', jobs := m.jobs.set k (onward j tt) } (vrow g m.vars.length cap) js ds bs ∧ Turned ok W w' ∧ w'.heap[b]? = some (.cells #[rv, wv, .int .i64 (onward j tt).state, .int .i64 ((onward j tt).next : Int), .bool (onward j tt).failed] 83 (0, 0)) := by
  have hJO := hM.each j (List.mem_of_getElem? h.hjk)
  obtain ⟨A, wc, rfl, hc, hC, hty⟩ := (fun x => x : Row54 W wv j.writes → Row54 W wv j.writes) h.r3
  have := each_calls W mb b g m.vars.length cap js ds rv A wc j tt x (atW j) pf lb F cur h.at_.hm h.hb hg hC (atW_some hnx) hx hxl hJO.lw hM.vars eg hdo
  rw [onward_writes] at this
  exact this.mono fun e w' ⟨h1, h2⟩ => ⟨h1, h.at_.eachDone hg h.hk h.hb h.r2 h.r3 (onward_reads _ _) (onward_writes _ _) h2 (by simp) hF⟩

/-- What the cases of a step share: the row of variables, the variable, the box of the number. -/
theorem step_facts {base : Nat} {ok : Nat → Prop} {W : World} {mb : Nat} {m : Mach} {vs js ds : Value} {bs : List Nat} {k b : Nat} {j : Job} {rv wv : Value} (h : Here base ok W mb m vs js ds bs k b j rv wv) (hM : MOk m) (hnx : j.next < j.writes.length) :
    ∃ (x g cap : Nat) (cur : Array Value), (atW j).f0 = (x : Int) ∧ x < m.vars.length ∧ m.vars[x]? = some (varAt m x) ∧ vs = vrow g m.vars.length cap ∧ W.heap[g]? = some (.cells cur 76 (0, 0)) ∧
      ∀ i u, (cV (varAt m x))[i]? = some u → i < 3 → W.cell? ⟨g, x * 3 + i, none⟩ = some u ∧ W.frozen? ⟨g, x * 3 + i, none⟩ = false := by
  have hJO := hM.each j (List.mem_of_getElem? h.hjk)
  obtain ⟨hi0', hi1'⟩ := hJO.writes (atW j) (List.mem_of_getElem? (atW_some hnx))
  obtain ⟨x, hx⟩ := Int.eq_ofNat_of_zero_le hi0'
  have hxl : x < m.vars.length := by omega
  have hv := varAt_some hxl
  obtain ⟨g, cap, cur, hvs, hg⟩ := vs_form h.at_.hv (by omega)
  subst hvs
  refine ⟨x, g, cap, cur, hx, hxl, hv, rfl, hg, ?_⟩
  rcases own_at h.at_.hv with ⟨h', h0'⟩ | ⟨g', c', h', -, -, -, hcell⟩
  · cases h'
  injection h' with h' h''
  injection h' with h'
  injection h' with h'
  subst h'
  intro i u hu hi
  exact hcell _ u (by rw [cells3 m.vars hv i hi]; exact hu)

set_option maxHeartbeats 4000000 in
set_option maxRecDepth 100000 in
theorem step_0 (base : Nat) (ok : Nat → Prop) (W : World) (mb : Nat) (m : Mach) (vs js ds : Value) (bs : List Nat) (k b : Nat) (j : Job) (rv wv : Value) (h : Here base ok W mb m vs js ds bs k b j rv wv) (hM : MOk m) (h0 : j.state = 0) :
    Calls Try.prog 20 #[ptr mb, .int .i64 ((k : Int) + 1)] W (StepDone base ok W mb (stepJ m ((k : Int) + 1) k j)) := by
  have hu83 := Try.underlying83
  have hu60 := Try.underlying60
  have hu76 := Try.underlying76
  have hu54 := Try.underlying54
  have hu57 := Try.underlying57
  have hu44 := Try.underlying44
  have hJO := hM.each j (List.mem_of_getElem? h.hjk)
  have hnx := hJO.next (.inl h0)
  obtain ⟨W1, hW1, K1, hB1⟩ : ∃ W1, W.alloc (.cells #[.int .i64 ((k : Int) + 1)] 3) = W1 ∧ W1.heap[W.heap.size]? = some (.cells #[.int .i64 ((k : Int) + 1)] 3 (0, 0)) ∧ Below W.heap.size W W1 := ⟨_, rfl, heap_alloc_new _ _, bOne _⟩
  have hh := h.below hB1
  have C := Lib.hid (find_some W1 mb base vs js ds bs k b hh.at_.hm (by rw [hh.at_.len]; exact hh.at_.hj) hh.hk (by rw [hh.at_.len]; exact hM.jobs))
  obtain ⟨x, g, cap, cur, hx, hxl, hv, hvs, hg, hcell⟩ := step_facts hh hM hnx
  obtain ⟨ad, wc, hwv, hC⟩ := hh.r3.form (by omega)
  subst hvs hwv
  have e2 := hcell 2 (.int .i64 (varAt m x).lock) rfl (by decide)
  obtain ⟨ad', had, a0, -, -, -⟩ := at_T54 hC (j.next : Int) (by omega) (by omega)
  injection had with had
  subst had
  have hsr : rd_T54 j.writes j.next = atW j := rfl
  rw [hsr, hx] at a0
  simp only [Int.toNat_natCast] at a0
  have q0 := blk_cell K1 0
  have s1 := blk_cell hh.hb 1
  have s2 := blk_cell hh.hb 2
  have s3 := blk_cell hh.hb 3
  have m1 := blk_cell hh.at_.hm 1
  have c0 := e2.1
  have i0 : (0 : Int) ≤ (j.next : Int) := by omega
  have i1 : (j.next : Int) < j.writes.length := by omega
  have i2 : (0 : Int) ≤ (x : Int) := by omega
  have i3 : (x : Int) < m.vars.length := by omega
  have hst : (j.state == 0) = true := by simpa using h0
  have HE := Lib.hid (fun W2 (hB2 : Below W1.heap.size W1 W2) => each_here (hh.below hB2) hM hnx (blk_below hg hB2) hx hxl 1 34 #[ptr W.heap.size] (fun xs => xs.set (x * 3 + 2) (.int .i64 ((k : Int) + 1))) { varAt m x with lock := (k : Int) + 1 } (flat_set m.vars hv 2 _ (by decide) rfl) (fun args W => rfl)
    (fun W' hW' => do_lock W' g (x * 3) W.heap.size ((k : Int) + 1) (varAt m x).lock (atW j) (((hB2.trans (hW'.mono hB2.size)).cell (p := ⟨g, x * 3 + 2, none⟩) (blk_lt hg)).trans e2.1) (((hB2.trans (hW'.mono hB2.size)).frozen (p := ⟨g, x * 3 + 2, none⟩) (blk_lt hg)).trans e2.2) (blk_cell (blk_below K1 (hB2.trans (hW'.mono hB2.size))) 0)))
  have HH := Lib.hid (And.intro hh (And.intro hg (And.intro hB1 (And.intro hx (And.intro hv h0)))))
  clear h hM h0 hJO K1 hB1 hh hx hxl hv hg hC hcell e2 hsr hnx
  by_cases hlk : (varAt m x).lock = 0
  · have hb0 : ((varAt m x).lock != 0) = false := bne_eq_false_iff_eq.mpr hlk
    have HL := Lib.hid hlk
    clear hlk
    go_enter Try.func20, Try.ntmps20
    go_wp2_with fail
    refine C.out.mono ?_
    rintro e w' ⟨rfl, rfl⟩
    go_wp2_with fail
    go_quiet (fail)
    go_wp2_with fail
    refine (HE.out _ (pw_below_drewN (Below.refl _ _) _)).mono ?_
    rintro e w3 ⟨rfl, h3, hT3, hb3⟩
    have HZ := Lib.hid (And.intro h3 hT3)
    have z2 := blk_cell hb3 2
    clear h3 hT3 hb3
    go_wp2_with fail
    go_ret2
    refine ⟨?_, ?_, ((Turned.below HH.out.2.2.1).trans (Turned.below (pw_below_drewN (Below.refl _ _) _))).trans HZ.out.2⟩
    · unfold stepJ
      rw [if_pos HH.out.2.2.2.2.2, HH.out.2.2.2.1, if_neg (by rw [HL.out]; decide)]
      rfl
    · unfold stepJ putVar
      rw [if_pos HH.out.2.2.2.2.2, HH.out.2.2.2.1, if_neg (by rw [HL.out]; decide)]
      exact ⟨_, _, _, _, HZ.out.1.mono fun q => .inl⟩
  · have hb0 : ((varAt m x).lock != 0) = true := bne_iff_ne.mpr hlk
    have HL := Lib.hid hlk
    clear hlk
    go_enter Try.func20, Try.ntmps20
    go_wp2_with fail
    refine C.out.mono ?_
    rintro e w' ⟨rfl, rfl⟩
    go_wp2_with fail
    go_quiet (fail)
    go_wp2_with fail
    go_ret2
    unfold stepJ
    rw [if_pos HH.out.2.2.2.2.2, HH.out.2.2.2.1, if_pos HL.out]
    refine ⟨by rw [HH.out.2.2.2.2.2]; rfl, ⟨_, _, _, _, (HH.out.1.below (pw_below_drewN (Below.refl _ _) _)).at_.mono fun q => .inl⟩, (Turned.below HH.out.2.2.1).trans (Turned.below (pw_below_drewN (Below.refl _ _) _))⟩

theorem flat_set2 (vars : List Vr) {x : Nat} {v : Vr} (h : vars[x]? = some v) (a b : Int) : ((vars.flatMap cV).set (x * 3) (.int .i64 a)).set (x * 3 + 1) (.int .i64 b) = (vars.set x { v with val := ⟨a, b⟩ }).flatMap cV := by
  have h1 := flat_set vars (v' := ⟨⟨a, v.val.f1⟩, v.lock⟩) h 0 (.int .i64 a) (by decide) rfl
  rw [Nat.add_zero] at h1
  rw [h1]
  have hl : x < vars.length := (List.getElem?_eq_some_iff.1 h).1
  rw [flat_set (vars.set x ⟨⟨a, v.val.f1⟩, v.lock⟩) (v := ⟨⟨a, v.val.f1⟩, v.lock⟩) (v' := ⟨⟨a, b⟩, v.lock⟩) (List.getElem?_set_self hl) 1 (.int .i64 b) (by decide) rfl, List.set_set]

set_option maxHeartbeats 4000000 in
set_option maxRecDepth 100000 in
theorem step_2 (base : Nat) (ok : Nat → Prop) (W : World) (mb : Nat) (m : Mach) (vs js ds : Value) (bs : List Nat) (k b : Nat) (j : Job) (rv wv : Value) (h : Here base ok W mb m vs js ds bs k b j rv wv) (hM : MOk m) (h0 : j.state = 2) :
    Calls Try.prog 20 #[ptr mb, .int .i64 ((k : Int) + 1)] W (StepDone base ok W mb (stepJ m ((k : Int) + 1) k j)) := by
  have hu83 := Try.underlying83
  have hJO := hM.each j (List.mem_of_getElem? h.hjk)
  have hnx := hJO.next (.inr (.inl h0))
  obtain ⟨W1, hW1, K1, hB1⟩ : ∃ W1, W.alloc (.cells #[.int .i64 ((k : Int) + 1)] 3) = W1 ∧ W1.heap[W.heap.size]? = some (.cells #[.int .i64 ((k : Int) + 1)] 3 (0, 0)) ∧ Below W.heap.size W W1 := ⟨_, rfl, heap_alloc_new _ _, bOne _⟩
  have hh := h.below hB1
  have C := Lib.hid (find_some W1 mb base vs js ds bs k b hh.at_.hm (by rw [hh.at_.len]; exact hh.at_.hj) hh.hk (by rw [hh.at_.len]; exact hM.jobs))
  obtain ⟨x, g, cap, cur, hx, hxl, hv, hvs, hg, hcell⟩ := step_facts hh hM hnx
  subst hvs
  have e0 := hcell 0 (.int .i64 (varAt m x).val.f0) rfl (by decide)
  have e1 := hcell 1 (.int .i64 (varAt m x).val.f1) rfl (by decide)
  have q0 := blk_cell K1 0
  have s2 := blk_cell hh.hb 2
  have hst0 : (j.state == 0) = false := by rw [h0]; rfl
  have hst1 : (j.state == 1) = false := by rw [h0]; rfl
  have hst2 : (j.state == 2) = true := by rw [h0]; rfl
  have HE := Lib.hid (fun W2 (hB2 : Below W1.heap.size W1 W2) => each_here (hh.below hB2) hM hnx (blk_below hg hB2) hx hxl 3 36 #[] (fun xs => (xs.set (x * 3) (.int .i64 (atW j).f1.f0)).set (x * 3 + 1) (.int .i64 (atW j).f1.f1)) { varAt m x with val := ⟨(atW j).f1.f0, (atW j).f1.f1⟩ } (flat_set2 m.vars hv _ _) (fun args W => rfl)
    (fun W' hW' => do_put W' g (x * 3) (varAt m x).val.f0 (varAt m x).val.f1 (atW j) (((hB2.trans (hW'.mono hB2.size)).cell (p := ⟨g, x * 3, none⟩) (blk_lt hg)).trans e0.1) (((hB2.trans (hW'.mono hB2.size)).frozen (p := ⟨g, x * 3, none⟩) (blk_lt hg)).trans e0.2) (((hB2.trans (hW'.mono hB2.size)).cell (p := ⟨g, x * 3 + 1, none⟩) (blk_lt hg)).trans e1.1) (((hB2.trans (hW'.mono hB2.size)).frozen (p := ⟨g, x * 3 + 1, none⟩) (blk_lt hg)).trans e1.2)))
  have HH := Lib.hid (And.intro hh (And.intro hg (And.intro hB1 (And.intro hx (And.intro hv h0)))))
  clear h hM h0 hJO K1 hB1 hh hx hxl hv hg hcell e0 e1 hnx
  go_enter Try.func20, Try.ntmps20
  go_wp2_with fail
  refine C.out.mono ?_
  rintro e w' ⟨rfl, rfl⟩
  go_wp2_with fail
  refine (HE.out _ (Below.refl _ _)).mono ?_
  rintro e w3 ⟨rfl, h3, hT3, hb3⟩
  have HZ := Lib.hid (And.intro h3 hT3)
  have z2 := blk_cell hb3 2
  clear h3 hT3 hb3
  go_wp2_with fail
  go_ret2
  refine ⟨?_, ?_, (Turned.below HH.out.2.2.1).trans HZ.out.2⟩
  · unfold stepJ
    rw [if_neg (by rw [HH.out.2.2.2.2.2]; decide), if_neg (by rw [HH.out.2.2.2.2.2]; decide), if_pos HH.out.2.2.2.2.2, HH.out.2.2.2.1]
    rfl
  · unfold stepJ putVar
    rw [if_neg (by rw [HH.out.2.2.2.2.2]; decide), if_neg (by rw [HH.out.2.2.2.2.2]; decide), if_pos HH.out.2.2.2.2.2, HH.out.2.2.2.1]
    exact ⟨_, _, _, _, HZ.out.1.mono fun q => .inl⟩

set_option maxHeartbeats 4000000 in
set_option maxRecDepth 100000 in
theorem step_3 (base : Nat) (ok : Nat → Prop) (W : World) (mb : Nat) (m : Mach) (vs js ds : Value) (bs : List Nat) (k b : Nat) (j : Job) (rv wv : Value) (h : Here base ok W mb m vs js ds bs k b j rv wv) (hM : MOk m) (h0 : j.state = 3) :
    Calls Try.prog 20 #[ptr mb, .int .i64 ((k : Int) + 1)] W (StepDone base ok W mb (stepJ m ((k : Int) + 1) k j)) := by
  have hu83 := Try.underlying83
  have hJO := hM.each j (List.mem_of_getElem? h.hjk)
  have hnx := hJO.next (.inr (.inr h0))
  obtain ⟨W1, hW1, K1, hB1⟩ : ∃ W1, W.alloc (.cells #[.int .i64 ((k : Int) + 1)] 3) = W1 ∧ W1.heap[W.heap.size]? = some (.cells #[.int .i64 ((k : Int) + 1)] 3 (0, 0)) ∧ Below W.heap.size W W1 := ⟨_, rfl, heap_alloc_new _ _, bOne _⟩
  have hh := h.below hB1
  have C := Lib.hid (find_some W1 mb base vs js ds bs k b hh.at_.hm (by rw [hh.at_.len]; exact hh.at_.hj) hh.hk (by rw [hh.at_.len]; exact hM.jobs))
  obtain ⟨x, g, cap, cur, hx, hxl, hv, hvs, hg, hcell⟩ := step_facts hh hM hnx
  subst hvs
  have e2 := hcell 2 (.int .i64 (varAt m x).lock) rfl (by decide)
  have q0 := blk_cell K1 0
  have s2 := blk_cell hh.hb 2
  have hst0 : (j.state == 0) = false := by rw [h0]; rfl
  have hst1 : (j.state == 1) = false := by rw [h0]; rfl
  have hst2 : (j.state == 2) = false := by rw [h0]; rfl
  have hst3 : (j.state == 3) = true := by rw [h0]; rfl
  have HEnd : Hid (Calls Try.prog 37 #[ptr b] W1 fun e w' => e = .returned (.int .i64 (endOf j)) ∧ w' = W1) := Lib.hid (end_calls W1 b rv wv j.state j.next j.failed hh.hb)
  have HE := Lib.hid (fun W2 (hB2 : Below W1.heap.size W1 W2) => each_here (hh.below hB2) hM hnx (blk_below hg hB2) hx hxl (endOf j) 38 #[] (fun xs => xs.set (x * 3 + 2) (.int .i64 0)) { varAt m x with lock := 0 } (flat_set m.vars hv 2 _ (by decide) rfl) (fun args W => rfl)
    (fun W' hW' => do_free W' g (x * 3) (varAt m x).lock (atW j) (((hB2.trans (hW'.mono hB2.size)).cell (p := ⟨g, x * 3 + 2, none⟩) (blk_lt hg)).trans e2.1) (((hB2.trans (hW'.mono hB2.size)).frozen (p := ⟨g, x * 3 + 2, none⟩) (blk_lt hg)).trans e2.2)))
  have HH := Lib.hid (And.intro hh (And.intro hg (And.intro hB1 (And.intro hx (And.intro hv h0)))))
  clear h hM h0 hJO K1 hB1 hh hx hxl hv hg hcell e2 hnx
  go_enter Try.func20, Try.ntmps20
  go_wp2_with fail
  refine C.out.mono ?_
  rintro e w' ⟨rfl, rfl⟩
  go_wp2_with fail
  refine HEnd.out.mono ?_
  rintro e w' ⟨rfl, rfl⟩
  go_wp2_with fail
  refine (HE.out _ (Below.refl _ _)).mono ?_
  rintro e w3 ⟨rfl, h3, hT3, hb3⟩
  have HZ := Lib.hid (And.intro h3 hT3)
  have z2 := blk_cell hb3 2
  clear h3 hT3 hb3
  go_wp2_with fail
  go_ret2
  refine ⟨?_, ?_, (Turned.below HH.out.2.2.1).trans HZ.out.2⟩
  · unfold stepJ
    rw [if_neg (by rw [HH.out.2.2.2.2.2]; decide), if_neg (by rw [HH.out.2.2.2.2.2]; decide), if_neg (by rw [HH.out.2.2.2.2.2]; decide), if_pos HH.out.2.2.2.2.2, HH.out.2.2.2.1]
    rfl
  · unfold stepJ putVar
    rw [if_neg (by rw [HH.out.2.2.2.2.2]; decide), if_neg (by rw [HH.out.2.2.2.2.2]; decide), if_neg (by rw [HH.out.2.2.2.2.2]; decide), if_pos HH.out.2.2.2.2.2, HH.out.2.2.2.1]
    exact ⟨_, _, _, _, HZ.out.1.mono fun q => .inl⟩

set_option maxHeartbeats 4000000 in
set_option maxRecDepth 100000 in
theorem step_1 (base : Nat) (ok : Nat → Prop) (W : World) (mb : Nat) (m : Mach) (vs js ds : Value) (bs : List Nat) (k b : Nat) (j : Job) (rv wv : Value) (h : Here base ok W mb m vs js ds bs k b j rv wv) (hM : MOk m) (h0 : j.state = 1) (hbase : base ≤ W.heap.size) :
    Calls Try.prog 20 #[ptr mb, .int .i64 ((k : Int) + 1)] W (StepDone base ok W mb (stepJ m ((k : Int) + 1) k j)) := by
  have hu83 := Try.underlying83
  have hJO := hM.each j (List.mem_of_getElem? h.hjk)
  obtain ⟨W1, hW1, K1, hB1⟩ : ∃ W1, W.alloc (.cells #[.int .i64 ((k : Int) + 1)] 3) = W1 ∧ W1.heap[W.heap.size]? = some (.cells #[.int .i64 ((k : Int) + 1)] 3 (0, 0)) ∧ Below W.heap.size W W1 := ⟨_, rfl, heap_alloc_new _ _, bOne _⟩
  have hh := h.below hB1
  have C := Lib.hid (find_some W1 mb base vs js ds bs k b hh.at_.hm (by rw [hh.at_.len]; exact hh.at_.hj) hh.hk (by rw [hh.at_.len]; exact hM.jobs))
  have q0 := blk_cell K1 0
  have s2 := blk_cell hh.hb 2
  have hst0 : (j.state == 0) = false := by rw [h0]; rfl
  have hst1 : (j.state == 1) = true := by rw [h0]; rfl
  have HD : Hid (Calls Try.prog 35 #[ptr mb, .int .i64 ((k : Int) + 1), ptr b] W1 fun e w' => e = .returned (.tuple #[]) ∧ (∃ vs js ds bs, At base (fun q => ok q ∨ W1.heap.size ≤ q) w' mb (decideM m ((k : Int) + 1) k j) vs js ds bs ∧ bs[k]? = some b) ∧ Turned ok W1 w') := Lib.hid (by
    cases hf : fitsM m ((k : Int) + 1) j with
    | false => exact (decide_no base ok W1 mb b k m vs js ds bs ((k : Int) + 1) j hh.at_ hh.hk hh.hjk hJO.reads hJO.lr hf).mono fun e w' ⟨h1, ⟨a, b, c, d, h2, h3⟩, h4⟩ => ⟨h1, ⟨a, b, c, d, h2.mono fun q => .inl, h3⟩, h4⟩
    | true => exact decide_yes base ok W1 mb b k m vs js ds bs ((k : Int) + 1) j hh.at_ hh.hk hh.hjk hJO.reads hJO.lr hf hM.decided (Nat.le_trans hbase hB1.size))
  have HH := Lib.hid (And.intro hh (And.intro hB1 (And.intro h0 hbase)))
  clear h hM h0 hJO K1 hB1 hh hbase
  go_enter Try.func20, Try.ntmps20
  go_wp2_with fail
  refine C.out.mono ?_
  rintro e w' ⟨rfl, rfl⟩
  go_wp2_with fail
  refine HD.out.mono ?_
  rintro e w3 ⟨rfl, ⟨vs3, js3, ds3, bs3, h3, hbs3⟩, hT3⟩
  have hl : k < (decideM m ((k : Int) + 1) k j).jobs.length := by rw [← h3.len]; exact (List.getElem?_eq_some_iff.1 hbs3).1
  obtain ⟨-, -, rv3, wv3, hb3, -, -⟩ := h3.at_ k b _ hbs3 (List.getElem?_eq_getElem hl)
  have z2 := blk_cell hb3 2
  have HZ := Lib.hid (And.intro h3 (And.intro hT3 hl))
  have z2' : w3.cell? ⟨b, 2, none⟩ = some (.int .i64 ((decideM m ((k : Int) + 1) k j).jobs.getD k j).state) := by
    rw [List.getD_eq_getElem?_getD, List.getElem?_eq_getElem hl]
    exact z2
  clear z2
  clear h3 hT3 hb3 hl hbs3
  go_wp2_with fail
  go_ret2
  have hs : stepJ m ((k : Int) + 1) k j = (decideM m ((k : Int) + 1) k j, ((decideM m ((k : Int) + 1) k j).jobs.getD k j).state, 0) := by
    unfold stepJ
    rw [if_neg (by rw [HH.out.2.2.1]; decide), if_pos HH.out.2.2.1]
  refine ⟨?_, ?_, (Turned.below HH.out.2.1).trans HZ.out.2.1⟩
  · rw [hs]
    rfl
  · rw [hs]
    exact ⟨vs3, js3, ds3, bs3, HZ.out.1.mono fun q hq => hq.elim .inl fun h => .inr (Nat.le_trans HH.out.2.1.size h)⟩

theorem step_calls (base : Nat) (ok : Nat → Prop) (W : World) (mb : Nat) (m : Mach) (id : Int) (h : IsM base ok W mb m) (hM : MOk m) (hbase : base ≤ W.heap.size) :
    Calls Try.prog 20 #[ptr mb, .int .i64 id] W (StepDone base ok W mb (stepM m id)) := by
  obtain ⟨vs, js, ds, bs, h⟩ := h
  unfold stepM
  cases hj : getJob m id with
  | none => exact step_none base ok W mb m vs js ds bs id h hj
  | some j =>
    obtain ⟨k, rfl, hjk⟩ := getJob_some hj
    obtain ⟨b, rv, wv, hh⟩ := Here.of h hjk
    rw [show ((k : Int) + 1 - 1).toNat = k by omega]
    show Calls _ _ _ _ (StepDone base ok W mb (stepJ m ((k : Int) + 1) k j))
    by_cases h0 : j.state = 0
    · exact step_0 base ok W mb m vs js ds bs k b j rv wv hh hM h0
    by_cases h1 : j.state = 1
    · exact step_1 base ok W mb m vs js ds bs k b j rv wv hh hM h1 hbase
    by_cases h2 : j.state = 2
    · exact step_2 base ok W mb m vs js ds bs k b j rv wv hh hM h2
    by_cases h3 : j.state = 3
    · exact step_3 base ok W mb m vs js ds bs k b j rv wv hh hM h3
    · have : stepJ m ((k : Int) + 1) k j = (m, j.state, 6) := by
        unfold stepJ
        rw [if_neg h0, if_neg h1, if_neg h2, if_neg h3]
      rw [this]
      exact step_over base ok W mb m vs js ds bs k b j rv wv hh hM h0 h1 h2 h3

end Go.Proofs.Ytkecbdeekpbbjaa.Q
