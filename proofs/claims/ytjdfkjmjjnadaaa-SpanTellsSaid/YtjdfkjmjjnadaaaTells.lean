/- The walk of SpanTells: which spans there are, how two stand, and what comes of them, is the document's. -/
import Derived.Test.YtjdfkjmjjnadaaaMoves
import Derived.Test.YtjdfkjmjjnadaaaGrow
import Derived.Test.YtjdfkjmjjnadaaaRowWalks
set_option linter.unusedSimpArgs false
set_option linter.unusedVariables false
namespace Go.Proofs.Ytjdfkjmjjnadaaa
open Go.ChangeShapes Go.WideShapes Go.ChangeAt Go.RowKit Go.Joins Ieee

theorem c1 : CS 13830554455654793216 4617315517961601024 none := ⟨okF_of (by decide +kernel), okF_of (by decide +kernel), by decide +kernel⟩
theorem c2 : CS 4602678819172646912 4617315517961601024 none := ⟨okF_of (by decide +kernel), okF_of (by decide +kernel), by decide +kernel⟩

/-- What the law makes of a number: the span's, or the one that stands for none. -/
def xS : Sp → Value
  | some (p, q) => .complex .f64 (fo p) (fo q)
  | none => .complex .f64 13830554455654793216 4617315517961601024
def yS : Sp → Value
  | some (p, q) => .complex .f64 (fo p) (fo q)
  | none => .complex .f64 4602678819172646912 4617315517961601024
theorem xS_cs {s : Sp} (h : OKS s) : ∃ a b, xS s = .complex .f64 a b ∧ CS a b s := by
  rcases s with _ | ⟨p, q⟩
  · exact ⟨_, _, rfl, c1⟩
  · exact ⟨_, _, rfl, h.cs⟩
theorem yS_cs {s : Sp} (h : OKS s) : ∃ a b, yS s = .complex .f64 a b ∧ CS a b s := by
  rcases s with _ | ⟨p, q⟩
  · exact ⟨_, _, rfl, c2⟩
  · exact ⟨_, _, rfl, h.cs⟩
theorem OKS.move {s : Sp} (y : Int) : OKS (moveS s y) := by
  unfold moveS
  split
  · trivial
  · split
    · trivial
    · exact OKS.mk _ _
theorem rS_form (s : Sp) : ∃ x y z, rS s = .agg #[.int .i64 x, .int .i64 y, .bool z] := by
  rcases s with _ | ⟨p, q⟩ <;> exact ⟨_, _, _, rfl⟩
theorem cS_form (s : Sp) : ∃ x y, cS s = .complex .f64 x y := by
  rcases s with _ | ⟨p, q⟩ <;> exact ⟨_, _, rfl⟩

theorem before_b {a b c d : Nat} {s t : Sp} (h : CS a b s) (k : CS c d t) (w : World) :
    Calls Try.prog 15 #[.complex .f64 a b, .complex .f64 c d] w fun e w' => e = .returned (.bool (befo s t)) ∧ Below w.heap.size w w' :=
  (before_num _ _ _ _ _ _ _ h k).mono fun _ _ hh => ⟨hh.1, hh.2 ▸ Below.refl _ _⟩
theorem meet_b {a b c d : Nat} {s t : Sp} (h : CS a b s) (k : CS c d t) (w : World) :
    Calls Try.prog 17 #[.complex .f64 a b, .complex .f64 c d] w fun e w' => e = .returned (.bool (meet s t)) ∧ Below w.heap.size w w' :=
  (meet_num _ _ _ _ _ _ _ h k).mono fun _ _ hh => ⟨hh.1, hh.2 ▸ Below.refl _ _⟩

set_option maxHeartbeats 4000000 in
theorem tells_walk (a1 a2 b1 b2 y : Int) (hy : -9223372036854775808 ≤ y ∧ y ≤ 9223372036854775807) (w : World) :
    Calls Try.prog 3 #[.agg #[.int .i64 a1, .int .i64 a2], .agg #[.int .i64 b1, .int .i64 b2], .int .i64 y] w
      fun e w' => e = .returned (.bool true) ∧ Below w.heap.size w w' := by
  have L1 := Lib.hid fun W => lof_num a1 a2 W
  have L2 := Lib.hid fun W => lof_num b1 b2 W
  have R1 := Lib.hid fun W => rof_num a1 a2 W
  have R2 := Lib.hid fun W => rof_num b1 b2 W
  have K1 := Lib.hid (OKS.mk a1 a2)
  have K2 := Lib.hid (OKS.mk b1 b2)
  generalize mkSp a1 a2 = s at *
  generalize mkSp b1 b2 = t at *
  have S1 := Lib.hid fun W => same_num s W K1.out
  have S2 := Lib.hid fun W => same_num t W K2.out
  have S3 := Lib.hid fun W => same_num (joinS s t) W (K1.out.join K2.out)
  have S4 := Lib.hid fun W => same_num (moveS s y) W (OKS.move y)
  have Q1 := Lib.hid fun W => rbefore_num s t W
  have Q2 := Lib.hid fun W => rmeet_num s t W
  have Q3 := Lib.hid fun W => rjoin_num s t W K1.out K2.out
  have Q4 := Lib.hid fun W => rmove_num s y W K1.out hy
  obtain ⟨r1, r2, r3, hr⟩ := rS_form s
  obtain ⟨u1, u2, u3, hu⟩ := rS_form t
  obtain ⟨g1, g2, g3, hg⟩ := rS_form (joinS s t)
  obtain ⟨m1, m2, m3, hm⟩ := rS_form (moveS s y)
  obtain ⟨k1, k2, hk⟩ := cS_form s
  obtain ⟨l1, l2, hl⟩ := cS_form t
  obtain ⟨i1, i2, hi⟩ := cS_form (joinS s t)
  obtain ⟨n1, n2, hn⟩ := cS_form (moveS s y)
  obtain ⟨x1, x2, hx, cx⟩ := xS_cs K1.out
  obtain ⟨y1, y2, hy2, cy⟩ := yS_cs K2.out
  have P1 := Lib.hid fun W => before_b cx cy W
  have P2 := Lib.hid fun W => meet_b cx cy W
  have P3 := Lib.hid fun W => join_num _ _ _ _ _ _ W cx cy
  have P4 := Lib.hid fun W => move_num _ _ _ y W cx
  have X1 : s.isSome = true → k1 = x1 ∧ k2 = x2 := by
    intro h
    rcases s with _ | ⟨p, q⟩
    · cases h
    · simp only [cS, xS] at hk hx
      rw [hk] at hx
      simpa using hx
  have X2 : t.isSome = true → l1 = y1 ∧ l2 = y2 := by
    intro h
    rcases t with _ | ⟨p, q⟩
    · cases h
    · simp only [cS, yS] at hl hy2
      rw [hl] at hy2
      simpa using hy2
  have Z1 : s.isSome = false → x1 = 13830554455654793216 ∧ x2 = 4617315517961601024 := by
    intro h
    rcases s with _ | ⟨p, q⟩
    · simp only [xS] at hx; injection hx with _ h1 h2; exact ⟨h1.symm, h2.symm⟩
    · cases h
  have Z2 : t.isSome = false → y1 = 4602678819172646912 ∧ y2 = 4617315517961601024 := by
    intro h
    rcases t with _ | ⟨p, q⟩
    · simp only [yS] at hy2; injection hy2 with _ h1 h2; exact ⟨h1.symm, h2.symm⟩
    · cases h
  rw [hr] at R1 S1 Q1 Q2 Q3 Q4
  rw [hu] at R2 S2 Q1 Q2 Q3
  rw [hg] at S3 Q3
  rw [hm] at S4 Q4
  rw [hk] at L1 S1
  rw [hl] at L2 S2
  rw [hi] at S3 P3
  rw [hn] at S4 P4
  clear hr hu hg hm hk hl hi hn hx hy2 cx cy K1 K2 hy
  generalize befo s t = be at *
  generalize meet s t = me at *
  generalize (joinS s t).isSome = js at *
  generalize (moveS s y).isSome = ms at *
  generalize s.isSome = is at *
  generalize t.isSome = it at *
  have X1 := Lib.hid X1
  have X2 := Lib.hid X2
  have Z1 := Lib.hid Z1
  have Z2 := Lib.hid Z2
  go_enter Try.func3, Try.ntmps3
  go_wp2_with (go_at_call 9; (with_reducible refine (alive_num _).mono ?_); rintro e w' ⟨rfl, rfl⟩)
  refine (L1.out _).mono ?_
  rintro e w1 ⟨rfl, hb1⟩
  obtain ⟨hc1, -⟩ := bcell hb1
  have hz1 := hb1.size
  simp only [World.size_alloc] at hz1 hc1
  go_wp2_with fail
  refine (L2.out _).mono ?_
  rintro e w2 ⟨rfl, hb2⟩
  have hc2 := fun b o h => ((bcell hb2).1 b o (Nat.lt_of_lt_of_le h hz1)).trans (hc1 b o h)
  have HB := bAfter (bAfter (bTwo _ _) hb1) hb2
  have hz2 := Nat.le_trans hz1 hb2.size
  clear hb1 hb2 hz1 hc1
  have g1 := (hc2 w.heap.size 0 (by omega)).trans (show _ = some (.int .i64 a1) by simp)
  have g2 := (hc2 w.heap.size 1 (by omega)).trans (show _ = some (.int .i64 a2) by simp)
  have g3 := (hc2 (w.heap.size + 1) 0 (by omega)).trans (show _ = some (.int .i64 b1) by simp)
  have g4 := (hc2 (w.heap.size + 1) 1 (by omega)).trans (show _ = some (.int .i64 b2) by simp)
  clear hc2
  have HB := Lib.hid HB
  go_wp2_with fail
  have F1 := fun W (hB : Below w2.heap.size w2 W) => (hB.cell (p := ⟨w.heap.size, 0, none⟩) (by show w.heap.size < _; omega)).trans g1
  have F2 := fun W (hB : Below w2.heap.size w2 W) => (hB.cell (p := ⟨w.heap.size, 1, none⟩) (by show w.heap.size < _; omega)).trans g2
  have F3 := fun W (hB : Below w2.heap.size w2 W) => (hB.cell (p := ⟨w.heap.size + 1, 0, none⟩) (by show w.heap.size + 1 < _; omega)).trans g3
  have F4 := fun W (hB : Below w2.heap.size w2 W) => (hB.cell (p := ⟨w.heap.size + 1, 1, none⟩) (by show w.heap.size + 1 < _; omega)).trans g4
  apply wp_region_grow 12 (by kernel_rfl) (by kernel_rfl) (by kernel_rfl)
  simp only [List.take_succ_cons, List.take_zero, List.drop_succ_cons, List.drop_zero]
  repeat
    first
      | (apply gw_skip (by rfl); simp only [Act.put, List.setIfInBounds_toArray, List.set_cons_zero, List.set_cons_succ])
      | (apply gw_val (by rfl)
         · (intro W hB hD; go_simp; try rfl)
         simp only [Act.put, List.setIfInBounds_toArray, List.set_cons_zero, List.set_cons_succ])
      | (apply gw_call (by rfl)
         · (intro W hB hD; go_simp; exact ⟨rfl, rfl⟩)
         · (intro W hB hD; first | with_reducible exact R1.out _ | with_reducible exact R2.out _)
         simp only [Act.put, List.setIfInBounds_toArray, List.set_cons_zero, List.set_cons_succ])
  apply gw_alloc (by rfl)
  · intro W hB hD
    go_simp
    rfl
  intro p1 hp1
  simp only [Act.put, List.setIfInBounds_toArray, List.set_cons_zero, List.set_cons_succ]
  apply gw_alloc (by rfl)
  · intro W hB hD
    go_simp
    rfl
  intro p2 hp2
  simp only [Act.put, List.setIfInBounds_toArray, List.set_cons_zero, List.set_cons_succ]
  apply gw_nil
  intro W hW hF hP
  simp [List.forall_mem_append, blockOf] at hF hP
  obtain ⟨h1, h2⟩ := hF
  have hs1 := (Array.getElem?_eq_some_iff.1 h1).1
  have hs2 := (Array.getElem?_eq_some_iff.1 h2).1
  have HP : ¬ p2 = p1 := fun h => hP h.symm
  have c10 : W.cell? ⟨p1, 0, none⟩ = some (.int .i64 0) := by simp [World.cell?, h1]
  have c11 : W.cell? ⟨p1, 1, none⟩ = some (.int .i64 0) := by simp [World.cell?, h1]
  have c12 : W.cell? ⟨p1, 2, none⟩ = some (.bool false) := by simp [World.cell?, h1]
  have c20 : W.cell? ⟨p2, 0, none⟩ = some (.int .i64 0) := by simp [World.cell?, h2]
  have c21 : W.cell? ⟨p2, 1, none⟩ = some (.int .i64 0) := by simp [World.cell?, h2]
  have c22 : W.cell? ⟨p2, 2, none⟩ = some (.bool false) := by simp [World.cell?, h2]
  have z1 : ∀ o, W.frozen? ⟨p1, o, none⟩ = false := by intro o; simp [World.frozen?, h1]
  have z2 : ∀ o, W.frozen? ⟨p2, o, none⟩ = false := by intro o; simp [World.frozen?, h2]
  go_wp2_with fail
  generalize hW3 : World.setCell _ _ _ = W3
  have B3 : Below w.heap.size w W3 := by
    rw [← hW3]
    have hs := HB.out.size
    exact ((((((HB.out.trans (hW.mono hs)).setCell (by show _ ≤ p1; omega) _).setCell (by show _ ≤ p1; omega) _).setCell (by show _ ≤ p1; omega) _).setCell (by show _ ≤ p2; omega) _).setCell (by show _ ≤ p2; omega) _).setCell (by show _ ≤ p2; omega) _
  have d10 : W3.cell? ⟨p1, 0, none⟩ = some (.int .i64 r1) := by rw [← hW3]; simp [c10, c11, c12, HP, go_sem]
  have d11 : W3.cell? ⟨p1, 1, none⟩ = some (.int .i64 r2) := by rw [← hW3]; simp [c10, c11, c12, HP, go_sem]
  have d12 : W3.cell? ⟨p1, 2, none⟩ = some (.bool r3) := by rw [← hW3]; simp [c10, c11, c12, HP, go_sem]
  have d20 : W3.cell? ⟨p2, 0, none⟩ = some (.int .i64 u1) := by rw [← hW3]; simp [c20, c21, c22, hP, go_sem]
  have d21 : W3.cell? ⟨p2, 1, none⟩ = some (.int .i64 u2) := by rw [← hW3]; simp [c20, c21, c22, hP, go_sem]
  have d22 : W3.cell? ⟨p2, 2, none⟩ = some (.bool u3) := by rw [← hW3]; simp [c20, c21, c22, hP, go_sem]
  have hq1 : p1 < W3.heap.size := by rw [← hW3]; simpa [World.setCell] using hs1
  have hq2 : p2 < W3.heap.size := by rw [← hW3]; simpa [World.setCell] using hs2
  clear hW3 c10 c11 c12 c20 c21 c22 z1 z2 h1 h2 hs1 hs2 HP hP F1 F2 F3 F4 g1 g2 g3 g4
  have B3 := Lib.hid B3
  refine (S1.out _).mono ?_
  rintro e W4 ⟨rfl, hb4⟩
  have hc4 := (bcell hb4).1
  have hz4 := hb4.size
  go_wp2_with fail
  refine (S2.out _).mono ?_
  rintro e W5 ⟨rfl, hb5⟩
  have hc5 := fun b o h => ((bcell hb5).1 b o (Nat.lt_of_lt_of_le h hz4)).trans (hc4 b o h)
  have e10 := (hc5 _ _ hq1).trans d10
  have e11 := (hc5 _ _ hq1).trans d11
  have e12 := (hc5 _ _ hq1).trans d12
  have e20 := (hc5 _ _ hq2).trans d20
  have e21 := (hc5 _ _ hq2).trans d21
  have e22 := (hc5 _ _ hq2).trans d22
  have hy1 := Nat.lt_of_lt_of_le hq1 (Nat.le_trans hz4 hb5.size)
  have hy2 := Nat.lt_of_lt_of_le hq2 (Nat.le_trans hz4 hb5.size)
  have B5 := Lib.hid (bAfter (bAfter B3.out hb4) hb5)
  clear hc5 hc4 hz4 hb4 hb5 d10 d11 d12 d20 d21 d22 hq1 hq2 B3
  have HX : (is = true ∧ k1 = x1 ∧ k2 = x2) ∨ (is = false ∧ x1 = 13830554455654793216 ∧ x2 = 4617315517961601024) := by
    cases is
    · exact .inr ⟨rfl, Z1.out rfl⟩
    · exact .inl ⟨rfl, X1.out rfl⟩
  have HY : (it = true ∧ l1 = y1 ∧ l2 = y2) ∨ (it = false ∧ y1 = 4602678819172646912 ∧ y2 = 4617315517961601024) := by
    cases it
    · exact .inr ⟨rfl, Z2.out rfl⟩
    · exact .inl ⟨rfl, X2.out rfl⟩
  clear X1 X2 Z1 Z2 L1 L2 R1 R2 S1 S2
  have G1 := Lib.hid fun W (hB : Below W5.heap.size W5 W) => (hB.cell (p := ⟨p1, 0, none⟩) hy1).trans e10
  have G2 := Lib.hid fun W (hB : Below W5.heap.size W5 W) => (hB.cell (p := ⟨p1, 1, none⟩) hy1).trans e11
  have G3 := Lib.hid fun W (hB : Below W5.heap.size W5 W) => (hB.cell (p := ⟨p1, 2, none⟩) hy1).trans e12
  have G4 := Lib.hid fun W (hB : Below W5.heap.size W5 W) => (hB.cell (p := ⟨p2, 0, none⟩) hy2).trans e20
  have G5 := Lib.hid fun W (hB : Below W5.heap.size W5 W) => (hB.cell (p := ⟨p2, 1, none⟩) hy2).trans e21
  have G6 := Lib.hid fun W (hB : Below W5.heap.size W5 W) => (hB.cell (p := ⟨p2, 2, none⟩) hy2).trans e22
  clear e10 e11 e12 e20 e21 e22 hy1 hy2 HB hp1 hp2 hW
  rcases HX with ⟨rfl, rfl, rfl⟩ | ⟨rfl, rfl, rfl⟩ <;> rcases HY with ⟨rfl, rfl, rfl⟩ | ⟨rfl, rfl, rfl⟩
  all_goals
    go_wp2_with fail
    refine (P3.out _).mono ?_
    rintro e w' ⟨rfl, rfl⟩
    go_wp2_with fail
    refine (P4.out _).mono ?_
    rintro e w' ⟨rfl, rfl⟩
    go_wp2_with fail
    replace G1 := G1.out; replace G2 := G2.out; replace G3 := G3.out; replace G4 := G4.out; replace G5 := G5.out; replace G6 := G6.out
    apply wp_region_grows (by kernel_rfl) (by kernel_rfl)
    repeat
      first
        | (apply gw_val (by rfl)
           · (intro W hB hD; go_simp; try rfl)
           simp only [Act.put, List.setIfInBounds_toArray, List.set_cons_zero, List.set_cons_succ])
        | (apply gw_call (by rfl)
           · (intro W hB hD; go_simp; exact ⟨rfl, rfl⟩)
           · (intro W hB hD; first | with_reducible exact P1.out _ | with_reducible exact P2.out _ | with_reducible exact Q1.out _ | with_reducible exact Q2.out _ | with_reducible exact Q3.out _ | with_reducible exact Q4.out _ | with_reducible exact S3.out _ | with_reducible exact S4.out _)
           simp only [Act.put, List.setIfInBounds_toArray, List.set_cons_zero, List.set_cons_succ])
    apply gw_nil
    intro W hW _ _
    have HZ := Lib.hid (B5.out.trans (hW.mono B5.out.size))
    clear hW G1 G2 G3 G4 G5 G6
    go_wp2_with fail
    go_ret
    exact ⟨rfl, HZ.out⟩

theorem open_i64 {a : Int} (h : (Lit.int .i64 a).wf = true) : -9223372036854775808 ≤ a ∧ a ≤ 9223372036854775807 := by
  simp only [Lit.wf, Bool.and_eq_true, decide_eq_true_eq] at h
  have m1 : IntKind.i64.min = -9223372036854775808 := by decide
  have m2 : IntKind.i64.max = 9223372036854775807 := by decide
  rw [m1, m2] at h
  omega

theorem walk_SpanTells {H : Type} {enc : TypeId × Value → H} (W : World) (base : Nat) (v0 : Value) (d0 : DataW H) (p0 : List MemPlace) (o0 : Value.okWide Try.prog W .any base 23 v0) (h0 : DataW.Trod enc Try.prog W 0 (fun _ => true) true 23 v0 d0 p0) (v1 : Value) (d1 : DataW H) (p1 : List MemPlace) (o1 : Value.okWide Try.prog W .any base 23 v1) (h1 : DataW.Trod enc Try.prog W 0 (fun _ => true) true 23 v1 d1 p1) (v2 : Value) (d2 : DataW H) (p2 : List MemPlace) (o2 : Value.okWide Try.prog W .any base 2 v2) (h2 : DataW.Trod enc Try.prog W 0 (fun _ => true) true 2 v2 d2 p2) {P : Prop} (_hsz : P) :
    Calls Try.prog 3 #[v0, v1, v2] W fun e w' => e = .returned (.bool true) ∧ Below W.heap.size W w' := by
  obtain ⟨a0, a1, rfl, _, _⟩ := open_two o0 h0
  obtain ⟨b0, b1, rfl, _, _⟩ := open_two o1 h1
  obtain ⟨y, rfl, _, _, wy⟩ := open_int Try.underlying2 o2 h2
  exact tells_walk a0 a1 b0 b1 y (open_i64 wy) W

end Go.Proofs.Ytjdfkjmjjnadaaa
