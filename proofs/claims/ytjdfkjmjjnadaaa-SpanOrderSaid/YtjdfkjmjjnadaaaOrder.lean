/- The walk of SpanOrder: Before is an order; two that meet do so both ways; of three each two stand in one way. -/
import Derived.Test.YtjdfkjmjjnadaaaRowWalks
set_option linter.unusedSimpArgs false
set_option linter.unusedVariables false
namespace Go.Proofs.Ytjdfkjmjjnadaaa
open Go.ChangeShapes Go.WideShapes Go.ChangeAt Go.RowKit Go.Joins Ieee

theorem meet_comm (s t : Sp) : meet t s = meet s t := by
  rcases s with _ | ⟨p, q⟩ <;> rcases t with _ | ⟨r, u⟩ <;> simp [meet, Bool.and_comm]

set_option maxHeartbeats 4000000 in
theorem order_walk (a1 a2 b1 b2 c1 c2 : Int) (w : World) :
    Calls Try.prog 5 #[.agg #[.int .i64 a1, .int .i64 a2], .agg #[.int .i64 b1, .int .i64 b2], .agg #[.int .i64 c1, .int .i64 c2]] w
      fun e w' => e = .returned (.bool true) ∧ Below w.heap.size w w' := by
  have L1 := Lib.hid fun W => lof_num a1 a2 W
  have L2 := Lib.hid fun W => lof_num b1 b2 W
  have L3 := Lib.hid fun W => lof_num c1 c2 W
  have K1 := Lib.hid (OKS.mk a1 a2)
  have K2 := Lib.hid (OKS.mk b1 b2)
  have K3 := Lib.hid (OKS.mk c1 c2)
  generalize mkSp a1 a2 = s at *
  generalize mkSp b1 b2 = t at *
  generalize mkSp c1 c2 = u at *
  rcases s with _ | ⟨p1, q1⟩ <;> rcases t with _ | ⟨p2, q2⟩ <;> rcases u with _ | ⟨p3, q3⟩
  all_goals
    simp only [cS, Option.isSome] at L1 L2 L3
    go_enter Try.func5, Try.ntmps5
    go_wp2_with (go_at_call 9; (with_reducible refine (alive_num _).mono ?_); rintro e w' ⟨rfl, rfl⟩)
    refine (L1.out _).mono ?_
    rintro e w1 ⟨rfl, hb1⟩
    obtain ⟨hc1, -⟩ := bcell hb1
    have hz1 := hb1.size
    simp only [World.size_alloc] at hz1 hc1
    go_wp2_with fail
    refine (L2.out _).mono ?_
    rintro e w2 ⟨rfl, hb2⟩
    have hc2 := fun b o h => ((bcell hb2).1 b o (Nat.lt_of_lt_of_le h hz1)).trans (hc1 b o h)
    clear hc1
    go_wp2_with fail
    refine (L3.out _).mono ?_
    rintro e w3 ⟨rfl, hb3⟩
    have hz3 := Nat.le_trans hz1 (Nat.le_trans hb2.size hb3.size)
    have HB := Lib.hid (bAfter (bAfter (bAfter (bThree _ _ _) hb1) hb2) hb3)
    clear hb1 hb2 hb3 hc2 hz1
  iterate 7 (· go_wp2; go_ret; exact ⟨rfl, HB.out⟩)
  have k1 := K1.out
  have k2 := K2.out
  have k3 := K3.out
  simp only [OKS] at k1 k2 k3
  have B1 := Lib.hid fun W => before_num _ _ _ _ _ _ W K1.out.cs K2.out.cs
  have B2 := Lib.hid fun W => before_num _ _ _ _ _ _ W K2.out.cs K1.out.cs
  have B3 := Lib.hid fun W => before_num _ _ _ _ _ _ W K1.out.cs K1.out.cs
  have B4 := Lib.hid fun W => before_num _ _ _ _ _ _ W K2.out.cs K3.out.cs
  have B5 := Lib.hid fun W => before_num _ _ _ _ _ _ W K1.out.cs K3.out.cs
  have M1 := Lib.hid fun W => meet_num _ _ _ _ _ _ W K1.out.cs K2.out.cs
  have M2 := Lib.hid fun W => meet_num _ _ _ _ _ _ W K2.out.cs K1.out.cs
  rw [meet_comm] at M2
  have G3 : befo (some (p1, q1)) (some (p1, q1)) = false := by simp [befo]; omega
  have G1 : meet (some (p1, q1)) (some (p2, q2)) = (!befo (some (p1, q1)) (some (p2, q2)) && !befo (some (p2, q2)) (some (p1, q1))) := by simp [meet]
  have G2 : (befo (some (p1, q1)) (some (p2, q2)) && befo (some (p2, q2)) (some (p1, q1))) = false := by
    simp only [befo]; rw [← Bool.decide_and, decide_eq_false_iff_not]; omega
  have G4 : befo (some (p1, q1)) (some (p2, q2)) = true → befo (some (p2, q2)) (some (p3, q3)) = true → befo (some (p1, q1)) (some (p3, q3)) = true := by
    simp only [befo, decide_eq_true_eq]; omega
  rw [G3] at B3
  rw [G1] at M1 M2
  clear G1 G3 k1 k2 k3 K1 K2 K3 L1 L2 L3
  generalize befo (some (p1, q1)) (some (p2, q2)) = x at *
  generalize befo (some (p2, q2)) (some (p1, q1)) = y at *
  generalize befo (some (p2, q2)) (some (p3, q3)) = z at *
  generalize befo (some (p1, q1)) (some (p3, q3)) = v at *
  have G : (x = false ∧ y = false) ∨ (x = false ∧ y = true) ∨ (x = true ∧ y = false ∧ z = false) ∨ (x = true ∧ y = false ∧ z = true ∧ v = true) := by
    rcases x <;> rcases y <;> rcases z <;> simp_all
  clear G2 G4
  rcases G with ⟨rfl, rfl⟩ | ⟨rfl, rfl⟩ | ⟨rfl, rfl, rfl⟩ | ⟨rfl, rfl, rfl, rfl⟩ <;> simp only [Bool.not_true, Bool.not_false, Bool.and_self, Bool.and_true, Bool.true_and, Bool.false_and, Bool.and_false] at M1 M2
  all_goals
    go_wp2_with (first
      | (go_at_call 15; (first | (with_reducible refine (B1.out _).mono ?_) | (with_reducible refine (B2.out _).mono ?_) | (with_reducible refine (B3.out _).mono ?_) | (with_reducible refine (B4.out _).mono ?_) | (with_reducible refine (B5.out _).mono ?_)); rintro e w' ⟨rfl, rfl⟩)
      | (go_at_call 17; (first | (with_reducible refine (M1.out _).mono ?_) | (with_reducible refine (M2.out _).mono ?_)); rintro e w' ⟨rfl, rfl⟩))
    refine wp_loop_rounds 4 ?_
    rw [rounds_succ]
    go_wp2
    rw [rounds_succ]
    go_wp2
    rw [rounds_succ]
    go_wp2
    rw [rounds_succ]
    go_wp2_with (first
      | (go_at_call 15; (first | (with_reducible refine (B1.out _).mono ?_) | (with_reducible refine (B2.out _).mono ?_) | (with_reducible refine (B3.out _).mono ?_) | (with_reducible refine (B4.out _).mono ?_) | (with_reducible refine (B5.out _).mono ?_)); rintro e w' ⟨rfl, rfl⟩)
      | (go_at_call 17; (first | (with_reducible refine (M1.out _).mono ?_) | (with_reducible refine (M2.out _).mono ?_)); rintro e w' ⟨rfl, rfl⟩))
    go_ret
    exact ⟨by simp, HB.out.alloc (by omega) _⟩

theorem walk_SpanOrder {H : Type} {enc : TypeId × Value → H} (W : World) (base : Nat) (v0 : Value) (d0 : DataW H) (p0 : List MemPlace) (o0 : Value.okWide Try.prog W .any base 23 v0) (h0 : DataW.Trod enc Try.prog W 0 (fun _ => true) true 23 v0 d0 p0) (v1 : Value) (d1 : DataW H) (p1 : List MemPlace) (o1 : Value.okWide Try.prog W .any base 23 v1) (h1 : DataW.Trod enc Try.prog W 0 (fun _ => true) true 23 v1 d1 p1) (v2 : Value) (d2 : DataW H) (p2 : List MemPlace) (o2 : Value.okWide Try.prog W .any base 23 v2) (h2 : DataW.Trod enc Try.prog W 0 (fun _ => true) true 23 v2 d2 p2) {P : Prop} (_hsz : P) :
    Calls Try.prog 5 #[v0, v1, v2] W fun e w' => e = .returned (.bool true) ∧ Below W.heap.size W w' := by
  obtain ⟨a1, a2, rfl, _, _⟩ := open_two o0 h0
  obtain ⟨b1, b2, rfl, _, _⟩ := open_two o1 h1
  obtain ⟨c1, c2, rfl, _, _⟩ := open_two o2 h2
  exact order_walk a1 a2 b1 b2 c1 c2 W

end Go.Proofs.Ytjdfkjmjjnadaaa
