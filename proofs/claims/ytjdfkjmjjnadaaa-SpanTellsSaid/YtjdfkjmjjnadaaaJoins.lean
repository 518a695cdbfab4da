/- The walk of SpanJoins: what two come to holds both, and nothing that is ahead of both, or behind both. -/
import Derived.Test.YtjdfkjmjjnadaaaAlive
namespace Go.Proofs.Ytjdfkjmjjnadaaa
open Go.RowKit Ieee

theorem joinS_comm (s t : Sp) : joinS t s = joinS s t := by
  rcases s with _ | ⟨p, q⟩ <;> rcases t with _ | ⟨r, u⟩ <;> simp [joinS, Nat.min_comm, Nat.max_comm]

theorem eq_num {p q : Nat} (h : p ≤ 9007199254740992) (k : q ≤ 9007199254740992) : FloatKind.f64.format.order (fo p) (fo q) = some .eq ↔ p = q := by
  have := eq_fo p q h k
  constructor
  · intro e; rw [e] at this; simpa using this.symm
  · intro e; simpa [e] using this

set_option maxHeartbeats 2000000 in
theorem joins_walk (a1 a2 b1 b2 c1 c2 : Int) (w : World) :
    Calls Try.prog 6 #[.agg #[.int .i64 a1, .int .i64 a2], .agg #[.int .i64 b1, .int .i64 b2], .agg #[.int .i64 c1, .int .i64 c2]] w
      fun e w' => e = .returned (.bool true) ∧ Below w.heap.size w w' := by
  have L1 := Lib.hid fun W => lof_num a1 a2 W
  have L2 := Lib.hid fun W => lof_num b1 b2 W
  have L3 := Lib.hid fun W => lof_num c1 c2 W
  have O1 := OKS.mk a1 a2
  have O2 := OKS.mk b1 b2
  have O3 := OKS.mk c1 c2
  generalize mkSp a1 a2 = s at *
  generalize mkSp b1 b2 = t at *
  generalize mkSp c1 c2 = u at *
  have J1 := Lib.hid (joinS_comm s t)
  have OJ := OKS.join O1 O2
  have K1 := Lib.hid O1
  have K2 := Lib.hid O2
  have K3 := Lib.hid O3
  have KJ := Lib.hid OJ
  clear O1 O2 O3 OJ
  rcases s with _ | ⟨p1, q1⟩ <;> rcases t with _ | ⟨p2, q2⟩ <;> rcases u with _ | ⟨p3, q3⟩
  all_goals
    simp only [cS, Option.isSome] at L1 L2 L3
    go_enter Try.func6, Try.ntmps6
    go_wp2_with (go_at_call 9; (with_reducible refine (alive_num _).mono ?_); rintro e w' ⟨rfl, rfl⟩)
    refine (L1.out _).mono ?_
    rintro e w1 ⟨rfl, hb1⟩
    obtain ⟨hc1, -⟩ := bcell hb1
    have hz1 := hb1.size
    simp only [World.size_alloc] at hz1 hc1
    go_wp2_with fail
    refine (L2.out _).mono ?_
    rintro e w2 ⟨rfl, hb2⟩
    have hc2 := fun b o h => ((bcell hb2).1 b o (Nat.lt_of_lt_of_le h hz1)).trans (hc1 b o h)
    clear hc1
    go_wp2_with fail
    refine (L3.out _).mono ?_
    rintro e w3 ⟨rfl, hb3⟩
    have HB := Lib.hid (bAfter (bAfter (bAfter (bThree _ _ _) hb1) hb2) hb3)
    clear hb1 hb2 hb3 hc2 hz1
  iterate 7 (· go_wp2; go_ret; exact ⟨rfl, HB.out⟩)
  have F1 : befo (joinS (some (p1, q1)) (some (p2, q2))) (some (p3, q3)) = (befo (some (p1, q1)) (some (p3, q3)) && befo (some (p2, q2)) (some (p3, q3))) := by
    simp only [joinS, befo]
    rw [← Bool.decide_and, decide_eq_decide]
    omega
  have F2 : befo (some (p3, q3)) (joinS (some (p1, q1)) (some (p2, q2))) = (befo (some (p3, q3)) (some (p1, q1)) && befo (some (p3, q3)) (some (p2, q2))) := by
    simp only [joinS, befo]
    rw [← Bool.decide_and, decide_eq_decide]
    omega
  have k1 := K1.out.1
  have k2 := K2.out.1
  have G1 : meet (joinS (some (p1, q1)) (some (p2, q2))) (some (p1, q1)) = true := by
    simp [joinS, befo, meet]
    omega
  have G2 : meet (joinS (some (p1, q1)) (some (p2, q2))) (some (p2, q2)) = true := by
    simp [joinS, befo, meet]
    omega
  have D1 := Lib.hid fun W => join_num _ _ _ _ _ _ W K1.out.cs K2.out.cs
  have D2 := Lib.hid fun W => join_num _ _ _ _ _ _ W K2.out.cs K1.out.cs
  rw [J1.out] at D2
  have cj : CS (fo (min p1 p2)) (fo (max q1 q2)) (joinS (some (p1, q1)) (some (p2, q2))) := KJ.out.cs
  have M1 := Lib.hid fun W => meet_num _ _ _ _ _ _ W cj K1.out.cs
  have M2 := Lib.hid fun W => meet_num _ _ _ _ _ _ W cj K2.out.cs
  have B1 := Lib.hid fun W => before_num _ _ _ _ _ _ W cj K3.out.cs
  have B2 := Lib.hid fun W => before_num _ _ _ _ _ _ W K1.out.cs K3.out.cs
  have B3 := Lib.hid fun W => before_num _ _ _ _ _ _ W K2.out.cs K3.out.cs
  have B4 := Lib.hid fun W => before_num _ _ _ _ _ _ W K3.out.cs cj
  have B5 := Lib.hid fun W => before_num _ _ _ _ _ _ W K3.out.cs K1.out.cs
  have B6 := Lib.hid fun W => before_num _ _ _ _ _ _ W K3.out.cs K2.out.cs
  have o1 : FloatKind.f64.format.order (fo (min p1 p2)) (fo (min p1 p2)) = some .eq := (eq_num (by have := KJ.out; simp only [joinS, OKS] at this; omega) (by have := KJ.out; simp only [joinS, OKS] at this; omega)).2 rfl
  have o2 : FloatKind.f64.format.order (fo (max q1 q2)) (fo (max q1 q2)) = some .eq := (eq_num (by have := KJ.out; simp only [joinS, OKS] at this; omega) (by have := KJ.out; simp only [joinS, OKS] at this; omega)).2 rfl
  rw [G1] at M1
  rw [G2] at M2
  rw [F1] at B1
  rw [F2] at B4
  clear F1 F2 G1 G2 k1 k2 cj J1 KJ K1 K2 K3
  simp only [joinS, cS, Option.isSome] at D1 D2
  generalize befo (some (p1, q1)) (some (p3, q3)) = x1 at *
  generalize befo (some (p2, q2)) (some (p3, q3)) = x2 at *
  generalize befo (some (p3, q3)) (some (p1, q1)) = y1 at *
  generalize befo (some (p3, q3)) (some (p2, q2)) = y2 at *
  generalize min p1 p2 = m at *
  generalize max q1 q2 = n at *
  rcases x1 <;> rcases y1 <;> simp only [Bool.true_and, Bool.false_and] at B1 B4
  all_goals
    go_wp2_with (first
      | (go_at_call 13; (first | (with_reducible refine (D1.out _).mono ?_) | (with_reducible refine (D2.out _).mono ?_)); rintro e w' ⟨rfl, rfl⟩)
      | (go_at_call 17; (first | (with_reducible refine (M1.out _).mono ?_) | (with_reducible refine (M2.out _).mono ?_)); rintro e w' ⟨rfl, rfl⟩)
      | (go_at_call 15; (first | (with_reducible refine (B1.out _).mono ?_) | (with_reducible refine (B2.out _).mono ?_) | (with_reducible refine (B3.out _).mono ?_) | (with_reducible refine (B4.out _).mono ?_) | (with_reducible refine (B5.out _).mono ?_) | (with_reducible refine (B6.out _).mono ?_)); rintro e w' ⟨rfl, rfl⟩))
    go_ret
    exact ⟨by simp, HB.out⟩

end Go.Proofs.Ytjdfkjmjjnadaaa
