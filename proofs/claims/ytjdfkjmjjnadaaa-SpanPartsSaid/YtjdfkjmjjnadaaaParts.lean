/- The walk of SpanParts: a span is both its parts, and no other one has these. -/
import Derived.Test.YtjdfkjmjjnadaaaRowWalks
import Derived.Laws.StructEq
namespace Go.Proofs.Ytjdfkjmjjnadaaa
open Go.ChangeShapes Go.WideShapes Go.ChangeAt Go.RowKit Go.Joins Ieee

theorem eqTwo (a b c d : Int) (w : World) : (binOp .eql 23 (.agg #[.int .i64 a, .int .i64 b]) (.agg #[.int .i64 c, .int .i64 d])).run Try.prog w = .ok (.bool (a == c && b == d)) w := by
  have u3 := Try.underlying2
  have a3 : ∀ w, (isAgg 2).run Try.prog w = .ok false w := fun _ => by kernel_rfl
  have z3 : ∀ w, (sizeOf 2).run Try.prog w = .ok 1 w := fun _ => by kernel_rfl
  have hS : Try.prog.underlying 23 = some (.struct (Try.prog.fieldsOf 23)) := by kernel_rfl
  have hp : Try.prog.stoodInHeld 23 = false := by kernel_rfl
  rw [run_eql_struct, show (10000 : Nat) = 9999 + 1 from rfl, run_equalIn_struct w 9999 23 _ _ hS hp]
  simp only [Program.fieldsOf, Try.underlying23]
  go_simp
  by_cases h1 : a = c <;> by_cases h2 : b = d <;> simp [h1, h2]

theorem mkSp_inj {a b c d : Int} {p q r u : Nat} (h : mkSp a b = some (p, q)) (k : mkSp c d = some (r, u)) : (decide (p = r) && decide (q = u)) = (a == c && b == d) := by
  obtain ⟨_, _, rfl, rfl⟩ := mkSp_le h
  obtain ⟨_, _, rfl, rfl⟩ := mkSp_le k
  rw [Bool.eq_iff_iff]
  simp
  omega

set_option maxHeartbeats 2000000 in
theorem parts_walk (a1 a2 b1 b2 : Int) (w : World) :
    Calls Try.prog 8 #[.agg #[.int .i64 a1, .int .i64 a2], .agg #[.int .i64 b1, .int .i64 b2]] w
      fun e w' => e = .returned (.bool true) ∧ Below w.heap.size w w' := by
  have L1 := Lib.hid fun W => lof_num a1 a2 W
  have L2 := Lib.hid fun W => lof_num b1 b2 W
  have q0 := Lib.hid fun W => eqTwo a1 a2 b1 b2 W
  have K1 := Lib.hid (OKS.mk a1 a2)
  have K2 := Lib.hid (OKS.mk b1 b2)
  have I := Lib.hid fun p q r u => @mkSp_inj a1 a2 b1 b2 p q r u
  have M := Lib.hid fun p q => @mkSp_le a1 a2 p q
  generalize mkSp a1 a2 = s at *
  generalize mkSp b1 b2 = t at *
  have z0 : FloatKind.f64.format.order 0 0 = some .eq := by decide +kernel
  rcases s with _ | ⟨p1, q1⟩
  · clear I K1 K2 M
    rcases t with _ | ⟨p2, q2⟩
    all_goals
      simp only [cS, Option.isSome] at L1 L2
      go_enter Try.func8, Try.ntmps8
      go_wp2_with (go_at_call 9; (with_reducible refine (alive_num _).mono ?_); rintro e w' ⟨rfl, rfl⟩)
      refine (L1.out _).mono ?_
      rintro e w1 ⟨rfl, hb1⟩
      obtain ⟨hc1, -⟩ := bcell hb1
      have hz1 := hb1.size
      simp only [World.size_alloc] at hz1 hc1
      go_wp2_with fail
      refine (L2.out _).mono ?_
      rintro e w2 ⟨rfl, hb2⟩
      have HB := Lib.hid (bAfter (bAfter (bTwo _ _) hb1) hb2)
      clear hb1 hb2 hc1 hz1
      go_wp2
      go_ret
      exact ⟨rfl, HB.out⟩
  · have C1 := Lib.hid fun W n => right_q K1.out.cs W n
    have R1 := Lib.hid fun W => right_num _ _ W K1.out.cs.right.1 K1.out.cs.right.2.1
    have RR := Lib.hid K1.out.cs.right.2.2
    have B1 := Lib.hid fun W => begin_num _ _ _ W K1.out.cs
    have E1 := Lib.hid fun W => end_num _ _ _ W K1.out.cs
    have O1 := Lib.hid fun W => of_num p1 q1 W
    have o1 : FloatKind.f64.format.order (fo p1) (fo p1) = some .eq := (eq_num (by have := K1.out; simp only [OKS] at this; omega) (by have := K1.out; simp only [OKS] at this; omega)).2 rfl
    have o2 : FloatKind.f64.format.order (fo q1) (fo q1) = some .eq := (eq_num (by have := K1.out; simp only [OKS] at this; omega) (by have := K1.out; simp only [OKS] at this; omega)).2 rfl
    rw [K1.out.mkSp] at O1
    rcases t with _ | ⟨p2, q2⟩
    · clear I K1 K2 M B1 E1 O1 o1 o2 C1
      simp only [cS, Option.isSome] at L1 L2
      go_enter Try.func8, Try.ntmps8
      go_wp2_with (go_at_call 9; (with_reducible refine (alive_num _).mono ?_); rintro e w' ⟨rfl, rfl⟩)
      refine (L1.out _).mono ?_
      rintro e w1 ⟨rfl, hb1⟩
      obtain ⟨hc1, -⟩ := bcell hb1
      have hz1 := hb1.size
      simp only [World.size_alloc] at hz1 hc1
      go_wp2_with fail
      refine (L2.out _).mono ?_
      rintro e w2 ⟨rfl, hb2⟩
      have HB := Lib.hid (bAfter (bAfter (bTwo _ _) hb1) hb2)
      clear hb1 hb2 hc1 hz1
      go_wp2_with (go_at_call 21; (with_reducible refine (R1.out _).mono ?_); rintro e w' ⟨rfl, rfl⟩; rw [RR.out, Option.isSome_some])
      go_ret
      exact ⟨rfl, HB.out⟩
    · have k1 := K1.out
      have k2 := K2.out
      simp only [OKS] at k1 k2
      have x1 := eq_fo p1 p2 (show p1 ≤ 9007199254740992 by omega) (show p2 ≤ 9007199254740992 by omega)
      have x2 := eq_fo q1 q2 (show q1 ≤ 9007199254740992 by omega) (show q2 ≤ 9007199254740992 by omega)
      have y1 := I.out p1 q1 p2 q2 rfl rfl
      clear k1 k2
      have k3 : (p1 : Int) ≤ q1 := by have := K1.out; simp only [OKS] at this; omega
      simp only [cS, Option.isSome, bOf, eOf] at L1 L2 O1 B1 E1
      have E := Lib.hid (show ((FloatKind.f64.format.order (fo p1) (fo p2) == some .eq) && (FloatKind.f64.format.order (fo q1) (fo q2) == some .eq)) = (a1 == b1 && a2 == b2) by rw [x1, x2]; exact y1)
      clear x1 x2 y1 I M C1 R1 RR K1 K2
      go_enter Try.func8, Try.ntmps8
      go_wp2_with (go_at_call 9; (with_reducible refine (alive_num _).mono ?_); rintro e w' ⟨rfl, rfl⟩)
      refine (L1.out _).mono ?_
      rintro e w1 ⟨rfl, hb1⟩
      obtain ⟨hc1, -⟩ := bcell hb1
      have hz1 := hb1.size
      simp only [World.size_alloc] at hz1 hc1
      go_wp2_with fail
      refine (L2.out _).mono ?_
      rintro e w2 ⟨rfl, hb2⟩
      have hc2 := fun b o h => ((bcell hb2).1 b o (Nat.lt_of_lt_of_le h hz1)).trans (hc1 b o h)
      have HB := Lib.hid (bAfter (bAfter (bTwo _ _) hb1) hb2)
      clear hb1 hb2 hz1 hc1
      have e := E.out
      have q1' := q0.out
      clear E q0
      generalize (a1 == b1 && a2 == b2) = z at *
      go_wp2_with (first
        | (go_at_call 24; (with_reducible refine (O1.out _).mono ?_); rintro e w' ⟨rfl, rfl⟩)
        | (go_at_call 22; (with_reducible refine (B1.out _).mono ?_); rintro e w' ⟨rfl, rfl⟩)
        | (go_at_call 23; (with_reducible refine (E1.out _).mono ?_); rintro e w' ⟨rfl, rfl⟩))
      go_ret
      exact ⟨by simp, HB.out⟩

theorem walk_SpanParts {H : Type} {enc : TypeId × Value → H} (W : World) (base : Nat) (v0 : Value) (d0 : DataW H) (p0 : List MemPlace) (o0 : Value.okWide Try.prog W .any base 23 v0) (h0 : DataW.Trod enc Try.prog W 0 (fun _ => true) true 23 v0 d0 p0) (v1 : Value) (d1 : DataW H) (p1 : List MemPlace) (o1 : Value.okWide Try.prog W .any base 23 v1) (h1 : DataW.Trod enc Try.prog W 0 (fun _ => true) true 23 v1 d1 p1) {P : Prop} (_hsz : P) :
    Calls Try.prog 8 #[v0, v1] W fun e w' => e = .returned (.bool true) ∧ Below W.heap.size W w' := by
  obtain ⟨a1, a2, rfl, _, _⟩ := open_two o0 h0
  obtain ⟨b1, b2, rfl, _, _⟩ := open_two o1 h1
  exact parts_walk a1 a2 b1 b2 W

end Go.Proofs.Ytjdfkjmjjnadaaa
