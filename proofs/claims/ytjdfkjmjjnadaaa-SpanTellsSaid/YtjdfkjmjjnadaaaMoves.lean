/- The walk of SpanMoves: moved later both stand as before; moved back it is as it was. -/
import Derived.Test.YtjdfkjmjjnadaaaRowWalks
namespace Go.Proofs.Ytjdfkjmjjnadaaa
open Go.ChangeShapes Go.WideShapes Go.ChangeAt Go.RowKit Go.Joins Ieee

theorem before_q {a b c d : Nat} {s t : Sp} (h : CS a b s) (k : CS c d t) (w : World) (n : Nat) :
    Calls Try.prog 15 #[.complex .f64 a b, .complex .f64 c d] (w.drewN n) fun e w' => e = .returned (.bool (befo s t)) ∧ w' = w.drewN n :=
  (before_num _ _ _ _ _ _ _ h k).mono fun _ _ hh => ⟨hh.1, hh.2.symm⟩
theorem meet_q {a b c d : Nat} {s t : Sp} (h : CS a b s) (k : CS c d t) (w : World) (n : Nat) :
    Calls Try.prog 17 #[.complex .f64 a b, .complex .f64 c d] (w.drewN n) fun e w' => e = .returned (.bool (meet s t)) ∧ w' = w.drewN n :=
  (meet_num _ _ _ _ _ _ _ h k).mono fun _ _ hh => ⟨hh.1, hh.2.symm⟩

theorem of_nat (p q : Nat) (h : p ≤ q) (k : q ≤ 9007199254740992) (w : World) :
    Calls Try.prog 24 #[.int .i64 p, .int .i64 q] w fun r w' => r = .returned (.tuple #[.complex .f64 (fo p) (fo q), .bool true]) ∧ w = w' := by
  have h1 := of_num p q w
  rw [mkSp_yes (by omega)] at h1
  simpa [cS] using h1
theorem move_nat (p q y : Nat) (h : p ≤ q) (k : q + y < 9007199254740992) (w : World) :
    Calls Try.prog 14 #[.complex .f64 (fo p) (fo q), .int .i64 y] w fun r w' => r = .returned (.tuple #[.complex .f64 (fo (p + y)) (fo (q + y)), .bool true]) ∧ w = w' := by
  have h1 := move_num _ _ (some (p, q)) y w (CS.some h (show q ≤ 9007199254740992 by omega))
  have e : moveS (some (p, q)) y = some (p + y, q + y) := by
    show (if _ then _ else _) = _
    rw [if_neg (by omega), if_neg (by omega), mkSp_yes (by omega)]
    congr 2 <;> omega
  rw [e] at h1
  exact h1
theorem move_back (p q y : Nat) (h : p ≤ q) (k : q + y < 9007199254740992) (w : World) :
    Calls Try.prog 14 #[.complex .f64 (fo (p + y)) (fo (q + y)), .int .i64 (-(y : Int))] w fun r w' => r = .returned (.tuple #[.complex .f64 (fo p) (fo q), .bool true]) ∧ w = w' := by
  have h1 := move_num _ _ (some (p + y, q + y)) (-(y : Int)) w (CS.some (by omega) (show q + y ≤ 9007199254740992 by omega))
  have e : moveS (some (p + y, q + y)) (-(y : Int)) = some (p, q) := by
    show (if _ then _ else _) = _
    rw [if_neg (by omega), if_neg (by omega), mkSp_yes (by omega)]
    congr 2 <;> omega
  rw [e] at h1
  exact h1

set_option maxHeartbeats 2000000 in
theorem moves_walk (a0 a1 b0 b1 y : Nat) (ha0 : a0 < 65536) (ha1 : a1 < 65536) (hb0 : b0 < 65536) (hb1 : b1 < 65536) (hy : y < 65536) (w : World) :
    Calls Try.prog 7 #[.agg #[.int .u16 a0, .int .u16 a1], .agg #[.int .u16 b0, .int .u16 b1], .int .u16 y] w
      fun e w' => e = .returned (.bool true) ∧ Below w.heap.size w w' := by
  have o1 := fun W => of_nat a0 (a0 + a1) (by omega) (by omega) W
  have o2 := fun W => of_nat b0 (b0 + b1) (by omega) (by omega) W
  simp only [Int.natCast_add] at o1 o2
  have O1 := Lib.hid o1
  have O2 := Lib.hid o2
  clear o1 o2
  have V1 := Lib.hid fun W => move_nat a0 (a0 + a1) y (by omega) (by omega) W
  have V2 := Lib.hid fun W => move_nat b0 (b0 + b1) y (by omega) (by omega) W
  have V3 := Lib.hid fun W => move_back a0 (a0 + a1) y (by omega) (by omega) W
  have x1 : CS (fo a0) (fo (a0 + a1)) (some (a0, a0 + a1)) := CS.some (by omega) (show _ ≤ 9007199254740992 by omega)
  have x2 : CS (fo b0) (fo (b0 + b1)) (some (b0, b0 + b1)) := CS.some (by omega) (show _ ≤ 9007199254740992 by omega)
  have x3 : CS (fo (a0 + y)) (fo (a0 + a1 + y)) (some (a0 + y, a0 + a1 + y)) := CS.some (by omega) (show _ ≤ 9007199254740992 by omega)
  have x4 : CS (fo (b0 + y)) (fo (b0 + b1 + y)) (some (b0 + y, b0 + b1 + y)) := CS.some (by omega) (show _ ≤ 9007199254740992 by omega)
  have B1 := Lib.hid fun W n => before_q x1 x2 W n
  have B2 := Lib.hid fun W n => before_q x3 x4 W n
  have M1 := Lib.hid fun W n => meet_q x1 x2 W n
  have M2 := Lib.hid fun W n => meet_q x3 x4 W n
  have E1 := Lib.hid fun W n => end_q x3 W n
  have E2 := Lib.hid fun W n => begin_q x3 W n
  have F1 : befo (some (a0 + y, a0 + a1 + y)) (some (b0 + y, b0 + b1 + y)) = befo (some (a0, a0 + a1)) (some (b0, b0 + b1)) := by
    simp only [befo, decide_eq_decide]
    omega
  have F2 : meet (some (a0 + y, a0 + a1 + y)) (some (b0 + y, b0 + b1 + y)) = meet (some (a0, a0 + a1)) (some (b0, b0 + b1)) := by
    have F3 : befo (some (b0 + y, b0 + b1 + y)) (some (a0 + y, a0 + a1 + y)) = befo (some (b0, b0 + b1)) (some (a0, a0 + a1)) := by
      simp only [befo, decide_eq_decide]
      omega
    simp only [meet, F1, F3, Option.isSome]
  rw [F1] at B2
  rw [F2] at M2
  clear F1 F2 x1 x2 x3 x4
  have e1 : FloatKind.f64.format.order (fo a0) (fo a0) = some .eq := (eq_num (by omega) (by omega)).2 rfl
  have e2 : FloatKind.f64.format.order (fo (a0 + a1)) (fo (a0 + a1)) = some .eq := (eq_num (by omega) (by omega)).2 rfl
  generalize befo (some (a0, a0 + a1)) (some (b0, b0 + b1)) = bx at *
  generalize meet (some (a0, a0 + a1)) (some (b0, b0 + b1)) = mx at *
  go_enter Try.func7, Try.ntmps7
  go_wp2_with (go_at_call 9; (with_reducible refine (alive_num _).mono ?_); rintro e w' ⟨rfl, rfl⟩)
  refine (O1.out _).mono ?_
  rintro e w' ⟨rfl, rfl⟩
  go_wp2_with (first
    | (go_at_call 24; (with_reducible refine (O2.out _).mono ?_); rintro e w' ⟨rfl, rfl⟩)
    | (go_at_call 14; (first | (with_reducible refine (V1.out _).mono ?_) | (with_reducible refine (V2.out _).mono ?_) | (with_reducible refine (V3.out _).mono ?_)); rintro e w' ⟨rfl, rfl⟩))
  have h1 : IntKind.i64.wrap (((a0 + a1 + y : Nat) : Int) - ((a0 + y : Nat) : Int)) = (a1 : Int) := by
    rw [IntWalk.i64_in _ (by omega)]; omega
  go_quiet (first
    | (go_at_call 15; (first | (with_reducible exact Calls.quiet_of_same (B1.out _ _)) | (with_reducible exact Calls.quiet_of_same (B2.out _ _))))
    | (go_at_call 17; (first | (with_reducible exact Calls.quiet_of_same (M1.out _ _)) | (with_reducible exact Calls.quiet_of_same (M2.out _ _))))
    | (go_at_call 23; exact Calls.quiet_of_same (E1.out _ _))
    | (go_at_call 22; exact Calls.quiet_of_same (E2.out _ _)))
  go_wp2
  go_ret
  exact ⟨by simp; omega, pw_drewN (bTwo _ _) _⟩

theorem cellsPair : Try.prog.cellsOf 46 = 2 := by kernel_rfl
theorem cellsU16 : Try.prog.cellsOf 45 = 1 := by kernel_rfl

theorem open_u16 {x : Int} (h : (Lit.int .u16 x).wf = true) : ∃ n : Nat, x = n ∧ n < 65536 := by
  simp only [Lit.wf, Bool.and_eq_true, decide_eq_true_eq] at h
  have m1 : IntKind.u16.min = 0 := by decide
  have m2 : IntKind.u16.max = 65535 := by decide
  rw [m1, m2] at h
  exact ⟨x.toNat, by omega, by omega⟩

theorem open_pair {H : Type} {enc : TypeId × Value → H} {W : World} {base : Nat} {v : Value} {d : DataW H} {p : List MemPlace} (o : Value.okWide Try.prog W .any base 46 v)
    (h : DataW.Trod enc Try.prog W 0 (fun _ => true) true 46 v d p) : ∃ a b : Nat, v = .agg #[.int .u16 a, .int .u16 b] ∧ a < 65536 ∧ b < 65536 := by
  obtain ⟨fuel, hf⟩ := h
  have hv : ∃ c0 c1, v = .agg #[c0, c1] := by
    simp only [Value.okWide, Try.underlying46] at o
    obtain ⟨cs, rfl, hs, _⟩ := o
    obtain ⟨c0, c1, rfl⟩ := array2 (hs.trans cellsPair)
    exact ⟨c0, c1, rfl⟩
  obtain ⟨c0, c1, rfl⟩ := hv
  obtain ⟨xs, m, rfl, hx, _, hl, hel⟩ := DataW.trod_array Try.underlying46 hf
  have e0 := hel 0 (by omega)
  have e1 := hel 1 (by omega)
  rw [cellsU16] at e0 e1
  have e0' : DataW.trod enc Try.prog W 0 (fun _ => true) true m 45 [c0] = some xs[0] := by rw [List.getElem?_eq_getElem (by omega)] at e0; exact e0
  have e1' : DataW.trod enc Try.prog W 0 (fun _ => true) true m 45 [c1] = some xs[1] := by rw [List.getElem?_eq_getElem (by omega)] at e1; exact e1
  obtain ⟨a, k0, _, wa⟩ := DataW.trod_int Try.underlying45 e0'
  obtain ⟨b, k1, _, wb⟩ := DataW.trod_int Try.underlying45 e1'
  simp at k0 k1
  subst k0 k1
  obtain ⟨a, rfl, ha⟩ := open_u16 wa
  obtain ⟨b, rfl, hb⟩ := open_u16 wb
  exact ⟨a, b, rfl, ha, hb⟩

theorem walk_SpanMoves {H : Type} {enc : TypeId × Value → H} (W : World) (base : Nat) (v0 : Value) (d0 : DataW H) (p0 : List MemPlace) (o0 : Value.okWide Try.prog W .any base 46 v0) (h0 : DataW.Trod enc Try.prog W 0 (fun _ => true) true 46 v0 d0 p0) (v1 : Value) (d1 : DataW H) (p1 : List MemPlace) (o1 : Value.okWide Try.prog W .any base 46 v1) (h1 : DataW.Trod enc Try.prog W 0 (fun _ => true) true 46 v1 d1 p1) (v2 : Value) (d2 : DataW H) (p2 : List MemPlace) (o2 : Value.okWide Try.prog W .any base 45 v2) (h2 : DataW.Trod enc Try.prog W 0 (fun _ => true) true 45 v2 d2 p2) {P : Prop} (_hsz : P) :
    Calls Try.prog 7 #[v0, v1, v2] W fun e w' => e = .returned (.bool true) ∧ Below W.heap.size W w' := by
  obtain ⟨a0, a1, rfl, x0, x1⟩ := open_pair o0 h0
  obtain ⟨b0, b1, rfl, y0, y1⟩ := open_pair o1 h1
  obtain ⟨y, rfl, _, _, wy⟩ := open_int Try.underlying45 o2 h2
  obtain ⟨y, rfl, hy⟩ := open_u16 wy
  exact moves_walk a0 a1 b0 b1 y x0 x1 y0 y1 hy W

end Go.Proofs.Ytjdfkjmjjnadaaa
