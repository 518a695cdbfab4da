/- Walks of the reference of layer 2. -/
import Derived.Test.YtjdfkjmjjnadaaaWalk2
namespace Go.Proofs.Ytjdfkjmjjnadaaa
open Go.RowKit Ieee

/-! ### The reference's functions -/
/-- A span as the reference has it. -/
def rS : Sp → Value
  | some (p, q) => .agg #[.int .i64 p, .int .i64 q, .bool true]
  | none => .agg #[.int .i64 0, .int .i64 0, .bool false]

theorem rof_num (b e : Int) (w : World) :
    Calls Try.prog 11 #[.int .i64 b, .int .i64 e] w fun r w' => r = .returned (rS (mkSp b e)) ∧ Below w.heap.size w w' := by
  by_cases h : 0 ≤ b ∧ b ≤ e ∧ e ≤ 9007199254740992
  · rw [mkSp_yes h]
    obtain ⟨h1, h2, h3⟩ := h
    obtain ⟨p, rfl⟩ := Int.eq_ofNat_of_zero_le h1
    obtain ⟨q, rfl⟩ := Int.eq_ofNat_of_zero_le (Int.le_trans h1 h2)
    go_enter Try.func11, Try.ntmps11
    go_wp2
    refine bodyPost_ret (v := .agg #[.int .i64 p, .int .i64 q, .bool true]) (by simp [results, Try.results11, go_sem]) rfl ⟨rfl, ?_⟩
    exact (Below.refl _ _).alloc (Nat.le_refl _) _
  · rw [mkSp_no h]
    go_enter Try.func11, Try.ntmps11
    go_wp2
    all_goals first
      | (refine bodyPost_ret (v := .agg #[.int .i64 0, .int .i64 0, .bool false]) (by simp [results, Try.results11, go_sem]) rfl ⟨rfl, ?_⟩; exact (Below.refl _ _).alloc (Nat.le_refl _) _)
      | (exfalso; omega)

theorem rof_yes (p q : Nat) (h : p ≤ q) (k : q ≤ 9007199254740992) (w : World) :
    Calls Try.prog 11 #[.int .i64 p, .int .i64 q] w fun r w' => r = .returned (rS (some (p, q))) ∧ Below w.heap.size w w' := by
  have h1 := rof_num p q w
  rw [mkSp_yes (by omega)] at h1
  simpa using h1

/-- All that lay there reads as before. -/
theorem bcell {W w1 : World} (hb : Below W.heap.size W w1) : (∀ b o, b < W.heap.size → w1.cell? ⟨b, o, none⟩ = W.cell? ⟨b, o, none⟩) ∧ (∀ b o, b < W.heap.size → w1.frozen? ⟨b, o, none⟩ = W.frozen? ⟨b, o, none⟩) :=
  ⟨fun b o h => hb.cell (p := ⟨b, o, none⟩) h, fun b o h => hb.frozen (p := ⟨b, o, none⟩) h⟩
theorem bTwo {w : World} (o o' : Obj) : Below w.heap.size w ((w.alloc o).alloc o') := ((Below.refl _ _).alloc (Nat.le_refl _) _).alloc (by simp) _
theorem bThree {w : World} (o o' o'' : Obj) : Below w.heap.size w (((w.alloc o).alloc o').alloc o'') := (bTwo o o').alloc (by simp; omega) _
theorem bAfter {w W w' : World} (h : Below w.heap.size w W) (k : Below W.heap.size W w') : Below w.heap.size w w' := h.trans (k.mono h.size)

theorem rbefore_num (s t : Sp) (w : World) :
    Calls Try.prog 16 #[rS s, rS t] w fun r w' => r = .returned (.bool (befo s t)) ∧ Below w.heap.size w w' := by
  rcases s with _ | ⟨p, q⟩ <;> rcases t with _ | ⟨r, u⟩ <;> unfold rS
  all_goals
    go_enter Try.func16, Try.ntmps16
    go_wp2
    go_ret
    exact ⟨by simp [befo], bTwo _ _⟩

set_option maxHeartbeats 800000 in
theorem rmeet_num (s t : Sp) (w : World) :
    Calls Try.prog 18 #[rS s, rS t] w fun r w' => r = .returned (.bool (meet s t)) ∧ Below w.heap.size w w' := by
  have C1 := Lib.hid fun W => rbefore_num s t W
  have C2 := Lib.hid fun W => rbefore_num t s W
  rcases s with _ | ⟨p, q⟩
  · clear C1 C2
    rcases t with _ | ⟨r, u⟩ <;> unfold rS
    all_goals
      go_enter Try.func18, Try.ntmps18
      go_wp2
      go_ret
      exact ⟨by simp [meet], bTwo _ _⟩
  · rcases t with _ | ⟨r, u⟩
    · clear C1 C2
      unfold rS
      go_enter Try.func18, Try.ntmps18
      go_wp2
      go_ret
      exact ⟨by simp [meet], bTwo _ _⟩
    · have hf : meet (some (p, q)) (some (r, u)) = (!befo (some (p, q)) (some (r, u)) && !befo (some (r, u)) (some (p, q))) := by simp [meet]
      have Hf := Lib.hid hf
      clear hf
      unfold rS at *
      generalize befo (some (p, q)) (some (r, u)) = x at *
      generalize befo (some (r, u)) (some (p, q)) = y at *
      go_enter Try.func18, Try.ntmps18
      go_wp2_with fail
      refine (C1.out _).mono ?_
      rintro e w1 ⟨rfl, hb⟩
      obtain ⟨hc, hfz⟩ := bcell hb
      have hz := hb.size
      simp only [World.size_alloc] at hz hc hfz
      cases x
      · go_wp2_with fail
        refine (C2.out _).mono ?_
        rintro e w2 ⟨rfl, hb2⟩
        go_wp2
        go_ret
        exact ⟨by rw [Hf.out]; rfl, bAfter (bAfter (bTwo _ _) hb) hb2⟩
      · go_wp2
        go_ret
        exact ⟨by rw [Hf.out]; rfl, bAfter (bTwo _ _) hb⟩

/-- Is it a span that may be? -/
def OKS : Sp → Prop
  | some (p, q) => p ≤ q ∧ q ≤ 9007199254740992
  | none => True
theorem OKS.mk (b e : Int) : OKS (mkSp b e) := by
  unfold mkSp
  split
  · exact ⟨by omega, by omega⟩
  · trivial
theorem OKS.cs {p q : Nat} (h : OKS (some (p, q))) : CS (fo p) (fo q) (some (p, q)) := ⟨h.1, h.2, rfl, rfl⟩
theorem OKS.mkSp {p q : Nat} (h : OKS (some (p, q))) : mkSp p q = some (p, q) := by
  have := h.1
  have := h.2
  rw [mkSp_yes (by omega)]
  simp
theorem OKS.join {s t : Sp} (h : OKS s) (k : OKS t) : OKS (joinS s t) := by
  rcases s with _ | ⟨p, q⟩ <;> rcases t with _ | ⟨r, u⟩ <;> first | trivial | skip
  have h1 := h.1
  have h2 := h.2
  have k1 := k.1
  have k2 := k.2
  exact ⟨by omega, by omega⟩

theorem rjoin_num (s t : Sp) (w : World) (h : OKS s) (k : OKS t) :
    Calls Try.prog 19 #[rS s, rS t] w fun r w' => r = .returned (rS (joinS s t)) ∧ Below w.heap.size w w' := by
  rcases s with _ | ⟨p, q⟩
  · rcases t with _ | ⟨r, u⟩ <;> unfold rS
    all_goals
      go_enter Try.func19, Try.ntmps19
      go_wp2
      refine bodyPost_ret (v := .agg #[.int .i64 0, .int .i64 0, .bool false]) (by simp [results, Try.results19, go_sem]) rfl ⟨rfl, ?_⟩
      exact ((bTwo _ _).alloc (by simp; omega) _)
  · rcases t with _ | ⟨r, u⟩
    · unfold rS
      go_enter Try.func19, Try.ntmps19
      go_wp2
      refine bodyPost_ret (v := .agg #[.int .i64 0, .int .i64 0, .bool false]) (by simp [results, Try.results19, go_sem]) rfl ⟨rfl, ?_⟩
      exact ((bTwo _ _).alloc (by simp; omega) _)
    · have h1 := h.1
      have h2 := h.2
      have k1 := k.1
      have k2 := k.2
      have e1 : (if r < p then (r : Int) else (p : Int)) = ((min p r : Nat) : Int) := by split <;> omega
      have e2 : (if q < u then (u : Int) else (q : Int)) = ((max q u : Nat) : Int) := by split <;> omega
      have C := Lib.hid fun W => rof_yes (min p r) (max q u) (by omega) (by omega) W
      clear h k h1 h2 k1 k2
      simp only [joinS]
      generalize min p r = m at *
      generalize max q u = n at *
      unfold rS
      go_enter Try.func19, Try.ntmps19
      go_wp2_with fail
      refine (C.out _).mono ?_
      rintro e w1 ⟨rfl, hb⟩
      simp only [rS]
      obtain ⟨hc, hfz⟩ := bcell hb
      have hz := hb.size
      simp only [World.size_alloc] at hz hc hfz
      go_wp2
      refine bodyPost_ret (v := .agg #[.int .i64 m, .int .i64 n, .bool true]) (by simp [results, Try.results19, go_sem, hc]) rfl ⟨rfl, ?_⟩
      exact (((bAfter (bThree _ _ _) hb).setCell (by simp; omega) _).setCell (by simp; omega) _).setCell (by simp; omega) _

theorem mkSp_arg {b e : Int} : OKS (mkSp b e) := OKS.mk b e

theorem rmove_num (s : Sp) (y : Int) (w : World) (h : OKS s) (hy64 : -9223372036854775808 ≤ y ∧ y ≤ 9223372036854775807) :
    Calls Try.prog 20 #[rS s, .int .i64 y] w fun r w' => r = .returned (rS (moveS s y)) ∧ Below w.heap.size w w' := by
  rcases s with _ | ⟨p, q⟩
  · unfold rS
    go_enter Try.func20, Try.ntmps20
    go_wp2
    refine bodyPost_ret (v := .agg #[.int .i64 0, .int .i64 0, .bool false]) (by simp [results, Try.results20, go_sem]) rfl ⟨rfl, ?_⟩
    exact bTwo _ _
  · have h1 := h.1
    have h2 := h.2
    by_cases hy : y > 9007199254740992 ∨ y < -9007199254740992
    · have e : moveS (some (p, q)) y = none := if_pos hy
      have E := Lib.hid e
      clear e h
      rw [E.out]
      unfold rS
      go_enter Try.func20, Try.ntmps20
      go_wp2
      all_goals first
        | (refine bodyPost_ret (v := .agg #[.int .i64 0, .int .i64 0, .bool false]) (by simp [results, Try.results20, go_sem]) rfl ⟨rfl, ?_⟩; exact bTwo _ _)
        | (exfalso; omega)
    · have hy1 : y ≤ 9007199254740992 := by omega
      have hy2 : -9007199254740992 ≤ y := by omega
      have C := Lib.hid fun b e W => rof_num b e W
      have hs : ∃ t, moveS (some (p, q)) y = t := ⟨_, rfl⟩
      obtain ⟨t, ht⟩ := hs
      rw [ht]
      by_cases hq : q = 9007199254740992
      · have e : mkSp (p + y) 9007199254740992 = t := by
          rw [← ht]
          show _ = (if _ then _ else _)
          rw [if_neg hy, if_pos hq]
        have E := Lib.hid e
        clear e ht h hy
        subst hq
        unfold rS
        go_enter Try.func20, Try.ntmps20
        go_wp2_with fail
        refine (C.out _ _ _).mono ?_
        rintro e w1 ⟨rfl, hb⟩
        rw [E.out]
        obtain ⟨hc, hfz⟩ := bcell hb
        have hz := hb.size
        simp only [World.size_alloc] at hz hc hfz
        rcases t with _ | ⟨m, n⟩ <;> simp only [rS]
        all_goals
          go_wp2
          first
            | (refine bodyPost_ret (v := .agg #[.int .i64 0, .int .i64 0, .bool false]) (by simp [results, Try.results20, go_sem, hc]) rfl ⟨rfl, ?_⟩)
            | (refine bodyPost_ret (v := .agg #[.int .i64 _, .int .i64 _, .bool true]) (by simp [results, Try.results20, go_sem, hc]) rfl ⟨rfl, ?_⟩)
          exact (((bAfter (bTwo _ _) hb).setCell (by simp <;> omega) _).setCell (by simp <;> omega) _).setCell (by simp <;> omega) _
      · have e : mkSp (p + y) (q + y) = t := by
          rw [← ht]
          show _ = (if _ then _ else _)
          rw [if_neg hy, if_neg hq]
        have E := Lib.hid e
        have hq0 : ((q : Int) == 9007199254740992) = false := beq_eq_false_iff_ne.2 (by omega)
        clear e ht h hy
        unfold rS
        go_enter Try.func20, Try.ntmps20
        go_wp2_with fail
        refine (C.out _ _ _).mono ?_
        rintro e w1 ⟨rfl, hb⟩
        rw [E.out]
        obtain ⟨hc, hfz⟩ := bcell hb
        have hz := hb.size
        simp only [World.size_alloc] at hz hc hfz
        rcases t with _ | ⟨m, n⟩ <;> simp only [rS]
        all_goals
          go_wp2
          first
            | (refine bodyPost_ret (v := .agg #[.int .i64 0, .int .i64 0, .bool false]) (by simp [results, Try.results20, go_sem, hc]) rfl ⟨rfl, ?_⟩)
            | (refine bodyPost_ret (v := .agg #[.int .i64 _, .int .i64 _, .bool true]) (by simp [results, Try.results20, go_sem, hc]) rfl ⟨rfl, ?_⟩)
          exact (((bAfter (bTwo _ _) hb).setCell (by simp <;> omega) _).setCell (by simp <;> omega) _).setCell (by simp <;> omega) _

end Go.Proofs.Ytjdfkjmjjnadaaa
