/- As long as one is not over, one of these can do a step: the law's walk. -/
import Derived.Test.YtkecbdeekpbbjaaLaw0
namespace Go.Proofs.Ytkecbdeekpbbjaa
open Go.RowKit Go.Lib Go.ChangeShapes Go.WideShapes Go.Proofs.Ytkecbdeekpbbjaa.Q Go.Proofs.YtkecbdeekpbbjaaW.PrintWords Go.Proofs.YtkecbdeekpbbjaaW.PrintLast Go.Proofs.YtkecbdeekpbbjaaW.PrintMore
set_option linter.unusedVariables false
set_option linter.unusedSimpArgs false

/-- What is known as the law goes among commits: 'i' have been asked. -/
structure GoesI (m0 : Mach) (i : Nat) (m : Mach) (many over goes : Nat) : Prop where
  ran : Ran m0 m
  le : many ≤ i ∧ over ≤ many ∧ goes ≤ i
  none_ : goes = 0 → m = m0 ∧ (∀ (q : Nat) (j : Job), q < i → m0.jobs[q]? = some j → ¬ isOver j → errM m0 q ≠ 0) ∧ ((∀ (q : Nat) (j : Job), q < i → m0.jobs[q]? = some j → isOver j) → over = many)
theorem GoesI.no {m0 m : Mach} {i many over goes : Nat} (h : GoesI m0 i m many over goes) (hj : m.jobs[i]? = none) : GoesI m0 (i + 1) m many over goes := by
  refine ⟨h.ran, by have := h.le; omega, fun hg => ?_⟩
  obtain ⟨h1, h2, h3⟩ := h.none_ hg
  subst h1
  refine ⟨rfl, fun q j hq hk hno => ?_, fun ha => h3 fun q j hq hk => ha q j (by omega) hk⟩
  rcases Nat.lt_or_ge q i with hl | hl
  · exact h2 q j hl hk hno
  · obtain rfl : q = i := by omega
    rw [hj] at hk; cases hk
theorem GoesI.over_ {m0 m : Mach} {i many over goes : Nat} (h : GoesI m0 i m many over goes) {j : Job} (hj : m.jobs[i]? = some j) (ho : isOver j) : GoesI m0 (i + 1) m (many + 1) (over + 1) goes := by
  refine ⟨h.ran, by have := h.le; omega, fun hg => ?_⟩
  obtain ⟨h1, h2, h3⟩ := h.none_ hg
  subst h1
  refine ⟨rfl, fun q a hq hk hno => ?_, fun ha => by rw [h3 fun q j hq hk => ha q j (by omega) hk]⟩
  rcases Nat.lt_or_ge q i with hl | hl
  · exact h2 q a hl hk hno
  · obtain rfl : q = i := by omega
    rw [hj] at hk; cases hk; exact absurd ho hno
theorem GoesI.went {m0 m : Mach} {i many over goes : Nat} (h : GoesI m0 i m many over goes) : GoesI m0 (i + 1) (stepM m ((i : Int) + 1)).1 (many + 1) over (goes + 1) :=
  ⟨h.ran.trans (h.ran.inv.step _).1, by have := h.le; omega, fun hg => by omega⟩
theorem GoesI.stuck {m0 m : Mach} {i many over goes : Nat} (h : GoesI m0 i m many over goes) {j : Job} (hj : m.jobs[i]? = some j) (ho : ¬ isOver j) (he : errM m i ≠ 0) : GoesI m0 (i + 1) (stepM m ((i : Int) + 1)).1 (many + 1) over goes := by
  obtain ⟨hr, hs⟩ := h.ran.inv.step ((i : Int) + 1)
  have hm : (stepM m ((i : Int) + 1)).1 = m := by
    rcases hs with ⟨h1, _⟩ | ⟨_, h1⟩
    · exact absurd h1 he
    · exact h1
  rw [hm]
  refine ⟨h.ran, by have := h.le; omega, fun hg => ?_⟩
  obtain ⟨h1, h2, h3⟩ := h.none_ hg
  subst h1
  refine ⟨rfl, fun q a hq hk hno => ?_, fun ha => absurd (ha i j (by omega) hj) ho⟩
  rcases Nat.lt_or_ge q i with hl | hl
  · exact h2 q a hl hk hno
  · obtain rfl : q = i := by omega
    exact he
theorem GoesI.end_ {m0 m : Mach} {i many over goes : Nat} (h : GoesI m0 i m many over goes) (hI : Inv m0) (hl : m0.jobs.length ≤ i) : over = many ∨ 0 < goes := by
  by_cases hg : goes = 0
  · left
    obtain ⟨h1, h2, h3⟩ := h.none_ hg
    refine h3 fun q j hq hk => ?_
    apply Classical.byContradiction
    intro hno
    obtain ⟨k, a, ha, hna, hz⟩ := hI.goes hk hno
    exact h2 k a (Nat.lt_of_lt_of_le (List.getElem?_eq_some_iff.1 ha).1 hl) ha hna hz
  · exact .inr (by omega)

set_option maxHeartbeats 2000000 in
set_option maxRecDepth 100000 in
theorem goes_walk (v : Int) (A : Option Addr) (c : Nat) (l : List (List S69)) (A2 : Option Addr) (c2 : Nat) (p : List Int) (w : World) (hv : 0 ≤ v ∧ v ≤ 255) (hC : Kd.C (Kd.slice 69 k69) w A l.length l) (hc : l.length ≤ c) (hP : Kd.C (Kd.int .u8) w A2 p.length p) (hc2 : p.length ≤ c2) (hp : ∀ k ∈ p, 0 ≤ k ∧ k ≤ 255) :
    Calls Try.prog 5 #[.int .u8 v, .slice A l.length c, .slice A2 p.length c2] w fun e w' => e = .returned (.bool true) ∧ Below w.heap.size w w' := by
  have HA := Lib.hid (alive_calls w)
  have HX := Lib.hid (And.intro hC (And.intro hc (And.intro hP (And.intro hc2 (And.intro hp hv)))))
  clear hC hc hP hc2 hp hv
  go_enter Try.func5, Try.ntmps5
  go_wp2_with fail
  refine HA.out.mono ?_
  rintro e w1 ⟨rfl, hB1⟩
  have HB1 := Lib.hid hB1
  clear hB1 HA
  go_wp2_with fail
  refine (heavy_calls A c l A2 c2 p w1 (Kd.C_below HX.out.1 HB1.out) HX.out.2.1 (Kd.C_below HX.out.2.2.1 HB1.out) HX.out.2.2.2.1).mono ?_
  rintro e w2 ⟨rfl, hB2⟩
  have HB2 := Lib.hid (bAfter HB1.out hB2)
  clear hB2
  cases hh : heavyB l p with
  | true =>
    have HH := Lib.hid hh
    clear hh
    go_wp2_with fail
    go_ret
    exact ⟨rfl, HB2.out⟩
  | false =>
    obtain ⟨ht, hl, hpl⟩ := heavy_not hh
    obtain ⟨hI, hj, -, -⟩ := run_facts v l p hl ht
    have HR := Lib.hid (run_calls v A c l A2 c2 p w2 HX.out.2.2.2.2.2 (Kd.C_below HX.out.1 HB2.out) (Kd.C_below HX.out.2.2.1 HB2.out) HX.out.2.2.2.2.1 (by omega) (by omega) (fun t h => by have := ht t h; omega) (runOk v l p))
    have HI := Lib.hid (And.intro hI hj)
    have hl0 : (l.length : Int) ≤ 20 := by omega
    have hl1 : (0 : Int) ≤ l.length := by omega
    clear hh ht hpl hI hj
    generalize stepAll (startAll (newS (varsN v)) l) l.length p = m0 at *
    go_wp2_with fail
    refine HR.out.mono ?_
    rintro e w3 ⟨mb, rfl, hM3, hB3⟩
    have H3 := Lib.hid (And.intro hM3 (And.intro hB3 (bAfter HB2.out hB3)))
    clear hM3 hB3 HR
    go_wp2_with fail
    go_loopg [8, 9, 10, 11, 12, 13, 14, 15] l.length (fun kq v8 v9 v10 v11 _ _ _ _ W => ∃ (i many over goes : Nat) (m : Mach), v8 = .int .i64 many ∧ v9 = .int .i64 over ∧ v10 = .int .i64 goes ∧ v11 = .int .i64 ((i : Int) + 1) ∧ Hid (kq + i = l.length) ∧ Hid (IsM w2.heap.size (fun q => w2.heap.size ≤ q) W mb m ∧ GoesI m0 i m many over goes ∧ Below w2.heap.size w2 W))
    case atStart => exact ⟨0, 0, 0, 0, m0, rfl, rfl, rfl, rfl, by simp [Hid], Lib.hid ⟨H3.out.1, ⟨Ran.refl HI.out.1, by omega, fun _ => ⟨rfl, fun q j hq => by omega, fun _ => rfl⟩⟩, H3.out.2.1⟩⟩
    case round =>
      obtain ⟨i, many, over, goes, m, rfl, rfl, rfl, rfl, hk, hJ⟩ := hrel
      have hb : (many : Int) ≤ 20 ∧ (over : Int) ≤ 20 ∧ (goes : Int) ≤ 20 := by have := hJ.out.2.1.le; have := hk.out; omega
      obtain ⟨hb1, hb2, hb3⟩ := hb
      have hb4 : (0 : Int) ≤ many := by omega
      have hb5 : (0 : Int) ≤ over := by omega
      have hb6 : (0 : Int) ≤ goes := by omega
      have hi3 : (0 : Int) ≤ i := by omega
      by_cases hi : i < l.length
      · have hi2 : (i : Int) + 1 ≤ l.length := by omega
        have HB := Lib.hid hJ.out.2.2.size
        have HSt := Lib.hid (state_calls w2.heap.size _ wr mb m ((i : Int) + 1) hJ.out.1 hJ.out.2.1.ran.inv.mok.jobs)
        cases hj : m.jobs[i]? with
        | none =>
          rw [state_none hj] at HSt
          have HN := Lib.hid (hJ.out.2.1.no hj)
          clear hj
          go_wp2_with fail
          refine HSt.out.mono ?_
          rintro e w4 ⟨rfl, hw4⟩
          subst hw4
          go_wp2_with fail
          obtain ⟨k1, rfl⟩ : ∃ q, gk = q + 1 := ⟨gk - 1, by have := hk.out; omega⟩
          go_roundg k1
          case measure => omega
          case rel => exact ⟨i + 1, many, over, goes, m, by first | rfl | (congr 1), by first | rfl | (congr 1), by first | rfl | (congr 1), by first | rfl | (congr 1), Lib.hid (by have := hk.out; omega), Lib.hid ⟨hJ.out.1, HN.out, hJ.out.2.2⟩⟩
        | some j =>
          rw [state_at hj] at HSt
          by_cases ho : isOver j
          · have HN := Lib.hid (hJ.out.2.1.over_ hj ho)
            clear hj
            rcases ho with ho | ho
            · have s4 : (j.state == 4) = true := by rw [ho]; rfl
              clear ho
              go_wp2_with fail
              refine HSt.out.mono ?_
              rintro e w4 ⟨rfl, hw4⟩
              subst hw4
              go_wp2_with fail
              obtain ⟨k1, rfl⟩ : ∃ q, gk = q + 1 := ⟨gk - 1, by have := hk.out; omega⟩
              go_roundg k1
              case measure => omega
              case rel => exact ⟨i + 1, many + 1, over + 1, goes, m, by first | rfl | (congr 1), by first | rfl | (congr 1), by first | rfl | (congr 1), by first | rfl | (congr 1), Lib.hid (by have := hk.out; omega), Lib.hid ⟨hJ.out.1, HN.out, hJ.out.2.2⟩⟩
            · have s4 : (j.state == 4) = false := by rw [ho]; rfl
              have s5 : (j.state == 5) = true := by rw [ho]; rfl
              clear ho
              go_wp2_with fail
              refine HSt.out.mono ?_
              rintro e w4 ⟨rfl, hw4⟩
              subst hw4
              go_wp2_with fail
              obtain ⟨k1, rfl⟩ : ∃ q, gk = q + 1 := ⟨gk - 1, by have := hk.out; omega⟩
              go_roundg k1
              case measure => omega
              case rel => exact ⟨i + 1, many + 1, over + 1, goes, m, by first | rfl | (congr 1), by first | rfl | (congr 1), by first | rfl | (congr 1), by first | rfl | (congr 1), Lib.hid (by have := hk.out; omega), Lib.hid ⟨hJ.out.1, HN.out, hJ.out.2.2⟩⟩
          · have s4 : (j.state == 4) = false := by rw [beq_eq_false_iff_ne]; exact fun e => ho (.inl e)
            have s5 : (j.state == 5) = false := by rw [beq_eq_false_iff_ne]; exact fun e => ho (.inr e)
            have HS := Lib.hid (step_calls w2.heap.size _ wr mb m ((i : Int) + 1) hJ.out.1 hJ.out.2.1.ran.inv.mok hJ.out.2.2.size)
            by_cases hz : errM m i = 0
            · have HN := Lib.hid hJ.out.2.1.went
              have hz' : (stepM m ((i : Int) + 1)).2.2 = 0 := hz
              have HS' : Hid (Calls Try.prog 20 #[ptr mb, .int .i64 ((i : Int) + 1)] wr fun e w' => ∃ s : Int, e = .returned (.tuple #[.int .i64 s, .int .i64 0]) ∧ IsM w2.heap.size (fun q => (w2.heap.size ≤ q) ∨ wr.heap.size ≤ q) w' mb (stepM m ((i : Int) + 1)).1 ∧ Turned (fun q => w2.heap.size ≤ q) wr w') := Lib.hid (HS.out.mono fun e w' hh => ⟨(stepM m ((i : Int) + 1)).2.1, by rw [hh.1, hz'], hh.2⟩)
              clear hz hz' HS ho hj
              go_wp2_with fail
              refine HSt.out.mono ?_
              rintro e w4 ⟨rfl, hw4⟩
              subst hw4
              go_wp2_with fail
              refine HS'.out.mono ?_
              rintro e w5 ⟨s, rfl, hM5, hT5⟩
              have H5 := Lib.hid (And.intro (hM5.up HB.out (fun q h => h)) (hJ.out.2.2.trans (hT5.base HB.out (fun q h => h))))
              clear hM5 hT5 HS'
              go_wp2_with fail
              obtain ⟨k1, rfl⟩ : ∃ q, gk = q + 1 := ⟨gk - 1, by have := hk.out; omega⟩
              go_roundg k1
              case measure => omega
              case rel => exact ⟨i + 1, many + 1, over, goes + 1, _, by first | rfl | (congr 1), by first | rfl | (congr 1), by first | rfl | (congr 1), by first | rfl | (congr 1), Lib.hid (by have := hk.out; omega), Lib.hid ⟨H5.out.1, HN.out, H5.out.2⟩⟩
            · have HN := Lib.hid (hJ.out.2.1.stuck hj ho hz)
              obtain ⟨er, her⟩ : ∃ er, er = (stepM m ((i : Int) + 1)).2.2 := ⟨_, rfl⟩
              have hz' : (er == 0) = false := by rw [beq_eq_false_iff_ne, her]; exact hz
              have HS' : Hid (Calls Try.prog 20 #[ptr mb, .int .i64 ((i : Int) + 1)] wr fun e w' => ∃ s : Int, e = .returned (.tuple #[.int .i64 s, .int .i64 er]) ∧ IsM w2.heap.size (fun q => (w2.heap.size ≤ q) ∨ wr.heap.size ≤ q) w' mb (stepM m ((i : Int) + 1)).1 ∧ Turned (fun q => w2.heap.size ≤ q) wr w') := Lib.hid (HS.out.mono fun e w' hh => ⟨(stepM m ((i : Int) + 1)).2.1, by rw [hh.1, her], hh.2⟩)
              clear hz HS ho hj her
              go_wp2_with fail
              refine HSt.out.mono ?_
              rintro e w4 ⟨rfl, hw4⟩
              subst hw4
              go_wp2_with fail
              refine HS'.out.mono ?_
              rintro e w5 ⟨s, rfl, hM5, hT5⟩
              have H5 := Lib.hid (And.intro (hM5.up HB.out (fun q h => h)) (hJ.out.2.2.trans (hT5.base HB.out (fun q h => h))))
              clear hM5 hT5 HS'
              go_wp2_with fail
              obtain ⟨k1, rfl⟩ : ∃ q, gk = q + 1 := ⟨gk - 1, by have := hk.out; omega⟩
              go_roundg k1
              case measure => omega
              case rel => exact ⟨i + 1, many + 1, over, goes, _, by first | rfl | (congr 1), by first | rfl | (congr 1), by first | rfl | (congr 1), by first | rfl | (congr 1), Lib.hid (by have := hk.out; omega), Lib.hid ⟨H5.out.1, HN.out, H5.out.2⟩⟩
      · have hi2 : ¬ ((i : Int) + 1 ≤ l.length) := by omega
        have hk0 : i = l.length := by have := hk.out; omega
        rcases hJ.out.2.1.end_ HI.out.1 (by have := HI.out.2; omega) with he | he
        · have hbb : ((over : Int) == (many : Int)) = true := by rw [beq_iff_eq]; omega
          clear he
          go_wp2_with fail
          go_ret
          exact ⟨rfl, bAfter HB2.out hJ.out.2.2⟩
        · cases hbb : ((over : Int) == (many : Int)) with
          | true =>
            go_wp2_with fail
            go_ret
            exact ⟨rfl, bAfter HB2.out hJ.out.2.2⟩
          | false =>
            have he' := he
            clear he
            go_wp2_with fail
            go_ret
            exact ⟨by simp [he'], bAfter HB2.out hJ.out.2.2⟩

set_option maxRecDepth 100000 in
theorem walk_MicroGoes {H : Type} {enc : TypeId × Value → H} (W : World) (base : Nat) (v0 : Value) (d0 : DataW H) (p0 : List MemPlace) (o0 : Value.okWide Try.prog W .any base 5 v0) (h0 : DataW.Trod enc Try.prog W 0 (fun _ => true) true 5 v0 d0 p0) (v1 : Value) (d1 : DataW H) (p1 : List MemPlace) (o1 : Value.okWide Try.prog W .any base 22 v1) (h1 : DataW.Trod enc Try.prog W 0 (fun _ => true) true 22 v1 d1 p1) (v2 : Value) (d2 : DataW H) (p2 : List MemPlace) (o2 : Value.okWide Try.prog W .any base 23 v2) (h2 : DataW.Trod enc Try.prog W 0 (fun _ => true) true 23 v2 d2 p2) {P : Prop} (_hsz : P) :
    Calls Try.prog 5 #[v0, v1, v2] W fun e w' => e = .returned (.bool true) ∧ Below W.heap.size W w' := by
  obtain ⟨a, rfl, ha⟩ := byte_arg o0 h0
  obtain ⟨A, c, l, rfl, hc, hC, -⟩ := txns_of o1 h1
  obtain ⟨A2, c2, p, rfl, hc2, hP, hp⟩ := bytes_of o2 h2
  exact goes_walk a A c l A2 c2 p W ha hC hc hP hc2 hp
end Go.Proofs.Ytkecbdeekpbbjaa
