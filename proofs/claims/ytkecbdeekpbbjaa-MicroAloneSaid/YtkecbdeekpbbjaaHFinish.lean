/- Going round among all commits till all are over, by hand. -/
import Derived.Test.YtkecbdeekpbbjaaPureM
import Derived.Test.YtkecbdeekpbbjaaHRun
namespace Go.Proofs.Ytkecbdeekpbbjaa.Q
open Go.RowKit Go.Lib Go.Proofs.Ytkecbdeekpbbjaa Go.Proofs.YtkecbdeekpbbjaaW.PrintWords Go.Proofs.YtkecbdeekpbbjaaW.PrintLast Go.Proofs.YtkecbdeekpbbjaaW.PrintMore
set_option linter.unusedVariables false
set_option linter.unusedSimpArgs false

abbrev errM (m : Mach) (q : Nat) : Int := (stepM m ((q : Int) + 1)).2.2
/-- A round among commits, as far as it has come. -/
structure Rnd (m0 : Mach) (i : Nat) (m : Mach) (o b : Nat) : Prop where
  ran : Ran m0 m
  le : o + b ≤ i
  mu : mu m + (i - (o + b)) ≤ mu m0
  same : o + b = i → m = m0 ∧ (∀ q, q < i → errM m0 q ≠ 0) ∧ (o = i → ∀ q, q < i → errM m0 q = 6 ∨ errM m0 q = 3) ∧ (0 < b → ∃ q, q < i ∧ errM m0 q = 10)
theorem Rnd.start {m : Mach} (h : Inv m) : Rnd m 0 m 0 0 := ⟨Ran.refl h, Nat.le_refl _, by simp, fun _ => ⟨rfl, fun q hq => by omega, fun _ q hq => by omega, fun hb => by omega⟩⟩
theorem Rnd.over {m0 m : Mach} {i o b : Nat} (h : Rnd m0 i m o b) (he : errM m i = 6 ∨ errM m i = 3) : Rnd m0 (i + 1) (stepM m ((i : Int) + 1)).1 (o + 1) b := by
  obtain ⟨hr, hs⟩ := h.ran.inv.step ((i : Int) + 1)
  have hle := h.le
  have hmu := h.mu
  unfold errM at he
  have hm : (stepM m ((i : Int) + 1)).1 = m := by rcases hs with ⟨h1, _⟩ | ⟨_, h1⟩; omega; exact h1
  rw [hm]
  refine ⟨h.ran, by omega, by rw [show i + 1 - (o + 1 + b) = i - (o + b) by omega]; exact hmu, fun e => ?_⟩
  obtain ⟨h1, h2, h3, h4⟩ := h.same (by omega)
  subst h1
  refine ⟨rfl, fun q hq => ?_, fun ho q hq => ?_, fun hb => ?_⟩
  · rcases Nat.lt_or_ge q i with hl | hl
    · exact h2 q hl
    · obtain rfl : q = i := by omega
      unfold errM; omega
  · rcases Nat.lt_or_ge q i with hl | hl
    · exact h3 (by omega) q hl
    · obtain rfl : q = i := by omega
      exact he
  · obtain ⟨q, hq, hq'⟩ := h4 hb
    exact ⟨q, by omega, hq'⟩
theorem Rnd.busy {m0 m : Mach} {i o b : Nat} (h : Rnd m0 i m o b) (he : errM m i = 10) : Rnd m0 (i + 1) (stepM m ((i : Int) + 1)).1 o (b + 1) := by
  obtain ⟨hr, hs⟩ := h.ran.inv.step ((i : Int) + 1)
  have hle := h.le
  have hmu := h.mu
  unfold errM at he
  have hm : (stepM m ((i : Int) + 1)).1 = m := by rcases hs with ⟨h1, _⟩ | ⟨_, h1⟩; omega; exact h1
  rw [hm]
  refine ⟨h.ran, by omega, by rw [show i + 1 - (o + (b + 1)) = i - (o + b) by omega]; exact hmu, fun e => ?_⟩
  obtain ⟨h1, h2, h3, h4⟩ := h.same (by omega)
  subst h1
  refine ⟨rfl, fun q hq => ?_, fun ho q hq => by omega, fun hb => ⟨i, by omega, he⟩⟩
  rcases Nat.lt_or_ge q i with hl | hl
  · exact h2 q hl
  · obtain rfl : q = i := by omega
    unfold errM; omega
theorem Rnd.went {m0 m : Mach} {i o b : Nat} (h : Rnd m0 i m o b) (he : errM m i = 0) : Rnd m0 (i + 1) (stepM m ((i : Int) + 1)).1 o b := by
  obtain ⟨hr, hs⟩ := h.ran.inv.step ((i : Int) + 1)
  have hle := h.le
  have hmu := h.mu
  unfold errM at he
  have hm : Go.Proofs.Ytkecbdeekpbbjaa.Q.mu (stepM m ((i : Int) + 1)).1 < Go.Proofs.Ytkecbdeekpbbjaa.Q.mu m := by rcases hs with ⟨_, h1⟩ | ⟨h1, _⟩; exact h1; omega
  exact ⟨h.ran.trans hr, by omega, by omega, fun e => by omega⟩
theorem errM_cases {m : Mach} (h : Inv m) (i : Nat) : errM m i = 0 ∨ errM m i = 6 ∨ errM m i = 3 ∨ errM m i = 10 := by
  obtain ⟨hr, hs⟩ := h.step ((i : Int) + 1)
  unfold errM
  rcases hs with ⟨h1, _⟩ | ⟨h1, _⟩ <;> omega
theorem busy_job {m : Mach} {q : Nat} (h : errM m q = 10) : ∃ j, m.jobs[q]? = some j ∧ ¬ isOver j := by
  unfold errM stepM getJob at h
  rw [if_pos (by omega), show ((q : Int) + 1 - 1).toNat = q by omega] at h
  cases hj : m.jobs[q]? with
  | none => rw [hj] at h; simp at h
  | some j =>
    rw [hj] at h
    refine ⟨j, rfl, fun ho => ?_⟩
    unfold isOver at ho
    have h : (stepJ m ((q : Int) + 1) q j).2.2 = 10 := h
    unfold stepJ at h
    rw [if_neg (by omega), if_neg (by omega), if_neg (by omega), if_neg (by omega)] at h
    simp at h
/-- At the end of a round: all are over, or somebody went. -/
theorem Rnd.done {m0 m : Mach} {n o b : Nat} (h : Rnd m0 n m o b) (hI : Inv m0) (hj : m0.jobs.length ≤ n) : (o = n → ∀ (k : Nat) (j : Job), m.jobs[k]? = some j → isOver j) ∧ (o + b = n → o = n) := by
  have go : ∀ (k : Nat) (j : Job), m0.jobs[k]? = some j → (∀ q, q < n → errM m0 q ≠ 0) → isOver j := fun k j hk hne => by
    apply Classical.byContradiction
    intro hno
    obtain ⟨i, a, ha, -, hz⟩ := hI.goes hk hno
    exact hne i (Nat.lt_of_lt_of_le (List.getElem?_eq_some_iff.1 ha).1 hj) hz
  constructor
  · intro ho k j hk
    obtain ⟨h1, h2, -, -⟩ := h.same (by have := h.le; omega)
    subst h1
    exact go k j hk h2
  · intro ho
    obtain ⟨h1, h2, -, h4⟩ := h.same ho
    apply Classical.byContradiction
    intro hno
    obtain ⟨q, hq, hq'⟩ := h4 (by omega)
    obtain ⟨j, hk, hj'⟩ := busy_job hq'
    exact hj' (go q j hk h2)

theorem Turned.thenT {ok : Nat → Prop} {w W V : World} (h : Turned ok w W) (k : Turned (fun q => ok q ∨ w.heap.size ≤ q) W V) : Turned ok w V :=
  ⟨k.os.trans h.os, k.tape.trans h.tape, k.output.trans h.output, Nat.le_trans h.size k.size, fun i hi hn => (k.block i (Nat.lt_of_lt_of_le hi h.size) (fun hk => hk.elim hn (fun e => by omega))).trans (h.block i hi hn)⟩
set_option maxHeartbeats 1000000 in
set_option maxRecDepth 100000 in
theorem finish_core (base : Nat) (ok : Nat → Prop) (mb : Nat) (m : Mach) (many : Nat) (w : World) (hM : IsM base ok w mb m) (hI : Inv m) (hj : m.jobs.length ≤ many) (hmu : mu m ≤ 2000) (hmany : many ≤ 1000) (hbase : base ≤ w.heap.size) :
    Calls Try.prog 12 #[ptr mb, .int .i64 many] w fun e w' => e = .returned (.bool true) ∧ ∃ m', IsM base (fun q => ok q ∨ w.heap.size ≤ q) w' mb m' ∧ Ran m m' ∧ (∀ (k : Nat) (j : Job), m'.jobs[k]? = some j → isOver j) ∧ Turned ok w w' := by
  have hm0 : (0 : Int) ≤ many := by omega
  have hm1 : (many : Int) ≤ 1000 := by omega
  have HX := Lib.hid (And.intro hM (And.intro hI (And.intro hj (And.intro hmu (And.intro hmany hbase)))))
  clear hM hI hj hmu hmany hbase
  go_enter Try.func12, Try.ntmps12
  go_wp2_with fail
  go_loopg [5, 6, 7, 8, 9, 12] (2400 + many) (fun kq _ _ _ _ _ v12 W => ∃ (r : Nat) (mr : Mach), v12 = .int .i64 r ∧ Hid (kq + r = 2400 + many) ∧ Hid (IsM base (fun q => ok q ∨ w.heap.size ≤ q) W mb mr ∧ Ran m mr ∧ mu mr + r ≤ mu m ∧ Turned ok w W))
  case atStart => exact ⟨0, m, rfl, by simp [Hid], Lib.hid ⟨HX.out.1.mono fun q h _ => .inl h, Ran.refl HX.out.2.1, by simp, Turned.refl _ _⟩⟩
  case round =>
    obtain ⟨r, mr, rfl, hk, hJ⟩ := hrel
    have hr : r ≤ 2000 := by have := hJ.out.2.2.1; have := HX.out.2.2.2.1; omega
    have hr0 : (r : Int) < 2400 + many := by omega
    have hr1 : (0 : Int) ≤ r := by omega
    have hr2 : (r : Int) ≤ 2000 := by omega
    clear hr
    obtain ⟨wo, rfl⟩ : ∃ wo : World, wo = wr := ⟨_, rfl⟩
    obtain ⟨gko, rfl⟩ : ∃ q : Nat, q = gk := ⟨_, rfl⟩
    go_wp2_with fail
    go_loopg [5, 6, 7, 8, 9] many (fun kq v5 v6 v7 _ _ W => ∃ (i o b : Nat) (mi : Mach), v5 = .int .i64 o ∧ v6 = .int .i64 b ∧ v7 = .int .i64 ((i : Int) + 1) ∧ Hid (kq + i = many) ∧ Hid (IsM base (fun q => ok q ∨ w.heap.size ≤ q) W mb mi ∧ Rnd mr i mi o b ∧ Turned ok w W))
    case atStart => exact ⟨0, 0, 0, mr, rfl, rfl, rfl, by simp [Hid], Lib.hid ⟨hJ.out.1, Rnd.start hJ.out.2.1.inv, hJ.out.2.2.2⟩⟩
    case round =>
      obtain ⟨i, o, b, mi, rfl, rfl, rfl, hki, hJi⟩ := hrel
      have ho0 : (0 : Int) ≤ o := by omega
      have hb0 : (0 : Int) ≤ b := by omega
      have ho1 : (o : Int) ≤ 1000 := by have := hJi.out.2.1.le; have := hki.out; have := HX.out.2.2.2.2.1; omega
      have hb1 : (b : Int) ≤ 1000 := by have := hJi.out.2.1.le; have := hki.out; have := HX.out.2.2.2.2.1; omega
      by_cases hi : i < many
      · have hi2 : (i : Int) + 1 ≤ many := by omega
        have hi3 : (0 : Int) ≤ i := by omega
        have HS := Lib.hid (step_calls base _ wr mb mi ((i : Int) + 1) hJi.out.1 hJi.out.2.1.ran.inv.mok (Nat.le_trans HX.out.2.2.2.2.2 hJi.out.2.2.size))
        have hb := Nat.le_trans HX.out.2.2.2.2.2 hJi.out.2.2.size
        have HB := Lib.hid hb
        clear hb
        rcases errM_cases hJi.out.2.1.ran.inv i with hc | hc | hc | hc
        · have HS' : Hid (Calls Try.prog 20 #[ptr mb, .int .i64 ((i : Int) + 1)] wr fun e w' => ∃ s : Int, e = .returned (.tuple #[.int .i64 s, .int .i64 0]) ∧ IsM base (fun q => (ok q ∨ w.heap.size ≤ q) ∨ wr.heap.size ≤ q) w' mb (stepM mi ((i : Int) + 1)).1 ∧ Turned (fun q => ok q ∨ w.heap.size ≤ q) wr w') := Lib.hid (HS.out.mono fun e w' hh => ⟨(stepM mi ((i : Int) + 1)).2.1, by rw [hh.1, show (stepM mi ((i : Int) + 1)).2.2 = 0 from hc], hh.2⟩)
          have HN : Hid (Rnd mr (i + 1) (stepM mi ((i : Int) + 1)).1 o b) := Lib.hid (hJi.out.2.1.went hc)
          clear HS hc
          go_wp2_with fail
          refine HS'.out.mono ?_
          rintro e w4 ⟨s, rfl, hM4, hT4⟩
          have H4 := Lib.hid (And.intro (hM4.mono fun q h _ => h.elim (fun h => h) (fun h => .inr (Nat.le_trans hJi.out.2.2.size h))) (hJi.out.2.2.thenT hT4))
          clear hM4 hT4 HS'
          go_wp2_with fail
          obtain ⟨k1, rfl⟩ : ∃ q, gk = q + 1 := ⟨gk - 1, by have := hki.out; omega⟩
          go_roundg k1
          case measure => omega
          case rel => exact ⟨i + 1, o, b, _, by first | rfl | (congr 1), by first | rfl | (congr 1), by first | rfl | (congr 1), Lib.hid (by have := hki.out; omega), Lib.hid ⟨H4.out.1, HN.out, H4.out.2⟩⟩
        · have HS' : Hid (Calls Try.prog 20 #[ptr mb, .int .i64 ((i : Int) + 1)] wr fun e w' => ∃ s : Int, e = .returned (.tuple #[.int .i64 s, .int .i64 6]) ∧ IsM base (fun q => (ok q ∨ w.heap.size ≤ q) ∨ wr.heap.size ≤ q) w' mb (stepM mi ((i : Int) + 1)).1 ∧ Turned (fun q => ok q ∨ w.heap.size ≤ q) wr w') := Lib.hid (HS.out.mono fun e w' hh => ⟨(stepM mi ((i : Int) + 1)).2.1, by rw [hh.1, show (stepM mi ((i : Int) + 1)).2.2 = 6 from hc], hh.2⟩)
          have HN : Hid (Rnd mr (i + 1) (stepM mi ((i : Int) + 1)).1 (o + 1) b) := Lib.hid (hJi.out.2.1.over (.inl hc))
          clear HS hc
          go_wp2_with fail
          refine HS'.out.mono ?_
          rintro e w4 ⟨s, rfl, hM4, hT4⟩
          have H4 := Lib.hid (And.intro (hM4.mono fun q h _ => h.elim (fun h => h) (fun h => .inr (Nat.le_trans hJi.out.2.2.size h))) (hJi.out.2.2.thenT hT4))
          clear hM4 hT4 HS'
          go_wp2_with fail
          obtain ⟨k1, rfl⟩ : ∃ q, gk = q + 1 := ⟨gk - 1, by have := hki.out; omega⟩
          go_roundg k1
          case measure => omega
          case rel => exact ⟨i + 1, (o + 1), b, _, by first | rfl | (congr 1), by first | rfl | (congr 1), by first | rfl | (congr 1), Lib.hid (by have := hki.out; omega), Lib.hid ⟨H4.out.1, HN.out, H4.out.2⟩⟩
        · have HS' : Hid (Calls Try.prog 20 #[ptr mb, .int .i64 ((i : Int) + 1)] wr fun e w' => ∃ s : Int, e = .returned (.tuple #[.int .i64 s, .int .i64 3]) ∧ IsM base (fun q => (ok q ∨ w.heap.size ≤ q) ∨ wr.heap.size ≤ q) w' mb (stepM mi ((i : Int) + 1)).1 ∧ Turned (fun q => ok q ∨ w.heap.size ≤ q) wr w') := Lib.hid (HS.out.mono fun e w' hh => ⟨(stepM mi ((i : Int) + 1)).2.1, by rw [hh.1, show (stepM mi ((i : Int) + 1)).2.2 = 3 from hc], hh.2⟩)
          have HN : Hid (Rnd mr (i + 1) (stepM mi ((i : Int) + 1)).1 (o + 1) b) := Lib.hid (hJi.out.2.1.over (.inr hc))
          clear HS hc
          go_wp2_with fail
          refine HS'.out.mono ?_
          rintro e w4 ⟨s, rfl, hM4, hT4⟩
          have H4 := Lib.hid (And.intro (hM4.mono fun q h _ => h.elim (fun h => h) (fun h => .inr (Nat.le_trans hJi.out.2.2.size h))) (hJi.out.2.2.thenT hT4))
          clear hM4 hT4 HS'
          go_wp2_with fail
          obtain ⟨k1, rfl⟩ : ∃ q, gk = q + 1 := ⟨gk - 1, by have := hki.out; omega⟩
          go_roundg k1
          case measure => omega
          case rel => exact ⟨i + 1, (o + 1), b, _, by first | rfl | (congr 1), by first | rfl | (congr 1), by first | rfl | (congr 1), Lib.hid (by have := hki.out; omega), Lib.hid ⟨H4.out.1, HN.out, H4.out.2⟩⟩
        · have HS' : Hid (Calls Try.prog 20 #[ptr mb, .int .i64 ((i : Int) + 1)] wr fun e w' => ∃ s : Int, e = .returned (.tuple #[.int .i64 s, .int .i64 10]) ∧ IsM base (fun q => (ok q ∨ w.heap.size ≤ q) ∨ wr.heap.size ≤ q) w' mb (stepM mi ((i : Int) + 1)).1 ∧ Turned (fun q => ok q ∨ w.heap.size ≤ q) wr w') := Lib.hid (HS.out.mono fun e w' hh => ⟨(stepM mi ((i : Int) + 1)).2.1, by rw [hh.1, show (stepM mi ((i : Int) + 1)).2.2 = 10 from hc], hh.2⟩)
          have HN : Hid (Rnd mr (i + 1) (stepM mi ((i : Int) + 1)).1 o (b + 1)) := Lib.hid (hJi.out.2.1.busy hc)
          clear HS hc
          go_wp2_with fail
          refine HS'.out.mono ?_
          rintro e w4 ⟨s, rfl, hM4, hT4⟩
          have H4 := Lib.hid (And.intro (hM4.mono fun q h _ => h.elim (fun h => h) (fun h => .inr (Nat.le_trans hJi.out.2.2.size h))) (hJi.out.2.2.thenT hT4))
          clear hM4 hT4 HS'
          go_wp2_with fail
          obtain ⟨k1, rfl⟩ : ∃ q, gk = q + 1 := ⟨gk - 1, by have := hki.out; omega⟩
          go_roundg k1
          case measure => omega
          case rel => exact ⟨i + 1, o, (b + 1), _, by first | rfl | (congr 1), by first | rfl | (congr 1), by first | rfl | (congr 1), Lib.hid (by have := hki.out; omega), Lib.hid ⟨H4.out.1, HN.out, H4.out.2⟩⟩
      · have hi2 : ¬ ((i : Int) + 1 ≤ many) := by omega
        have hk0 : i = many := by have := hki.out; omega
        subst hk0
        obtain ⟨hd1, hd2⟩ := hJi.out.2.1.done hJ.out.2.1.inv (by rw [hJ.out.2.1.jl]; exact HX.out.2.2.1)
        by_cases hon : o = i
        · have hb2 : ((o : Int) == (i : Int)) = true := by rw [beq_iff_eq]; omega
          have HD := Lib.hid (hd1 hon)
          clear hd1 hd2 hon
          go_wp2_with fail
          go_ret
          exact ⟨rfl, mi, hJi.out.1, hJ.out.2.1.trans hJi.out.2.1.ran, HD.out, hJi.out.2.2⟩
        · have hb2 : ((o : Int) == (i : Int)) = false := by rw [beq_eq_false_iff_ne]; omega
          have hne : ¬ o + b = i := fun e => hon (hd2 e)
          have hb3 : ((o : Int) + (b : Int) == (i : Int)) = false := by rw [beq_eq_false_iff_ne]; omega
          have HN : Hid (mu mi + (r + 1) ≤ mu m) := Lib.hid (by
            have h1 := hJi.out.2.1.mu
            have h2 := hJi.out.2.1.le
            have h3 := hJ.out.2.2.1
            omega)
          clear hd1 hd2 hon hne
          go_wp2_with fail
          obtain ⟨k1, rfl⟩ : ∃ q, gko = q + 1 := ⟨gko - 1, by have := hk.out; omega⟩
          go_roundg k1
          case measure => omega
          case rel => exact ⟨r + 1, mi, by first | rfl | (congr 1), Lib.hid (by have := hk.out; omega), Lib.hid ⟨hJi.out.1, hJ.out.2.1.trans hJi.out.2.1.ran, HN.out, hJi.out.2.2⟩⟩

theorem finish_calls (base : Nat) (mb : Nat) (m : Mach) (many : Nat) (w : World) (hM : IsM base (fun q => base ≤ q) w mb m) (hI : Inv m) (hj : m.jobs.length ≤ many) (hmu : mu m ≤ 2000) (hmany : many ≤ 1000) (hbase : base ≤ w.heap.size) :
    Calls Try.prog 12 #[ptr mb, .int .i64 many] w fun e w' => e = .returned (.bool true) ∧ ∃ m', IsM base (fun q => base ≤ q) w' mb m' ∧ Ran m m' ∧ (∀ (k : Nat) (j : Job), m'.jobs[k]? = some j → isOver j) ∧ Below base w w' :=
  (finish_core base _ mb m many w hM hI hj hmu hmany hbase).mono fun e w' ⟨h1, m', h2, h3, h4, h5⟩ => ⟨h1, m', h2.up hbase (fun q h => h), h3, h4, h5.base hbase (fun q h => h)⟩
end Go.Proofs.Ytkecbdeekpbbjaa.Q
