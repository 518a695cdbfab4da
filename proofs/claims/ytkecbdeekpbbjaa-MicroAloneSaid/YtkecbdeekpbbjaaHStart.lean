/- A commit is started, by hand (its ways are written by tools/micro-start.py). -/
import Derived.Test.YtkecbdeekpbbjaaHSteps
import Derived.Test.YtkecbdeekpbbjaaHRw
import Derived.BigQuiet
namespace Go.Proofs.Ytkecbdeekpbbjaa.Q
open Go.RowKit Go.Lib Go.Proofs.Ytkecbdeekpbbjaa Go.Proofs.YtkecbdeekpbbjaaW.PrintWords Go.Proofs.YtkecbdeekpbbjaaW.PrintLast Go.Proofs.YtkecbdeekpbbjaaW.PrintMore
set_option linter.unusedVariables false
set_option linter.unusedSimpArgs false

theorem IsM.mono {base : Nat} {ok ok' : Nat → Prop} {W : World} {mb : Nat} {m : Mach} (h : IsM base ok W mb m) (hk : ∀ k, ok k → k < W.heap.size → ok' k) : IsM base ok' W mb m := by
  obtain ⟨vs, js, ds, bs, h⟩ := h
  have lt : ∀ {e size n : Nat} {v : Value} {xs : List Value}, W.ownsRow base e size v n xs → ∀ k, v.ownBlock = some k → k < W.heap.size := fun ho k hv => by
    obtain ⟨cs, hc⟩ := own_typed ho k hv
    exact blk_lt hc
  exact ⟨vs, js, ds, bs, h.hbm, hk _ h.okm (blk_lt h.hm), h.hm, h.hv, fun k hv => hk _ (h.okv k hv) (lt h.hv k hv), h.hj, fun k hv => hk _ (h.okj k hv) (lt h.hj k hv), h.hd, fun k hv => hk _ (h.okd k hv) (lt h.hd k hv), h.len, h.nd, fun i b j h1 h2 => by
    obtain ⟨a1, a2, a3⟩ := h.at_ i b j h1 h2
    obtain ⟨rv, wv, hJ, -⟩ := id a3
    exact ⟨a1, hk _ a2 (blk_lt hJ), a3⟩⟩

theorem listOf_len (f : Int → Option S54) : (listOf f).length ≤ 64 := by
  unfold listOf
  exact Nat.le_trans (List.length_filterMap_le _ _) (by simp)
theorem Turned.weak {S T : Nat → Prop} {W W' : World} (h : Turned S W W') (k : ∀ q, S q → T q) : Turned T W W' := ⟨h.os, h.tape, h.output, h.size, fun i hi hn => h.block i hi (fun hs => hn (k i hs))⟩
/-- Is a step of no variable? -/
def far (m : Mach) (s : S54) : Bool := decide (s.f0 ≥ m.vars.length)
set_option maxRecDepth 100000 in
theorem far_calls (W : World) (mb n c : Nat) (A : Option Addr) (js ds : Value) (h : W.heap[mb]? = some (.cells #[.bool true, .slice A n c, js, ds] 60 (0, 0))) (x : S54) :
    Calls Try.prog 41 #[ptr mb, .agg #[.int .i64 x.f0, .int .i64 x.f1.f0, .int .i64 x.f1.f1, .bool x.f2]] W fun e w' => e = .returned (.bool (decide (x.f0 ≥ n))) ∧ Below W.heap.size W w' := by
  have hu := Try.underlying60
  have hu54 := Try.underlying54
  obtain ⟨x0, ⟨x1, x2⟩, x3⟩ := x
  dsimp only
  obtain ⟨W1, hW1, K1, hB1⟩ : ∃ W1, W.alloc (.cells #[.int .i64 x0, .int .i64 x1, .int .i64 x2, .bool x3] 54) = W1 ∧ W1.heap[W.heap.size]? = some (.cells #[.int .i64 x0, .int .i64 x1, .int .i64 x2, .bool x3] 54 (0, 0)) ∧ Below W.heap.size W W1 := ⟨_, rfl, heap_alloc_new _ _, bOne _⟩
  have b1 := blk_cell (blk_below h hB1) 1
  have d0 := blk_cell K1 0
  have HB := Lib.hid hB1
  clear h K1 hB1
  go_enter Try.func41, Try.ntmps41
  go_wp2_with fail
  go_quiet (fail)
  go_wp2_with fail
  go_ret
  exact ⟨rfl, pw_below_drewN HB.out _⟩

/-- A commit is started. -/
def jobOf (t : List S54) : Job := ⟨readsL t, writesL t, if (writesL t).length = 0 then 1 else 0, 0, false⟩
def startS (m : Mach) (t : List S54) : Mach × Int × Int :=
  if (readsL t).any (far m) || (writesL t).any (far m) then (m, 0, 2)
  else if 200 ≤ m.jobs.length then (m, 0, 4)
  else ({ m with jobs := m.jobs ++ [jobOf t] }, (m.jobs.length : Int) + 1, 0)
/-- What a start leaves. -/
def StartDone (base : Nat) (ok : Nat → Prop) (W : World) (mb : Nat) (r : Mach × Int × Int) (e : Ending) (w' : World) : Prop :=
  e = .returned (.tuple #[.int .i64 r.2.1, .int .i64 r.2.2]) ∧ IsM base (fun q => ok q ∨ W.heap.size ≤ q) w' mb r.1 ∧ Turned ok W w'
theorem At.far {base : Nat} {ok : Nat → Prop} {W W2 : World} {mb : Nat} {m : Mach} {vs js ds : Value} {bs : List Nat} (h : At base ok W mb m vs js ds bs) (hB : Below W.heap.size W W2) (x : S54) :
    Calls Try.prog 41 (#[ptr mb] ++ #[.agg #[.int .i64 x.f0, .int .i64 x.f1.f0, .int .i64 x.f1.f1, .bool x.f2]] ++ #[]) W2 fun e w' => e = .returned (.bool (far m x)) ∧ Below W2.heap.size W2 w' := by
  obtain ⟨A, c, rfl⟩ : ∃ A c, vs = .slice A m.vars.length c := by
    rcases own_at h.hv with ⟨rfl, h0⟩ | ⟨g, cap, rfl, -⟩
    · exact ⟨none, 0, by rw [h0]⟩
    · exact ⟨_, _, rfl⟩
  exact far_calls W2 mb m.vars.length c A js ds (blk_below h.hm hB) x

set_option maxHeartbeats 4000000 in
set_option maxRecDepth 100000 in
theorem start_far1 (base : Nat) (ok : Nat → Prop) (W : World) (mb : Nat) (m : Mach) (vs js ds : Value) (bs : List Nat) (A : Option Addr) (c : Nat) (t : List S54) (h : At base ok W mb m vs js ds bs) (hC : Kd.C k54 W A t.length t) (hz : t.length ≤ 1000000) (hbase : base ≤ W.heap.size) (hjl : m.jobs.length ≤ 1000000) (hf1 : Hid ((readsL t).any (far m) = true)) :
    Calls Try.prog 24 #[ptr mb, .slice A t.length c] W (StartDone base ok W mb (m, 0, 2)) := by
  have hu83 := Try.underlying83
  have hu60 := Try.underlying60
  have hG := Lib.hid ((good_made W mb true vs js ds h.hm).mono fun e w' hh => (⟨hh.1, hh.2.symm⟩ : e = .returned (.bool true) ∧ W = w'))
  have HR := Lib.hid (reads_calls A c t W hC hz)
  have HW := Lib.hid (fun w1 (hB : Below W.heap.size W w1) => writes_calls A c t w1 (Kd.C_below hC hB) hz)
  obtain ⟨AJ, cJ, hjs⟩ : ∃ A c, js = .slice A bs.length c := by
    rcases own_at h.hj with ⟨hq, h0⟩ | ⟨g, cap, hq, -⟩
    · exact ⟨none, 0, by rw [hq, h.len, h0]⟩
    · exact ⟨_, _, by rw [hq, h.len]⟩
  subst hjs
  have hl1 : (readsL t).length ≤ 64 := listOf_len _
  have hl2 : (writesL t).length ≤ 64 := listOf_len _
  have HL := Lib.hid (And.intro hl1 hl2)
  have HH := Lib.hid (And.intro h (And.intro hbase hjl))
  clear h hC hz hbase hl1 hl2 hjl
  generalize readsL t = R at *
  generalize writesL t = Wt at *

  go_enter Try.func24, Try.ntmps24
  go_wp2_with fail
  refine hG.out.mono ?_
  rintro e w' ⟨rfl, rfl⟩
  go_wp2_with fail
  refine HR.out.mono ?_
  rintro e w1 ⟨A1, c1, rfl, hC1, hc1, hB1, hT1⟩
  have H1 := Lib.hid (And.intro hC1 (And.intro hc1 (And.intro hB1 hT1)))
  clear hC1 hc1 hB1 hT1
  go_wp2_with fail
  refine (HW.out w1 H1.out.2.2.1).mono ?_
  rintro e w2 ⟨A2, c2, rfl, hC2, hc2, hB2, hT2⟩
  obtain ⟨W3, hW3, K3, hB3⟩ : ∃ W3, w2.alloc (.cells #[.slice A1 R.length c1, .slice A2 Wt.length c2, .int .i64 0, .int .i64 0, .bool false] 83) = W3 ∧ W3.heap[w2.heap.size]? = some (.cells #[.slice A1 R.length c1, .slice A2 Wt.length c2, .int .i64 0, .int .i64 0, .bool false] 83 (0, 0)) ∧ Below w2.heap.size w2 W3 := ⟨_, rfl, heap_alloc_new _ _, bOne _⟩
  have HA1 : Hid (Row54 W3 (.slice A1 R.length c1) R ∧ Kd.C k54 W3 A1 R.length R) := Lib.hid ⟨⟨A1, c1, rfl, H1.out.2.1, Kd.C_below (Kd.C_below H1.out.1 hB2) hB3, (H1.out.2.2.2.below hB2).below hB3⟩, Kd.C_below (Kd.C_below H1.out.1 hB2) hB3⟩
  have HA2 : Hid (Row54 W3 (.slice A2 Wt.length c2) Wt ∧ Kd.C k54 W3 A2 Wt.length Wt) := Lib.hid ⟨⟨A2, c2, rfl, hc2, Kd.C_below hC2 hB3, hT2.below hB3⟩, Kd.C_below hC2 hB3⟩
  have HB3 : Hid (Below W.heap.size W W3 ∧ W.heap.size ≤ w2.heap.size) := Lib.hid ⟨bAfter (bAfter H1.out.2.2.1 hB2) hB3, (bAfter H1.out.2.2.1 hB2).size⟩
  have HK3 := Lib.hid K3
  have q0 := blk_cell K3 0
  have q1 := blk_cell K3 1
  clear hC2 hc2 hB2 hT2 K3 hB3 HR HW hG
  go_wp2_with fail
  refine (contains_calls 41 #[ptr mb] #[] (far m) A1 c1 R W3 (fun args W => rfl) HA1.out.2 (by have := HL.out.1; omega) (fun x _ W' hW' => HH.out.1.far (bAfter HB3.out.1 hW') x)).mono ?_
  rintro e w4 ⟨rfl, hB4⟩
  have HB := Lib.hid (bAfter HB3.out.1 hB4)
  clear hB4 q1
  rw [hf1.out]
  go_wp2_with fail
  go_ret2
  exact ⟨rfl, ⟨_, _, _, _, (HH.out.1.below HB.out).mono fun q => .inl⟩, Turned.below HB.out⟩

set_option maxHeartbeats 4000000 in
set_option maxRecDepth 100000 in
theorem start_far2 (base : Nat) (ok : Nat → Prop) (W : World) (mb : Nat) (m : Mach) (vs js ds : Value) (bs : List Nat) (A : Option Addr) (c : Nat) (t : List S54) (h : At base ok W mb m vs js ds bs) (hC : Kd.C k54 W A t.length t) (hz : t.length ≤ 1000000) (hbase : base ≤ W.heap.size) (hjl : m.jobs.length ≤ 1000000) (hf1 : Hid ((readsL t).any (far m) = false)) (hf2 : Hid ((writesL t).any (far m) = true)) :
    Calls Try.prog 24 #[ptr mb, .slice A t.length c] W (StartDone base ok W mb (m, 0, 2)) := by
  have hu83 := Try.underlying83
  have hu60 := Try.underlying60
  have hG := Lib.hid ((good_made W mb true vs js ds h.hm).mono fun e w' hh => (⟨hh.1, hh.2.symm⟩ : e = .returned (.bool true) ∧ W = w'))
  have HR := Lib.hid (reads_calls A c t W hC hz)
  have HW := Lib.hid (fun w1 (hB : Below W.heap.size W w1) => writes_calls A c t w1 (Kd.C_below hC hB) hz)
  obtain ⟨AJ, cJ, hjs⟩ : ∃ A c, js = .slice A bs.length c := by
    rcases own_at h.hj with ⟨hq, h0⟩ | ⟨g, cap, hq, -⟩
    · exact ⟨none, 0, by rw [hq, h.len, h0]⟩
    · exact ⟨_, _, by rw [hq, h.len]⟩
  subst hjs
  have hl1 : (readsL t).length ≤ 64 := listOf_len _
  have hl2 : (writesL t).length ≤ 64 := listOf_len _
  have HL := Lib.hid (And.intro hl1 hl2)
  have HH := Lib.hid (And.intro h (And.intro hbase hjl))
  clear h hC hz hbase hl1 hl2 hjl
  generalize readsL t = R at *
  generalize writesL t = Wt at *

  go_enter Try.func24, Try.ntmps24
  go_wp2_with fail
  refine hG.out.mono ?_
  rintro e w' ⟨rfl, rfl⟩
  go_wp2_with fail
  refine HR.out.mono ?_
  rintro e w1 ⟨A1, c1, rfl, hC1, hc1, hB1, hT1⟩
  have H1 := Lib.hid (And.intro hC1 (And.intro hc1 (And.intro hB1 hT1)))
  clear hC1 hc1 hB1 hT1
  go_wp2_with fail
  refine (HW.out w1 H1.out.2.2.1).mono ?_
  rintro e w2 ⟨A2, c2, rfl, hC2, hc2, hB2, hT2⟩
  obtain ⟨W3, hW3, K3, hB3⟩ : ∃ W3, w2.alloc (.cells #[.slice A1 R.length c1, .slice A2 Wt.length c2, .int .i64 0, .int .i64 0, .bool false] 83) = W3 ∧ W3.heap[w2.heap.size]? = some (.cells #[.slice A1 R.length c1, .slice A2 Wt.length c2, .int .i64 0, .int .i64 0, .bool false] 83 (0, 0)) ∧ Below w2.heap.size w2 W3 := ⟨_, rfl, heap_alloc_new _ _, bOne _⟩
  have HA1 : Hid (Row54 W3 (.slice A1 R.length c1) R ∧ Kd.C k54 W3 A1 R.length R) := Lib.hid ⟨⟨A1, c1, rfl, H1.out.2.1, Kd.C_below (Kd.C_below H1.out.1 hB2) hB3, (H1.out.2.2.2.below hB2).below hB3⟩, Kd.C_below (Kd.C_below H1.out.1 hB2) hB3⟩
  have HA2 : Hid (Row54 W3 (.slice A2 Wt.length c2) Wt ∧ Kd.C k54 W3 A2 Wt.length Wt) := Lib.hid ⟨⟨A2, c2, rfl, hc2, Kd.C_below hC2 hB3, hT2.below hB3⟩, Kd.C_below hC2 hB3⟩
  have HB3 : Hid (Below W.heap.size W W3 ∧ W.heap.size ≤ w2.heap.size) := Lib.hid ⟨bAfter (bAfter H1.out.2.2.1 hB2) hB3, (bAfter H1.out.2.2.1 hB2).size⟩
  have HK3 := Lib.hid K3
  have q0 := blk_cell K3 0
  have q1 := blk_cell K3 1
  clear hC2 hc2 hB2 hT2 K3 hB3 HR HW hG
  go_wp2_with fail
  refine (contains_calls 41 #[ptr mb] #[] (far m) A1 c1 R W3 (fun args W => rfl) HA1.out.2 (by have := HL.out.1; omega) (fun x _ W' hW' => HH.out.1.far (bAfter HB3.out.1 hW') x)).mono ?_
  rintro e w4 ⟨rfl, hB4⟩
  have q1' := blk_cell (blk_below HK3.out hB4) 1
  have HB4 := Lib.hid hB4
  clear hB4 q0 q1
  rw [hf1.out]
  go_wp2_with fail
  refine (contains_calls 41 #[ptr mb] #[] (far m) A2 c2 Wt w4 (fun args W => rfl) (Kd.C_below HA2.out.2 HB4.out) (by have := HL.out.2; omega) (fun x _ W' hW' => HH.out.1.far (bAfter HB3.out.1 (bAfter HB4.out hW')) x)).mono ?_
  rintro e w5 ⟨rfl, hB5⟩
  have HB5 := Lib.hid (bAfter HB4.out hB5)
  have HB := Lib.hid (bAfter HB3.out.1 (bAfter HB4.out hB5))
  clear hB5 q1'
  rw [hf2.out]
  go_wp2_with fail
  go_ret2
  exact ⟨rfl, ⟨_, _, _, _, (HH.out.1.below HB.out).mono fun q => .inl⟩, Turned.below HB.out⟩

set_option maxHeartbeats 4000000 in
set_option maxRecDepth 100000 in
theorem start_full (base : Nat) (ok : Nat → Prop) (W : World) (mb : Nat) (m : Mach) (vs js ds : Value) (bs : List Nat) (A : Option Addr) (c : Nat) (t : List S54) (h : At base ok W mb m vs js ds bs) (hC : Kd.C k54 W A t.length t) (hz : t.length ≤ 1000000) (hbase : base ≤ W.heap.size) (hjl : m.jobs.length ≤ 1000000) (hf1 : Hid ((readsL t).any (far m) = false)) (hf2 : Hid ((writesL t).any (far m) = false)) (hfull : Hid (200 ≤ m.jobs.length)) :
    Calls Try.prog 24 #[ptr mb, .slice A t.length c] W (StartDone base ok W mb (m, 0, 4)) := by
  have hu83 := Try.underlying83
  have hu60 := Try.underlying60
  have hG := Lib.hid ((good_made W mb true vs js ds h.hm).mono fun e w' hh => (⟨hh.1, hh.2.symm⟩ : e = .returned (.bool true) ∧ W = w'))
  have HR := Lib.hid (reads_calls A c t W hC hz)
  have HW := Lib.hid (fun w1 (hB : Below W.heap.size W w1) => writes_calls A c t w1 (Kd.C_below hC hB) hz)
  obtain ⟨AJ, cJ, hjs⟩ : ∃ A c, js = .slice A bs.length c := by
    rcases own_at h.hj with ⟨hq, h0⟩ | ⟨g, cap, hq, -⟩
    · exact ⟨none, 0, by rw [hq, h.len, h0]⟩
    · exact ⟨_, _, by rw [hq, h.len]⟩
  subst hjs
  have hl1 : (readsL t).length ≤ 64 := listOf_len _
  have hl2 : (writesL t).length ≤ 64 := listOf_len _
  have HL := Lib.hid (And.intro hl1 hl2)
  have HH := Lib.hid (And.intro h (And.intro hbase hjl))
  clear h hC hz hbase hl1 hl2 hjl
  generalize readsL t = R at *
  generalize writesL t = Wt at *

  go_enter Try.func24, Try.ntmps24
  go_wp2_with fail
  refine hG.out.mono ?_
  rintro e w' ⟨rfl, rfl⟩
  go_wp2_with fail
  refine HR.out.mono ?_
  rintro e w1 ⟨A1, c1, rfl, hC1, hc1, hB1, hT1⟩
  have H1 := Lib.hid (And.intro hC1 (And.intro hc1 (And.intro hB1 hT1)))
  clear hC1 hc1 hB1 hT1
  go_wp2_with fail
  refine (HW.out w1 H1.out.2.2.1).mono ?_
  rintro e w2 ⟨A2, c2, rfl, hC2, hc2, hB2, hT2⟩
  obtain ⟨W3, hW3, K3, hB3⟩ : ∃ W3, w2.alloc (.cells #[.slice A1 R.length c1, .slice A2 Wt.length c2, .int .i64 0, .int .i64 0, .bool false] 83) = W3 ∧ W3.heap[w2.heap.size]? = some (.cells #[.slice A1 R.length c1, .slice A2 Wt.length c2, .int .i64 0, .int .i64 0, .bool false] 83 (0, 0)) ∧ Below w2.heap.size w2 W3 := ⟨_, rfl, heap_alloc_new _ _, bOne _⟩
  have HA1 : Hid (Row54 W3 (.slice A1 R.length c1) R ∧ Kd.C k54 W3 A1 R.length R) := Lib.hid ⟨⟨A1, c1, rfl, H1.out.2.1, Kd.C_below (Kd.C_below H1.out.1 hB2) hB3, (H1.out.2.2.2.below hB2).below hB3⟩, Kd.C_below (Kd.C_below H1.out.1 hB2) hB3⟩
  have HA2 : Hid (Row54 W3 (.slice A2 Wt.length c2) Wt ∧ Kd.C k54 W3 A2 Wt.length Wt) := Lib.hid ⟨⟨A2, c2, rfl, hc2, Kd.C_below hC2 hB3, hT2.below hB3⟩, Kd.C_below hC2 hB3⟩
  have HB3 : Hid (Below W.heap.size W W3 ∧ W.heap.size ≤ w2.heap.size) := Lib.hid ⟨bAfter (bAfter H1.out.2.2.1 hB2) hB3, (bAfter H1.out.2.2.1 hB2).size⟩
  have HK3 := Lib.hid K3
  have q0 := blk_cell K3 0
  have q1 := blk_cell K3 1
  clear hC2 hc2 hB2 hT2 K3 hB3 HR HW hG
  go_wp2_with fail
  refine (contains_calls 41 #[ptr mb] #[] (far m) A1 c1 R W3 (fun args W => rfl) HA1.out.2 (by have := HL.out.1; omega) (fun x _ W' hW' => HH.out.1.far (bAfter HB3.out.1 hW') x)).mono ?_
  rintro e w4 ⟨rfl, hB4⟩
  have q1' := blk_cell (blk_below HK3.out hB4) 1
  have HB4 := Lib.hid hB4
  clear hB4 q0 q1
  rw [hf1.out]
  go_wp2_with fail
  refine (contains_calls 41 #[ptr mb] #[] (far m) A2 c2 Wt w4 (fun args W => rfl) (Kd.C_below HA2.out.2 HB4.out) (by have := HL.out.2; omega) (fun x _ W' hW' => HH.out.1.far (bAfter HB3.out.1 (bAfter HB4.out hW')) x)).mono ?_
  rintro e w5 ⟨rfl, hB5⟩
  have HB5 := Lib.hid (bAfter HB4.out hB5)
  have HB := Lib.hid (bAfter HB3.out.1 (bAfter HB4.out hB5))
  clear hB5 q1'
  rw [hf2.out]
  have m2 := blk_cell (blk_below HH.out.1.hm HB.out) 2
  have hjn : (bs.length : Int) ≥ 200 := by have := HH.out.1.len; have := hfull.out; omega
  go_wp2_with fail
  go_ret2
  exact ⟨rfl, ⟨_, _, _, _, (HH.out.1.below HB.out).mono fun q => .inl⟩, Turned.below HB.out⟩

set_option maxHeartbeats 4000000 in
set_option maxRecDepth 100000 in
theorem start_empty (base : Nat) (ok : Nat → Prop) (W : World) (mb : Nat) (m : Mach) (vs js ds : Value) (bs : List Nat) (A : Option Addr) (c : Nat) (t : List S54) (h : At base ok W mb m vs js ds bs) (hC : Kd.C k54 W A t.length t) (hz : t.length ≤ 1000000) (hbase : base ≤ W.heap.size) (hjl : m.jobs.length ≤ 1000000) (hf1 : Hid ((readsL t).any (far m) = false)) (hf2 : Hid ((writesL t).any (far m) = false)) (hfull : Hid (m.jobs.length < 200)) (hemp : Hid ((writesL t).length = 0)) :
    Calls Try.prog 24 #[ptr mb, .slice A t.length c] W (StartDone base ok W mb ({ m with jobs := m.jobs ++ [⟨readsL t, writesL t, 1, 0, false⟩] }, (m.jobs.length : Int) + 1, 0)) := by
  have hu83 := Try.underlying83
  have hu60 := Try.underlying60
  have hG := Lib.hid ((good_made W mb true vs js ds h.hm).mono fun e w' hh => (⟨hh.1, hh.2.symm⟩ : e = .returned (.bool true) ∧ W = w'))
  have HR := Lib.hid (reads_calls A c t W hC hz)
  have HW := Lib.hid (fun w1 (hB : Below W.heap.size W w1) => writes_calls A c t w1 (Kd.C_below hC hB) hz)
  obtain ⟨AJ, cJ, hjs⟩ : ∃ A c, js = .slice A bs.length c := by
    rcases own_at h.hj with ⟨hq, h0⟩ | ⟨g, cap, hq, -⟩
    · exact ⟨none, 0, by rw [hq, h.len, h0]⟩
    · exact ⟨_, _, by rw [hq, h.len]⟩
  subst hjs
  have hl1 : (readsL t).length ≤ 64 := listOf_len _
  have hl2 : (writesL t).length ≤ 64 := listOf_len _
  have HL := Lib.hid (And.intro hl1 hl2)
  have HH := Lib.hid (And.intro h (And.intro hbase hjl))
  clear h hC hz hbase hl1 hl2 hjl
  generalize readsL t = R at *
  generalize writesL t = Wt at *

  go_enter Try.func24, Try.ntmps24
  go_wp2_with fail
  refine hG.out.mono ?_
  rintro e w' ⟨rfl, rfl⟩
  go_wp2_with fail
  refine HR.out.mono ?_
  rintro e w1 ⟨A1, c1, rfl, hC1, hc1, hB1, hT1⟩
  have H1 := Lib.hid (And.intro hC1 (And.intro hc1 (And.intro hB1 hT1)))
  clear hC1 hc1 hB1 hT1
  go_wp2_with fail
  refine (HW.out w1 H1.out.2.2.1).mono ?_
  rintro e w2 ⟨A2, c2, rfl, hC2, hc2, hB2, hT2⟩
  obtain ⟨W3, hW3, K3, hB3⟩ : ∃ W3, w2.alloc (.cells #[.slice A1 R.length c1, .slice A2 Wt.length c2, .int .i64 0, .int .i64 0, .bool false] 83) = W3 ∧ W3.heap[w2.heap.size]? = some (.cells #[.slice A1 R.length c1, .slice A2 Wt.length c2, .int .i64 0, .int .i64 0, .bool false] 83 (0, 0)) ∧ Below w2.heap.size w2 W3 := ⟨_, rfl, heap_alloc_new _ _, bOne _⟩
  have HA1 : Hid (Row54 W3 (.slice A1 R.length c1) R ∧ Kd.C k54 W3 A1 R.length R) := Lib.hid ⟨⟨A1, c1, rfl, H1.out.2.1, Kd.C_below (Kd.C_below H1.out.1 hB2) hB3, (H1.out.2.2.2.below hB2).below hB3⟩, Kd.C_below (Kd.C_below H1.out.1 hB2) hB3⟩
  have HA2 : Hid (Row54 W3 (.slice A2 Wt.length c2) Wt ∧ Kd.C k54 W3 A2 Wt.length Wt) := Lib.hid ⟨⟨A2, c2, rfl, hc2, Kd.C_below hC2 hB3, hT2.below hB3⟩, Kd.C_below hC2 hB3⟩
  have HB3 : Hid (Below W.heap.size W W3 ∧ W.heap.size ≤ w2.heap.size) := Lib.hid ⟨bAfter (bAfter H1.out.2.2.1 hB2) hB3, (bAfter H1.out.2.2.1 hB2).size⟩
  have HK3 := Lib.hid K3
  have q0 := blk_cell K3 0
  have q1 := blk_cell K3 1
  clear hC2 hc2 hB2 hT2 K3 hB3 HR HW hG
  go_wp2_with fail
  refine (contains_calls 41 #[ptr mb] #[] (far m) A1 c1 R W3 (fun args W => rfl) HA1.out.2 (by have := HL.out.1; omega) (fun x _ W' hW' => HH.out.1.far (bAfter HB3.out.1 hW') x)).mono ?_
  rintro e w4 ⟨rfl, hB4⟩
  have q1' := blk_cell (blk_below HK3.out hB4) 1
  have HB4 := Lib.hid hB4
  clear hB4 q0 q1
  rw [hf1.out]
  go_wp2_with fail
  refine (contains_calls 41 #[ptr mb] #[] (far m) A2 c2 Wt w4 (fun args W => rfl) (Kd.C_below HA2.out.2 HB4.out) (by have := HL.out.2; omega) (fun x _ W' hW' => HH.out.1.far (bAfter HB3.out.1 (bAfter HB4.out hW')) x)).mono ?_
  rintro e w5 ⟨rfl, hB5⟩
  have HB5 := Lib.hid (bAfter HB4.out hB5)
  have HB := Lib.hid (bAfter HB3.out.1 (bAfter HB4.out hB5))
  clear hB5 q1'
  rw [hf2.out]
  have m2 := blk_cell (blk_below HH.out.1.hm HB.out) 2
  have hjn : ¬ ((bs.length : Int) ≥ 200) := by have := HH.out.1.len; have := hfull.out; omega
  have K5 := blk_below HK3.out HB5.out
  have k1 := blk_cell K5 1
  have k2 := blk_cell K5 2
  have l2 := blk_frozen K5 2
  have hwb : ((Wt.length : Int) == 0) = true := by rw [beq_iff_eq]; have := hemp.out; omega
  obtain ⟨W6, hW6, K6, J6, hO6, hB6⟩ : ∃ W6, w5.setCell ⟨w2.heap.size, 2, none⟩ (.int .i64 1) = W6 ∧ W6.heap[mb]? = some (.cells #[.bool true, vs, .slice AJ bs.length cJ, ds] 60 (0, 0)) ∧ W6.heap[w2.heap.size]? = some (.cells #[.slice A1 R.length c1, .slice A2 Wt.length c2, .int .i64 1, .int .i64 0, .bool false] 83 (0, 0)) ∧ W6.ownsRow base 79 1 (.slice AJ bs.length cJ) bs.length (bs.map ptr) ∧ Below W.heap.size W W6 := by
    have hb : Below W.heap.size W (w5.setCell ⟨w2.heap.size, 2, none⟩ (.int .i64 1)) := (HB.out.setCell (p := ⟨w2.heap.size, 2, none⟩) HB3.out.2 _)
    refine ⟨_, rfl, blk_below HH.out.1.hm hb, blk_put K5 2 _ rfl, ?_, hb⟩
    have := own_below hb HH.out.1.hj
    rw [← HH.out.1.len] at this
    exact this
  have m2' := blk_cell K6 2
  have HP6 := Lib.hid (And.intro K6 (And.intro J6 (And.intro hO6 (And.intro hB6 (And.intro (((HA1.out.1.below HB5.out).T (hW6 ▸ Turned.grown (grown_set _ w2.heap.size 2 _) fun p e => by injection e with e; exact e.symm) (SpT.of K5 (by decide)))) (((HA2.out.1.below HB5.out).T (hW6 ▸ Turned.grown (grown_set _ w2.heap.size 2 _) fun p e => by injection e with e; exact e.symm) (SpT.of K5 (by decide)))))))))
  clear K6 J6 hO6 hB6 K5
  go_wp2_with (at_builtin; refine print_append (w0 := W6) base rfl _ _ 58 79 (.pointer none) 8 rfl Try.underlying58 (by kernel_rfl) rfl (by decide) (.slice AJ bs.length cJ) (bs.map ptr) (ptr w2.heap.size) rfl rfl rfl ?HO (Below.refl _ _) ?HB ?HL ?_)
  case HO => rw [List.length_map]; exact HP6.out.2.2.1
  case HB => exact Nat.le_trans HH.out.2.1 HP6.out.2.2.2.1.size
  case HL => rw [List.length_map]; have := HH.out.1.len; have := HH.out.2.2; omega
  intro v1 w7 hown hB7 hg7 hat
  have hnj : SpT W6 (fun q => (Value.slice AJ bs.length cJ).ownBlock = some q) 60 := SpT.row HP6.out.2.2.1 (by decide)
  have hm7 := (hg7.block mb (blk_lt HP6.out.1) (fun e => hnj.not HP6.out.1 e.symm)).trans HP6.out.1
  have hown' : w7.ownsRow base 79 1 v1 (bs.length + 1) ((bs ++ [w2.heap.size]).map ptr) := by rw [List.map_append]; exact hown
  obtain ⟨A3, c3, rfl⟩ := own_slice hown'
  obtain ⟨W8, hW8, K8, hT8, hO8⟩ : ∃ W8, w7.setCell ⟨mb, 2, none⟩ (.slice A3 (bs.length + 1) c3) = W8 ∧ W8.heap[mb]? = some (.cells #[.bool true, vs, .slice A3 (bs.length + 1) c3, ds] 60 (0, 0)) ∧ Turned (fun q => (Value.slice AJ bs.length cJ).ownBlock = some q ∨ q = mb) W6 W8 ∧ W8.ownsRow base 79 1 (.slice A3 (bs.length + 1) c3) (bs.length + 1) ((bs ++ [w2.heap.size]).map ptr) :=
    ⟨_, rfl, blk_put hm7 2 _ rfl, (Turned.grown hg7 fun p e => .inl e).trans ((Turned.grown (grown_set _ mb 2 _) fun p e => by injection e with e; exact e.symm).weak fun q e => .inr e), own_T hown' (Turned.grown (grown_set _ mb 2 _) fun p e => by injection e with e; exact e.symm) (SpT.of hm7 (by decide))⟩
  have HO : Hid (∀ k, (Value.slice A3 (bs.length + 1) c3).ownBlock = some k → ok k ∨ W.heap.size ≤ k) := Lib.hid (fun k hk => by
    rcases hat with e | ⟨q, e, hq⟩
    · rw [e] at hk; exact .inl (HH.out.1.okj k hk)
    · rw [e] at hk; injection hk with hk; subst hk; exact .inr (Nat.le_trans HP6.out.2.2.2.1.size hq))
  have m7 := blk_cell hm7 2
  have n7 := blk_frozen hm7 2
  have k8 := blk_cell K8 2
  have H8 := Lib.hid (And.intro K8 (And.intro hT8 hO8))
  clear hown hown' hB7 hg7 hat hm7 K8 hT8 hO8 hnj
  go_wp2_with fail
  go_ret2
  have hA := HH.out.1.below HP6.out.2.2.2.1
  refine ⟨?_, ⟨vs, .slice A3 (bs.length + 1) c3, ds, bs ++ [w2.heap.size], ?_⟩, (Turned.below HP6.out.2.2.2.1).trans (H8.out.2.1.weak fun q e => e.elim (HH.out.1.okj q) (fun e => e ▸ HH.out.1.okm))⟩
  · rw [← HH.out.1.len]
    rfl
  · refine hA.starts (ok' := fun q => ok q ∨ W.heap.size ≤ q) (j := ⟨R, Wt, 1, 0, false⟩) H8.out.2.1 H8.out.1 ?_ HO.out (fun k => .inl) (Nat.le_trans HH.out.2.1 HB3.out.2) (.inr HB3.out.2) (fun d hd e => ?_) ⟨_, _, HP6.out.2.1, HP6.out.2.2.2.2.1, HP6.out.2.2.2.2.2⟩
    · rw [List.length_append]
      exact H8.out.2.2
    · subst e
      obtain ⟨i, hi⟩ := List.getElem?_of_mem hd
      have hlt : i < m.jobs.length := by rw [← HH.out.1.len]; exact (List.getElem?_eq_some_iff.1 hi).1
      obtain ⟨-, -, rv, wv, h5, -⟩ := HH.out.1.at_ i _ _ hi (List.getElem?_eq_getElem hlt)
      have := blk_lt h5
      have := HB3.out.2
      omega

set_option maxHeartbeats 4000000 in
set_option maxRecDepth 100000 in
theorem start_some (base : Nat) (ok : Nat → Prop) (W : World) (mb : Nat) (m : Mach) (vs js ds : Value) (bs : List Nat) (A : Option Addr) (c : Nat) (t : List S54) (h : At base ok W mb m vs js ds bs) (hC : Kd.C k54 W A t.length t) (hz : t.length ≤ 1000000) (hbase : base ≤ W.heap.size) (hjl : m.jobs.length ≤ 1000000) (hf1 : Hid ((readsL t).any (far m) = false)) (hf2 : Hid ((writesL t).any (far m) = false)) (hfull : Hid (m.jobs.length < 200)) (hemp : Hid ((writesL t).length ≠ 0)) :
    Calls Try.prog 24 #[ptr mb, .slice A t.length c] W (StartDone base ok W mb ({ m with jobs := m.jobs ++ [⟨readsL t, writesL t, 0, 0, false⟩] }, (m.jobs.length : Int) + 1, 0)) := by
  have hu83 := Try.underlying83
  have hu60 := Try.underlying60
  have hG := Lib.hid ((good_made W mb true vs js ds h.hm).mono fun e w' hh => (⟨hh.1, hh.2.symm⟩ : e = .returned (.bool true) ∧ W = w'))
  have HR := Lib.hid (reads_calls A c t W hC hz)
  have HW := Lib.hid (fun w1 (hB : Below W.heap.size W w1) => writes_calls A c t w1 (Kd.C_below hC hB) hz)
  obtain ⟨AJ, cJ, hjs⟩ : ∃ A c, js = .slice A bs.length c := by
    rcases own_at h.hj with ⟨hq, h0⟩ | ⟨g, cap, hq, -⟩
    · exact ⟨none, 0, by rw [hq, h.len, h0]⟩
    · exact ⟨_, _, by rw [hq, h.len]⟩
  subst hjs
  have hl1 : (readsL t).length ≤ 64 := listOf_len _
  have hl2 : (writesL t).length ≤ 64 := listOf_len _
  have HL := Lib.hid (And.intro hl1 hl2)
  have HH := Lib.hid (And.intro h (And.intro hbase hjl))
  clear h hC hz hbase hl1 hl2 hjl
  generalize readsL t = R at *
  generalize writesL t = Wt at *

  go_enter Try.func24, Try.ntmps24
  go_wp2_with fail
  refine hG.out.mono ?_
  rintro e w' ⟨rfl, rfl⟩
  go_wp2_with fail
  refine HR.out.mono ?_
  rintro e w1 ⟨A1, c1, rfl, hC1, hc1, hB1, hT1⟩
  have H1 := Lib.hid (And.intro hC1 (And.intro hc1 (And.intro hB1 hT1)))
  clear hC1 hc1 hB1 hT1
  go_wp2_with fail
  refine (HW.out w1 H1.out.2.2.1).mono ?_
  rintro e w2 ⟨A2, c2, rfl, hC2, hc2, hB2, hT2⟩
  obtain ⟨W3, hW3, K3, hB3⟩ : ∃ W3, w2.alloc (.cells #[.slice A1 R.length c1, .slice A2 Wt.length c2, .int .i64 0, .int .i64 0, .bool false] 83) = W3 ∧ W3.heap[w2.heap.size]? = some (.cells #[.slice A1 R.length c1, .slice A2 Wt.length c2, .int .i64 0, .int .i64 0, .bool false] 83 (0, 0)) ∧ Below w2.heap.size w2 W3 := ⟨_, rfl, heap_alloc_new _ _, bOne _⟩
  have HA1 : Hid (Row54 W3 (.slice A1 R.length c1) R ∧ Kd.C k54 W3 A1 R.length R) := Lib.hid ⟨⟨A1, c1, rfl, H1.out.2.1, Kd.C_below (Kd.C_below H1.out.1 hB2) hB3, (H1.out.2.2.2.below hB2).below hB3⟩, Kd.C_below (Kd.C_below H1.out.1 hB2) hB3⟩
  have HA2 : Hid (Row54 W3 (.slice A2 Wt.length c2) Wt ∧ Kd.C k54 W3 A2 Wt.length Wt) := Lib.hid ⟨⟨A2, c2, rfl, hc2, Kd.C_below hC2 hB3, hT2.below hB3⟩, Kd.C_below hC2 hB3⟩
  have HB3 : Hid (Below W.heap.size W W3 ∧ W.heap.size ≤ w2.heap.size) := Lib.hid ⟨bAfter (bAfter H1.out.2.2.1 hB2) hB3, (bAfter H1.out.2.2.1 hB2).size⟩
  have HK3 := Lib.hid K3
  have q0 := blk_cell K3 0
  have q1 := blk_cell K3 1
  clear hC2 hc2 hB2 hT2 K3 hB3 HR HW hG
  go_wp2_with fail
  refine (contains_calls 41 #[ptr mb] #[] (far m) A1 c1 R W3 (fun args W => rfl) HA1.out.2 (by have := HL.out.1; omega) (fun x _ W' hW' => HH.out.1.far (bAfter HB3.out.1 hW') x)).mono ?_
  rintro e w4 ⟨rfl, hB4⟩
  have q1' := blk_cell (blk_below HK3.out hB4) 1
  have HB4 := Lib.hid hB4
  clear hB4 q0 q1
  rw [hf1.out]
  go_wp2_with fail
  refine (contains_calls 41 #[ptr mb] #[] (far m) A2 c2 Wt w4 (fun args W => rfl) (Kd.C_below HA2.out.2 HB4.out) (by have := HL.out.2; omega) (fun x _ W' hW' => HH.out.1.far (bAfter HB3.out.1 (bAfter HB4.out hW')) x)).mono ?_
  rintro e w5 ⟨rfl, hB5⟩
  have HB5 := Lib.hid (bAfter HB4.out hB5)
  have HB := Lib.hid (bAfter HB3.out.1 (bAfter HB4.out hB5))
  clear hB5 q1'
  rw [hf2.out]
  have m2 := blk_cell (blk_below HH.out.1.hm HB.out) 2
  have hjn : ¬ ((bs.length : Int) ≥ 200) := by have := HH.out.1.len; have := hfull.out; omega
  have K5 := blk_below HK3.out HB5.out
  have k1 := blk_cell K5 1
  have k2 := blk_cell K5 2
  have l2 := blk_frozen K5 2
  have hwb : ((Wt.length : Int) == 0) = false := by rw [beq_eq_false_iff_ne]; have := hemp.out; omega
  obtain ⟨W6, hW6, K6, J6, hO6, hB6⟩ : ∃ W6, w5 = W6 ∧ W6.heap[mb]? = some (.cells #[.bool true, vs, .slice AJ bs.length cJ, ds] 60 (0, 0)) ∧ W6.heap[w2.heap.size]? = some (.cells #[.slice A1 R.length c1, .slice A2 Wt.length c2, .int .i64 0, .int .i64 0, .bool false] 83 (0, 0)) ∧ W6.ownsRow base 79 1 (.slice AJ bs.length cJ) bs.length (bs.map ptr) ∧ Below W.heap.size W W6 := by
    have hb : Below W.heap.size W (w5) := HB.out
    refine ⟨_, rfl, blk_below HH.out.1.hm hb, K5, ?_, hb⟩
    have := own_below hb HH.out.1.hj
    rw [← HH.out.1.len] at this
    exact this
  have m2' := blk_cell K6 2
  subst hW6
  have HP6 := Lib.hid (And.intro K6 (And.intro J6 (And.intro hO6 (And.intro hB6 trivial))))
  clear K6 J6 hO6 hB6 K5 m2'
  go_wp2_with (at_builtin; refine print_append (w0 := w5) base rfl _ _ 58 79 (.pointer none) 8 rfl Try.underlying58 (by kernel_rfl) rfl (by decide) (.slice AJ bs.length cJ) (bs.map ptr) (ptr w2.heap.size) rfl rfl rfl ?HO (Below.refl _ _) ?HB ?HL ?_)
  case HO => rw [List.length_map]; exact HP6.out.2.2.1
  case HB => exact Nat.le_trans HH.out.2.1 HP6.out.2.2.2.1.size
  case HL => rw [List.length_map]; have := HH.out.1.len; have := HH.out.2.2; omega
  intro v1 w7 hown hB7 hg7 hat
  have hnj : SpT w5 (fun q => (Value.slice AJ bs.length cJ).ownBlock = some q) 60 := SpT.row HP6.out.2.2.1 (by decide)
  have hm7 := (hg7.block mb (blk_lt HP6.out.1) (fun e => hnj.not HP6.out.1 e.symm)).trans HP6.out.1
  have hown' : w7.ownsRow base 79 1 v1 (bs.length + 1) ((bs ++ [w2.heap.size]).map ptr) := by rw [List.map_append]; exact hown
  obtain ⟨A3, c3, rfl⟩ := own_slice hown'
  obtain ⟨W8, hW8, K8, hT8, hO8⟩ : ∃ W8, w7.setCell ⟨mb, 2, none⟩ (.slice A3 (bs.length + 1) c3) = W8 ∧ W8.heap[mb]? = some (.cells #[.bool true, vs, .slice A3 (bs.length + 1) c3, ds] 60 (0, 0)) ∧ Turned (fun q => (Value.slice AJ bs.length cJ).ownBlock = some q ∨ q = mb) w5 W8 ∧ W8.ownsRow base 79 1 (.slice A3 (bs.length + 1) c3) (bs.length + 1) ((bs ++ [w2.heap.size]).map ptr) :=
    ⟨_, rfl, blk_put hm7 2 _ rfl, (Turned.grown hg7 fun p e => .inl e).trans ((Turned.grown (grown_set _ mb 2 _) fun p e => by injection e with e; exact e.symm).weak fun q e => .inr e), own_T hown' (Turned.grown (grown_set _ mb 2 _) fun p e => by injection e with e; exact e.symm) (SpT.of hm7 (by decide))⟩
  have HO : Hid (∀ k, (Value.slice A3 (bs.length + 1) c3).ownBlock = some k → ok k ∨ W.heap.size ≤ k) := Lib.hid (fun k hk => by
    rcases hat with e | ⟨q, e, hq⟩
    · rw [e] at hk; exact .inl (HH.out.1.okj k hk)
    · rw [e] at hk; injection hk with hk; subst hk; exact .inr (Nat.le_trans HP6.out.2.2.2.1.size hq))
  have m7 := blk_cell hm7 2
  have n7 := blk_frozen hm7 2
  have k8 := blk_cell K8 2
  have H8 := Lib.hid (And.intro K8 (And.intro hT8 hO8))
  clear hown hown' hB7 hg7 hat hm7 K8 hT8 hO8 hnj
  go_wp2_with fail
  go_ret2
  have hA := HH.out.1.below HP6.out.2.2.2.1
  refine ⟨?_, ⟨vs, .slice A3 (bs.length + 1) c3, ds, bs ++ [w2.heap.size], ?_⟩, (Turned.below HP6.out.2.2.2.1).trans (H8.out.2.1.weak fun q e => e.elim (HH.out.1.okj q) (fun e => e ▸ HH.out.1.okm))⟩
  · rw [← HH.out.1.len]
    rfl
  · refine hA.starts (ok' := fun q => ok q ∨ W.heap.size ≤ q) (j := ⟨R, Wt, 0, 0, false⟩) H8.out.2.1 H8.out.1 ?_ HO.out (fun k => .inl) (Nat.le_trans HH.out.2.1 HB3.out.2) (.inr HB3.out.2) (fun d hd e => ?_) ⟨_, _, HP6.out.2.1, HA1.out.1.below HB5.out, HA2.out.1.below HB5.out⟩
    · rw [List.length_append]
      exact H8.out.2.2
    · subst e
      obtain ⟨i, hi⟩ := List.getElem?_of_mem hd
      have hlt : i < m.jobs.length := by rw [← HH.out.1.len]; exact (List.getElem?_eq_some_iff.1 hi).1
      obtain ⟨-, -, rv, wv, h5, -⟩ := HH.out.1.at_ i _ _ hi (List.getElem?_eq_getElem hlt)
      have := blk_lt h5
      have := HB3.out.2
      omega

theorem start_calls (base : Nat) (ok : Nat → Prop) (W : World) (mb : Nat) (m : Mach) (A : Option Addr) (c : Nat) (t : List S54) (h : IsM base ok W mb m) (hC : Kd.C k54 W A t.length t) (hz : t.length ≤ 1000000) (hbase : base ≤ W.heap.size) (hjl : m.jobs.length ≤ 1000000) :
    Calls Try.prog 24 #[ptr mb, .slice A t.length c] W (StartDone base ok W mb (startS m t)) := by
  obtain ⟨vs, js, ds, bs, h⟩ := h
  unfold startS
  cases h1 : (readsL t).any (far m) with
  | true => exact start_far1 base ok W mb m vs js ds bs A c t h hC hz hbase hjl (Lib.hid h1)
  | false =>
    cases h2 : (writesL t).any (far m) with
    | true => exact start_far2 base ok W mb m vs js ds bs A c t h hC hz hbase hjl (Lib.hid h1) (Lib.hid h2)
    | false =>
      rw [if_neg (by decide)]
      by_cases h3 : 200 ≤ m.jobs.length
      · rw [if_pos h3]
        exact start_full base ok W mb m vs js ds bs A c t h hC hz hbase hjl (Lib.hid h1) (Lib.hid h2) (Lib.hid h3)
      · rw [if_neg h3]
        unfold jobOf
        by_cases h4 : (writesL t).length = 0
        · rw [if_pos h4]
          exact start_empty base ok W mb m vs js ds bs A c t h hC hz hbase hjl (Lib.hid h1) (Lib.hid h2) (Lib.hid (by omega)) (Lib.hid h4)
        · rw [if_neg h4]
          exact start_some base ok W mb m vs js ds bs A c t h hC hz hbase hjl (Lib.hid h1) (Lib.hid h2) (Lib.hid (by omega)) (Lib.hid h4)

end Go.Proofs.Ytkecbdeekpbbjaa.Q
