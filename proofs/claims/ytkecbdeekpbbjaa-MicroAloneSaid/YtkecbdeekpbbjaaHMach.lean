/- A machine of commits, as it lies in memory; its small methods, by hand. -/
import Derived.Test.YtkecbdeekpbbjaaHRepeat
import Derived.Test.YtkecbdeekpbbjaaHEq
/-! A machine of commits, as it lies in memory; its small methods, by hand. -/
namespace Go.Proofs.Ytkecbdeekpbbjaa.Q
open Go.RowKit Go.Lib Go.Proofs.Ytkecbdeekpbbjaa Go.Proofs.YtkecbdeekpbbjaaW.PrintWords Go.Proofs.YtkecbdeekpbbjaaW.PrintLast Go.Proofs.YtkecbdeekpbbjaaW.PrintMore
set_option linter.unusedVariables false
set_option linter.unusedSimpArgs false

/-- A variable: what it has, whose it is. A commit. A machine. -/
structure Vr where
  val : S44
  lock : Int
structure Job where
  reads : List S54
  writes : List S54
  state : Int
  next : Nat
  failed : Bool
structure Mach where
  vars : List Vr
  jobs : List Job
  decided : List Int
abbrev cV (v : Vr) : List Value := [.int .i64 v.val.f0, .int .i64 v.val.f1, .int .i64 v.lock]
abbrev zV : Vr := ⟨⟨0, 0⟩, 0⟩
abbrev ptr (b : Nat) : Value := .pointer (some ⟨b, 0, none⟩)

/-- A row of steps that lies there. -/
def Row54 (W : World) (v : Value) (xs : List S54) : Prop := ∃ A c, v = .slice A xs.length c ∧ xs.length ≤ c ∧ Kd.C k54 W A xs.length xs ∧ Typed W A
theorem Row54.below {W W' : World} {v : Value} {xs : List S54} (h : Row54 W v xs) (hb : Below W.heap.size W W') : Row54 W' v xs := by
  obtain ⟨A, c, h1, h2, h3, h4⟩ := h
  exact ⟨A, c, h1, h2, Kd.C_below h3 hb, h4.below hb⟩
/-- What is turned is no row of such elements. -/
def Spares (W : World) (row : Option Nat) (e : Nat) : Prop := ∀ p, row = some p → ∀ cs, W.heap[p]? ≠ some (.cells cs e (0, 0))
theorem Spares.of {W : World} {p t e : Nat} {cs : Array Value} (h : W.heap[p]? = some (.cells cs t (0, 0))) (hne : t ≠ e) : Spares W (some p) e := fun q hq cs' h' => by
  injection hq with hq
  subst hq
  rw [h] at h'
  injection h' with h'
  injection h' with _ h'
  exact hne h'
theorem Spares.own {W : World} {base size n t e : Nat} {v : Value} {xs : List Value} (h : W.ownsRow base t size v n xs) (hne : t ≠ e) : Spares W v.ownBlock e := fun q hq cs' h' => by
  obtain ⟨cells, hc⟩ := own_typed h q hq
  rw [hc] at h'
  injection h' with h'
  injection h' with _ h'
  exact hne h'
theorem own_spare {W W' : World} {base size n e : Nat} {v : Value} {xs : List Value} {row : Option Nat} (h : W.ownsRow base e size v n xs) (hg : W.grownBy W' row) (hs : Spares W row e) : W'.ownsRow base e size v n xs := by
  refine h.kept hg ?_
  cases hv : v.ownBlock with
  | none => exact .inl rfl
  | some g =>
    refine .inr fun e' => ?_
    obtain ⟨cells, hc⟩ := own_typed h g hv
    exact hs g e'.symm cells hc
theorem Row54.spare {W W' : World} {v : Value} {xs : List S54} (h : Row54 W v xs) {row : Option Nat} (hg : W.grownBy W' row) (hp : Spares W row 54) : Row54 W' v xs := by
  obtain ⟨A, c, h1, h2, ⟨h3, h4, h5⟩, h6⟩ := h
  refine ⟨A, c, h1, h2, ⟨h3, h4, fun hm => ?_⟩, fun ad e => ?_⟩
  · obtain ⟨ad, e, hc⟩ := h5 hm
    obtain ⟨cs, hcs⟩ := h6 ad e
    have hne : some ad.block ≠ row := fun hq => hp _ hq.symm cs hcs
    refine ⟨ad, e, fun j q hq => ?_⟩
    obtain ⟨cl, hl, hk, hcell⟩ := hc j q hq
    refine ⟨cl, hl, by rw [k54_open hk]; exact k54_mk _ q, fun i u hu => ?_⟩
    have hblk : (ad.add (j * k54.sz + i)).block = ad.block := by unfold Addr.add; split <;> rfl
    have hlt : (ad.add (j * k54.sz + i)).block < W.heap.size := by rw [hblk]; exact blk_lt hcs
    rw [World.cell?_of_block (hg.block _ hlt (by rw [hblk]; exact hne))]
    exact hcell i u hu
  · obtain ⟨cs, hcs⟩ := h6 ad e
    have hne : some ad.block ≠ row := fun hq => hp _ hq.symm cs hcs
    exact ⟨cs, (hg.block _ (blk_lt hcs) hne).trans hcs⟩

/-- A commit that lies in a block. -/
def JobAt (W : World) (b : Nat) (j : Job) : Prop := ∃ rv wv, W.heap[b]? = some (.cells #[rv, wv, .int .i64 j.state, .int .i64 (j.next : Int), .bool j.failed] 83 (0, 0)) ∧ Row54 W rv j.reads ∧ Row54 W wv j.writes
theorem JobAt.below {W W' : World} {b : Nat} {j : Job} (h : JobAt W b j) (hb : Below W.heap.size W W') : JobAt W' b j := by
  obtain ⟨rv, wv, h1, h2, h3⟩ := h
  exact ⟨rv, wv, blk_below h1 hb, h2.below hb, h3.below hb⟩
theorem JobAt.spare {W W' : World} {b : Nat} {j : Job} (h : JobAt W b j) {row : Option Nat} (hg : W.grownBy W' row) (hp : Spares W row 54) (hne : some b ≠ row) : JobAt W' b j := by
  obtain ⟨rv, wv, h1, h2, h3⟩ := h
  exact ⟨rv, wv, (hg.block _ (blk_lt h1) hne).trans h1, h2.spare hg hp, h3.spare hg hp⟩
theorem JobAt.ne {W : World} {b : Nat} {j : Job} (h : JobAt W b j) {row : Option Nat} (hs : Spares W row 83) : some b ≠ row := fun e => by
  obtain ⟨rv, wv, h1, -⟩ := h
  exact hs b e.symm _ h1

/-- A machine's blocks, opened. -/
structure At (base : Nat) (ok : Nat → Prop) (W : World) (mb : Nat) (m : Mach) (vs js ds : Value) (bs : List Nat) : Prop where
  hbm : base ≤ mb
  okm : ok mb
  hm : W.heap[mb]? = some (.cells #[.bool true, vs, js, ds] 60 (0, 0))
  hv : W.ownsRow base 76 3 vs m.vars.length (m.vars.flatMap cV)
  okv : ∀ k, vs.ownBlock = some k → ok k
  hj : W.ownsRow base 79 1 js m.jobs.length (bs.map ptr)
  okj : ∀ k, js.ownBlock = some k → ok k
  hd : W.ownsRow base 3 1 ds m.decided.length (m.decided.map fun x => .int .i64 x)
  okd : ∀ k, ds.ownBlock = some k → ok k
  len : bs.length = m.jobs.length
  nd : bs.Nodup
  at_ : ∀ (i b : Nat) (j : Job), bs[i]? = some b → m.jobs[i]? = some j → base ≤ b ∧ ok b ∧ JobAt W b j
def IsM (base : Nat) (ok : Nat → Prop) (W : World) (mb : Nat) (m : Mach) : Prop := ∃ vs js ds bs, At base ok W mb m vs js ds bs

/-- Only such blocks are turned. -/
structure Turned (ok : Nat → Prop) (W W' : World) : Prop where
  os : W'.os = W.os
  tape : W'.tape = W.tape
  output : W'.output = W.output
  size : W.heap.size ≤ W'.heap.size
  block : ∀ k, k < W.heap.size → ¬ ok k → W'.heap[k]? = W.heap[k]?
theorem Turned.refl (ok : Nat → Prop) (W : World) : Turned ok W W := ⟨rfl, rfl, rfl, Nat.le_refl _, fun _ _ _ => rfl⟩
theorem Turned.trans {ok : Nat → Prop} {A B C : World} (h : Turned ok A B) (k : Turned ok B C) : Turned ok A C :=
  ⟨k.os.trans h.os, k.tape.trans h.tape, k.output.trans h.output, Nat.le_trans h.size k.size, fun i hi hn => (k.block i (Nat.lt_of_lt_of_le hi h.size) hn).trans (h.block i hi hn)⟩
theorem Turned.below {ok : Nat → Prop} {W W' : World} (h : Below W.heap.size W W') : Turned ok W W' := ⟨h.os, h.tape, h.output, h.size, fun k hk _ => h.block k hk⟩
theorem Turned.grown {ok : Nat → Prop} {W W' : World} {row : Option Nat} (hg : W.grownBy W' row) (hr : ∀ p, row = some p → ok p) : Turned ok W W' := ⟨hg.os, hg.tape, hg.output, hg.size, fun k hk hn => hg.block k hk (fun e => hn (hr k e.symm))⟩
/-- All that lies ahead is kept. -/
theorem Turned.base {ok : Nat → Prop} {W W' : World} {B : Nat} (h : Turned ok W W') (hB : B ≤ W.heap.size) (hk : ∀ k, ok k → B ≤ k) : Below B W W' := ⟨h.os, h.tape, h.output, h.size, fun k hlt => h.block k (by omega) (fun ho => by have := hk k ho; omega)⟩

/-! ### The small methods -/
theorem good_nil (W : World) : Calls Try.prog 26 #[.pointer none] W fun e w' => e = .returned (.bool false) ∧ w' = W := by
  go_enter Try.func26, Try.ntmps26
  go_wp2
  go_ret
  exact ⟨rfl, rfl⟩
theorem good_made (W : World) (mb : Nat) (g : Bool) (vs js ds : Value) (h : W.heap[mb]? = some (.cells #[.bool g, vs, js, ds] 60 (0, 0))) : Calls Try.prog 26 #[ptr mb] W fun e w' => e = .returned (.bool g) ∧ w' = W := by
  have hu := Try.underlying60
  have b0 := blk_cell h 0
  clear h
  go_enter Try.func26, Try.ntmps26
  go_wp2
  go_ret
  exact ⟨rfl, rfl⟩

end Go.Proofs.Ytkecbdeekpbbjaa.Q

/-! The finding of a commit, and of a variable, by hand. -/
namespace Go.Proofs.Ytkecbdeekpbbjaa.Q
open Go.RowKit Go.Lib Go.Proofs.Ytkecbdeekpbbjaa Go.Proofs.YtkecbdeekpbbjaaW.PrintWords Go.Proofs.YtkecbdeekpbbjaaW.PrintLast Go.Proofs.YtkecbdeekpbbjaaW.PrintMore
set_option linter.unusedVariables false
set_option linter.unusedSimpArgs false

/-- A row of one's own: what lies where. -/
theorem own_at {W : World} {base size n : Nat} {e : TypeId} {v : Value} {xs : List Value} (h : W.ownsRow base e size v n xs) : (v = .slice none 0 0 ∧ n = 0) ∨ ∃ g cap, v = .slice (some ⟨g, 0, none⟩) n cap ∧ base ≤ g ∧ n ≤ cap ∧ (∃ cur, W.heap[g]? = some (.cells cur e (0, 0))) ∧ ∀ j u, xs[j]? = some u → W.cell? ⟨g, j, none⟩ = some u ∧ W.frozen? ⟨g, j, none⟩ = false := by
  rcases h.2 with h1 | ⟨g, cap, cur, h1, hb, hg, hn, -, hs, ht⟩
  · exact .inl h1
  · refine .inr ⟨g, cap, h1, hb, hn, ⟨cur, hg⟩, fun j u hu => ⟨?_, blk_frozen hg j⟩⟩
    rw [blk_cell hg j]
    have : (cur.toList.take (n * size))[j]? = some u := by rw [ht]; exact hu
    rw [List.getElem?_take] at this
    split at this
    · simpa using this
    · cases this

set_option maxRecDepth 100000 in
theorem find_none (W : World) (mb : Nat) (base : Nat) (vs js ds : Value) (bs : List Nat) (id : Int) (h : W.heap[mb]? = some (.cells #[.bool true, vs, js, ds] 60 (0, 0))) (hj : W.ownsRow base 79 1 js bs.length (bs.map ptr)) (hn : ¬ (1 ≤ id ∧ id ≤ bs.length)) :
    Calls Try.prog 32 #[ptr mb, .int .i64 id] W fun e w' => e = .returned (.tuple #[.pointer none, .int .i64 3]) ∧ w' = W := by
  have hu := Try.underlying60
  have C := Lib.hid (good_made W mb true vs js ds h)
  obtain ⟨A, c, rfl⟩ : ∃ A c, js = .slice A bs.length c := by
    rcases own_at hj with ⟨rfl, h0⟩ | ⟨g, cap, rfl, -⟩
    · exact ⟨none, 0, by rw [h0]⟩
    · exact ⟨_, _, rfl⟩
  have b2 := blk_cell h 2
  clear hj h
  by_cases h1 : id < 1
  · go_enter Try.func32, Try.ntmps32
    go_wp2_with fail
    refine C.out.mono ?_
    rintro e w' ⟨rfl, rfl⟩
    go_wp2_with fail
    go_ret2
    exact ⟨rfl, rfl⟩
  · have h2 : id > bs.length := by omega
    clear hn
    go_enter Try.func32, Try.ntmps32
    go_wp2_with fail
    refine C.out.mono ?_
    rintro e w' ⟨rfl, rfl⟩
    go_wp2_with fail
    go_ret2
    exact ⟨rfl, rfl⟩
set_option maxRecDepth 100000 in
theorem find_some (W : World) (mb : Nat) (base : Nat) (vs js ds : Value) (bs : List Nat) (k b : Nat) (h : W.heap[mb]? = some (.cells #[.bool true, vs, js, ds] 60 (0, 0))) (hj : W.ownsRow base 79 1 js bs.length (bs.map ptr)) (hb : bs[k]? = some b) (hl : bs.length ≤ 1000000) :
    Calls Try.prog 32 #[ptr mb, .int .i64 ((k : Int) + 1)] W fun e w' => e = .returned (.tuple #[ptr b, .int .i64 0]) ∧ w' = W := by
  have hu := Try.underlying60
  have hu58 := Try.underlying58
  have C := Lib.hid (good_made W mb true vs js ds h)
  have hk : k < bs.length := (List.getElem?_eq_some_iff.1 hb).1
  rcases own_at hj with ⟨rfl, h0⟩ | ⟨g, c, rfl, -, -, -, hc⟩
  · omega
  · have a0 := (hc k (ptr b) (by rw [List.getElem?_map, hb]; rfl)).1
    have b2 := blk_cell h 2
    have h1 : ¬ ((k : Int) + 1 < 1) := by omega
    have h2 : ¬ ((k : Int) + 1 > bs.length) := by omega
    have hw : wrap64 ((k : Int) + 1 - 1) = k := by unfold wrap64; omega
    have hw' : wrap64 ((k : Int) + 1 + -1) = k := by unfold wrap64; omega
    have hi0 : (0 : Int) ≤ k := by omega
    have hi1 : (k : Int) < bs.length := by omega
    clear hj h hb hc
    go_enter Try.func32, Try.ntmps32
    go_wp2_with fail
    refine C.out.mono ?_
    rintro e w' ⟨rfl, rfl⟩
    go_wp2_with fail
    go_ret2
    exact ⟨rfl, rfl⟩

/-- Three cells, put. -/
theorem put3 {W : World} {B g : Nat} {t : TypeId} {a b c : Value} (a' b' c' : Value) (h : W.heap[g]? = some (.cells #[a, b, c] t (0, 0))) (hb : B ≤ g) :
    (((W.setCell ⟨g, 0, none⟩ a').setCell ⟨g, 1, none⟩ b').setCell ⟨g, 2, none⟩ c').heap[g]? = some (.cells #[a', b', c'] t (0, 0)) ∧ Below B W (((W.setCell ⟨g, 0, none⟩ a').setCell ⟨g, 1, none⟩ b').setCell ⟨g, 2, none⟩ c') :=
  ⟨blk_put (blk_put (blk_put h 0 _ rfl) 1 _ rfl) 2 _ rfl, (((Below.refl B W).setCell (p := ⟨g, 0, none⟩) hb _).setCell (p := ⟨g, 1, none⟩) hb _).setCell (p := ⟨g, 2, none⟩) hb _⟩

set_option maxRecDepth 100000 in
theorem variable_none (W : World) (mb base n : Nat) (vs js ds : Value) (xs : List Value) (x : Int) (h : W.heap[mb]? = some (.cells #[.bool true, vs, js, ds] 60 (0, 0))) (hv : W.ownsRow base 76 3 vs n xs) (hn : ¬ (0 ≤ x ∧ x < n)) :
    Calls Try.prog 31 #[ptr mb, .int .i64 x] W fun e w' => e = .returned (.tuple #[.agg #[.int .i64 0, .int .i64 0, .int .i64 0], .int .i64 3]) ∧ Below W.heap.size W w' := by
  have hu := Try.underlying60
  have hu76 := Try.underlying76
  have hu44 := Try.underlying44
  obtain ⟨W1, hW1, K1, hB1⟩ : ∃ W1, W.alloc (.cells #[.int .i64 0, .int .i64 0, .int .i64 0] 76) = W1 ∧ W1.heap[W.heap.size]? = some (.cells #[.int .i64 0, .int .i64 0, .int .i64 0] 76 (0, 0)) ∧ Below W.heap.size W W1 := ⟨_, rfl, heap_alloc_new _ _, bOne _⟩
  have C := Lib.hid (good_made W1 mb true vs js ds (blk_below h hB1))
  obtain ⟨A, c, rfl⟩ : ∃ A c, vs = .slice A n c := by
    rcases own_at hv with ⟨rfl, h0⟩ | ⟨g, cap, rfl, -⟩
    · exact ⟨none, 0, by rw [h0]⟩
    · exact ⟨_, _, rfl⟩
  have b1 := blk_cell (blk_below h hB1) 1
  have f0 := blk_frozen K1 0
  have f1 := blk_frozen K1 1
  have f2 := blk_frozen K1 2
  have d0 := blk_cell K1 0
  have d1 := blk_cell K1 1
  have d2 := blk_cell K1 2
  have P := Lib.hid (put3 (.int .i64 0) (.int .i64 0) (.int .i64 0) K1 (Nat.le_refl _))
  have HB := Lib.hid hB1
  clear hv h K1 hB1
  by_cases h1 : x < 0
  · go_enter Try.func31, Try.ntmps31
    go_wp2_with fail
    refine C.out.mono ?_
    rintro e w' ⟨rfl, rfl⟩
    go_wp2_with fail
    refine bodyPost_ret (results_ct rfl _ _ W.heap.size 76 #[.int .i64 0, .int .i64 0, .int .i64 0] (0, 0) _ rfl P.out.1 hu76 rfl (by kernel_rfl)) rfl ?_
    exact ⟨rfl, HB.out.trans P.out.2⟩
  · have h2 : x ≥ n := by omega
    clear hn
    go_enter Try.func31, Try.ntmps31
    go_wp2_with fail
    refine C.out.mono ?_
    rintro e w' ⟨rfl, rfl⟩
    go_wp2_with fail
    refine bodyPost_ret (results_ct rfl _ _ W.heap.size 76 #[.int .i64 0, .int .i64 0, .int .i64 0] (0, 0) _ rfl P.out.1 hu76 rfl (by kernel_rfl)) rfl ?_
    exact ⟨rfl, HB.out.trans P.out.2⟩

theorem cells3 (vars : List Vr) {k : Nat} {v : Vr} (h : vars[k]? = some v) : ∀ i, i < 3 → (vars.flatMap cV)[k * 3 + i]? = (cV v)[i]? := by
  induction vars generalizing k with
  | nil => cases h
  | cons a vars ih =>
    intro i hi
    rw [List.flatMap_cons]
    rcases k with _ | k
    · have : a = v := by simpa using h
      subst this
      rw [Nat.zero_mul, Nat.zero_add, List.getElem?_append_left (by simp; omega)]
    · rw [List.getElem?_append_right (by simp; omega)]
      have h' : vars[k]? = some v := by simpa using h
      rw [show (k + 1) * 3 + i - (cV a).length = k * 3 + i by simp; omega]
      exact ih h' i hi

set_option maxRecDepth 100000 in
theorem variable_some (W : World) (mb base k : Nat) (vs js ds : Value) (vars : List Vr) (v : Vr) (h : W.heap[mb]? = some (.cells #[.bool true, vs, js, ds] 60 (0, 0))) (hv : W.ownsRow base 76 3 vs vars.length (vars.flatMap cV)) (hk : vars[k]? = some v) :
    Calls Try.prog 31 #[ptr mb, .int .i64 k] W fun e w' => e = .returned (.tuple #[.agg #[.int .i64 v.val.f0, .int .i64 v.val.f1, .int .i64 v.lock], .int .i64 0]) ∧ Below W.heap.size W w' := by
  have hu := Try.underlying60
  have hu76 := Try.underlying76
  have hu44 := Try.underlying44
  have hu57 := Try.underlying57
  obtain ⟨W1, hW1, K1, hB1⟩ : ∃ W1, W.alloc (.cells #[.int .i64 0, .int .i64 0, .int .i64 0] 76) = W1 ∧ W1.heap[W.heap.size]? = some (.cells #[.int .i64 0, .int .i64 0, .int .i64 0] 76 (0, 0)) ∧ Below W.heap.size W W1 := ⟨_, rfl, heap_alloc_new _ _, bOne _⟩
  have C := Lib.hid (good_made W1 mb true vs js ds (blk_below h hB1))
  have hlt : k < vars.length := (List.getElem?_eq_some_iff.1 hk).1
  rcases own_at hv with ⟨rfl, h0⟩ | ⟨g, c, rfl, -, -, ⟨cur, hg⟩, hc⟩
  · omega
  · have e0 := (hc (k * 3 + 0) (.int .i64 v.val.f0) (by rw [cells3 vars hk 0 (by decide)]; rfl)).1
    have e1 := (hc (k * 3 + 1) (.int .i64 v.val.f1) (by rw [cells3 vars hk 1 (by decide)]; rfl)).1
    have e2 := (hc (k * 3 + 2) (.int .i64 v.lock) (by rw [cells3 vars hk 2 (by decide)]; rfl)).1
    have a0 : W1.cell? ⟨g, k * 3, none⟩ = some (.int .i64 v.val.f0) := (hB1.cell (p := ⟨g, k * 3 + 0, none⟩) (blk_lt hg)).trans e0
    have a1 : W1.cell? ⟨g, k * 3 + 1, none⟩ = some (.int .i64 v.val.f1) := (hB1.cell (p := ⟨g, k * 3 + 1, none⟩) (blk_lt hg)).trans e1
    have a2 : W1.cell? ⟨g, k * 3 + 2, none⟩ = some (.int .i64 v.lock) := (hB1.cell (p := ⟨g, k * 3 + 2, none⟩) (blk_lt hg)).trans e2
    have b1 := blk_cell (blk_below h hB1) 1
    have f0 := blk_frozen K1 0
    have f1 := blk_frozen K1 1
    have f2 := blk_frozen K1 2
    have d0 := blk_cell K1 0
    have d1 := blk_cell K1 1
    have d2 := blk_cell K1 2
    have P := Lib.hid (put3 (.int .i64 v.val.f0) (.int .i64 v.val.f1) (.int .i64 v.lock) K1 (Nat.le_refl _))
    have HB := Lib.hid hB1
    have h1 : ¬ ((k : Int) < 0) := by omega
    have h2 : ¬ ((k : Int) ≥ vars.length) := by omega
    have hi0 : (0 : Int) ≤ k := by omega
    have hi1 : (k : Int) < vars.length := by omega
    clear hv h K1 hB1 hk hc e0 e1 e2 hg
    go_enter Try.func31, Try.ntmps31
    go_wp2_with fail
    refine C.out.mono ?_
    rintro e w' ⟨rfl, rfl⟩
    go_wp2_with fail
    refine bodyPost_ret (results_ct rfl _ _ W.heap.size 76 #[.int .i64 v.val.f0, .int .i64 v.val.f1, .int .i64 v.lock] (0, 0) _ rfl P.out.1 hu76 rfl (by kernel_rfl)) rfl ?_
    exact ⟨rfl, HB.out.trans P.out.2⟩

end Go.Proofs.Ytkecbdeekpbbjaa.Q

/-! What a machine is asked, by hand: State, Lock, Read, Decided, Values; New. -/
namespace Go.Proofs.Ytkecbdeekpbbjaa.Q
open Go.RowKit Go.Lib Go.Proofs.Ytkecbdeekpbbjaa Go.Proofs.YtkecbdeekpbbjaaW.PrintWords Go.Proofs.YtkecbdeekpbbjaaW.PrintLast Go.Proofs.YtkecbdeekpbbjaaW.PrintMore
set_option linter.unusedVariables false
set_option linter.unusedSimpArgs false

theorem At.below {base : Nat} {ok : Nat → Prop} {W W' : World} {mb : Nat} {m : Mach} {vs js ds : Value} {bs : List Nat} (h : At base ok W mb m vs js ds bs) (hb : Below W.heap.size W W') : At base ok W' mb m vs js ds bs := by
  have own : ∀ {e size n : Nat} {v : Value} {xs : List Value}, W.ownsRow base e size v n xs → W'.ownsRow base e size v n xs := fun {e size n v xs} ho => by
    refine ⟨ho.1, ?_⟩
    rcases ho.2 with h1 | ⟨g, cap, cur, h1, h2, h3, h4⟩
    · exact .inl h1
    · exact .inr ⟨g, cap, cur, h1, h2, blk_below h3 hb, h4⟩
  exact ⟨h.hbm, h.okm, blk_below h.hm hb, own h.hv, h.okv, own h.hj, h.okj, own h.hd, h.okd, h.len, h.nd, fun i b j h1 h2 => let ⟨a, b, c⟩ := h.at_ i b j h1 h2; ⟨a, b, c.below hb⟩⟩
theorem IsM.below {base : Nat} {ok : Nat → Prop} {W W' : World} {mb : Nat} {m : Mach} (h : IsM base ok W mb m) (hb : Below W.heap.size W W') : IsM base ok W' mb m := by
  obtain ⟨vs, js, ds, bs, h⟩ := h
  exact ⟨vs, js, ds, bs, h.below hb⟩

def getJob (m : Mach) (id : Int) : Option Job := if 1 ≤ id then m.jobs[(id - 1).toNat]? else none
theorem getJob_some {m : Mach} {id : Int} {j : Job} (h : getJob m id = some j) : ∃ k : Nat, id = (k : Int) + 1 ∧ m.jobs[k]? = some j := by
  unfold getJob at h
  split at h
  · exact ⟨(id - 1).toNat, by omega, h⟩
  · cases h
theorem getJob_none {m : Mach} {id : Int} (h : getJob m id = none) : ¬ (1 ≤ id ∧ id ≤ m.jobs.length) := by
  rintro ⟨h1, h2⟩
  unfold getJob at h
  rw [if_pos h1] at h
  have := List.getElem?_eq_none_iff.1 h
  omega
/-- The state of a commit. -/
def stateS (m : Mach) (id : Int) : Int × Int := match getJob m id with | none => (0, 3) | some j => (j.state, 0)

set_option maxRecDepth 100000 in
theorem state_calls (base : Nat) (ok : Nat → Prop) (W : World) (mb : Nat) (m : Mach) (id : Int) (h : IsM base ok W mb m) (hl : m.jobs.length ≤ 1000000) :
    Calls Try.prog 22 #[ptr mb, .int .i64 id] W fun e w' => e = .returned (.tuple #[.int .i64 (stateS m id).1, .int .i64 (stateS m id).2]) ∧ w' = W := by
  have hu := Try.underlying83
  obtain ⟨vs, js, ds, bs, h⟩ := h
  unfold stateS
  cases hj : getJob m id with
  | none =>
    have C := Lib.hid (find_none W mb base vs js ds bs id h.hm (by rw [h.len]; exact h.hj) (by rw [h.len]; exact getJob_none hj))
    clear h
    go_enter Try.func22, Try.ntmps22
    go_wp2_with fail
    refine C.out.mono ?_
    rintro e w' ⟨rfl, rfl⟩
    go_wp2_with fail
    go_ret2
    exact ⟨rfl, rfl⟩
  | some j =>
    obtain ⟨k, rfl, hk⟩ := getJob_some hj
    have hlt : k < m.jobs.length := (List.getElem?_eq_some_iff.1 hk).1
    obtain ⟨b, hb⟩ : ∃ b, bs[k]? = some b := ⟨bs[k]'(by rw [h.len]; exact hlt), List.getElem?_eq_getElem _⟩
    have C := Lib.hid (find_some W mb base vs js ds bs k b h.hm (by rw [h.len]; exact h.hj) hb (by rw [h.len]; exact hl))
    obtain ⟨-, -, rv, wv, hJ, -, -⟩ := h.at_ k b j hb hk
    have b2 := blk_cell hJ 2
    clear h hJ hb hj hk
    go_enter Try.func22, Try.ntmps22
    go_wp2_with fail
    refine C.out.mono ?_
    rintro e w' ⟨rfl, rfl⟩
    go_wp2_with fail
    go_ret2
    exact ⟨rfl, rfl⟩

def getVar (m : Mach) (x : Int) : Option Vr := if 0 ≤ x then m.vars[x.toNat]? else none
theorem getVar_some {m : Mach} {x : Int} {v : Vr} (h : getVar m x = some v) : ∃ k : Nat, x = (k : Int) ∧ m.vars[k]? = some v := by
  unfold getVar at h
  split at h
  · exact ⟨x.toNat, by omega, h⟩
  · cases h
theorem getVar_none {m : Mach} {x : Int} (h : getVar m x = none) : ¬ (0 ≤ x ∧ x < m.vars.length) := by
  rintro ⟨h1, h2⟩
  unfold getVar at h
  rw [if_pos h1] at h
  have := List.getElem?_eq_none_iff.1 h
  omega
/-- A variable, with the error. -/
def varS (m : Mach) (x : Int) : Vr × Int := match getVar m x with | none => (zV, 3) | some v => (v, 0)
theorem variable_calls (base : Nat) (ok : Nat → Prop) (W : World) (mb : Nat) (m : Mach) (x : Int) (h : IsM base ok W mb m) :
    Calls Try.prog 31 #[ptr mb, .int .i64 x] W fun e w' => e = .returned (.tuple #[.agg #[.int .i64 (varS m x).1.val.f0, .int .i64 (varS m x).1.val.f1, .int .i64 (varS m x).1.lock], .int .i64 (varS m x).2]) ∧ Below W.heap.size W w' := by
  obtain ⟨vs, js, ds, bs, h⟩ := h
  unfold varS
  cases hv : getVar m x with
  | none => exact variable_none W mb base _ vs js ds _ x h.hm h.hv (getVar_none hv)
  | some v =>
    obtain ⟨k, rfl, hk⟩ := getVar_some hv
    exact variable_some W mb base k vs js ds m.vars v h.hm h.hv hk
set_option maxRecDepth 100000 in
theorem lock_calls (base : Nat) (ok : Nat → Prop) (W : World) (mb : Nat) (m : Mach) (x : Int) (h : IsM base ok W mb m) :
    Calls Try.prog 19 #[ptr mb, .int .i64 x] W fun e w' => e = .returned (.tuple #[.int .i64 (varS m x).1.lock, .int .i64 (varS m x).2]) ∧ Below W.heap.size W w' := by
  have hu := Try.underlying76
  have C := Lib.hid (variable_calls base ok W mb m x h)
  clear h
  generalize varS m x = q at C ⊢
  obtain ⟨⟨⟨v0, v1⟩, v2⟩, er⟩ := q
  dsimp only at C ⊢
  go_enter Try.func19, Try.ntmps19
  go_wp2_with fail
  refine C.out.mono ?_
  rintro e w1 ⟨rfl, hB⟩
  have HB := Lib.hid (bAfter hB (bOne (w := w1) (.cells #[.int .i64 v0, .int .i64 v1, .int .i64 v2] 76)))
  clear hB
  go_wp2_with fail
  go_ret2
  exact ⟨rfl, HB.out⟩
set_option maxRecDepth 100000 in
theorem read_calls (base : Nat) (ok : Nat → Prop) (W : World) (mb : Nat) (m : Mach) (x : Int) (h : IsM base ok W mb m) :
    Calls Try.prog 21 #[ptr mb, .int .i64 x] W fun e w' => e = .returned (.tuple #[.agg #[.int .i64 (if (varS m x).1.lock = 0 then (varS m x).1.val.f0 else 0), .int .i64 (if (varS m x).1.lock = 0 then (varS m x).1.val.f1 else 0)], .int .i64 (if (varS m x).1.lock = 0 then (varS m x).2 else 10)]) ∧ Below W.heap.size W w' := by
  have hu := Try.underlying76
  have hu44 := Try.underlying44
  obtain ⟨W1, hW1, K1, hB1⟩ : ∃ W1, W.alloc (.cells #[.int .i64 0, .int .i64 0] 44) = W1 ∧ W1.heap[W.heap.size]? = some (.cells #[.int .i64 0, .int .i64 0] 44 (0, 0)) ∧ Below W.heap.size W W1 := ⟨_, rfl, heap_alloc_new _ _, bOne _⟩
  have C := Lib.hid (variable_calls base ok W1 mb m x (h.below hB1))
  clear h
  generalize varS m x = q at C ⊢
  obtain ⟨⟨⟨v0, v1⟩, v2⟩, er⟩ := q
  dsimp only at C ⊢
  have HK := Lib.hid (And.intro K1 hB1)
  clear K1 hB1
  by_cases hv : v2 = 0
  · rw [if_pos hv, if_pos hv, if_pos hv]
    have hvb : (v2 != 0) = false := bne_eq_false_iff_eq.mpr hv
    clear hv
    go_enter Try.func21, Try.ntmps21
    go_wp2_with fail
    refine C.out.mono ?_
    rintro e w1 ⟨rfl, hB⟩
    clear hW1
    obtain ⟨W2, hW2, K2, K3, hB2⟩ : ∃ W2, w1.alloc (.cells #[.int .i64 v0, .int .i64 v1, .int .i64 v2] 76) = W2 ∧ W2.heap[w1.heap.size]? = some (.cells #[.int .i64 v0, .int .i64 v1, .int .i64 v2] 76 (0, 0)) ∧ W2.heap[W.heap.size]? = some (.cells #[.int .i64 0, .int .i64 0] 44 (0, 0)) ∧ Below W.heap.size W W2 := ⟨_, rfl, heap_alloc_new _ _, blk_alloc (blk_below HK.out.1 hB) _, (HK.out.2.trans (hB.mono HK.out.2.size)).alloc (HK.out.2.trans (hB.mono HK.out.2.size)).size _⟩
    have a0 := blk_cell K2 0
    have a1 := blk_cell K2 1
    have a2 := blk_cell K2 2
    have d0 := blk_cell K3 0
    have d1 := blk_cell K3 1
    have f0 := blk_frozen K3 0
    have f1 := blk_frozen K3 1
    have P := Lib.hid (And.intro (blk_put (blk_put K3 0 (.int .i64 v0) rfl) 1 (.int .i64 v1) rfl) ((hB2.setCell (p := ⟨W.heap.size, 0, none⟩) (Nat.le_refl _) (.int .i64 v0)).setCell (p := ⟨W.heap.size, 1, none⟩) (Nat.le_refl _) (.int .i64 v1)))
    clear hB K2 K3 hB2
    go_wp2_with fail
    refine bodyPost_ret (results_ct rfl _ _ W.heap.size 44 #[.int .i64 v0, .int .i64 v1] (0, 0) _ rfl P.out.1 hu44 rfl (by kernel_rfl)) rfl ?_
    exact ⟨rfl, P.out.2⟩
  · rw [if_neg hv, if_neg hv, if_neg hv]
    have hvb : (v2 != 0) = true := bne_iff_ne.mpr hv
    clear hv
    go_enter Try.func21, Try.ntmps21
    go_wp2_with fail
    refine C.out.mono ?_
    rintro e w1 ⟨rfl, hB⟩
    clear hW1
    obtain ⟨W2, hW2, K2, K3, hB2⟩ : ∃ W2, w1.alloc (.cells #[.int .i64 v0, .int .i64 v1, .int .i64 v2] 76) = W2 ∧ W2.heap[w1.heap.size]? = some (.cells #[.int .i64 v0, .int .i64 v1, .int .i64 v2] 76 (0, 0)) ∧ W2.heap[W.heap.size]? = some (.cells #[.int .i64 0, .int .i64 0] 44 (0, 0)) ∧ Below W.heap.size W W2 := ⟨_, rfl, heap_alloc_new _ _, blk_alloc (blk_below HK.out.1 hB) _, (HK.out.2.trans (hB.mono HK.out.2.size)).alloc (HK.out.2.trans (hB.mono HK.out.2.size)).size _⟩
    have a0 := blk_cell K2 0
    have a1 := blk_cell K2 1
    have a2 := blk_cell K2 2
    have d0 := blk_cell K3 0
    have d1 := blk_cell K3 1
    have f0 := blk_frozen K3 0
    have f1 := blk_frozen K3 1
    have P := Lib.hid (And.intro (blk_put (blk_put K3 0 (.int .i64 0) rfl) 1 (.int .i64 0) rfl) ((hB2.setCell (p := ⟨W.heap.size, 0, none⟩) (Nat.le_refl _) (.int .i64 0)).setCell (p := ⟨W.heap.size, 1, none⟩) (Nat.le_refl _) (.int .i64 0)))
    clear hB K2 K3 hB2
    go_wp2_with fail
    refine bodyPost_ret (results_ct rfl _ _ W.heap.size 44 #[.int .i64 0, .int .i64 0] (0, 0) _ rfl P.out.1 hu44 rfl (by kernel_rfl)) rfl ?_
    exact ⟨rfl, P.out.2⟩

end Go.Proofs.Ytkecbdeekpbbjaa.Q

/-! What a machine is asked, by hand: Decided, Values; New. -/
namespace Go.Proofs.Ytkecbdeekpbbjaa.Q
open Go.RowKit Go.Lib Go.Proofs.Ytkecbdeekpbbjaa Go.Proofs.YtkecbdeekpbbjaaW.PrintWords Go.Proofs.YtkecbdeekpbbjaaW.PrintLast Go.Proofs.YtkecbdeekpbbjaaW.PrintMore
set_option linter.unusedVariables false
set_option linter.unusedSimpArgs false

theorem info30 : (Try.prog.info? 3).map (fun i => (i.zero, i.size, i.bytes)) = some (some (.int .i64 0), 1, 8) := by kernel_rfl
theorem flat44 {w w' : World} {x : S44} {cs : List Value} (h : k44.K w x cs) (base : Nat) (ok : Nat → Prop) : k44.M w' base ok x cs := by
  rw [k44_open h]
  exact k44_mkM w' base ok x
theorem C_emptyI {w : World} {xs : List Int} (h : Kd.C (Kd.int .i64) w none xs.length xs) : xs = [] := by
  rcases xs with _ | ⟨x, xs⟩
  · rfl
  · obtain ⟨ad, h2, _⟩ := h.2.2 (by simp)
    cases h2
set_option maxRecDepth 100000 in
theorem cloneI_calls (A0 : Option Addr) (c0 : Nat) (l0 : List Int) (w : World) (hr : Kd.C (Kd.int .i64) w A0 l0.length l0) (hl : l0.length ≤ 1000000) :
    Calls Try.prog 27 #[.slice A0 l0.length c0] w fun e w' => ∃ v, e = .returned v ∧ Kd.R (Kd.int .i64) 3 w' w.heap.size (fun _ => True) v l0 ∧ Below w.heap.size w w' := by
  have tS := Try.underlying30
  have qS : ∀ (W : World) (a : Option Addr) (n c n' c' : Nat), (binOp .eql 30 (.slice a n c) (.slice none n' c')).run Try.prog W = .ok (.bool a.isNone) W := fun W a n c n' c' => Lib.run_eql_slice_nil W _ _ a n c n' c' tS
  rcases A0 with _ | ad
  · obtain rfl := C_emptyI hr
    clear hr
    go_enter Try.func27, Try.ntmps27
    go_wp2
    go_ret
    exact ⟨_, rfl, Kd.R_nil _ _ _ _ _, Below.refl _ _⟩
  · have HR := Lib.hid hr
    clear hr
    go_enter Try.func27, Try.ntmps27
    go_wp2_with (first | ((with_reducible refine gate_builtin (b := .append) (xs := #[.tmp 5, .tmp 6]) rfl ?_); at_builtin; refine Kd.R_append_rows (Kd.int .i64) (w0 := w) (Rr := (Kd.int .i64).K w) w.heap.size rfl (.tmp 5) (.tmp 6) 30 3 (.int .i64 0) 8 rfl tS info30 rfl (by decide) (by decide) (.slice (some ⟨w.heap.size, 0, none⟩) 0 0) [] l0 (some ad) l0.length c0 (fun _ => True) (fun _ => False) rfl rfl ?HO ?HR ?hKM (fun _ h => h.elim) (fun _ _ => trivial) ?HB ?hbase ?hl ?_))
    case HO => exact ⟨fun _ _ => trivial, [], World.ownsRow_made w #[] 0 (Nat.le_refl _) (Nat.zero_le _) (by simp), Reps.none _ _⟩
    case HR => exact ReadsRow.imp_ HR.out (below_alloc (Below.refl _ _) _) (fun _ _ h => h)
    case hKM => exact fun x cs h => h
    case HB => exact below_alloc (Below.refl _ _) _
    case hbase => simp
    case hl => simp; omega
    intro v' w1 hR hB hg hv
    go_wp2
    go_ret
    exact ⟨_, rfl, by simpa using hR, hB⟩

theorem decided_own {W : World} {base : Nat} {ds : Value} {l : List Int} (h : W.ownsRow base 3 1 ds l.length (l.map fun x => .int .i64 x)) : ∃ A c, ds = .slice A l.length c ∧ l.length ≤ c ∧ Kd.C (Kd.int .i64) W A l.length l := by
  have hR : Kd.R (Kd.int .i64) 3 W base (fun _ => True) ds l := Kd.R_of_own h (fun _ _ => trivial)
  obtain ⟨A, c, rfl⟩ := Kd.R_slice hR
  have hr := Kd.R_reads' hR
  exact ⟨A, c, rfl, hr.2.1, hr.2.2⟩
set_option maxRecDepth 100000 in
theorem decided_calls (base : Nat) (ok : Nat → Prop) (W : World) (mb : Nat) (m : Mach) (h : IsM base ok W mb m) (hl : m.decided.length ≤ 1000000) :
    Calls Try.prog 13 #[ptr mb] W fun e w' => ∃ v, e = .returned v ∧ Kd.R (Kd.int .i64) 3 w' W.heap.size (fun _ => True) v m.decided ∧ Below W.heap.size W w' := by
  have hu := Try.underlying60
  obtain ⟨vs, js, ds, bs, h⟩ := h
  have C := Lib.hid (good_made W mb true vs js ds h.hm)
  obtain ⟨A, c, rfl, hc, hC⟩ := decided_own h.hd
  have C2 := Lib.hid (cloneI_calls A c m.decided W hC hl)
  have b3 := blk_cell h.hm 3
  clear h hC
  go_enter Try.func13, Try.ntmps13
  go_wp2_with fail
  refine C.out.mono ?_
  rintro e w' ⟨rfl, rfl⟩
  go_wp2_with fail
  refine C2.out.mono ?_
  rintro e w' ⟨v, rfl, hR, hB⟩
  have HN := Lib.hid (And.intro hR hB)
  clear hR hB
  go_wp2_with fail
  go_ret
  exact ⟨v, rfl, HN.out.1, HN.out.2⟩

set_option maxRecDepth 100000 in
set_option maxHeartbeats 2000000 in
theorem values_calls' (base : Nat) (ok : Nat → Prop) (W : World) (mb : Nat) (m : Mach) (h : IsM base ok W mb m) (hl : m.vars.length ≤ 1000000) :
    Calls Try.prog 17 #[ptr mb] W fun e w' => ∃ v, e = .returned v ∧ Kd.R k44 44 w' W.heap.size (fun _ => True) v (m.vars.map Vr.val) ∧ Below W.heap.size W w' := by
  have hu := Try.underlying60
  have hu76 := Try.underlying76
  have hu57 := Try.underlying57
  obtain ⟨vs, js, ds, bs, h⟩ := h
  have C := Lib.hid (good_made W mb true vs js ds h.hm)
  have b1 := blk_cell h.hm 1
  have hv := h.hv
  clear h
  have own : ∃ A c, vs = .slice A m.vars.length c ∧ ∀ W' k v, Below W.heap.size W W' → m.vars[k]? = some v → ∃ g, A = some ⟨g, 0, none⟩ ∧ W'.cell? ⟨g, k * 3, none⟩ = some (.int .i64 v.val.f0) ∧ W'.cell? ⟨g, k * 3 + 1, none⟩ = some (.int .i64 v.val.f1) ∧ W'.cell? ⟨g, k * 3 + 2, none⟩ = some (.int .i64 v.lock) := by
    rcases own_at hv with ⟨rfl, h0⟩ | ⟨g, c, rfl, -, -, ⟨cur, hg⟩, hc⟩
    · exact ⟨none, 0, by rw [h0], fun W' k v _ hk => by have := (List.getElem?_eq_some_iff.1 hk).1; omega⟩
    · refine ⟨_, c, rfl, fun W' k v hB hk => ⟨g, rfl, ?_, ?_, ?_⟩⟩
      · exact (hB.cell (p := ⟨g, k * 3 + 0, none⟩) (blk_lt hg)).trans (hc (k * 3 + 0) (.int .i64 v.val.f0) (by rw [cells3 m.vars hk 0 (by decide)]; rfl)).1
      · exact (hB.cell (p := ⟨g, k * 3 + 1, none⟩) (blk_lt hg)).trans (hc (k * 3 + 1) (.int .i64 v.val.f1) (by rw [cells3 m.vars hk 1 (by decide)]; rfl)).1
      · exact (hB.cell (p := ⟨g, k * 3 + 2, none⟩) (blk_lt hg)).trans (hc (k * 3 + 2) (.int .i64 v.lock) (by rw [cells3 m.vars hk 2 (by decide)]; rfl)).1
  obtain ⟨A, c, rfl, hcell⟩ := own
  have HC := Lib.hid hcell
  clear hv hcell
  go_enter Try.func17, Try.ntmps17
  go_wp2_with fail
  refine C.out.mono ?_
  rintro e w' ⟨rfl, rfl⟩
  go_wp2_with fail
  go_loopg [2, 4, 13] m.vars.length (fun kq v2 _ v13 V => ∃ (i : Nat) (A : Option Addr) (c : Nat), v2 = .slice A i c ∧ v13 = .int .i64 i ∧ Hid (kq + i = m.vars.length) ∧ Hid (Kd.R k44 44 V w'.heap.size (fun _ => True) (.slice A i c) ((m.vars.take i).map Vr.val) ∧ Below w'.heap.size w' V))
  case atStart => exact ⟨0, none, 0, rfl, rfl, by simp [Hid], Lib.hid ⟨Kd.R_nil _ _ _ _ _, Below.refl _ _⟩⟩
  case round =>
    obtain ⟨i, A2, c2, rfl, rfl, hk, hJ⟩ := hrel
    by_cases hi : i < m.vars.length
    · have hi2 : (i : Int) < m.vars.length := by omega
      have hi0 : (0 : Int) ≤ i := by omega
      obtain ⟨v, hv⟩ : ∃ v, m.vars[i]? = some v := ⟨_, List.getElem?_eq_getElem hi⟩
      obtain ⟨g, rfl, a0, a1, a2⟩ := HC.out wr i v hJ.out.2 hv
      have HX := Lib.hid hv
      clear hv
      obtain ⟨⟨v0, v1⟩, v2⟩ := v
      dsimp only at a0 a1 a2
      have hlo : ((m.vars.take i).map Vr.val).length = i := by rw [List.length_map, List.length_take]; omega
      generalize hout : (m.vars.take i).map Vr.val = out at *
      have HO := Lib.hid hout
      have hlo2 : out.length = i := hlo
      subst hlo2
      have HJ := Lib.hid hJ.out
      clear hJ hlo hout
      obtain ⟨W4, hW4, K4, hB4⟩ : ∃ W4, wr.alloc (.cells #[.int .i64 v0, .int .i64 v1, .int .i64 v2] 76) = W4 ∧ W4.heap[wr.heap.size]? = some (.cells #[.int .i64 v0, .int .i64 v1, .int .i64 v2] 76 (0, 0)) ∧ Below wr.heap.size wr W4 := ⟨_, rfl, heap_alloc_new _ _, bOne _⟩
      have d0 := blk_cell K4 0
      have d1 := blk_cell K4 1
      have d2 := blk_cell K4 2
      have HB4 := Lib.hid hB4
      clear K4 hB4
      go_wp2_with (at_builtin; refine Kd.R_append_rows k44 (w0 := W4.alloc (.cells #[.int .i64 v0, .int .i64 v1] 44)) (Rr := k44.K W4) w'.heap.size rfl _ _ 39 44 _ _ rfl Try.underlying39 info44 rfl (by decide) (by decide) _ out [(⟨v0, v1⟩ : S44)] (some ⟨W4.heap.size, 0, none⟩) 1 1 (fun _ => True) (fun _ => False) rfl rfl ?HO ?HR ?hKM (fun _ h => h.elim) (fun _ _ => trivial) (Below.refl _ _) ?hbase ?hl ?_)
      case HO => exact Kd.R_alloc (Kd.R_below HJ.out.1 HB4.out) _
      case HR => exact ⟨rfl, by decide, fun _ => ⟨_, rfl, fun j p hj => by
          rcases j with _ | j
          · have : (⟨v0, v1⟩ : S44) = p := by simpa using hj
            subst this
            exact ⟨[.int .i64 v0, .int .i64 v1], rfl, k44_mk _ (⟨v0, v1⟩ : S44), fun q u hu => by
              rw [Addr.add_lit]
              show (W4.alloc _).cell? ⟨W4.heap.size, 0 + (0 * 2 + q), none⟩ = _
              rw [Nat.zero_mul, Nat.zero_add, Nat.zero_add]
              exact (blk_cell (blk_new _ _) q).trans (by simpa using hu)⟩
          · simp at hj⟩⟩
      case hKM => exact fun x cs h => flat44 h _ _
      case hbase => have := HJ.out.2.size; have := HB4.out.size; simp; omega
      case hl => omega
      intro v2' w2 hR2 hB2 hg2 _
      obtain ⟨A5, c5, rfl⟩ := Kd.R_slice hR2
      have HN := Lib.hid (show Kd.R k44 44 w2 w'.heap.size (fun _ => True) _ _ ∧ Below w'.heap.size w' w2 from ⟨hR2, ((HJ.out.2.trans (HB4.out.mono HJ.out.2.size)).alloc (by have := HJ.out.2.size; have := HB4.out.size; omega) _).trans hB2⟩)
      clear hR2 hB2 hg2
      rw [List.length_append] at HN
      go_wp2_with fail
      obtain ⟨k1, rfl⟩ : ∃ q, gk = q + 1 := ⟨gk - 1, by have := hk.out; omega⟩
      go_roundg k1
      case measure => omega
      case rel => exact ⟨out.length + 1, A5, c5, by simp, by first | rfl | rw [wrap_next (by omega)], Lib.hid (by have := hk.out; omega), Lib.hid ⟨by have h1 := HN.out.1; rw [take_next1 HX.out, List.map_append, HO.out]; exact h1, HN.out.2⟩⟩
    · have hil : ¬ (i : Int) < m.vars.length := by omega
      have hie : i = m.vars.length := by have := hk.out; omega
      subst hie
      have h2 := hJ.out
      rw [List.take_length] at h2
      have HN := Lib.hid h2
      clear h2 hJ
      go_wp2_with fail
      go_ret
      exact ⟨_, rfl, HN.out.1, HN.out.2⟩

end Go.Proofs.Ytkecbdeekpbbjaa.Q

/-! A new machine, by hand. -/
namespace Go.Proofs.Ytkecbdeekpbbjaa.Q
open Go.RowKit Go.Lib Go.Proofs.Ytkecbdeekpbbjaa Go.Proofs.YtkecbdeekpbbjaaW.PrintWords Go.Proofs.YtkecbdeekpbbjaaW.PrintLast Go.Proofs.YtkecbdeekpbbjaaW.PrintMore
set_option linter.unusedVariables false
set_option linter.unusedSimpArgs false

def vr0 : Vr := ⟨⟨1, 0⟩, 0⟩
def newS (n : Nat) : Mach := ⟨List.replicate n vr0, [], []⟩
theorem repC_flat (n : Nat) : repC n = (List.replicate n vr0).flatMap cV := by
  unfold repC
  induction n with
  | zero => rfl
  | succ n ih => rw [List.replicate_succ, List.replicate_succ, List.flatten_cons, List.flatMap_cons, ih]; rfl

set_option maxRecDepth 100000 in
theorem new_calls (n : Nat) (h1 : n ≤ 64) (w : World) :
    Calls Try.prog 23 #[.int .i64 n] w fun e w' => ∃ mb, e = .returned (ptr mb) ∧ IsM w.heap.size (fun k => w.heap.size ≤ k) w' mb (newS n) ∧ Below w.heap.size w w' := by
  have hu := Try.underlying60
  have hu76 := Try.underlying76
  have hu57 := Try.underlying57
  obtain ⟨W1, hW1, K0, K1, hB1, -⟩ := two_named w (.cells #[.int .i64 1, .int .i64 0, .int .i64 0] 76) (.cells #[.int .i64 1, .int .i64 0, .int .i64 0] 76)
  have C := Lib.hid (repeat_calls n (w.heap.size + 1) h1 W1 K1)
  have hn0 : ¬ ((n : Int) < 0) := by omega
  have hn1 : ¬ ((n : Int) > 64) := by omega
  have HB := Lib.hid hB1
  clear K0 K1 hB1
  go_enter Try.func23, Try.ntmps23
  go_wp2_with fail
  refine C.out.mono ?_
  rintro e w2 ⟨v, rfl, ho, hB2⟩
  obtain ⟨A, q, c, rfl⟩ : ∃ A q c, v = .slice A q c := by
    rcases own_at ho with ⟨rfl, _⟩ | ⟨g, cap, rfl, -⟩
    · exact ⟨_, _, _, rfl⟩
    · exact ⟨_, _, _, rfl⟩
  have HN := Lib.hid (And.intro ho hB2)
  clear ho hB2 hW1
  go_wp2_with fail
  go_ret
  obtain ⟨ho, hB2⟩ := HN.out
  have hB := HB.out.trans (hB2.mono HB.out.size)
  refine ⟨w2.heap.size, rfl, ⟨.slice A q c, .slice none 0 0, .slice none 0 0, [], ?_⟩, hB.alloc hB.size _⟩
  have hz : w.heap.size ≤ W1.heap.size := HB.out.size
  have low : ∀ {e size n : Nat} {v : Value} {xs : List Value}, w2.ownsRow W1.heap.size e size v n xs → w2.ownsRow w.heap.size e size v n xs := fun {e size n v xs} ho => by
    refine ⟨ho.1, ?_⟩
    rcases ho.2 with h1 | ⟨g, cap, cur, h1, h2, h3⟩
    · exact .inl h1
    · exact .inr ⟨g, cap, cur, h1, Nat.le_trans hz h2, h3⟩
  refine ⟨hB.size, hB.size, heap_alloc_new _ _, ?_, fun k hk => ?_, World.ownsRow_nil _ _ _ _, fun k hk => by simp [Value.ownBlock] at hk, World.ownsRow_nil _ _ _ _, fun k hk => by simp [Value.ownBlock] at hk, rfl, List.nodup_nil, fun i b j h => by simp at h⟩
  · show (w2.alloc _).ownsRow w.heap.size 76 3 _ (List.replicate n vr0).length _
    rw [List.length_replicate]
    show (w2.alloc _).ownsRow w.heap.size 76 3 _ n ((List.replicate n vr0).flatMap cV)
    rw [← repC_flat]
    exact (low ho).alloc _
  · rcases ho.2 with ⟨h, _⟩ | ⟨g, cap, cur, h, h2, h3⟩
    · rw [h] at hk; simp [Value.ownBlock] at hk
    · rw [h] at hk
      have : g = k := by simpa [Value.ownBlock] using hk
      omega

end Go.Proofs.Ytkecbdeekpbbjaa.Q
