/- take: an operation from bytes, by hand. -/
import Derived.Test.YtbnchippfebdkaaHEncode
import Derived.RegionTactic
import Derived.ChangeAlike
import Derived.BigRegion
namespace Go.Proofs.Ytbnchippfebdkaa.Q
open Go.RowKit Go.Lib Go.Proofs.Ytbnchippfebdkaa Go.Proofs.YtbnchippfebdkaaW.PrintWords Go.Proofs.YtbnchippfebdkaaW.PrintLast Go.Proofs.YtbnchippfebdkaaW.PrintMore
set_option linter.unusedVariables false
set_option linter.unusedSimpArgs false

/-- One result in memory, and two more. -/
theorem results_ctt {P : Program} {fn : Func} {p q u : Tmp} {ty : TypeId} (h : fn.results = #[.cell p ty, .tmp q, .tmp u]) (tmps : Array Value) (w : World) (g : Nat) (t : TypeId) (cs : Array Value) (fr : Nat × Nat) (d : TypeDesc)
    (hp : tmps.getD p undef = .pointer (some ⟨g, 0, none⟩)) (hg : w.heap[g]? = some (.cells cs t fr))
    (hu : P.underlying ty = some d) (hd : (match d with | .struct _ | .array _ _ => true | _ => false) = true) (hi : (P.info? ty).map (·.size) = some cs.size) :
    (results fn tmps).run P w = .ok (.tuple #[.agg cs, tmps.getD q undef, tmps.getD u undef]) w := by
  have hp' : tmps[p]?.getD undef = .pointer (some ⟨g, 0, none⟩) := by simpa using hp
  simp [results, h, hp', asAddr, run_loadVar_row w g t ty cs fr d hg hu hd hi]

theorem byte_info : ∃ i, Try.prog.info? 5 = some i ∧ i.size = 1 := by
  have h := info5
  revert h
  cases Try.prog.info? 5 with
  | none => intro h; cases h
  | some i => intro h; exact ⟨i, rfl, (Prod.mk.inj (Prod.mk.inj (Option.some.inj h)).2).1⟩
abbrev u8 : Kd Int := Kd.int .u8
/-- The first byte of a row of bytes, and what is left. -/
theorem cut1 (A : Option Addr) (c : Nat) (x : Int) (r : List Int) (hc : (x :: r).length ≤ c) :
    ∃ A', (∀ W : World, (Instr.slice 24 (.slice A (x :: r).length c) (some (.int .i64 1)) none none).run Try.prog W = .ok (.slice A' r.length (c - 1)) W) ∧ (∀ w : World, Kd.C u8 w A (x :: r).length (x :: r) → Kd.C u8 w A' r.length r) ∧ r.length ≤ c - 1 := by
  obtain ⟨i, hi, hs⟩ := byte_info
  obtain ⟨A', h1, h2, h3⟩ := print_drop_of (P := Try.prog) (Value.int .u8) 0 24 5 .i64 Try.underlying24 hi hs A c (x :: r) 1 (by decide) (by simp; omega) hc
  exact ⟨A', h1, fun w h => Kd.C_of_reads (h2 w (Kd.reads_of_C h)), h3⟩
theorem cut8 (A : Option Addr) (c : Nat) (l : List Int) (h8 : 8 ≤ l.length) (hc : l.length ≤ c) :
    ∃ A', (∀ W : World, (Instr.slice 24 (.slice A l.length c) (some (.int .i64 8)) none none).run Try.prog W = .ok (.slice A' (l.drop 8).length (c - 8)) W) ∧ (∀ w : World, Kd.C u8 w A l.length l → Kd.C u8 w A' (l.drop 8).length (l.drop 8)) ∧ (l.drop 8).length ≤ c - 8 := by
  obtain ⟨i, hi, hs⟩ := byte_info
  obtain ⟨A', h1, h2, h3⟩ := print_drop_of (P := Try.prog) (Value.int .u8) 0 24 5 .i64 Try.underlying24 hi hs A c l 8 (by decide) (by omega) hc
  exact ⟨A', h1, fun w h => Kd.C_of_reads (h2 w (Kd.reads_of_C h)), h3⟩
theorem head_at {w : World} {A : Option Addr} {x : Int} {r : List Int} (h : Kd.C u8 w A (x :: r).length (x :: r)) : ∃ ad, A = some ad ∧ w.cell? ad = some (.int .u8 x) := by
  obtain ⟨ad, c, e, _, hK, hc⟩ := Kd.C_get h 0 0 (by decide) (by simp)
  have hk : c = [.int .u8 x] := hK
  subst hk
  refine ⟨ad, e, ?_⟩
  have e0 : ad.add 0 = ad := by cases ad; rfl
  have := hc 0 _ rfl
  simp only [Nat.add_zero, Int.toNat_zero, Nat.zero_mul] at this
  rw [e0] at this
  exact this

theorem rd_mem {r : List Int} {j : Nat} (h : j < r.length) : rd r (j : Int) ∈ r := by
  unfold rd
  rw [Int.toNat_natCast, List.getD_eq_getElem?_getD, List.getElem?_eq_getElem h]
  exact List.getElem_mem _
theorem at_u8 {w : World} {A : Option Addr} {n : Nat} {xs : List Int} (h : Kd.C u8 w A n xs) (i : Int) (h0 : 0 ≤ i) (h1 : i < n) : ∃ ad, A = some ad ∧ w.cell? (ad.add i.toNat) = some (.int .u8 (rd xs i)) := by
  obtain ⟨ad, c, e, _, hK, hc⟩ := Kd.C_get h 0 i h0 h1
  have hk : c = [.int .u8 (xs.getD i.toNat 0)] := hK
  subst hk
  exact ⟨ad, e, by have := hc 0 _ rfl; simpa [Kd.int, Kd.scalar, rd] using this⟩
/-- A field from bytes, if there may be any. -/
def fieldT (b : Int) : List Int → Option (Int × List Int)
  | l => if b = 0 then some (0, l) else match l with
    | [] => none
    | x :: r => some (x, r)
/-- The fields so far. -/
def Prog (b1 b2 b4 : Int) (l : List Int) (x1 x2 x3 : Int) (r : List Int) : Nat → Prop
  | 0 => x1 = 0 ∧ x2 = 0 ∧ x3 = 0 ∧ r = l
  | 1 => fieldT b1 l = some (x1, r) ∧ x2 = 0 ∧ x3 = 0
  | 2 => ∃ r1, fieldT b1 l = some (x1, r1) ∧ fieldT b2 r1 = some (x2, r) ∧ x3 = 0
  | _ => ∃ r1 r2, fieldT b1 l = some (x1, r1) ∧ fieldT b2 r1 = some (x2, r2) ∧ fieldT b4 r2 = some (x3, r)
/-- The number of so many bytes. -/
def numT (l : List Int) : Nat → Int
  | 0 => 0
  | j + 1 => Go.bits .or .i64 (numT l j) (wrap64 (rd l j * 2 ^ (8 * j)))
/-- All of an operation behind its code. -/
def takeR (x b1 b2 b4 : Int) (nb is : Bool) (l : List Int) : Option (S46 × List Int) :=
  if is = false then none else
    (fieldT b1 l).bind fun p1 => (fieldT b2 p1.2).bind fun p2 => (fieldT b4 p2.2).bind fun p3 =>
      if nb = false then some (⟨x, p1.1, p2.1, p3.1, 0⟩, p3.2) else if p3.2.length < 8 then none else some (⟨x, p1.1, p2.1, p3.1, numT p3.2 8⟩, p3.2.drop 8)
theorem fieldT_zero (l : List Int) : fieldT 0 l = some (0, l) := rfl
theorem fieldT_nil {b : Int} (h : ¬ b = 0) : fieldT b [] = none := by unfold fieldT; rw [if_neg h]
theorem fieldT_cons {b : Int} (h : ¬ b = 0) (y : Int) (r : List Int) : fieldT b (y :: r) = some (y, r) := by unfold fieldT; rw [if_neg h]
theorem takeR_1 {x b1 b2 b4 : Int} {nb : Bool} {l : List Int} (h : fieldT b1 l = none) : takeR x b1 b2 b4 nb true l = none := by unfold takeR; rw [if_neg (by decide), h]; rfl
theorem takeR_2 {x b1 b2 b4 x1 : Int} {nb : Bool} {l r1 : List Int} (h1 : fieldT b1 l = some (x1, r1)) (h : fieldT b2 r1 = none) : takeR x b1 b2 b4 nb true l = none := by
  unfold takeR
  rw [if_neg (by decide), h1, Option.bind_some]
  show (fieldT b2 r1).bind _ = none
  rw [h]
  rfl
theorem takeR_3 {x b1 b2 b4 x1 x2 : Int} {nb : Bool} {l r1 r2 : List Int} (h1 : fieldT b1 l = some (x1, r1)) (h2 : fieldT b2 r1 = some (x2, r2)) (h : fieldT b4 r2 = none) : takeR x b1 b2 b4 nb true l = none := by
  unfold takeR
  rw [if_neg (by decide), h1, Option.bind_some]
  show (fieldT b2 r1).bind _ = none
  rw [h2, Option.bind_some]
  show (fieldT b4 r2).bind _ = none
  rw [h]
  rfl
theorem takeR_all {x b1 b2 b4 x1 x2 x3 : Int} {nb : Bool} {l r1 r2 r : List Int} (h1 : fieldT b1 l = some (x1, r1)) (h2 : fieldT b2 r1 = some (x2, r2)) (h3 : fieldT b4 r2 = some (x3, r)) :
    takeR x b1 b2 b4 nb true l = if nb = false then some (⟨x, x1, x2, x3, 0⟩, r) else if r.length < 8 then none else some (⟨x, x1, x2, x3, numT r 8⟩, r.drop 8) := by
  unfold takeR
  rw [if_neg (by decide), h1, Option.bind_some]
  show (fieldT b2 r1).bind _ = _
  rw [h2, Option.bind_some]
  show (fieldT b4 r2).bind _ = _
  rw [h3]
  rfl
/-- What take comes to. -/
def Took (w : World) (T : Option (S46 × List Int)) (e : Ending) : Prop := match T with
  | none => ∃ o v, e = .returned (.tuple #[.agg (opV o), v, .bool false])
  | some (o, r) => ∃ A c, e = .returned (.tuple #[.agg (opV o), .slice A r.length c, .bool true]) ∧ Kd.C u8 w A r.length r ∧ r.length ≤ c

/-- The box of the result, and that of the shape. -/
def TS (w W : World) (g g2 : Nat) (o : S46) (c2 : Array Value) : Prop := Below w.heap.size w W ∧ W.heap[g]? = some (.cells (opV o) 46 (0, 0)) ∧ W.heap[g2]? = some (.cells c2 60 (0, 0)) ∧ w.heap.size ≤ g
theorem TS.next {w W W' : World} {g g2 : Nat} {o : S46} {c2 : Array Value} (h : TS w W g g2 o c2) (hb : Below W.heap.size W W') : TS w W' g g2 o c2 :=
  ⟨bAfter h.1 hb, blk_below h.2.1 hb, blk_below h.2.2.1 hb, h.2.2.2⟩

theorem TS.put {w W : World} {g g2 : Nat} {o o' : S46} {c2 : Array Value} (h : TS w W g g2 o c2) (i : Nat) (u : Value) (e : (opV o).setIfInBounds i u = opV o') : TS w (W.setCell ⟨g, i, none⟩ u) g g2 o' c2 :=
  ⟨h.1.setCell (p := ⟨g, i, none⟩) h.2.2.2 u, blk_put h.2.1 i u e, blk_far h.2.2.1 (p := ⟨g, i, none⟩) (blk_ne h.2.2.1 h.2.1 (by decide)) u, h.2.2.2⟩
theorem TS.put5 {w W : World} {g g2 : Nat} {o : S46} {c2 : Array Value} (h : TS w W g g2 o c2) (o' : S46) : TS w (((((W.setCell ⟨g, 0, none⟩ (.int .i64 o'.f0)).setCell ⟨g, 1, none⟩ (.int .i64 o'.f1)).setCell ⟨g, 2, none⟩ (.int .i64 o'.f2)).setCell ⟨g, 3, none⟩ (.int .i64 o'.f3)).setCell ⟨g, 4, none⟩ (.int .i64 o'.f4)) g g2 o' c2 :=
  ((((h.put (o' := ⟨o'.f0, o.f1, o.f2, o.f3, o.f4⟩) 0 _ rfl).put (o' := ⟨o'.f0, o'.f1, o.f2, o.f3, o.f4⟩) 1 _ rfl).put (o' := ⟨o'.f0, o'.f1, o'.f2, o.f3, o.f4⟩) 2 _ rfl).put (o' := ⟨o'.f0, o'.f1, o'.f2, o'.f3, o.f4⟩) 3 _ rfl).put (o' := o') 4 _ rfl

attribute [local go_sem high] idx0 idx1 idx2
set_option maxHeartbeats 8000000 in
theorem take_core (A0 : Option Addr) (c0 : Nat) (x : Int) (l : List Int) (V w : World) (hV : Hid (Below V.heap.size V w)) (n0 : ByteArray) (b1 b2 b3 b4 : Int) (pl nb is : Bool)
    (hC : Kd.C u8 V A0 (x :: l).length (x :: l)) (hc : (x :: l).length ≤ c0) (hx : 0 ≤ x ∧ x < 256) (hl : ∀ y ∈ l, 0 ≤ y ∧ y < 256)
    (C1 : Hid (∀ W, Calls Try.prog 27 #[.int .i64 x] W fun e w' => e = .returned (.tuple #[.agg #[.string n0, .int .i64 b1, .int .i64 b2, .int .i64 b3, .bool pl, .bool nb], .bool is]) ∧ Below W.heap.size W w'))
    (C2 : Hid (∀ W, Calls Try.prog 28 #[.pointer (some ⟨w.heap.size, 0, none⟩), .agg #[.string n0, .int .i64 b1, .int .i64 b2, .int .i64 b3, .bool pl, .bool nb], .int .i64 200] W fun e w' => e = .returned (.agg #[.pointer (some ⟨w.heap.size, 1, none⟩), .int .i64 b1, .pointer (some ⟨w.heap.size, 2, none⟩), .int .i64 b2, .pointer (some ⟨w.heap.size, 3, none⟩), .int .i64 b4]) ∧ Below W.heap.size W w')) :
    Calls Try.prog 34 #[.slice A0 (x :: l).length c0] w fun e w' => Took V (takeR x b1 b2 b4 nb is l) e ∧ Below w.heap.size w w' := by
  have hu60 := Try.underlying60
  have hu46 := Try.underlying46
  have hu64 := Try.underlying64
  have hu65 := Try.underlying65
  obtain ⟨A1, cut, hcut, hc1⟩ := cut1 A0 c0 x l hc
  obtain ⟨ad, rfl, a0⟩ := head_at hC
  replace a0 := (hV.out.cell (World.block_lt_of_cell? V _ a0)).trans a0
  have hw : wrap64 x = x := by unfold wrap64; omega
  have hlen : (0 : Int) < ((x :: l).length : Nat) := by simp
  have HC := Lib.hid (And.intro (hcut V hC) hc1)
  have HL := Lib.hid hl
  clear hcut hc1 hl hC hc
  generalize hn : (x :: l).length = n at *
  clear hn
  obtain ⟨W0, hW0, K0, hB0⟩ : ∃ W0, w.alloc (.cells (opV ⟨0, 0, 0, 0, 0⟩) 46) = W0 ∧ W0.heap[w.heap.size]? = some (.cells (opV ⟨0, 0, 0, 0, 0⟩) 46 (0, 0)) ∧ Below w.heap.size w W0 := ⟨_, rfl, heap_alloc_new _ _, bOne _⟩
  have a1 : W0.cell? ad = some (.int .u8 x) := (hB0.cell (World.block_lt_of_cell? w _ a0)).trans a0
  have HB0 := Lib.hid (And.intro hB0 K0)
  clear hB0 K0
  unfold opV at hW0
  go_enter Try.func34, Try.ntmps34
  go_wp2_with fail
  refine (C1.out _).mono ?_
  rintro e w1 ⟨rfl, hB1⟩
  obtain ⟨W1, hW1, K1, hB2⟩ : ∃ W1, w1.alloc (.cells (#[.string n0, .int .i64 b1, .int .i64 b2, .int .i64 b3, .bool pl, .bool nb]) 60) = W1 ∧ W1.heap[w1.heap.size]? = some (.cells (#[.string n0, .int .i64 b1, .int .i64 b2, .int .i64 b3, .bool pl, .bool nb]) 60 (0, 0)) ∧ Below w1.heap.size w1 W1 := ⟨_, rfl, heap_alloc_new _ _, bOne _⟩
  have HS : Hid (TS w W1 w.heap.size w1.heap.size ⟨0, 0, 0, 0, 0⟩ #[.string n0, .int .i64 b1, .int .i64 b2, .int .i64 b3, .bool pl, .bool nb]) := Lib.hid ⟨bAfter HB0.out.1 (bAfter hB1 hB2), blk_below HB0.out.2 (bAfter hB1 hB2), K1, Nat.le_refl _⟩
  have a2 : W1.cell? ad = some (.int .u8 x) := ((bAfter hB1 hB2).cell (World.block_lt_of_cell? _ _ a1)).trans a1
  have k2 : W1.heap[w.heap.size]? = some (.cells (opV ⟨0, 0, 0, 0, 0⟩) 46 (0, 0)) := HS.out.2.1
  clear hB1 hB2 K1 C1 hW0 a0 a1
  cases is with

  | false =>
    generalize hg : w.heap.size = g at *
    generalize hg2 : w1.heap.size = g2 at *
    have d0 : W1.cell? ⟨g, 0, none⟩ = some (.int .i64 0) := blk_cell HS.out.2.1 0
    have f0 := blk_frozen HS.out.2.1 0
    have d1 : W1.cell? ⟨g, 1, none⟩ = some (.int .i64 0) := blk_cell HS.out.2.1 1
    have f1 := blk_frozen HS.out.2.1 1
    have d2 : W1.cell? ⟨g, 2, none⟩ = some (.int .i64 0) := blk_cell HS.out.2.1 2
    have f2 := blk_frozen HS.out.2.1 2
    have d3 : W1.cell? ⟨g, 3, none⟩ = some (.int .i64 0) := blk_cell HS.out.2.1 3
    have f3 := blk_frozen HS.out.2.1 3
    have d4 : W1.cell? ⟨g, 4, none⟩ = some (.int .i64 0) := blk_cell HS.out.2.1 4
    have f4 := blk_frozen HS.out.2.1 4
    obtain ⟨W9, hW9, HZ⟩ : ∃ W9, (((((W1.setCell ⟨g, 0, none⟩ (.int .i64 0)).setCell ⟨g, 1, none⟩ (.int .i64 0)).setCell ⟨g, 2, none⟩ (.int .i64 0)).setCell ⟨g, 3, none⟩ (.int .i64 0)).setCell ⟨g, 4, none⟩ (.int .i64 0)) = W9 ∧ Hid (TS w W9 g g2 ⟨0, 0, 0, 0, 0⟩ #[.string n0, .int .i64 b1, .int .i64 b2, .int .i64 b3, .bool pl, .bool nb]) := ⟨_, rfl, Lib.hid (HS.out.put5 ⟨0, 0, 0, 0, 0⟩)⟩
    go_wp2_with fail
    refine bodyPost_ret (results_ctt rfl _ _ g 46 _ (0, 0) _ rfl HZ.out.2.1 Try.underlying46 rfl (by kernel_rfl)) rfl ?_
    refine ⟨?_, HZ.out.1⟩
    rw [show takeR x b1 b2 b4 nb false l = none from rfl]
    exact ⟨⟨0, 0, 0, 0, 0⟩, _, rfl⟩
  | true =>
    generalize hg : w.heap.size = g at *
    generalize hg2 : w1.heap.size = g2 at *
    have d0 : W1.cell? ⟨g, 0, none⟩ = some (.int .i64 0) := blk_cell HS.out.2.1 0
    have f0 := blk_frozen HS.out.2.1 0

    obtain ⟨W2, hW2, HS2⟩ : ∃ W2, W1.setCell ⟨g, 0, none⟩ (.int .i64 x) = W2 ∧ Hid (TS w W2 g g2 ⟨x, 0, 0, 0, 0⟩ #[.string n0, .int .i64 b1, .int .i64 b2, .int .i64 b3, .bool pl, .bool nb]) := ⟨_, rfl, Lib.hid (HS.out.put (o' := ⟨x, 0, 0, 0, 0⟩) 0 _ rfl)⟩
    have s0 : W2.cell? ⟨g2, 0, none⟩ = some (.string n0) := blk_cell HS2.out.2.2.1 0
    have s1 : W2.cell? ⟨g2, 1, none⟩ = some (.int .i64 b1) := blk_cell HS2.out.2.2.1 1
    have s2 : W2.cell? ⟨g2, 2, none⟩ = some (.int .i64 b2) := blk_cell HS2.out.2.2.1 2
    have s3 : W2.cell? ⟨g2, 3, none⟩ = some (.int .i64 b3) := blk_cell HS2.out.2.2.1 3
    have s4 : W2.cell? ⟨g2, 4, none⟩ = some (.bool pl) := blk_cell HS2.out.2.2.1 4
    have s5 : W2.cell? ⟨g2, 5, none⟩ = some (.bool nb) := blk_cell HS2.out.2.2.1 5
    go_wp2_with fail
    go_region
    go_wp2_with fail
    refine (C2.out _).mono ?_
    rintro e w4 ⟨rfl, hB4⟩
    have HS : Hid (TS w w4 g g2 ⟨x, 0, 0, 0, 0⟩ #[.string n0, .int .i64 b1, .int .i64 b2, .int .i64 b3, .bool pl, .bool nb]) := Lib.hid ((HS2.out.next (below_drew (Below.refl _ _))).next hB4)
    clear s0 s1 s2 s3 s4 s5 hB4 HS2 hW2 C2 d0 f0 k2 a2 hW1 cut hw hlen
    clear W2
    go_wp2_with fail
    go_loopg [0, 3, 4, 7, 30, 33, 37] 3 (fun kq v0 _ _ _ v30 _ _ W => ∃ (j : Nat) (A : Option Addr) (c : Nat) (r : List Int) (x1 x2 x3 : Int), v0 = .slice A r.length c ∧ v30 = .int .i64 j ∧ Hid (kq + j = 3) ∧ Hid (TS w W g g2 ⟨x, x1, x2, x3, 0⟩ #[.string n0, .int .i64 b1, .int .i64 b2, .int .i64 b3, .bool pl, .bool nb]) ∧ Hid (Kd.C u8 V A r.length r ∧ r.length ≤ c ∧ (∀ y ∈ r, 0 ≤ y ∧ y < 256) ∧ Prog b1 b2 b4 l x1 x2 x3 r j))
    case atStart => exact ⟨0, A1, c0 - 1, l, 0, 0, 0, rfl, rfl, by simp [Hid], HS, Lib.hid ⟨HC.out.1, HC.out.2, HL.out, rfl, rfl, rfl, rfl⟩⟩
    case round =>
      clear HS HC HL
      obtain ⟨j, A, c, r, x1, x2, x3, rfl, rfl, hj, HS, HQ⟩ := hrel
      have hj3 : j = 0 ∨ j = 1 ∨ j = 2 ∨ j = 3 := by have := hj.out; omega
      rcases hj3 with rfl | rfl | rfl | rfl
      · obtain ⟨hCr, hcr, hall, hP⟩ := HQ.out
        obtain ⟨rfl, rfl, rfl, rfl⟩ := hP
        obtain ⟨W3, hW3, K3, hB3⟩ : ∃ W3, wr.alloc (.cells #[.pointer (some ⟨g, 1, none⟩), .int .i64 b1] 64) = W3 ∧ W3.heap[wr.heap.size]? = some (.cells #[.pointer (some ⟨g, 1, none⟩), .int .i64 b1] 64 (0, 0)) ∧ Below wr.heap.size wr W3 := ⟨_, rfl, heap_alloc_new _ _, bOne _⟩
        replace HS := Lib.hid (HS.out.next hB3)
        have a0 : W3.cell? ⟨wr.heap.size, 0, none⟩ = some (.pointer (some ⟨g, 1, none⟩)) := blk_cell K3 0
        have a1 : W3.cell? ⟨wr.heap.size, 1, none⟩ = some (.int .i64 b1) := blk_cell K3 1
        have hne : g ≠ wr.heap.size := blk_ne HS.out.2.1 K3 (by decide)
        clear K3 hB3
        obtain ⟨k1, rfl⟩ : ∃ m, gk = m + 1 := ⟨gk - 1, by have := hj.out; omega⟩
        by_cases hb : b1 = 0
        · have HP : Hid (Prog b1 b2 b4 r 0 0 0 r 1) := Lib.hid (by rw [hb]; exact ⟨fieldT_zero _, rfl, rfl⟩)
          have HQ2 := Lib.hid (And.intro hCr (And.intro hcr hall))
          clear hCr hcr hall HQ 
          have q0 : (b1 == 0) = true := by rw [hb]; rfl
          clear hb
          go_wp2_with fail
          go_roundg k1
          case measure => omega
          case rel => exact ⟨1, A, c, r, 0, 0, 0, rfl, by first | rfl | rw [wrap_next (by omega)], Lib.hid (by have := hj.out; omega), HS, Lib.hid ⟨HQ2.out.1, HQ2.out.2.1, HQ2.out.2.2, HP.out⟩⟩
        · have q0 : (b1 == 0) = false := by simpa using hb
          cases r with
          | nil =>
            have HT : Hid (takeR x b1 b2 b4 nb true [] = none) := Lib.hid (takeR_1 (fieldT_nil hb))
            clear hCr hcr hall HQ hb 
            have d0 : W3.cell? ⟨g, 0, none⟩ = some (.int .i64 x) := blk_cell HS.out.2.1 0
            have f0 := blk_frozen HS.out.2.1 0
            have d1 : W3.cell? ⟨g, 1, none⟩ = some (.int .i64 0) := blk_cell HS.out.2.1 1
            have f1 := blk_frozen HS.out.2.1 1
            have d2 : W3.cell? ⟨g, 2, none⟩ = some (.int .i64 0) := blk_cell HS.out.2.1 2
            have f2 := blk_frozen HS.out.2.1 2
            have d3 : W3.cell? ⟨g, 3, none⟩ = some (.int .i64 0) := blk_cell HS.out.2.1 3
            have f3 := blk_frozen HS.out.2.1 3
            have d4 : W3.cell? ⟨g, 4, none⟩ = some (.int .i64 0) := blk_cell HS.out.2.1 4
            have f4 := blk_frozen HS.out.2.1 4
            obtain ⟨W9, hW9, HZ⟩ : ∃ W9, (((((W3.setCell ⟨g, 0, none⟩ (.int .i64 0)).setCell ⟨g, 1, none⟩ (.int .i64 0)).setCell ⟨g, 2, none⟩ (.int .i64 0)).setCell ⟨g, 3, none⟩ (.int .i64 0)).setCell ⟨g, 4, none⟩ (.int .i64 0)) = W9 ∧ Hid (TS w W9 g g2 ⟨0, 0, 0, 0, 0⟩ #[.string n0, .int .i64 b1, .int .i64 b2, .int .i64 b3, .bool pl, .bool nb]) := ⟨_, rfl, Lib.hid (HS.out.put5 ⟨0, 0, 0, 0, 0⟩)⟩
            go_wp2_with fail
            refine bodyPost_ret (results_ctt rfl _ _ g 46 _ (0, 0) _ rfl HZ.out.2.1 Try.underlying46 rfl (by kernel_rfl)) rfl ?_
            refine ⟨?_, HZ.out.1⟩
            rw [HT.out]
            exact ⟨⟨0, 0, 0, 0, 0⟩, _, rfl⟩
          | cons y r =>
            have HP : Hid (Prog b1 b2 b4 (y :: r) y 0 0 r 1) := Lib.hid (⟨fieldT_cons hb _ _, rfl, rfl⟩)
            obtain ⟨A2, cut, hcut, hc1⟩ := cut1 A c y r hcr
            have HQ2 : Hid (Kd.C u8 V A2 r.length r ∧ r.length ≤ c - 1 ∧ (∀ z ∈ r, 0 ≤ z ∧ z < 256)) := Lib.hid ⟨hcut V hCr, hc1, fun z hz => hall z (List.mem_cons_of_mem _ hz)⟩
            obtain ⟨ad, rfl, e0⟩ := head_at hCr
            have e1 : W3.cell? ad = some (.int .u8 y) := ((bAfter hV.out HS.out.1).cell (World.block_lt_of_cell? V _ e0)).trans e0
            have hy := hall y List.mem_cons_self
            have hw : wrap64 y = y := by unfold wrap64; omega
            have hlen : (0 : Int) < ((y :: r).length : Nat) := by simp only [List.length_cons]; omega
            have q1 : (((y :: r).length : Nat) : Int) ≠ 0 := by omega
            have q2 : ((((y :: r).length : Nat) : Int) == 0) = false := by simpa using q1
            generalize hn : (y :: r).length = n at *
            clear hn hCr hcr hall HQ hb hcut hc1 e0 
            have d1 : W3.cell? ⟨g, 1, none⟩ = some (.int .i64 0) := blk_cell HS.out.2.1 1
            have f1 := blk_frozen HS.out.2.1 1
            obtain ⟨W4, hW4, HS4⟩ : ∃ W4, W3.setCell ⟨g, 1, none⟩ (.int .i64 y) = W4 ∧ Hid (TS w W4 g g2 ⟨x, y, 0, 0, 0⟩ #[.string n0, .int .i64 b1, .int .i64 b2, .int .i64 b3, .bool pl, .bool nb]) := ⟨_, rfl, Lib.hid (HS.out.put (o' := ⟨x, y, 0, 0, 0⟩) 1 _ rfl)⟩
            go_wp2_with fail
            go_region
            go_wp2_with fail
            go_roundg k1
            case measure => omega
            case rel => exact ⟨1, A2, c - 1, r, y, 0, 0, rfl, by first | rfl | rw [wrap_next (by omega)], Lib.hid (by have := hj.out; omega), Lib.hid (HS4.out.next (below_drew (Below.refl _ _))), Lib.hid ⟨HQ2.out.1, HQ2.out.2.1, HQ2.out.2.2, HP.out⟩⟩
      · obtain ⟨hCr, hcr, hall, hP⟩ := HQ.out
        obtain ⟨h1, rfl, rfl⟩ := hP
        obtain ⟨W3, hW3, K3, hB3⟩ : ∃ W3, wr.alloc (.cells #[.pointer (some ⟨g, 2, none⟩), .int .i64 b2] 64) = W3 ∧ W3.heap[wr.heap.size]? = some (.cells #[.pointer (some ⟨g, 2, none⟩), .int .i64 b2] 64 (0, 0)) ∧ Below wr.heap.size wr W3 := ⟨_, rfl, heap_alloc_new _ _, bOne _⟩
        replace HS := Lib.hid (HS.out.next hB3)
        have a0 : W3.cell? ⟨wr.heap.size, 0, none⟩ = some (.pointer (some ⟨g, 2, none⟩)) := blk_cell K3 0
        have a1 : W3.cell? ⟨wr.heap.size, 1, none⟩ = some (.int .i64 b2) := blk_cell K3 1
        have hne : g ≠ wr.heap.size := blk_ne HS.out.2.1 K3 (by decide)
        clear K3 hB3
        obtain ⟨k1, rfl⟩ : ∃ m, gk = m + 1 := ⟨gk - 1, by have := hj.out; omega⟩
        by_cases hb : b2 = 0
        · have HP : Hid (Prog b1 b2 b4 l x1 0 0 r 2) := Lib.hid (by rw [hb]; exact ⟨r, h1, fieldT_zero _, rfl⟩)
          have HQ2 := Lib.hid (And.intro hCr (And.intro hcr hall))
          clear hCr hcr hall HQ h1
          have q0 : (b2 == 0) = true := by rw [hb]; rfl
          clear hb
          go_wp2_with fail
          go_roundg k1
          case measure => omega
          case rel => exact ⟨2, A, c, r, x1, 0, 0, rfl, by first | rfl | rw [wrap_next (by omega)], Lib.hid (by have := hj.out; omega), HS, Lib.hid ⟨HQ2.out.1, HQ2.out.2.1, HQ2.out.2.2, HP.out⟩⟩
        · have q0 : (b2 == 0) = false := by simpa using hb
          cases r with
          | nil =>
            have HT : Hid (takeR x b1 b2 b4 nb true l = none) := Lib.hid (takeR_2 h1 (fieldT_nil hb))
            clear hCr hcr hall HQ hb h1
            have d0 : W3.cell? ⟨g, 0, none⟩ = some (.int .i64 x) := blk_cell HS.out.2.1 0
            have f0 := blk_frozen HS.out.2.1 0
            have d1 : W3.cell? ⟨g, 1, none⟩ = some (.int .i64 x1) := blk_cell HS.out.2.1 1
            have f1 := blk_frozen HS.out.2.1 1
            have d2 : W3.cell? ⟨g, 2, none⟩ = some (.int .i64 0) := blk_cell HS.out.2.1 2
            have f2 := blk_frozen HS.out.2.1 2
            have d3 : W3.cell? ⟨g, 3, none⟩ = some (.int .i64 0) := blk_cell HS.out.2.1 3
            have f3 := blk_frozen HS.out.2.1 3
            have d4 : W3.cell? ⟨g, 4, none⟩ = some (.int .i64 0) := blk_cell HS.out.2.1 4
            have f4 := blk_frozen HS.out.2.1 4
            obtain ⟨W9, hW9, HZ⟩ : ∃ W9, (((((W3.setCell ⟨g, 0, none⟩ (.int .i64 0)).setCell ⟨g, 1, none⟩ (.int .i64 0)).setCell ⟨g, 2, none⟩ (.int .i64 0)).setCell ⟨g, 3, none⟩ (.int .i64 0)).setCell ⟨g, 4, none⟩ (.int .i64 0)) = W9 ∧ Hid (TS w W9 g g2 ⟨0, 0, 0, 0, 0⟩ #[.string n0, .int .i64 b1, .int .i64 b2, .int .i64 b3, .bool pl, .bool nb]) := ⟨_, rfl, Lib.hid (HS.out.put5 ⟨0, 0, 0, 0, 0⟩)⟩
            go_wp2_with fail
            refine bodyPost_ret (results_ctt rfl _ _ g 46 _ (0, 0) _ rfl HZ.out.2.1 Try.underlying46 rfl (by kernel_rfl)) rfl ?_
            refine ⟨?_, HZ.out.1⟩
            rw [HT.out]
            exact ⟨⟨0, 0, 0, 0, 0⟩, _, rfl⟩
          | cons y r =>
            have HP : Hid (Prog b1 b2 b4 l x1 y 0 r 2) := Lib.hid (⟨y :: r, h1, fieldT_cons hb _ _, rfl⟩)
            obtain ⟨A2, cut, hcut, hc1⟩ := cut1 A c y r hcr
            have HQ2 : Hid (Kd.C u8 V A2 r.length r ∧ r.length ≤ c - 1 ∧ (∀ z ∈ r, 0 ≤ z ∧ z < 256)) := Lib.hid ⟨hcut V hCr, hc1, fun z hz => hall z (List.mem_cons_of_mem _ hz)⟩
            obtain ⟨ad, rfl, e0⟩ := head_at hCr
            have e1 : W3.cell? ad = some (.int .u8 y) := ((bAfter hV.out HS.out.1).cell (World.block_lt_of_cell? V _ e0)).trans e0
            have hy := hall y List.mem_cons_self
            have hw : wrap64 y = y := by unfold wrap64; omega
            have hlen : (0 : Int) < ((y :: r).length : Nat) := by simp only [List.length_cons]; omega
            have q1 : (((y :: r).length : Nat) : Int) ≠ 0 := by omega
            have q2 : ((((y :: r).length : Nat) : Int) == 0) = false := by simpa using q1
            generalize hn : (y :: r).length = n at *
            clear hn hCr hcr hall HQ hb hcut hc1 e0 h1
            have d2 : W3.cell? ⟨g, 2, none⟩ = some (.int .i64 0) := blk_cell HS.out.2.1 2
            have f2 := blk_frozen HS.out.2.1 2
            obtain ⟨W4, hW4, HS4⟩ : ∃ W4, W3.setCell ⟨g, 2, none⟩ (.int .i64 y) = W4 ∧ Hid (TS w W4 g g2 ⟨x, x1, y, 0, 0⟩ #[.string n0, .int .i64 b1, .int .i64 b2, .int .i64 b3, .bool pl, .bool nb]) := ⟨_, rfl, Lib.hid (HS.out.put (o' := ⟨x, x1, y, 0, 0⟩) 2 _ rfl)⟩
            go_wp2_with fail
            go_region
            go_wp2_with fail
            go_roundg k1
            case measure => omega
            case rel => exact ⟨2, A2, c - 1, r, x1, y, 0, rfl, by first | rfl | rw [wrap_next (by omega)], Lib.hid (by have := hj.out; omega), Lib.hid (HS4.out.next (below_drew (Below.refl _ _))), Lib.hid ⟨HQ2.out.1, HQ2.out.2.1, HQ2.out.2.2, HP.out⟩⟩
      · obtain ⟨hCr, hcr, hall, hP⟩ := HQ.out
        obtain ⟨r1, h1, h2, rfl⟩ := hP
        obtain ⟨W3, hW3, K3, hB3⟩ : ∃ W3, wr.alloc (.cells #[.pointer (some ⟨g, 3, none⟩), .int .i64 b4] 64) = W3 ∧ W3.heap[wr.heap.size]? = some (.cells #[.pointer (some ⟨g, 3, none⟩), .int .i64 b4] 64 (0, 0)) ∧ Below wr.heap.size wr W3 := ⟨_, rfl, heap_alloc_new _ _, bOne _⟩
        replace HS := Lib.hid (HS.out.next hB3)
        have a0 : W3.cell? ⟨wr.heap.size, 0, none⟩ = some (.pointer (some ⟨g, 3, none⟩)) := blk_cell K3 0
        have a1 : W3.cell? ⟨wr.heap.size, 1, none⟩ = some (.int .i64 b4) := blk_cell K3 1
        have hne : g ≠ wr.heap.size := blk_ne HS.out.2.1 K3 (by decide)
        clear K3 hB3
        obtain ⟨k1, rfl⟩ : ∃ m, gk = m + 1 := ⟨gk - 1, by have := hj.out; omega⟩
        by_cases hb : b4 = 0
        · have HP : Hid (Prog b1 b2 b4 l x1 x2 0 r 3) := Lib.hid (by rw [hb]; exact ⟨r1, r, h1, h2, fieldT_zero _⟩)
          have HQ2 := Lib.hid (And.intro hCr (And.intro hcr hall))
          clear hCr hcr hall HQ h1 h2
          have q0 : (b4 == 0) = true := by rw [hb]; rfl
          clear hb
          go_wp2_with fail
          go_roundg k1
          case measure => omega
          case rel => exact ⟨3, A, c, r, x1, x2, 0, rfl, by first | rfl | rw [wrap_next (by omega)], Lib.hid (by have := hj.out; omega), HS, Lib.hid ⟨HQ2.out.1, HQ2.out.2.1, HQ2.out.2.2, HP.out⟩⟩
        · have q0 : (b4 == 0) = false := by simpa using hb
          cases r with
          | nil =>
            have HT : Hid (takeR x b1 b2 b4 nb true l = none) := Lib.hid (takeR_3 h1 h2 (fieldT_nil hb))
            clear hCr hcr hall HQ hb h1 h2
            have d0 : W3.cell? ⟨g, 0, none⟩ = some (.int .i64 x) := blk_cell HS.out.2.1 0
            have f0 := blk_frozen HS.out.2.1 0
            have d1 : W3.cell? ⟨g, 1, none⟩ = some (.int .i64 x1) := blk_cell HS.out.2.1 1
            have f1 := blk_frozen HS.out.2.1 1
            have d2 : W3.cell? ⟨g, 2, none⟩ = some (.int .i64 x2) := blk_cell HS.out.2.1 2
            have f2 := blk_frozen HS.out.2.1 2
            have d3 : W3.cell? ⟨g, 3, none⟩ = some (.int .i64 0) := blk_cell HS.out.2.1 3
            have f3 := blk_frozen HS.out.2.1 3
            have d4 : W3.cell? ⟨g, 4, none⟩ = some (.int .i64 0) := blk_cell HS.out.2.1 4
            have f4 := blk_frozen HS.out.2.1 4
            obtain ⟨W9, hW9, HZ⟩ : ∃ W9, (((((W3.setCell ⟨g, 0, none⟩ (.int .i64 0)).setCell ⟨g, 1, none⟩ (.int .i64 0)).setCell ⟨g, 2, none⟩ (.int .i64 0)).setCell ⟨g, 3, none⟩ (.int .i64 0)).setCell ⟨g, 4, none⟩ (.int .i64 0)) = W9 ∧ Hid (TS w W9 g g2 ⟨0, 0, 0, 0, 0⟩ #[.string n0, .int .i64 b1, .int .i64 b2, .int .i64 b3, .bool pl, .bool nb]) := ⟨_, rfl, Lib.hid (HS.out.put5 ⟨0, 0, 0, 0, 0⟩)⟩
            go_wp2_with fail
            refine bodyPost_ret (results_ctt rfl _ _ g 46 _ (0, 0) _ rfl HZ.out.2.1 Try.underlying46 rfl (by kernel_rfl)) rfl ?_
            refine ⟨?_, HZ.out.1⟩
            rw [HT.out]
            exact ⟨⟨0, 0, 0, 0, 0⟩, _, rfl⟩
          | cons y r =>
            have HP : Hid (Prog b1 b2 b4 l x1 x2 y r 3) := Lib.hid (⟨r1, y :: r, h1, h2, fieldT_cons hb _ _⟩)
            obtain ⟨A2, cut, hcut, hc1⟩ := cut1 A c y r hcr
            have HQ2 : Hid (Kd.C u8 V A2 r.length r ∧ r.length ≤ c - 1 ∧ (∀ z ∈ r, 0 ≤ z ∧ z < 256)) := Lib.hid ⟨hcut V hCr, hc1, fun z hz => hall z (List.mem_cons_of_mem _ hz)⟩
            obtain ⟨ad, rfl, e0⟩ := head_at hCr
            have e1 : W3.cell? ad = some (.int .u8 y) := ((bAfter hV.out HS.out.1).cell (World.block_lt_of_cell? V _ e0)).trans e0
            have hy := hall y List.mem_cons_self
            have hw : wrap64 y = y := by unfold wrap64; omega
            have hlen : (0 : Int) < ((y :: r).length : Nat) := by simp only [List.length_cons]; omega
            have q1 : (((y :: r).length : Nat) : Int) ≠ 0 := by omega
            have q2 : ((((y :: r).length : Nat) : Int) == 0) = false := by simpa using q1
            generalize hn : (y :: r).length = n at *
            clear hn hCr hcr hall HQ hb hcut hc1 e0 h1 h2
            have d3 : W3.cell? ⟨g, 3, none⟩ = some (.int .i64 0) := blk_cell HS.out.2.1 3
            have f3 := blk_frozen HS.out.2.1 3
            obtain ⟨W4, hW4, HS4⟩ : ∃ W4, W3.setCell ⟨g, 3, none⟩ (.int .i64 y) = W4 ∧ Hid (TS w W4 g g2 ⟨x, x1, x2, y, 0⟩ #[.string n0, .int .i64 b1, .int .i64 b2, .int .i64 b3, .bool pl, .bool nb]) := ⟨_, rfl, Lib.hid (HS.out.put (o' := ⟨x, x1, x2, y, 0⟩) 3 _ rfl)⟩
            go_wp2_with fail
            go_region
            go_wp2_with fail
            go_roundg k1
            case measure => omega
            case rel => exact ⟨3, A2, c - 1, r, x1, x2, y, rfl, by first | rfl | rw [wrap_next (by omega)], Lib.hid (by have := hj.out; omega), Lib.hid (HS4.out.next (below_drew (Below.refl _ _))), Lib.hid ⟨HQ2.out.1, HQ2.out.2.1, HQ2.out.2.2, HP.out⟩⟩
      · obtain ⟨hCr, hcr, hall, r1, r2, h1, h2, h3⟩ := HQ.out
        have hT := takeR_all (x := x) (nb := nb) h1 h2 h3
        clear h1 h2 h3 HQ
        have s5 : wr.cell? ⟨g2, 5, none⟩ = some (.bool nb) := blk_cell HS.out.2.2.1 5
        cases nb with
        | false =>
          have HT : Hid (takeR x b1 b2 b4 false true l = some (⟨x, x1, x2, x3, 0⟩, r)) := Lib.hid (by rw [hT]; rfl)
          have HQ := Lib.hid (And.intro hCr hcr)
          clear hT hCr hcr hall
          have d0 : wr.cell? ⟨g, 0, none⟩ = some (.int .i64 x) := blk_cell HS.out.2.1 0
          have f0 := blk_frozen HS.out.2.1 0
          have d1 : wr.cell? ⟨g, 1, none⟩ = some (.int .i64 x1) := blk_cell HS.out.2.1 1
          have f1 := blk_frozen HS.out.2.1 1
          have d2 : wr.cell? ⟨g, 2, none⟩ = some (.int .i64 x2) := blk_cell HS.out.2.1 2
          have f2 := blk_frozen HS.out.2.1 2
          have d3 : wr.cell? ⟨g, 3, none⟩ = some (.int .i64 x3) := blk_cell HS.out.2.1 3
          have f3 := blk_frozen HS.out.2.1 3
          have d4 : wr.cell? ⟨g, 4, none⟩ = some (.int .i64 0) := blk_cell HS.out.2.1 4
          have f4 := blk_frozen HS.out.2.1 4
          obtain ⟨W9, hW9, HZ⟩ : ∃ W9, (((((wr.setCell ⟨g, 0, none⟩ (.int .i64 x)).setCell ⟨g, 1, none⟩ (.int .i64 x1)).setCell ⟨g, 2, none⟩ (.int .i64 x2)).setCell ⟨g, 3, none⟩ (.int .i64 x3)).setCell ⟨g, 4, none⟩ (.int .i64 0)) = W9 ∧ Hid (TS w W9 g g2 ⟨x, x1, x2, x3, 0⟩ #[.string n0, .int .i64 b1, .int .i64 b2, .int .i64 b3, .bool pl, .bool false]) := ⟨_, rfl, Lib.hid (HS.out.put5 ⟨x, x1, x2, x3, 0⟩)⟩
          go_wp2_with fail
          refine bodyPost_ret (results_ctt rfl _ _ g 46 _ (0, 0) _ rfl HZ.out.2.1 Try.underlying46 rfl (by kernel_rfl)) rfl ?_
          refine ⟨?_, HZ.out.1⟩
          rw [HT.out]
          exact ⟨A, c, rfl, HQ.out.1, HQ.out.2⟩
        | true =>
          by_cases h8 : r.length < 8
          · have HT : Hid (takeR x b1 b2 b4 true true l = none) := Lib.hid (by rw [hT, if_neg (by decide), if_pos h8])
            have h9 : (r.length : Int) < 8 := by omega
            clear hT hCr hcr hall h8
            have d0 : wr.cell? ⟨g, 0, none⟩ = some (.int .i64 x) := blk_cell HS.out.2.1 0
            have f0 := blk_frozen HS.out.2.1 0
            have d1 : wr.cell? ⟨g, 1, none⟩ = some (.int .i64 x1) := blk_cell HS.out.2.1 1
            have f1 := blk_frozen HS.out.2.1 1
            have d2 : wr.cell? ⟨g, 2, none⟩ = some (.int .i64 x2) := blk_cell HS.out.2.1 2
            have f2 := blk_frozen HS.out.2.1 2
            have d3 : wr.cell? ⟨g, 3, none⟩ = some (.int .i64 x3) := blk_cell HS.out.2.1 3
            have f3 := blk_frozen HS.out.2.1 3
            have d4 : wr.cell? ⟨g, 4, none⟩ = some (.int .i64 0) := blk_cell HS.out.2.1 4
            have f4 := blk_frozen HS.out.2.1 4
            obtain ⟨W9, hW9, HZ⟩ : ∃ W9, (((((wr.setCell ⟨g, 0, none⟩ (.int .i64 0)).setCell ⟨g, 1, none⟩ (.int .i64 0)).setCell ⟨g, 2, none⟩ (.int .i64 0)).setCell ⟨g, 3, none⟩ (.int .i64 0)).setCell ⟨g, 4, none⟩ (.int .i64 0)) = W9 ∧ Hid (TS w W9 g g2 ⟨0, 0, 0, 0, 0⟩ #[.string n0, .int .i64 b1, .int .i64 b2, .int .i64 b3, .bool pl, .bool true]) := ⟨_, rfl, Lib.hid (HS.out.put5 ⟨0, 0, 0, 0, 0⟩)⟩
            go_wp2_with fail
            refine bodyPost_ret (results_ctt rfl _ _ g 46 _ (0, 0) _ rfl HZ.out.2.1 Try.underlying46 rfl (by kernel_rfl)) rfl ?_
            refine ⟨?_, HZ.out.1⟩
            rw [HT.out]
            exact ⟨⟨0, 0, 0, 0, 0⟩, _, rfl⟩
          · have HT : Hid (takeR x b1 b2 b4 true true l = some (⟨x, x1, x2, x3, numT r 8⟩, r.drop 8)) := Lib.hid (by rw [hT, if_neg (by decide), if_neg h8])
            have h9 : ¬ (r.length : Int) < 8 := by omega
            have h10 : (8 : Int) ≤ r.length := by omega
            obtain ⟨A9, cut9, hcut9, hc9⟩ := cut8 A c r (by omega) hcr
            have cut7 : ∀ W : World, (Instr.slice 24 (.slice A r.length c) none (some (.int .i64 8)) none).run Try.prog W = .ok (.slice A 8 c) W := by
              obtain ⟨i, hi, hs⟩ := byte_info
              have := (print_take_of (P := Try.prog) (Value.int .u8) 0 24 5 .i64 Try.underlying24 hi hs A c r 8 (by decide) (by omega) hcr).1
              rwa [show (r.take (8 : Int).toNat).length = 8 from by rw [List.length_take]; show min 8 r.length = 8; omega] at this
            have H9 : Hid (Kd.C u8 V A9 (r.drop 8).length (r.drop 8) ∧ (r.drop 8).length ≤ c - 8) := Lib.hid ⟨hcut9 V hCr, hc9⟩
            have HQ := Lib.hid (And.intro hCr (And.intro hall h8))
            clear hT hCr hcr hall h8 hcut9 hc9
            go_wp2_with fail
            clear cut7
            go_loopg [8, 9, 64] 8 (fun kq _ _ v64 W => ∃ j : Nat, v64 = .int .i64 j ∧ Hid (kq + j = 8) ∧ Hid (TS w W g g2 ⟨x, x1, x2, x3, numT r j⟩ #[.string n0, .int .i64 b1, .int .i64 b2, .int .i64 b3, .bool pl, .bool true]))
            case atStart => exact ⟨0, rfl, by simp [Hid], HS⟩
            case round =>
              clear HS s5
              obtain ⟨j, rfl, hj2, HS⟩ := hrel
              by_cases hj3 : j < 8
              · have hj4 : (j : Int) < 8 := by omega
                have hj0 : (0 : Int) ≤ j := by omega
                obtain ⟨k1, rfl⟩ : ∃ m, gk = m + 1 := ⟨gk - 1, by have := hj2.out; omega⟩
                obtain ⟨ad, hA, e0⟩ := at_u8 HQ.out.1 (j : Int) hj0 (by have := HQ.out.2.2; omega)
                subst hA
                simp only [Int.toNat_natCast] at e0
                have hy := HQ.out.2.1 (rd r j) (rd_mem (by have := HQ.out.2.2; omega))
                generalize hyy : rd r (j : Int) = y at *
                have e1 : wr.cell? (ad.add j) = some (.int .u8 y) := ((bAfter hV.out HS.out.1).cell (World.block_lt_of_cell? V _ e0)).trans e0
                have hw : wrap64 y = y := by unfold wrap64; omega
                have HY := Lib.hid hyy
                clear hyy e0
                generalize hN : numT r j = N at *
                have d4 : wr.cell? ⟨g, 4, none⟩ = some (.int .i64 N) := blk_cell HS.out.2.1 4
                have f4 := blk_frozen HS.out.2.1 4
                go_wp2_with fail
                go_region
                go_wp2_with fail
                go_roundg k1
                case measure => omega
                case rel => exact ⟨j + 1, by first | rfl | rw [wrap_next (by omega)], Lib.hid (by have := hj2.out; omega), Lib.hid (by
                  have h4 := (HS.out.put (o' := ⟨x, x1, x2, x3, numT r (j + 1)⟩) 4 (.int .i64 (Go.bits .or .i64 N (wrap64 (y * 2 ^ (8 * j))))) (by
                    rw [show numT r (j + 1) = Go.bits .or .i64 N (wrap64 (y * 2 ^ (8 * j))) from by rw [← hN, ← HY.out]; rfl]
                    rfl)).next (below_drew (Below.refl _ _))
                  exact h4)⟩
              · have hj4 : ¬ (j : Int) < 8 := by omega
                have hj8 : j = 8 := by have := hj2.out; omega
                subst hj8
                have HQ8 := Lib.hid HQ.out.2.2
                generalize hN : numT r 8 = N at *
                have d0 : wr.cell? ⟨g, 0, none⟩ = some (.int .i64 x) := blk_cell HS.out.2.1 0
                have f0 := blk_frozen HS.out.2.1 0
                have d1 : wr.cell? ⟨g, 1, none⟩ = some (.int .i64 x1) := blk_cell HS.out.2.1 1
                have f1 := blk_frozen HS.out.2.1 1
                have d2 : wr.cell? ⟨g, 2, none⟩ = some (.int .i64 x2) := blk_cell HS.out.2.1 2
                have f2 := blk_frozen HS.out.2.1 2
                have d3 : wr.cell? ⟨g, 3, none⟩ = some (.int .i64 x3) := blk_cell HS.out.2.1 3
                have f3 := blk_frozen HS.out.2.1 3
                have d4 : wr.cell? ⟨g, 4, none⟩ = some (.int .i64 N) := blk_cell HS.out.2.1 4
                have f4 := blk_frozen HS.out.2.1 4
                obtain ⟨W9, hW9, HZ⟩ : ∃ W9, (((((wr.setCell ⟨g, 0, none⟩ (.int .i64 x)).setCell ⟨g, 1, none⟩ (.int .i64 x1)).setCell ⟨g, 2, none⟩ (.int .i64 x2)).setCell ⟨g, 3, none⟩ (.int .i64 x3)).setCell ⟨g, 4, none⟩ (.int .i64 N)) = W9 ∧ Hid (TS w W9 g g2 ⟨x, x1, x2, x3, N⟩ #[.string n0, .int .i64 b1, .int .i64 b2, .int .i64 b3, .bool pl, .bool true]) := ⟨_, rfl, Lib.hid (HS.out.put5 ⟨x, x1, x2, x3, N⟩)⟩
                go_wp2_with fail
                go_region
                go_wp2_with fail
                refine bodyPost_ret (results_ctt rfl _ _ g 46 _ (0, 0) _ rfl (blk_drew HZ.out.2.1) Try.underlying46 rfl (by kernel_rfl)) rfl ?_
                refine ⟨?_, below_drew HZ.out.1⟩
                rw [HT.out]
                exact ⟨A9, c - 8, by rw [List.length_drop]; rfl, H9.out.1, H9.out.2⟩


/-- An operation from bytes, and what is left. -/
def takeOp : List Int → Option (S46 × List Int)
  | [] => none
  | x :: l => takeR x (sh x).f1 (sh x).f2 (third (sh x) 200) (sh x).f5 (isCode x) l
theorem take_calls (A0 : Option Addr) (c0 : Nat) (x : Int) (l : List Int) (V w : World) (hV : Below V.heap.size V w) (hC : Kd.C u8 V A0 (x :: l).length (x :: l)) (hc : (x :: l).length ≤ c0) (hx : 0 ≤ x ∧ x < 256) (hl : ∀ y ∈ l, 0 ≤ y ∧ y < 256) :
    Calls Try.prog 34 #[.slice A0 (x :: l).length c0] w fun e w' => Took V (takeOp (x :: l)) e ∧ Below w.heap.size w w' :=
  take_core A0 c0 x l V w (Lib.hid hV) _ _ _ _ _ _ _ _ hC hc hx hl (Lib.hid (fun W => code_find.calls x _ _ _ _ _ _ _ W (find_f x))) (Lib.hid (fun W => fields_calls w.heap.size (sh x) 200 W))

end Go.Proofs.Ytbnchippfebdkaa.Q
