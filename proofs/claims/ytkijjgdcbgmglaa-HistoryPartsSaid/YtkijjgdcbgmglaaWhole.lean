/- What is read and written at once; memory of which one block alone is turned. Over any program. -/
import Derived.Test.YtkijjgdcbgmglaaQ0
import Derived.Test.YtkijjgdcbgmglaaMem
import Derived.Test.YtkijjgdcbgmglaaGrowR
import Derived.Deep.MidRow
namespace Go.Proofs.Ytkijjgdcbgmglaa.Q
open Go.RowKit Go.Lib Go.Proofs.Ytkijjgdcbgmglaa Go.Proofs.YtkijjgdcbgmglaaW.PrintWords Go.Proofs.YtkijjgdcbgmglaaW.PrintLast Go.Proofs.YtkijjgdcbgmglaaW.PrintMore
set_option linter.unusedVariables false
set_option linter.unusedSimpArgs false

/-- Memory grows. -/
def RB (W W' : World) : Prop := Below W.heap.size W W'
instance : GR.Rel RB where
  refl := fun W => Below.refl _ _
  trans := fun h k => bAfter h k
  size := fun h => Below.size h
  ofB := fun h => h
abbrev ptr (b : Nat) : Value := .pointer (some ⟨b, 0, none⟩)
theorem below_le {B B' : Nat} {W W' : World} (h : Below B W W') (hl : B' ≤ B) : Below B' W W' := ⟨h.os, h.tape, h.output, h.size, fun k hk => h.block k (by omega)⟩
/-- A pointer to a block that is so. -/
def TZ (n0 : Nat) (s : Obj) (W : World) (v : Value) : Prop := ∃ b, v = ptr b ∧ n0 ≤ b ∧ W.heap[b]? = some s
theorem stable_TZ (n0 : Nat) (s : Obj) : GR.Stable RB (TZ n0 s) := by
  rintro W W' v ⟨b, rfl, h0, h⟩ hR
  exact ⟨b, rfl, h0, blk_below h hR⟩
theorem TZ_ptr {n0 : Nat} {s : Obj} {W : World} {b : Nat} : TZ n0 s W (ptr b) ↔ n0 ≤ b ∧ W.heap[b]? = some s := by
  constructor
  · rintro ⟨b', e, h0, h⟩
    simp at e
    subst e
    exact ⟨h0, h⟩
  · exact fun h => ⟨b, rfl, h⟩
/-- Nothing turns but one block, and what is new. -/
structure Only (cb : Nat) (W W' : World) : Prop where
  os : W'.os = W.os
  tape : W'.tape = W.tape
  output : W'.output = W.output
  size : W.heap.size ≤ W'.heap.size
  block : ∀ k, k < W.heap.size → k ≠ cb → W'.heap[k]? = W.heap[k]?
theorem Only.of_below {cb : Nat} {W W' : World} (h : Below W.heap.size W W') : Only cb W W' := ⟨h.os, h.tape, h.output, h.size, fun k hk _ => h.block k hk⟩
theorem Only.trans {cb : Nat} {A B C : World} (h : Only cb A B) (k : Only cb B C) : Only cb A C :=
  ⟨k.os.trans h.os, k.tape.trans h.tape, k.output.trans h.output, Nat.le_trans h.size k.size, fun i hi hne => (k.block i (Nat.lt_of_lt_of_le hi h.size) hne).trans (h.block i hi hne)⟩
theorem Only.below {cb B : Nat} {W W' : World} (h : Only cb W W') (hb : B ≤ cb) (hB : B ≤ W.heap.size) : Below B W W' := ⟨h.os, h.tape, h.output, h.size, fun k hk => h.block k (by omega) (by omega)⟩
theorem Only.set {cb : Nat} (W : World) (j : Nat) (u : Value) : Only cb W (W.setCell ⟨cb, j, none⟩ u) := by
  have h : Below cb W (W.setCell ⟨cb, j, none⟩ u) := (Below.refl _ _).setCell (p := ⟨cb, j, none⟩) (Nat.le_refl _) u
  exact ⟨h.os, h.tape, h.output, h.size, fun k hk hne => Below.heap_setCell _ _ _ k (by exact hne)⟩
theorem Only.mid {cb B : Nat} {W W' : World} (h : Only cb W W') {x : Obj} {b : Nat} (hb : W.heap[b]? = some x) (hne : b ≠ cb) : W'.heap[b]? = some x := (h.block b (blk_lt hb) hne).trans hb


/-- Cells written one behind the other. -/
abbrev sets (W : World) (g : Nat) (o : Nat) (vs : List Value) : World := W.setCells g o vs
def setL (xs : Array Value) : Nat → List Value → Array Value
  | _, [] => xs
  | o, b :: bs => setL (xs.setIfInBounds o b) (o + 1) bs
theorem sets_heap {g : Nat} {t : TypeId} : ∀ (bs : List Value) (W : World) (o : Nat) (xs : Array Value), W.heap[g]? = some (.cells xs t (0, 0)) → (sets W g o bs).heap[g]? = some (.cells (setL xs o bs) t (0, 0))
  | [], W, o, xs, h => h
  | b :: bs, W, o, xs, h => sets_heap bs _ (o + 1) _ (blk_set h o b)
theorem sets_below {B g : Nat} : ∀ (bs : List Value) (W : World) (o : Nat), B ≤ g → Below B W (sets W g o bs)
  | [], W, o, h => Below.refl _ _
  | b :: bs, W, o, h => (((Below.refl _ _).setCell (p := ⟨g, o, none⟩) h b)).trans (sets_below bs _ (o + 1) h)
theorem sets_other {g : Nat} : ∀ (bs : List Value) (W : World) (o k : Nat), k ≠ g → (sets W g o bs).heap[k]? = W.heap[k]?
  | [], W, o, k, h => rfl
  | b :: bs, W, o, k, h => (sets_other bs _ (o + 1) k h).trans (Below.heap_setCell _ _ _ k (by exact h))
theorem sets_only {g : Nat} (bs : List Value) (W : World) (o : Nat) : Only g W (sets W g o bs) := by
  have h : Below g W (sets W g o bs) := sets_below bs W o (Nat.le_refl _)
  exact ⟨h.os, h.tape, h.output, h.size, fun k hk hne => sets_other bs W o k hne⟩
theorem setL_list : ∀ (bs : List Value) (l : List Value) (o : Nat), o + bs.length ≤ l.length → setL l.toArray o bs = (l.take o ++ bs ++ l.drop (o + bs.length)).toArray
  | [], l, o, _ => by simp [setL]
  | b :: bs, l, o, h => by
    simp only [List.length_cons] at h
    have e : l.set o b = (l.take o ++ [b]) ++ l.drop (o + 1) := by
      rw [List.set_eq_take_append_cons_drop, if_pos (by omega)]
      simp
    have hA : (l.take o ++ [b]).length = o + 1 := by simp; omega
    rw [setL, List.setIfInBounds_toArray, setL_list bs _ (o + 1) (by simp; omega), e, List.take_left' hA, ← List.drop_drop, List.drop_left' hA, List.drop_drop]
    simp [Nat.add_assoc, Nat.add_comm 1]
theorem sets_all (W : World) {g : Nat} {t : TypeId} {xs : Array Value} {bs : List Value} (h : W.heap[g]? = some (.cells xs t (0, 0))) (hl : xs.size = bs.length) : (sets W g 0 bs).heap[g]? = some (.cells bs.toArray t (0, 0)) := by
  have e := sets_heap bs W 0 xs h
  rw [e]
  obtain ⟨l⟩ := xs
  simp at hl
  rw [setL_list _ _ _ (by omega), List.drop_eq_nil_of_le (by omega)]
  simp

/-! What is read and written at once -/
section
variable {P : Program} {W : World} {g off n : Nat} {t ty : TypeId} {xs : Array Value} {fr : Nat × Nat} {d : TypeDesc}
theorem ld_range {cs : List Value} (hc : W.rangeAt g off cs) (hu : P.underlying ty = some d) (hd : d.isRow = true) (hi : (P.info? ty).map (·.size) = some cs.length) :
    (Instr.loadAt ty (.pointer (some ⟨g, off, none⟩))).run P W = .ok (.agg cs.toArray) W := run_loadAt_mid W g off ty cs d hc hu hd hi
theorem range_of {pre cs post : List Value} (h : W.heap[g]? = some (.cells (pre ++ cs ++ post).toArray t fr)) : W.rangeAt g pre.length cs := by
  intro j v hv
  rw [cell_of_row W g _ _ t fr h]
  have hj := (List.getElem?_eq_some_iff.1 hv).1
  simp only [List.getElem?_toArray]
  rw [List.getElem?_append_left (by simp; omega), List.getElem?_append_right (by omega), Nat.add_sub_cancel_left]
  exact hv
theorem ld_whole (h : W.heap[g]? = some (.cells xs t fr)) (hu : P.underlying ty = some d) (hd : d.isRow = true) (hi : (P.info? ty).map (·.size) = some xs.size) :
    (Instr.loadAt ty (.pointer (some ⟨g, 0, none⟩))).run P W = .ok (.agg xs) W := by
  have := ld_range (P := P) (W := W) (g := g) (off := 0) (ty := ty) (cs := xs.toList) (range_of (pre := []) (post := []) (t := t) (fr := fr) (by simpa using h)) hu hd (by simpa using hi)
  simpa using this
theorem there_of (h : W.heap[g]? = some (.cells xs t (0, 0))) (hl : off + n ≤ xs.size) : W.there g off n := by
  intro j hj
  refine ⟨?_, blk_frozen h _⟩
  rw [blk_cell h]
  simp
  omega
theorem st_mid {vs : List Value} (h : W.heap[g]? = some (.cells xs t (0, 0))) (hl : off + vs.length ≤ xs.size) (hi : (P.info? ty).map (·.size) = some vs.length) (h1 : ∀ v ∈ vs, v.oneCell' = true) :
    ∃ W', (Instr.storeAt ty (.pointer (some ⟨g, off, none⟩)) (.agg vs.toArray)).run P W = .ok () W' ∧ W'.heap[g]? = some (.cells (setL xs off vs) t (0, 0)) ∧ Only g W W' :=
  ⟨_, run_storeAt_mid W g off ty vs.toArray (there_of h (by simpa using hl)) (by simpa using hi) (all_oneCell_toArray h1), sets_heap vs W off xs h, sets_only vs W off⟩
theorem st_whole {vs : List Value} (h : W.heap[g]? = some (.cells xs t (0, 0))) (hl : xs.size = vs.length) (hi : (P.info? ty).map (·.size) = some vs.length) (h1 : ∀ v ∈ vs, v.oneCell' = true) :
    ∃ W', (Instr.storeAt ty (.pointer (some ⟨g, 0, none⟩)) (.agg vs.toArray)).run P W = .ok () W' ∧ W'.heap[g]? = some (.cells vs.toArray t (0, 0)) ∧ Only g W W' := by
  obtain ⟨W', e, e2, e3⟩ := st_mid (off := 0) h (by omega) hi h1
  have := sets_all W h hl
  refine ⟨W', e, ?_, e3⟩
  have hw := run_storeAt_mid (P := P) W g 0 ty vs.toArray (there_of h (by simp; omega)) (by simpa using hi) (all_oneCell_toArray h1)
  rw [hw] at e
  injection e with _ e
  rw [← e]
  exact this
theorem wpList_st {ops : Array Oper} {rest : List Oper} {op : Oper} {a : Act} {W' : World} {Q : Exit → Act → World → Prop} {x y : Operand} (hgd : op.guard = none) (ho : op.op = .store ty x y)
    (hW : (Instr.storeAt ty (a.eval x) (a.eval y)).run P W = .ok () W') (h : wpList P ops Q rest (a.put op.dst undef) W') : wpList P ops Q (op :: rest) a W := by
  refine wpList_plain hgd fun K hK => ?_
  unfold Oper.wp execOp
  simp only [ho, Sem.run_bind, hW, Sem.run_pure, Result.andThen_ok]
  exact hK _ _ h
theorem exec_ld {ρ : Operand → Value} {o : Oper} {x : Operand} {v : Value} (ho : o.op = .load ty x) (h : (Instr.loadAt ty (ρ x)).run P W = .ok v W) : (execOp ρ o).run P W = .ok (.value v) W := by
  unfold execOp
  simp only [ho, Sem.run_bind, h, Sem.run_pure, Result.andThen_ok]
theorem exec_st {ρ : Operand → Value} {o : Oper} {x y : Operand} {W' : World} (ho : o.op = .store ty x y) (h : (Instr.storeAt ty (ρ x) (ρ y)).run P W = .ok () W') : (execOp ρ o).run P W = .ok .skip W' := by
  unfold execOp
  simp only [ho, Sem.run_bind, h, Sem.run_pure, Result.andThen_ok]
theorem wpList_ld {ops : Array Oper} {rest : List Oper} {op : Oper} {a : Act} {Q : Exit → Act → World → Prop} {x : Operand} {v : Value} (hgd : op.guard = none) (ho : op.op = .load ty x)
    (hW : (Instr.loadAt ty (a.eval x)).run P W = .ok v W) (h : wpList P ops Q rest (a.put op.dst v) W) : wpList P ops Q (op :: rest) a W := by
  refine wpList_plain hgd fun K hK => ?_
  unfold Oper.wp execOp
  simp only [ho, Sem.run_bind, hW, Sem.run_pure, Result.andThen_ok]
  exact hK _ _ h
theorem ldv (h : W.heap[g]? = some (.cells xs t fr)) (hu : P.underlying ty = some d) (hd : d.isRow = true) (hi : (P.info? ty).map (·.size) = some xs.size) : (loadVar ty ⟨g, 0, none⟩).run P W = .ok (.agg xs) W := by
  have := run_loadVar_mid (P := P) W g 0 ty xs.toList d (range_of (pre := []) (post := []) (t := t) (fr := fr) (by simpa using h)) hu hd (by simpa using hi)
  simpa using this
theorem results_c1 {fn : Func} {p : Tmp} (h : fn.results = #[.cell p ty]) (tmps : Array Value)
    (hp : tmps.getD p undef = .pointer (some ⟨g, 0, none⟩)) (hg : W.heap[g]? = some (.cells xs t fr)) (hu : P.underlying ty = some d) (hd : d.isRow = true) (hi : (P.info? ty).map (·.size) = some xs.size) :
    (results fn tmps).run P W = .ok (.agg xs) W := by
  have hp' : tmps[p]?.getD undef = .pointer (some ⟨g, 0, none⟩) := by simpa using hp
  simp [results, h, hp', asAddr, ldv hg hu hd hi]
theorem results_ct {fn : Func} {p u : Tmp} (h : fn.results = #[.cell p ty, .tmp u]) (tmps : Array Value)
    (hp : tmps.getD p undef = .pointer (some ⟨g, 0, none⟩)) (hg : W.heap[g]? = some (.cells xs t fr)) (hu : P.underlying ty = some d) (hd : d.isRow = true) (hi : (P.info? ty).map (·.size) = some xs.size) :
    (results fn tmps).run P W = .ok (.tuple #[.agg xs, tmps.getD u undef]) W := by
  have hp' : tmps[p]?.getD undef = .pointer (some ⟨g, 0, none⟩) := by simpa using hp
  simp [results, h, hp', asAddr, ldv hg hu hd hi]
theorem results_cc {fn : Func} {p q : Tmp} {g' : Nat} {t' ty' : TypeId} {xs' : Array Value} {fr' : Nat × Nat} {d' : TypeDesc} (h : fn.results = #[.cell p ty, .cell q ty']) (tmps : Array Value)
    (hp : tmps.getD p undef = .pointer (some ⟨g, 0, none⟩)) (hg : W.heap[g]? = some (.cells xs t fr)) (hu : P.underlying ty = some d) (hd : d.isRow = true) (hi : (P.info? ty).map (·.size) = some xs.size)
    (hp2 : tmps.getD q undef = .pointer (some ⟨g', 0, none⟩)) (hg2 : W.heap[g']? = some (.cells xs' t' fr')) (hu2 : P.underlying ty' = some d') (hd2 : d'.isRow = true) (hi2 : (P.info? ty').map (·.size) = some xs'.size) :
    (results fn tmps).run P W = .ok (.tuple #[.agg xs, .agg xs']) W := by
  have h1 : tmps[p]?.getD undef = .pointer (some ⟨g, 0, none⟩) := by simpa using hp
  have h2 : tmps[q]?.getD undef = .pointer (some ⟨g', 0, none⟩) := by simpa using hp2
  simp [results, h, h1, h2, asAddr, ldv hg hu hd hi, ldv hg2 hu2 hd2 hi2]
end
/-- The memory turns, in some blocks, along given rows of states; else nothing turns. -/
structure Chain (L : List (Nat × List Obj)) (W W' : World) : Prop where
  os : W'.os = W.os
  tape : W'.tape = W.tape
  output : W'.output = W.output
  size : W.heap.size ≤ W'.heap.size
  block : ∀ k, k < W.heap.size → (∀ p ∈ L, k ≠ p.1) → W'.heap[k]? = W.heap[k]?
  on : ∀ p : Nat × List Obj, p ∈ L → ∀ n : Nat, (∃ (i : Nat) (x : Obj), n ≤ i ∧ p.2[i]? = some x ∧ W.heap[p.1]? = some x) → ∃ (i : Nat) (x : Obj), n ≤ i ∧ p.2[i]? = some x ∧ W'.heap[p.1]? = some x
instance (L : List (Nat × List Obj)) : GR.Rel (Chain L) where
  refl := fun W => ⟨rfl, rfl, rfl, Nat.le_refl _, fun _ _ _ => rfl, fun _ _ _ h => h⟩
  trans := fun {A B C} h k => ⟨k.os.trans h.os, k.tape.trans h.tape, k.output.trans h.output, Nat.le_trans h.size k.size, fun i hi hn => (k.block i (Nat.lt_of_lt_of_le hi h.size) hn).trans (h.block i hi hn), fun p hp n hh => k.on p hp n (h.on p hp n hh)⟩
  size := fun h => h.size
  ofB := fun h => ⟨h.os, h.tape, h.output, h.size, fun k hk _ => h.block k hk, fun p hp n ⟨i, x, hi, hx, hw⟩ => ⟨i, x, hi, hx, (h.block _ (blk_lt hw)).trans hw⟩⟩
/-- A block is at one of its states, from one on. -/
def At (b : Nat) (xs : List Obj) (n : Nat) (W : World) : Prop := ∃ (i : Nat) (x : Obj), n ≤ i ∧ xs[i]? = some x ∧ W.heap[b]? = some x
theorem stable_At {L : List (Nat × List Obj)} {b : Nat} {xs : List Obj} (h : (b, xs) ∈ L) (n : Nat) : GR.Stable (Chain L) (fun W _ => At b xs n W) := fun W W' v hA hR => hR.on _ h n hA
theorem At.stay {L : List (Nat × List Obj)} {b n : Nat} {xs : List Obj} {W W' : World} (h : (b, xs) ∈ L) (hA : At b xs n W) (hR : Chain L W W') : At b xs n W' := hR.on _ h n hA
theorem Chain.mid {L : List (Nat × List Obj)} {W W' : World} (h : Chain L W W') {x : Obj} {b : Nat} (hb : W.heap[b]? = some x) (hn : ∀ p ∈ L, b ≠ p.1) : W'.heap[b]? = some x := (h.block b (blk_lt hb) hn).trans hb
theorem chain_sets {L : List (Nat × List Obj)} {cb off : Nat} {vs : List Value} {xs : List Obj} {W : World} (J : Nat → Nat) (n0 : Nat) (hm : (cb, xs) ∈ L) (hu : ∀ p ∈ L, p.1 = cb → p = (cb, xs)) (hA : At cb xs n0 W)
    (h : ∀ i x, n0 ≤ i → xs[i]? = some x → ∃ ys t, x = .cells ys t (0, 0) ∧ i ≤ J i ∧ xs[J i]? = some (.cells (setL ys off vs) t (0, 0))) :
    Chain L W (W.setCells cb off vs) ∧ ∃ i, n0 ≤ i ∧ (∃ x, xs[i]? = some x) ∧ ∃ y, xs[J i]? = some y ∧ (W.setCells cb off vs).heap[cb]? = some y := by
  have key : ∀ i x, n0 ≤ i → xs[i]? = some x → W.heap[cb]? = some x → i ≤ J i ∧ ∃ y, xs[J i]? = some y ∧ (W.setCells cb off vs).heap[cb]? = some y := by
    intro i x h0 hi hx
    obtain ⟨ys, t, rfl, h1, h2⟩ := h i x h0 hi
    exact ⟨h1, _, h2, sets_heap vs W off ys hx⟩
  have hO := sets_only (g := cb) vs W off
  obtain ⟨i0, x0, h00, hi0, hx0⟩ := hA
  refine ⟨⟨hO.os, hO.tape, hO.output, hO.size, fun k hk hn => hO.block k hk (hn _ hm), fun p hp n hh => ?_⟩, i0, h00, ⟨x0, hi0⟩, (key i0 x0 h00 hi0 hx0).2⟩
  obtain ⟨i, x, hn, hi, hx⟩ := hh
  by_cases hpc : p.1 = cb
  · obtain rfl := hu p hp hpc
    by_cases hi0n : n0 ≤ i
    · obtain ⟨h1, y, h2, h3⟩ := key i x hi0n hi hx
      exact ⟨J i, y, Nat.le_trans hn h1, h2, h3⟩
    · obtain ⟨h1, y, h2, h3⟩ := key i0 x0 h00 hi0 hx0
      exact ⟨J i0, y, by omega, h2, h3⟩
  · exact ⟨i, x, hn, hi, (hO.block _ (blk_lt hx) hpc).trans hx⟩
theorem st_run {P : Program} {W : World} {g off : Nat} {t ty : TypeId} {xs : Array Value} {vs : List Value} (h : W.heap[g]? = some (.cells xs t (0, 0))) (hl : off + vs.length ≤ xs.size) (hi : (P.info? ty).map (·.size) = some vs.length) (h1 : ∀ v ∈ vs, v.oneCell' = true) :
    (Instr.storeAt ty (.pointer (some ⟨g, off, none⟩)) (.agg vs.toArray)).run P W = .ok () (W.setCells g off vs) := by
  have := run_storeAt_mid (P := P) W g off ty vs.toArray (there_of h (by simpa using hl)) (by simpa using hi) (all_oneCell_toArray h1)
  simpa using this
theorem At.cur {b n : Nat} {xs : List Obj} {W : World} (h : At b xs n W) : ∃ i x, n ≤ i ∧ xs[i]? = some x ∧ W.heap[b]? = some x := h
/-- A box that is laid, and written whole. -/
theorem laid {P : Program} (W : World) (t : TypeId) (zs vs : List Value) (hl : zs.length = vs.length) (hi : (P.info? t).map (·.size) = some vs.length) (h1 : ∀ v ∈ vs, v.oneCell' = true) :
    ∃ V1 V2, W.alloc (.cells zs.toArray t) = V1 ∧ (Instr.storeAt t (.pointer (some ⟨W.heap.size, 0, none⟩)) (.agg vs.toArray)).run P V1 = .ok () V2 ∧ V2.heap[W.heap.size]? = some (.cells vs.toArray t (0, 0)) ∧ Below W.heap.size W V2 := by
  have K := heap_alloc_new W (.cells zs.toArray t)
  obtain ⟨V2, hS, K2, hO⟩ := st_whole (P := P) (ty := t) (vs := vs) K (by simpa using hl) hi h1
  exact ⟨_, V2, rfl, hS, K2, (bOne _).trans (hO.below (Nat.le_refl _) (by simp))⟩
end Go.Proofs.Ytkijjgdcbgmglaa.Q
