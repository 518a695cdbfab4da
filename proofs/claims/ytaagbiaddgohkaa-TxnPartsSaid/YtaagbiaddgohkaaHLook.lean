/- What a transaction knows of a variable, by hand. -/
import Derived.Test.YtaagbiaddgohkaaHBackward
namespace Go.Proofs.Ytaagbiaddgohkaa.Q
open Go.RowKit Go.Lib Go.Shelf Go.Proofs.Ytaagbiaddgohkaa Go.Proofs.YtaagbiaddgohkaaW.PrintWords Go.Proofs.YtaagbiaddgohkaaW.PrintLast Go.Proofs.YtaagbiaddgohkaaW.PrintMore
set_option linter.unusedVariables false
set_option linter.unusedSimpArgs false
attribute [local go_sem] Oper.semAt_some

/-- What is found, backwards. -/
def lookR (x : Int) : List (Nat × S39) → S34 × Bool → S34 × Bool
  | [], st => st
  | p :: r, st => if p.2.f0 = x then (if p.2.f2 = true then (p.2.f1, true) else lookR x r (p.2.f1, true)) else lookR x r st
def lookL (l : List S39) (x : Int) : S34 × Bool := lookR x (rz l) (z34, false)

/-- No write of the variable among these. -/
def noW (x : Int) (l : List (Nat × S39)) : Prop := ∀ p ∈ l, p.2.f0 = x → p.2.f2 = false
theorem noW_app {x : Int} {l : List (Nat × S39)} {p : Nat × S39} (h : noW x l) (k : p.2.f0 = x → p.2.f2 = false) : noW x (l ++ [p]) := fun q hq => by
  rcases List.mem_append.1 hq with h1 | h1
  · exact h q h1
  · cases List.mem_singleton.1 h1; exact k
theorem lookR_app {x : Int} {r : List (Nat × S39)} : ∀ {l : List (Nat × S39)} {st : S34 × Bool}, noW x l → lookR x (l ++ r) st = lookR x r (lookR x l st)
  | [], st, _ => rfl
  | p :: l, st, h => by
    have hl : noW x l := fun q hq => h q (List.mem_cons_of_mem _ hq)
    rw [List.cons_append, lookR, lookR]
    by_cases h1 : p.2.f0 = x
    · have h2 := h p List.mem_cons_self h1
      rw [if_pos h1, if_pos h1, if_neg (by rw [h2]; decide), if_neg (by rw [h2]; decide)]
      exact lookR_app hl
    · rw [if_neg h1, if_neg h1]
      exact lookR_app hl

abbrev valC (v : S34) : Obj := .cells #[.int .i64 v.f0, .int .i64 v.f1] 34 (0, 0)
abbrev boolC (b : Bool) : Obj := .cells #[.bool b] 4 (0, 0)
abbrev stepC (s : S39) : Obj := .cells #[.int .i64 s.f0, .int .i64 s.f1.f0, .int .i64 s.f1.f1, .bool s.f2] 39 (0, 0)

/-- A value and a bool are put into their boxes. -/
theorem look_put {W : World} {N : Nat} {o : Obj} {v v' : S34} {b b' : Bool} (c0 : W.heap[N]? = some o) (c1 : W.heap[N + 1]? = some (valC v)) (c2 : W.heap[N + 1 + 1]? = some (boolC b)) {W' : World}
    (e : ((W.setCell ⟨N + 1, 0, none⟩ (.int .i64 v'.f0)).setCell ⟨N + 1, 1, none⟩ (.int .i64 v'.f1)).setCell ⟨N + 1 + 1, 0, none⟩ (.bool b') = W') :
    W'.heap[N]? = some o ∧ W'.heap[N + 1]? = some (valC v') ∧ W'.heap[N + 1 + 1]? = some (boolC b') ∧ KeepsOthers W W' ∧ KB N (N + 1 + 1 + 1) W W' := by
  subst e
  refine ⟨?_, ?_, ?_, ?_, ?_, ?_⟩
  · rw [Below.heap_setCell _ _ _ _ (by show N ≠ N + 1 + 1; omega), Below.heap_setCell _ _ _ _ (by show N ≠ N + 1; omega), Below.heap_setCell _ _ _ _ (by show N ≠ N + 1; omega)]; exact c0
  · rw [Below.heap_setCell _ _ _ _ (by show N + 1 ≠ N + 1 + 1; omega)]
    exact blk_put (blk_put c1 0 _ rfl) 1 _ rfl
  · refine blk_put (cs := #[.bool b]) ?_ 0 _ rfl
    rw [Below.heap_setCell _ _ _ _ (by show N + 1 + 1 ≠ N + 1; omega), Below.heap_setCell _ _ _ _ (by show N + 1 + 1 ≠ N + 1; omega)]; exact c2
  · exact ((KeepsOthers.setCell _ _ _).trans (KeepsOthers.setCell _ _ _)).trans (KeepsOthers.setCell _ _ _)
  · exact (((Below.refl N W).setCell (p := ⟨N + 1, 0, none⟩) (by show N ≤ N + 1; omega) _).setCell (p := ⟨N + 1, 1, none⟩) (by show N ≤ N + 1; omega) _).setCell (p := ⟨N + 1 + 1, 0, none⟩) (by show N ≤ N + 1 + 1; omega) _
  · intro _
    rw [Below.heap_setCell _ _ _ _ (by show N + 1 + 1 + 1 ≠ N + 1 + 1; omega), Below.heap_setCell _ _ _ _ (by show N + 1 + 1 + 1 ≠ N + 1; omega), Below.heap_setCell _ _ _ _ (by show N + 1 + 1 + 1 ≠ N + 1; omega)]

/-- A result of two boxes: a struct, and a value of one cell. -/
theorem results_c1c {P : Program} {fn : Func} {p q : Tmp} {ty ty' : TypeId} (h : fn.results = #[.cell p ty, .cell q ty']) (tmps : Array Value) (w : World) (g g' : Nat) (t t' : TypeId) (cs : Array Value) (v : Value) (fr fr' : Nat × Nat) (d : TypeDesc)
    (hp : tmps.getD p undef = .pointer (some ⟨g, 0, none⟩)) (hg : w.heap[g]? = some (.cells cs t fr))
    (hu : P.underlying ty = some d) (hd : (match d with | .struct _ | .array _ _ => true | _ => false) = true) (hi : (P.info? ty).map (·.size) = some cs.size)
    (hp' : tmps.getD q undef = .pointer (some ⟨g', 0, none⟩)) (hg' : w.cell? ⟨g', 0, none⟩ = some v)
    (hu' : P.underlying ty' = some .bool) :
    (results fn tmps).run P w = .ok (.tuple #[.agg cs, v]) w := by
  have h1 : tmps[p]?.getD undef = .pointer (some ⟨g, 0, none⟩) := by simpa using hp
  have h2 : tmps[q]?.getD undef = .pointer (some ⟨g', 0, none⟩) := by simpa using hp'
  have hl : (loadVar ty' ⟨g', 0, none⟩).run P w = .ok v w := by simp [run_isAgg_plain hu' rfl, go_sem, hg']
  simp [results, h, h1, h2, asAddr, run_loadVar_row w g t ty cs fr d hg hu hd hi, hl]

set_option maxRecDepth 100000 in
set_option maxHeartbeats 4000000 in
theorem look_in (n : Nat) (hn : 3 ≤ n) (A : Option Addr) (c : Nat) (l : List S39) (x : Int) (w : World) (hC : Kd.C k39 w A l.length l) (hz : l.length ≤ 1000000) :
    CallsIn Fence.wide n Try.prog 16 #[.slice A l.length c, .int .i64 x] w fun e W' => e = .returned (.tuple #[.agg #[.int .i64 (lookL l x).1.f0, .int .i64 (lookL l x).1.f1], .bool (lookL l x).2]) ∧ Below w.heap.size w W' := by
  have hu := Try.underlying39
  have hu29 := Try.underlying29
  have hu34 := Try.underlying34
  have h1 : 1 ≤ n := by omega
  refine callsIn_of_wp_marks Try.func16 rfl trivial ?_ rfl
  simp only [Try.ntmps16, List.size_toArray, List.length_cons, List.length_nil, Nat.reduceAdd, Nat.reduceSub, Array.replicate_succ, Array.replicate_zero, List.push_toArray, List.append_toArray, List.nil_append, List.cons_append]
  gi_wp2_with (refine ⟨trivial, ?_⟩; gi_at_call 23; refine (CallsIn.mono (callsIn_wide.2 (backward_calls A l.length c _)) ?_); rintro e w' ⟨rfl, rfl⟩)
  have k0 := heap_alloc_new w (.cells #[.int .i64 x] 3)
  obtain ⟨W0, hW0, b0, b1, b2, b3, hB0, hsz⟩ : ∃ W0, (((w.alloc (.cells #[.int .i64 x] 3)).alloc (.cells #[.int .i64 0, .int .i64 0] 34)).alloc (.cells #[.bool false] 4)).alloc (.cells #[.slice A l.length c] 29) = W0 ∧
      W0.heap[w.heap.size]? = some (.cells #[.int .i64 x] 3 (0, 0)) ∧ W0.heap[w.heap.size + 1]? = some (valC z34) ∧ W0.heap[w.heap.size + 1 + 1]? = some (boolC false) ∧ W0.heap[w.heap.size + 1 + 1 + 1]? = some (.cells #[.slice A l.length c] 29 (0, 0)) ∧ Below w.heap.size w W0 ∧ W0.heap.size = w.heap.size + 4 := by
    obtain ⟨V, rfl, h1, h2, h3, h4, h5⟩ := three_named w (.cells #[.int .i64 x] 3) (.cells #[.int .i64 0, .int .i64 0] 34) (.cells #[.bool false] 4)
    refine ⟨_, rfl, ?_, ?_, ?_, ?_, h4.alloc (by simp; omega) _, by simp⟩
    · exact (heap_alloc_old _ _ (by simp; omega)).trans h1
    · exact (heap_alloc_old _ _ (by simp)).trans h2
    · exact (heap_alloc_old _ _ (by simp)).trans h3
    · have := heap_alloc_new (((w.alloc (.cells #[.int .i64 x] 3)).alloc (.cells #[.int .i64 0, .int .i64 0] 34)).alloc (.cells #[.bool false] 4)) (.cells #[.slice A l.length c] 29)
      simp only [World.size_alloc] at this
      exact this
  rw [hW0]
  clear hW0 k0
  have hCW := Kd.C_below hC hB0
  refine wpIn_rangeFunc_ownH rfl h1 (gf := 32) (lb := #[.pointer (some ⟨w.heap.size + 1 + 1 + 1, 0, none⟩)]) rfl trivial (enters_of Try.func32 (by kernel_rfl) rfl)
    (backward_stops (n - 1) (by omega) (w.heap.size + 1 + 1 + 1) c A l w W0 hB0 hC b3 hz) KB.trans (fun W l o o' hl h hc hw => KB.put l o o' (by omega) (by omega) h hc hw) (Below.refl _ _) (fun _ => rfl)
    (fun pre W => ((noW x pre ∧ W.heap[w.heap.size]? = some (.cells #[.int .i64 x] 3 (0, 0))) ∧ (W.heap[w.heap.size + 1]? = some (valC (lookR x pre (z34, false)).1) ∧ W.heap[w.heap.size + 1 + 1]? = some (boolC (lookR x pre (z34, false)).2))) ∧ Below w.heap.size w W)
    (fun c pre W => (c = .ret ∧ ∃ ini last, pre = ini ++ [last] ∧ noW x ini ∧ last.2.f0 = x ∧ last.2.f2 = true ∧ W.heap[w.heap.size + 1]? = some (valC last.2.f1) ∧ W.heap[w.heap.size + 1 + 1]? = some (boolC true)) ∧ Below w.heap.size w W)
    (OwnFrom.and (OwnFrom.and (OwnFrom.and (fun s A B row hs hg hr => hs) (own_cells _ _ (fun _ => .cells #[.int .i64 x] 3 (0, 0)) fun _ => rfl)) (OwnFrom.and (own_cells _ _ (fun pre => valC (lookR x pre (z34, false)).1) fun _ => rfl) (own_cells _ _ (fun pre => boolC (lookR x pre (z34, false)).2) fun _ => rfl))) (ownFrom_below (Nat.le_refl _) (by omega)))
    (fun c => OwnFrom.and (fun s A B row hs hg hr => by
      obtain ⟨hc, ini, last, e1, e2, e3, e4, e5, e6⟩ := hs
      exact ⟨hc, ini, last, e1, e2, e3, e4, own_cells W0.heap.size _ (fun _ : Unit => valC last.2.f1) (fun _ => rfl) () A B row e5 hg hr, own_cells W0.heap.size _ (fun _ : Unit => boolC true) (fun _ => rfl) () A B row e6 hg hr⟩) (ownFrom_below (Nat.le_refl _) (by omega)))
    ⟨⟨⟨(fun p hp => by cases hp), b0⟩, b1, b2⟩, hB0⟩
    (fun y a' W => ∃ Bx, w.heap.size + 1 + 1 < Bx ∧ W.heap[Bx]? = some (stepC y.2) ∧ a' = { tmps := #[.slice A l.length c, .int .i64 x, undef, .pointer (some ⟨w.heap.size, 0, none⟩), .pointer (some ⟨w.heap.size + 1, 0, none⟩), .pointer (some ⟨w.heap.size + 1 + 1, 0, none⟩), undef, .pointer (some ⟨Bx, 0, none⟩), .slice A l.length c, .func (.func 32) #[] #[.pointer (some ⟨w.heap.size + 1 + 1 + 1, 0, none⟩)], .int .i64 (y.1 : Int), .agg #[.int .i64 y.2.f0, .int .i64 y.2.f1.f0, .int .i64 y.2.f1.f1, .bool y.2.f2], undef, undef, undef, undef, undef, undef, undef, undef, undef, undef, undef, undef, undef, undef], defers := [] })
    (fun y a' _ X Y row hs hg hr => by obtain ⟨Bx, h1, h2, h3⟩ := hs; exact ⟨Bx, h1, own_cells W0.heap.size Bx (fun _ : Unit => stepC y.2) (fun _ => rfl) () X Y row h2 hg hr, h3⟩)
    ?assign ?body ?done ?stop
  case assign =>
    rintro ll pre y W K hI hK
    have HK := Lib.hid hK
    clear hK
    gi_wp2
    refine HK.out _ _ ((KeepsOthers.alloc _ _).from _) ⟨(Below.refl _ W).alloc hI.2.size _, fun hb => heap_alloc_old _ _ hb⟩ ⟨⟨⟨hI.1.1.1, (heap_alloc_old _ _ (blk_lt hI.1.1.2)).trans hI.1.1.2⟩, (heap_alloc_old _ _ (blk_lt hI.1.2.1)).trans hI.1.2.1, (heap_alloc_old _ _ (blk_lt hI.1.2.2)).trans hI.1.2.2⟩, hI.2.alloc hI.2.size _⟩ ⟨W.heap.size, ?_, ?_, rfl⟩
    · have := hI.2.size
      have := blk_lt hI.1.2.2
      omega
    · exact heap_alloc_new _ _
  case body =>
    rintro ll pre y a' W hl ⟨r, hr⟩ ⟨⟨⟨hn0, c0⟩, c1, c2⟩, hB⟩ ⟨Bx, hBx, bX, rfl⟩ hlt
    have d0 := blk_cell c0 0
    have d1 := blk_cell c1 0
    have d1' := blk_cell c1 1
    have d2 := blk_cell c2 0
    have x0 := blk_cell bX 0
    have x1 := blk_cell bX 1
    have x2 := blk_cell bX 2
    have x3 := blk_cell bX 3
    have f1 := blk_frozen c1 0
    have f1' := blk_frozen c1 1
    have f2 := blk_frozen c2 0
    have LP := fun (v' : S34) (b' : Bool) => Lib.hid (fun W' e => look_put (v' := v') (b' := b') (W' := W') c0 c1 c2 e)
    have HB := Lib.hid (And.intro hB hn0)
    have HK := Lib.hid (And.intro c0 (And.intro c1 c2))
    clear c0 c1 c2 bX hB hn0
    by_cases hx : y.2.f0 = x
    · by_cases hw : y.2.f2 = true
      · gi_wp2
        obtain ⟨-, k1, k2, k3, k4⟩ := (LP y.2.f1 true).out _ rfl
        exact ⟨k3.from _, ⟨rfl, pre, y, rfl, HB.out.2, hx, hw, k1, k2⟩, HB.out.1.trans k4.1⟩
      · gi_wp2
        obtain ⟨k0, k1, k2, k3, k4⟩ := (LP y.2.f1 true).out _ rfl
        exact ⟨k3.from _, k4, ⟨⟨noW_app HB.out.2 fun _ => by simpa using hw, k0⟩, by rw [lookR_app HB.out.2, lookR, if_pos hx, if_neg hw]; exact k1, by rw [lookR_app HB.out.2, lookR, if_pos hx, if_neg hw]; exact k2⟩, HB.out.1.trans k4.1⟩
    · have hx' : (y.2.f0 != x) = true := by simpa using hx
      gi_wp2
      exact ⟨KeepsFrom.refl _ _, KB.refl _ _ _, ⟨⟨noW_app HB.out.2 fun h => absurd h hx, HK.out.1⟩, by rw [lookR_app HB.out.2, lookR, if_neg hx]; exact HK.out.2.1, by rw [lookR_app HB.out.2, lookR, if_neg hx]; exact HK.out.2.2⟩, HB.out.1⟩
  case done =>
    rintro D ys W hD rfl ⟨⟨⟨hn0, c0⟩, c1, c2⟩, hB⟩ hK
    have d1 := blk_cell c1 0
    have d1' := blk_cell c1 1
    have d2 := blk_cell c2 0
    have f1 := blk_frozen c1 0
    have f1' := blk_frozen c1 1
    have f2 := blk_frozen c2 0
    have LP := fun (v' : S34) (b' : Bool) => Lib.hid (fun W' e => look_put (v' := v') (b' := b') (W' := W') c0 c1 c2 e)
    have HB := Lib.hid (And.intro hB (And.intro hK (And.intro hD hsz)))
    clear c0 c1 c2 hB hn0 hK hD
    gi_wp2
    gi_region
    obtain ⟨k0, k1, k2, k3, k4⟩ := (LP (lookR x (rz l) (z34, false)).1 (lookR x (rz l) (z34, false)).2).out _ rfl
    have hK := k3.same _ _ HB.out.2.1 rfl
    have HL := Lib.hid (And.intro k1 (And.intro k2 (And.intro hK (HB.out.1.trans k4.1))))
    clear k0 k1 k2 k3 k4 hK
    generalize ((W.setCell ⟨w.heap.size + 1, 0, none⟩ (.int .i64 (lookR x (rz l) (z34, false)).1.f0)).setCell ⟨w.heap.size + 1, 1, none⟩ (.int .i64 (lookR x (rz l) (z34, false)).1.f1)).setCell ⟨w.heap.size + 1 + 1, 0, none⟩ (.bool (lookR x (rz l) (z34, false)).2) = W1 at *
    have hK : W1.drew.heap[D]? = some (.deferred (some [])) := HL.out.2.2.1
    gi_wp2
    refine ⟨by simp, .inl ⟨_, _, rfl, run_takeDeferred hK, ?_⟩⟩
    have hg := grownBy_putObj' W1.drew D (.deferred none)
    have hD := HB.out.2.2.1
    have hsz := HB.out.2.2.2
    refine ⟨_, results_c1c rfl _ _ (w.heap.size + 1) (w.heap.size + 1 + 1) 34 4 #[.int .i64 (lookR x (rz l) (z34, false)).1.f0, .int .i64 (lookR x (rz l) (z34, false)).1.f1] (.bool (lookR x (rz l) (z34, false)).2) (0, 0) (0, 0) _ rfl (blk_grown (blk_drew HL.out.1) hg (by intro h; injection h with h; omega)) hu34 rfl (by kernel_rfl) rfl (blk_cell (blk_grown (blk_drew HL.out.2.1) hg (by intro h; injection h with h; omega)) 0) (by kernel_rfl), rfl, HL.out.2.2.2.trans (((Below.refl _ _).drew).grown hg HL.out.2.2.2.size (fun k e => by injection e with e; omega))⟩
  case stop =>
    rintro D cc pre W hD ⟨k, hk, rfl⟩ ⟨⟨rfl, ini, last, e1, e2, e3, e4, c1, c2⟩, hB⟩ hK
    have hL : lookL l x = (last.2.f1, true) := by
      unfold lookL
      rw [← List.take_append_drop k (rz l), e1, List.append_assoc, lookR_app e2, List.cons_append, lookR, if_pos e3, if_pos e4]
    gi_wp2
    refine ⟨by simp, .inl ⟨_, _, rfl, run_takeDeferred hK, ?_⟩⟩
    have hg := grownBy_putObj' W D (.deferred none)
    refine ⟨_, results_c1c rfl _ _ (w.heap.size + 1) (w.heap.size + 1 + 1) 34 4 #[.int .i64 last.2.f1.f0, .int .i64 last.2.f1.f1] (.bool true) (0, 0) (0, 0) _ rfl (blk_grown c1 hg (by intro h; injection h with h; omega)) hu34 rfl (by kernel_rfl) rfl (blk_cell (blk_grown c2 hg (by intro h; injection h with h; omega)) 0) (by kernel_rfl), by rw [hL], hB.trans ((Below.refl _ _).grown hg hB.size (fun k e => by injection e with e; omega))⟩

theorem look_calls (A : Option Addr) (c : Nat) (l : List S39) (x : Int) (w : World) (hC : Kd.C k39 w A l.length l) (hz : l.length ≤ 1000000) :
    Calls Try.prog 16 #[.slice A l.length c, .int .i64 x] w fun e W' => e = .returned (.tuple #[.agg #[.int .i64 (lookL l x).1.f0, .int .i64 (lookL l x).1.f1], .bool (lookL l x).2]) ∧ Below w.heap.size w W' :=
  callsIn_wide.1 (look_in 3 (Nat.le_refl _) A c l x w hC hz)

end Go.Proofs.Ytaagbiaddgohkaa.Q
