/- The law's arguments, opened; is too much asked? -/
import Derived.Test.YtkecbdeekpbbjaaFlat
import Derived.Test.YtkecbdeekpbbjaaHFinish
import Derived.Test.YtkecbdeekpbbjaaHAlive
namespace Go.Proofs.Ytkecbdeekpbbjaa
open Go.RowKit Go.Lib Go.ChangeShapes Go.WideShapes Go.Proofs.Ytkecbdeekpbbjaa.Q Go.Proofs.YtkecbdeekpbbjaaW.PrintWords Go.Proofs.YtkecbdeekpbbjaaW.PrintLast Go.Proofs.YtkecbdeekpbbjaaW.PrintMore
set_option linter.unusedVariables false
set_option linter.unusedSimpArgs false

/-- A row of elements that open in any way. -/
theorem open_rowsG {H : Type} {enc : TypeId × Value → H} {P : Program} {W : World} {base : Nat} {v : Value} {dt : DataW H} {p : List MemPlace} {t e : TypeId} {α : Type} (d : Kd α) (good : α → Prop) (z : α)
    (ht : P.underlying t = some (.slice e)) (hc : P.cellsOf e = d.sz) (hk : ∀ fuel cs x, DataW.trod enc P W 0 (fun _ => true) true fuel e cs = some x → ∃ y, d.K W y cs ∧ good y)
    (o : Value.okWide P W .any base t v) (h : DataW.Trod enc P W 0 (fun _ => true) true t v dt p) :
    ∃ (A : Option Addr) (c : Nat) (l : List α), v = .slice A l.length c ∧ l.length ≤ c ∧ l.length ≤ maxLen ∧ Kd.C d W A l.length l ∧ ∀ x ∈ l, good x := by
  obtain ⟨a, len, cap, rfl⟩ := okWide_slice ht o
  obtain ⟨fuel, hf⟩ := h
  rcases Deep.open_slice ht hf with ⟨h1, -⟩ | ⟨ad, len', cap', m, n, D, Pl, h1, -, hlc, hcm, hm, -, hx⟩
  · have h1 : [Value.slice a len cap] = [Value.slice none 0 0] := h1
    injection h1 with h1
    injection h1 with e1 e2 e3
    subst e1; subst e2; subst e3
    exact ⟨none, 0, [], rfl, Nat.le_refl _, Nat.zero_le _, Kd.C_nil _ _, fun x hx => by cases hx⟩
  · have h1 : [Value.slice a len cap] = [Value.slice (some ad) len' cap'] := h1
    injection h1 with h1
    injection h1 with e1 e2 e3
    subst e1; subst e2; subst e3
    have hlm : len ≤ m := by rw [hm]; simpa using hlc
    have each : ∀ i, i < len → ∃ q : α × List Value, d.K W q.1 q.2 ∧ good q.1 ∧ ∀ j u, q.2[j]? = some u → W.cell? (ad.add (i * d.sz + j)) = some u := by
      intro i hi
      obtain ⟨cs, h2, h3⟩ := hx i (by omega)
      obtain ⟨_, hl, hcell⟩ := World.cells?_some h2
      obtain ⟨x, hK, hg⟩ := hk _ cs _ h3
      refine ⟨(x, cs), hK, hg, fun j u hu => ?_⟩
      have hj := (List.getElem?_eq_some_iff.1 hu).1
      have hlen := d.K_len hK
      have h4 := hcell j (by simp at hj; omega)
      rw [Deep.add_add, hc] at h4
      rw [h4]
      exact hu
    haveI : Inhabited (α × List Value) := ⟨(z, [])⟩
    obtain ⟨q, hq⟩ := Deep.choose_lt each
    refine ⟨some ad, cap, (List.range len).map fun i => (q i).1, by simp, by simpa using hlc, by simp; omega, ⟨by simp, by simp only [List.length_map, List.length_range]; simp only [maxLen] at hcm; omega, fun _ => ⟨ad, rfl, fun j y hy => ?_⟩⟩, fun x hx => ?_⟩
    · rw [List.getElem?_map] at hy
      obtain ⟨i, hi, rfl⟩ := Option.map_eq_some_iff.1 hy
      obtain ⟨hlt, rfl⟩ := List.getElem?_eq_some_iff.1 hi
      simp at hlt
      simp only [List.getElem_range]
      exact ⟨(q j).2, d.K_len (hq j hlt).1, (hq j hlt).1, (hq j hlt).2.2⟩
    · obtain ⟨i, hi, rfl⟩ := List.mem_map.1 hx
      exact (hq i (List.mem_range.1 hi)).2.1

theorem byte_of {W : World} {cs : List Value} (h : Fits [.int .u8] cs) : ∃ x : Int, (Kd.int .u8).K W x cs ∧ (0 ≤ x ∧ x ≤ 255) := by
  obtain ⟨a, r, rfl, hw, h⟩ := fits_int h
  obtain rfl := fits_nil h
  refine ⟨a, rfl, ?_⟩
  simp only [Lit.wf, Bool.and_eq_true, decide_eq_true_eq] at hw
  have m1 : IntKind.u8.min = 0 := by decide
  have m2 : IntKind.u8.max = 255 := by decide
  rw [m1, m2] at hw
  exact hw
set_option maxRecDepth 100000 in
theorem bytes_of {H : Type} {enc : TypeId × Value → H} {W : World} {base : Nat} {v : Value} {dt : DataW H} {p : List MemPlace} (o : Value.okWide Try.prog W .any base 23 v) (h : DataW.Trod enc Try.prog W 0 (fun _ => true) true 23 v dt p) :
    ∃ (A : Option Addr) (c : Nat) (l : List Int), v = .slice A l.length c ∧ l.length ≤ c ∧ Kd.C (Kd.int .u8) W A l.length l ∧ ∀ x ∈ l, 0 ≤ x ∧ x ≤ 255 := by
  obtain ⟨A, c, l, h1, h2, -, h3, h4⟩ := open_rows (Kd.int .u8) (fun x => 0 ≤ x ∧ x ≤ 255) 0 Try.underlying23 (flat_int (by kernel_rfl)) (by kernel_rfl) rfl (fun cs h => byte_of h) o h
  exact ⟨A, c, l, h1, h2, h3, h4⟩
set_option maxRecDepth 100000 in
theorem txns_of {H : Type} {enc : TypeId × Value → H} {W : World} {base : Nat} {v : Value} {dt : DataW H} {p : List MemPlace} (o : Value.okWide Try.prog W .any base 22 v) (h : DataW.Trod enc Try.prog W 0 (fun _ => true) true 22 v dt p) :
    ∃ (A : Option Addr) (c : Nat) (l : List (List S69)), v = .slice A l.length c ∧ l.length ≤ c ∧ Kd.C (Kd.slice 69 k69) W A l.length l ∧ ∀ x ∈ l, (∀ s ∈ x, goodStep s) := by
  obtain ⟨A, c, l, h1, h2, -, h3, h4⟩ := open_rowsG (Kd.slice 69 k69) (fun t => ∀ s ∈ t, goodStep s) [] Try.underlying22 (by kernel_rfl) (fun fuel cs x hx => by
    obtain ⟨A', c', l', rfl, q1, -, q2, q3⟩ := open_rowsT k69 goodStep z69 Try.underlying63 flat_step (by kernel_rfl) rfl (fun cs h => step_of h) hx
    exact ⟨l', ⟨A', c', rfl, q1, q2⟩, q3⟩) o h
  exact ⟨A, c, l, h1, h2, h3, h4⟩

set_option maxRecDepth 100000 in
theorem byte_arg {H : Type} {enc : TypeId × Value → H} {W : World} {base : Nat} {v : Value} {dt : DataW H} {p : List MemPlace} (o : Value.okWide Try.prog W .any base 5 v) (h : DataW.Trod enc Try.prog W 0 (fun _ => true) true 5 v dt p) : ∃ a : Int, v = .int .u8 a ∧ 0 ≤ a ∧ a ≤ 255 := by
  obtain ⟨a, rfl, _, _, hw⟩ := open_int Try.underlying5 o h
  refine ⟨a, rfl, ?_⟩
  simp only [Lit.wf, Bool.and_eq_true, decide_eq_true_eq] at hw
  have m1 : IntKind.u8.min = 0 := by decide
  have m2 : IntKind.u8.max = 255 := by decide
  rw [m1, m2] at hw
  exact hw
/-- Is too much asked? -/
def heavyB (l : List (List S69)) (p : List Int) : Bool := l.any (fun t => decide (30 < t.length)) || decide (20 < l.length) || decide (400 < p.length)
theorem heavy_from (l : List (List S69)) (p : List Int) (hl : l.length ≤ 9223372036854775807) : ∀ (d k i : Nat), i + d = l.length → d < k → warpbeamlaw15_heavy.l0 k l p l (l.length : Int) (i : Int) = some ((l.drop i).any (fun t => decide (30 < t.length)) || decide (20 < l.length) || decide (400 < p.length)) := by
  intro d
  induction d with
  | zero =>
    intro k i hi hk
    obtain ⟨k, rfl⟩ : ∃ m, k = m + 1 := ⟨k - 1, by omega⟩
    unfold warpbeamlaw15_heavy.l0
    rw [if_neg (by omega), show i = l.length by omega, List.drop_length]
    by_cases h : (l.length : Int) > 20
    · rw [if_pos h]; have : 20 < l.length := by omega
      simp [this]
    · rw [if_neg h]; have : ¬ 20 < l.length := by omega
      have e : decide ((p.length : Int) > 400) = decide (400 < p.length) := by rw [Bool.eq_iff_iff, decide_eq_true_iff, decide_eq_true_iff]; omega
      simp [this, e]
  | succ d ih =>
    intro k i hi hk
    obtain ⟨k, rfl⟩ : ∃ m, k = m + 1 := ⟨k - 1, by omega⟩
    unfold warpbeamlaw15_heavy.l0
    have hlt : i < l.length := by omega
    rw [if_pos (by omega), if_pos (by omega), if_pos (by omega)]
    have e1 : rd_L6 l (i : Int) = l[i] := by
      unfold rd_L6
      rw [Int.toNat_natCast, List.getD_eq_getElem?_getD, List.getElem?_eq_getElem hlt]
      rfl
    have e2 : l.drop i = l[i] :: l.drop (i + 1) := List.drop_eq_getElem_cons hlt
    rw [e1, e2, List.any_cons]
    by_cases h : ((l[i]).length : Int) > 30
    · rw [if_pos h]; have : 30 < (l[i]).length := by omega
      simp [this]
    · rw [if_neg h]; have h3 : ¬ 30 < (l[i]).length := by omega
      rw [show wrap64 ((i : Int) + 1) = ((i + 1 : Nat) : Int) by unfold wrap64; omega, ih k (i + 1) (by omega) (by omega)]
      simp [h3]
theorem heavy_f (l : List (List S69)) (p : List Int) (hl : l.length ≤ 9223372036854775807) : warpbeamlaw15_heavy.f (l.length + 1) l p = some (heavyB l p) := by
  unfold warpbeamlaw15_heavy.f
  exact heavy_from l p hl l.length (l.length + 1) 0 (by omega) (by omega)
theorem heavy_not {l : List (List S69)} {p : List Int} (h : heavyB l p = false) : (∀ t ∈ l, t.length ≤ 30) ∧ l.length ≤ 20 ∧ p.length ≤ 400 := by
  unfold heavyB at h
  simp only [Bool.or_eq_false_iff, decide_eq_false_iff_not, List.any_eq_false, decide_eq_true_eq] at h
  exact ⟨fun t ht => by have := h.1.1 t ht; omega, by omega, by omega⟩
theorem heavy_calls (A : Option Addr) (c : Nat) (l : List (List S69)) (A2 : Option Addr) (c2 : Nat) (p : List Int) (w : World) (hC : Kd.C (Kd.slice 69 k69) w A l.length l) (hc : l.length ≤ c) (hP : Kd.C (Kd.int .u8) w A2 p.length p) (hc2 : p.length ≤ c2) :
    Calls Try.prog 10 #[.slice A l.length c, .slice A2 p.length c2] w fun e w' => e = .returned (.bool (heavyB l p)) ∧ Below w.heap.size w w' :=
  (warpbeamlaw15_heavy.calls (l.length + 1) A c l A2 c2 p _ w hC hc hP hc2 (heavy_f l p hC.2.1)).mono fun e w' h => ⟨h.1, h.2.below⟩

/-! ### What any run is -/
theorem startAll_B (m : Mach) (l : List (List S69)) : startAll m l = startB m (l.map fun t => t.map conv54) := by
  unfold startAll startB
  rw [List.foldl_map]
theorem stepAll_ran {m : Mach} (h : Inv m) (n : Nat) (p : List Int) : Ran m (stepAll m n p) ∧ mu (stepAll m n p) ≤ mu m := by
  induction p generalizing m with
  | nil => exact ⟨Ran.refl h, Nat.le_refl _⟩
  | cons k p ih =>
    obtain ⟨h1, h2⟩ := h.step (pickN n k)
    obtain ⟨h3, h4⟩ := ih (m := (stepM m (pickN n k)).1) h1.inv
    refine ⟨h1.trans h3, Nat.le_trans h4 ?_⟩
    rcases h2 with ⟨_, h2⟩ | ⟨_, h2⟩
    · omega
    · rw [h2]; exact Nat.le_refl _
theorem startAll_inv (v : Int) (l : List (List S69)) : Inv (startAll (newS (varsN v)) l) := by
  rw [startAll_B]
  exact startB_inv (Inv.new (by unfold varsN; omega)) _
theorem runOk (v : Int) (l : List (List S69)) (p : List Int) : RunOk v l p := ⟨fun i _ => (startAll_inv v _).mok, fun i _ => (stepAll_ran (startAll_inv v l) _ _).1.inv.mok⟩
/-- The transactions that are started. -/
def begunL (n : Nat) (l : List (List S69)) : List (List S54) := (l.map fun t => t.map conv54).filter fun t => !(farT n t)
theorem startAll_jobs (v : Int) (l : List (List S69)) (hl : l.length ≤ 20) : startAll (newS (varsN v)) l = { newS (varsN v) with jobs := (begunL (varsN v) l).map jobOf } := by
  rw [startAll_B, startB_eq _ _ (by simp [newS]; omega)]
  have : (newS (varsN v)).vars.length = varsN v := by simp [newS_vars]
  rw [this]
  rfl
theorem begunL_len (n : Nat) (l : List (List S69)) : (begunL n l).length ≤ l.length := by
  unfold begunL
  exact Nat.le_trans (List.length_filter_le _ _) (by simp)
theorem left_jobOf {t : List S54} (h : t.length ≤ 30) : left (jobOf t) ≤ 91 := by
  have := writesL_len t
  unfold left jobOf
  by_cases hw : (writesL t).length = 0
  · simp [hw]
  · simp [hw]; omega
theorem startAll_mu (v : Int) (l : List (List S69)) (hl : l.length ≤ 20) (ht : ∀ t ∈ l, t.length ≤ 30) : mu (startAll (newS (varsN v)) l) ≤ 1820 := by
  rw [startAll_jobs v l hl]
  unfold mu
  show (((begunL (varsN v) l).map jobOf).map left).sum ≤ 1820
  have h1 := mu_jobs ((begunL (varsN v) l).map jobOf) (fun j hj => by
    obtain ⟨t, ht', rfl⟩ := List.mem_map.1 hj
    refine left_jobOf ?_
    unfold begunL at ht'
    obtain ⟨u, hu, rfl⟩ := List.mem_map.1 (List.mem_filter.1 ht').1
    rw [List.length_map]
    exact ht u hu)
  have h2 := begunL_len (varsN v) l
  rw [List.length_map] at h1
  omega
/-- A run: what holds of it. -/
theorem run_facts (v : Int) (l : List (List S69)) (p : List Int) (hl : l.length ≤ 20) (ht : ∀ t ∈ l, t.length ≤ 30) :
    Inv (stepAll (startAll (newS (varsN v)) l) l.length p) ∧ (stepAll (startAll (newS (varsN v)) l) l.length p).jobs.length ≤ l.length ∧ mu (stepAll (startAll (newS (varsN v)) l) l.length p) ≤ 2000 ∧ Ran (startAll (newS (varsN v)) l) (stepAll (startAll (newS (varsN v)) l) l.length p) := by
  obtain ⟨h1, h2⟩ := stepAll_ran (startAll_inv v l) l.length p
  have h3 := startAll_mu v l hl ht
  refine ⟨h1.inv, ?_, by omega, h1⟩
  rw [h1.jl, startAll_jobs v l hl]
  show ((begunL (varsN v) l).map jobOf).length ≤ _
  rw [List.length_map]
  exact begunL_len _ _

/-- Others' blocks are turned: a machine is as it was. -/
theorem Q.At.calm {base : Nat} {ok T : Nat → Prop} {W W' : World} {mb : Nat} {m : Mach} {vs js ds : Value} {bs : List Nat} (h : At base ok W mb m vs js ds bs) (hT : Turned T W W') (hok : ∀ q, ok q → ¬ T q) (h54 : SpT W T 54) : At base ok W' mb m vs js ds bs := by
  have own : ∀ {e size n : Nat} {v : Value} {xs : List Value}, W.ownsRow base e size v n xs → (∀ k, v.ownBlock = some k → ok k) → W'.ownsRow base e size v n xs := fun ho hv => own_move ho fun k hk => by
    obtain ⟨cs, hc⟩ := own_typed ho k hk
    exact hT.block k (blk_lt hc) (hok k (hv k hk))
  exact ⟨h.hbm, h.okm, (hT.block _ (blk_lt h.hm) (hok _ h.okm)).trans h.hm, own h.hv h.okv, h.okv, own h.hj h.okj, h.okj, own h.hd h.okd, h.okd, h.len, h.nd, fun i b j h1 h2 => let ⟨a, c, d⟩ := h.at_ i b j h1 h2; ⟨a, c, d.T hT h54 (hok _ c)⟩⟩
theorem Q.IsM.calm {base : Nat} {ok T : Nat → Prop} {W W' : World} {mb : Nat} {m : Mach} (h : IsM base ok W mb m) (hT : Turned T W W') (hok : ∀ q, ok q → ¬ T q) (h54 : SpT W T 54) : IsM base ok W' mb m := by
  obtain ⟨vs, js, ds, bs, h⟩ := h
  exact ⟨vs, js, ds, bs, h.calm hT hok h54⟩
theorem Q.SpT.map {W : World} {b : Nat} {o : Obj} (h : W.heap[b]? = some o) (ho : o.isCells = false) (e : Nat) : SpT W (fun q => q = b) e := fun k hk cs hc => by
  subst hk
  rw [h] at hc
  cases hc
  cases ho
theorem state_at {m : Mach} {i : Nat} {j : Job} (h : m.jobs[i]? = some j) : stateS m ((i : Int) + 1) = (j.state, 0) := by
  unfold stateS getJob
  rw [if_pos (by omega), show ((i : Int) + 1 - 1).toNat = i by omega, h]
theorem state_none {m : Mach} {i : Nat} (h : m.jobs[i]? = none) : stateS m ((i : Int) + 1) = (0, 3) := by
  unfold stateS getJob
  rw [if_pos (by omega), show ((i : Int) + 1 - 1).toNat = i by omega, h]
theorem dec_len {m : Mach} (h : Inv m) : m.decided.length ≤ m.jobs.length := by
  have h1 : (m.decided.map fun a => a.toNat - 1).Nodup := by
    rw [List.nodup_iff_pairwise_ne, List.pairwise_map]
    refine List.Pairwise.imp_of_mem ?_ (List.nodup_iff_pairwise_ne.1 h.nod)
    intro a b ha hb hab e
    have := h.ids a ha
    have := h.ids b hb
    exact hab (by omega)
  have h2 := nodup_len m.jobs.length _ h1 (fun x hx => by
    obtain ⟨a, ha, rfl⟩ := List.mem_map.1 hx
    have := h.ids a ha
    omega)
  simpa using h2
end Go.Proofs.Ytkecbdeekpbbjaa
