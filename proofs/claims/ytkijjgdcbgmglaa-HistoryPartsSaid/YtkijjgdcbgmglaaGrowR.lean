/- A region that draws its order, whose operations make memory or read it, and change nothing that was there: one walk, in the order of the text, serves every order. Behind the last of them the rest of the region (stores into what it made) goes on one by one. Over any program. -/
import Derived.Orders
import Derived.Below
import Derived.Tactics2
import Derived.RowKit3
import Derived.Laws.AppendOwn
set_option linter.unusedSimpArgs false
set_option linter.unusedVariables false
set_option linter.unusedSectionVars false
namespace Go.Proofs.Ytkijjgdcbgmglaa.GR
open Go.RowKit

/-- How the memory may turn while such a region goes. -/
class Rel (R : World → World → Prop) : Prop where
  refl : ∀ W, R W W
  trans : ∀ {A B C}, R A B → R B C → R A C
  size : ∀ {A B}, R A B → A.heap.size ≤ B.heap.size
  ofB : ∀ {A B}, Below A.heap.size A B → R A B

/-- What holds of a value goes on holding as the memory grows. -/
def Stable (R : World → World → Prop) (T : World → Value → Prop) : Prop := ∀ W W' v, T W v → R W W' → T W' v
theorem stable_eq (R : World → World → Prop) (c : Value) : Stable R (fun _ v => v = c) := fun _ _ _ h _ => h

section
variable {P : Program} {ops : Array Oper} {Q : Exit → Act → World → Prop} {w0 : World} {R : World → World → Prop} [Rel R]

/-- The block that a pointer leads to. -/
def blockOf : Value → Option Nat
  | .pointer (some a) => some a.block
  | _ => none
/-- A value that leads to a block that was laid between the two worlds. -/
def Fresh (W W' : World) (v : Value) : Prop := ∃ b, blockOf v = some b ∧ W.heap.size ≤ b ∧ b < W'.heap.size

/-- What is asked of an operation's run in the world 'W'; 'fr': is what it yields to be new? -/
def growUpon (R : World → World → Prop) (P : Program) (W : World) (fr : Bool) (T : World → Value → Prop) : Result Next → Prop
  | .ok (.value v) w' => R W w' ∧ T w' v ∧ (fr = true → Fresh W w' v)
  | .ok .skip w' => R W w' ∧ T w' undef ∧ fr = false
  | .ok (.enter f args) w' => R W w' ∧ fr = false ∧ Calls P f args w' fun e w'' => ∃ v, e = .returned v ∧ R W w'' ∧ T w'' v
  | _ => False

/-- One operation, in the world 'W'. -/
def growAt (R : World → World → Prop) (P : Program) (ops : Array Oper) (o : Oper) (a : Act) (W : World) (fr : Bool) (T : World → Value → Prop) : Prop :=
  if Region.wanted o (yielded ops a.tmps) = true then growUpon R P W fr T ((execOp a.eval o).run P W) else T W undef ∧ fr = false

/-- The facts on what an operation waits for. -/
def depFacts (Fs : List (World → Prop)) (W : World) : List Edge → Prop
  | [] => True
  | e :: r => (Region.binds .any e = true → (Fs.getD e.on (fun _ => True)) W) ∧ depFacts Fs W r

/-- What is told of a value: is it new; and what it is. -/
abbrev Told := Bool × (World → Value → Prop)
/-- The walk in the order of the text: 'Ts': what is told of each value; 'Fs': the facts so far; 'Vs': the new ones. -/
def GW (R : World → World → Prop) (P : Program) (ops : Array Oper) (Q : Exit → Act → World → Prop) (w0 : World) (tail : List Oper) : List Oper → List Told → List (World → Prop) → List Value → Act → Prop
  | [], _, Fs, Vs, a => ∀ W, R w0 W → (∀ F ∈ Fs, F W) → Vs.Pairwise (fun x y => blockOf x ≠ blockOf y) → wpList P ops Q tail a W
  | _ :: _, [], _, _, _ => False
  | o :: r, T :: Ts, Fs, Vs, a => Stable R T.2 ∧ (∀ W, R w0 W → depFacts Fs W o.after.toList → growAt R P ops o a W T.1 T.2) ∧
      ∀ v, (∃ W, T.2 W v) → GW R P ops Q w0 tail r Ts (Fs ++ [fun W => T.2 W v]) (if T.1 then Vs ++ [v] else Vs) (a.put o.dst v)

/-- An operation that its guard passes over. -/
theorem gw_skip {tail : List Oper} {o : Oper} {r : List Oper} {Ts : List Told} {Fs : List (World → Prop)} {Vs : List Value} {a : Act} (hw : Region.wanted o (yielded ops a.tmps) = false)
    (k : GW R P ops Q w0 tail r Ts (Fs ++ [fun _ => True]) Vs (a.put o.dst undef)) : GW R P ops Q w0 tail (o :: r) ((false, fun _ v => v = undef) :: Ts) Fs Vs a := by
  unfold GW
  refine ⟨stable_eq R _, fun W _ _ => ?_, ?_⟩
  · unfold growAt
    rw [hw]
    exact ⟨rfl, rfl⟩
  · rintro v ⟨_, rfl⟩
    simpa using k
/-- An operation that yields one value, in every world that has grown out of the first one, and leaves it. -/
theorem gw_val {tail : List Oper} {o : Oper} {r : List Oper} {Ts : List Told} {Fs : List (World → Prop)} {Vs : List Value} {a : Act} {c : Value} (hw : Region.wanted o (yielded ops a.tmps) = true)
    (h : ∀ W, R w0 W → depFacts Fs W o.after.toList → (execOp a.eval o).run P W = .ok (.value c) W)
    (k : GW R P ops Q w0 tail r Ts (Fs ++ [fun _ => True]) Vs (a.put o.dst c)) : GW R P ops Q w0 tail (o :: r) ((false, fun _ v => v = c) :: Ts) Fs Vs a := by
  unfold GW
  refine ⟨stable_eq R _, fun W hB hD => ?_, ?_⟩
  · unfold growAt
    rw [if_pos hw, h W hB hD]
    exact ⟨Rel.refl _, rfl, fun h => by cases h⟩
  · rintro v ⟨_, rfl⟩
    simpa using k
/-- A call whose answer is one value, wherever. -/
theorem gw_call {tail : List Oper} {o : Oper} {r : List Oper} {Ts : List Told} {Fs : List (World → Prop)} {Vs : List Value} {a : Act} {c : Value} {f : FuncId} {args : Array Value} (hw : Region.wanted o (yielded ops a.tmps) = true)
    (h : ∀ W, R w0 W → depFacts Fs W o.after.toList → (execOp a.eval o).run P W = .ok (.enter f args) W)
    (hc : ∀ W, R w0 W → depFacts Fs W o.after.toList → Calls P f args W fun e w' => e = .returned c ∧ R W w')
    (k : GW R P ops Q w0 tail r Ts (Fs ++ [fun _ => True]) Vs (a.put o.dst c)) : GW R P ops Q w0 tail (o :: r) ((false, fun _ v => v = c) :: Ts) Fs Vs a := by
  unfold GW
  refine ⟨stable_eq R _, fun W hB hD => ?_, ?_⟩
  · unfold growAt
    rw [if_pos hw, h W hB hD]
    exact ⟨Rel.refl _, rfl, (hc W hB hD).mono fun e w' hh => ⟨c, hh.1, hh.2, rfl⟩⟩
  · rintro v ⟨_, rfl⟩
    simpa using k
/-- A call whose answer is told by a relation. -/
theorem gw_callR {tail : List Oper} {o : Oper} {r : List Oper} {T : World → Value → Prop} {Ts : List Told} {Fs : List (World → Prop)} {Vs : List Value} {a : Act} {f : FuncId} {args : Array Value} (hs : Stable R T) (hw : Region.wanted o (yielded ops a.tmps) = true)
    (h : ∀ W, R w0 W → depFacts Fs W o.after.toList → (execOp a.eval o).run P W = .ok (.enter f args) W)
    (hc : ∀ W, R w0 W → depFacts Fs W o.after.toList → Calls P f args W fun e w' => ∃ v, e = .returned v ∧ R W w' ∧ T w' v)
    (k : ∀ v, (∃ W, T W v) → GW R P ops Q w0 tail r Ts (Fs ++ [fun W => T W v]) Vs (a.put o.dst v)) : GW R P ops Q w0 tail (o :: r) ((false, T) :: Ts) Fs Vs a := by
  unfold GW
  refine ⟨hs, fun W hB hD => ?_, k⟩
  unfold growAt
  rw [if_pos hw, h W hB hD]
  exact ⟨Rel.refl _, rfl, hc W hB hD⟩
/-- An operation that lays memory, or else yields what a relation tells. -/
theorem gw_rel {tail : List Oper} {o : Oper} {r : List Oper} {T : World → Value → Prop} {Ts : List Told} {Fs : List (World → Prop)} {Vs : List Value} {a : Act} (hs : Stable R T) (hw : Region.wanted o (yielded ops a.tmps) = true)
    (h : ∀ W, R w0 W → depFacts Fs W o.after.toList → ∃ v w', (execOp a.eval o).run P W = .ok (.value v) w' ∧ R W w' ∧ T w' v)
    (k : ∀ v, (∃ W, T W v) → GW R P ops Q w0 tail r Ts (Fs ++ [fun W => T W v]) Vs (a.put o.dst v)) : GW R P ops Q w0 tail (o :: r) ((false, T) :: Ts) Fs Vs a := by
  unfold GW
  refine ⟨hs, fun W hB hD => ?_, k⟩
  obtain ⟨v, w', e, hb, ht⟩ := h W hB hD
  unfold growAt
  rw [if_pos hw, e]
  exact ⟨hb, ht, fun h => by cases h⟩
/-- A store, or its like. -/
theorem gw_skp {tail : List Oper} {o : Oper} {r : List Oper} {T : World → Value → Prop} {Ts : List Told} {Fs : List (World → Prop)} {Vs : List Value} {a : Act} (hs : Stable R T) (hd : o.dst = none) (hw : Region.wanted o (yielded ops a.tmps) = true)
    (h : ∀ W, R w0 W → depFacts Fs W o.after.toList → ∃ w', (execOp a.eval o).run P W = .ok .skip w' ∧ R W w' ∧ T w' undef)
    (k : ∀ v, (∃ W, T W v) → GW R P ops Q w0 tail r Ts (Fs ++ [fun W => T W v]) Vs a) : GW R P ops Q w0 tail (o :: r) ((false, T) :: Ts) Fs Vs a := by
  unfold GW
  refine ⟨hs, fun W hB hD => ?_, fun v hv => ?_⟩
  · unfold growAt
    rw [if_pos hw]
    obtain ⟨w', e, hb, ht⟩ := h W hB hD
    rw [e]
    exact ⟨hb, ht, rfl⟩
  · rw [hd]
    exact k v hv

/-! ### What the kernel asks of the region -/
def dstOf (ops : Array Oper) (j : Nat) : Option Tmp := (ops[j]?).bind (·.dst)
/-- What it waits for. -/
def depsOf (ops : Array Oper) (i : Nat) : List Nat := match ops[i]? with
  | none => []
  | some o => (o.after.toList.filter fun e => Region.binds .any e).map (·.on)
/-- Each waits for earlier ones alone; the first 'm' write each its own temporary; what each of these looks at is written by none of them, or by one that it waits for. -/
def growB (ops : Array Oper) (m : Nat) : Bool :=
  Region.noSelect ops && decide (m ≤ ops.size) && (List.range ops.size).all (fun i => (depsOf ops i).all fun d => decide (d < i)) &&
  (List.range m).all (fun i => match ops[i]? with
    | none => false
    | some o => (o.looksAt ops).all (fun t => (List.range m).all fun j => dstOf ops j != some t || (depsOf ops i).contains j) &&
      (List.range m).all (fun j => j == i || o.dst.isNone || dstOf ops j != o.dst))
def reach (ops : Array Oper) : Nat → List Nat → List Nat
  | 0, s => s
  | n + 1, s => reach ops n ((s ++ s.flatMap (depsOf ops)).eraseDups)
/-- One that takes a value apart: it may come anywhere. -/
def mereO (o : Oper) : Bool := match o.op with
  | .extract _ _ => o.guard.isNone
  | _ => false
def mere (ops : Array Oper) (i : Nat) : Bool := match ops[i]? with
  | none => false
  | some o => mereO o && (List.range ops.size).all fun j => j == i || (depsOf ops i).contains j || match ops[j]? with
      | some oj => oj.after.any (fun e => Region.binds .any e && e.on == i) || o.apart ops oj
      | none => true
def tailB (ops : Array Oper) (m : Nat) : Bool :=
  decide (m = ops.size) ||
  ((List.range m).all (fun j => mere ops j || (reach ops m (depsOf ops m)).contains j) &&
   (List.range ops.size).all (fun i => decide (i ≤ m) || (depsOf ops i).contains (i - 1)))

/-! ### Soundness -/
def ListedUp (ops : Array Oper) (listed : Array Bool) : Prop := ∀ j, listed.getD j false = true → ∀ d ∈ depsOf ops j, listed.getD d false = true

theorem mem_depsOf {i d : Nat} : d ∈ depsOf ops i ↔ ∃ o, ops[i]? = some o ∧ ∃ e ∈ o.after, Region.binds .any e = true ∧ e.on = d := by
  unfold depsOf
  cases h : ops[i]? with
  | none => simp
  | some o => simp [and_assoc]

theorem reach_listed {listed : Array Bool} (hc : ListedUp ops listed) : ∀ (n : Nat) (s : List Nat), (∀ j ∈ s, listed.getD j false = true) → ∀ j ∈ reach ops n s, listed.getD j false = true
  | 0, _, h => h
  | n + 1, s, h => reach_listed hc n _ fun j hj => by
      rw [List.mem_eraseDups, List.mem_append, List.mem_flatMap] at hj
      rcases hj with hj | ⟨k, hk, hj⟩
      · exact h j hj
      · exact hc k (h k hk) j hj

theorem ready_deps {listed : Array Bool} {i : Nat} (h : i ∈ Region.ready .any ops listed) : listed.getD i true = false ∧ ∀ d ∈ depsOf ops i, listed.getD d false = true := by
  obtain ⟨h1, o, ho, hall⟩ := mem_ready.1 h
  refine ⟨h1, fun d hd => ?_⟩
  obtain ⟨o', ho', e, he, hb, rfl⟩ := mem_depsOf.1 hd
  rw [ho] at ho'
  cases ho'
  exact hall e he hb

theorem getD_false_of {listed : Array Bool} {i : Nat} (h : listed.getD i true = false) : listed.getD i false = false := by
  rcases Nat.lt_or_ge i listed.size with hl | hl
  · simp [hl] at h ⊢; exact h
  · simp [Array.getElem?_eq_none hl] at h
theorem lt_of_unlisted {listed : Array Bool} {i : Nat} (h : listed.getD i true = false) : i < listed.size := by
  rcases Nat.lt_or_ge i listed.size with hl | hl
  · exact hl
  · simp [Array.getElem?_eq_none hl] at h
theorem unlisted_of {listed : Array Bool} {i : Nat} (hl : i < listed.size) (h : listed.getD i false = false) : listed.getD i true = false := by
  simp [hl] at h ⊢; exact h
theorem ListedUp.set {listed : Array Bool} {i : Nat} (hc : ListedUp ops listed) (hi : i ∈ Region.ready .any ops listed) : ListedUp ops (listed.setIfInBounds i true) := by
  intro j hj d hd
  by_cases hij : i = j
  · subst hij
    exact getD_set_true ((ready_deps hi).2 d hd)
  · rw [getD_set_ne false hij] at hj
    exact getD_set_true (hc j hj d hd)
theorem ready_of {listed : Array Bool} {i : Nat} (hs : listed.size = ops.size) (h : listed.getD i true = false) (hd : ∀ d ∈ depsOf ops i, listed.getD d false = true) : i ∈ Region.ready .any ops listed := by
  have hl := lt_of_unlisted h
  rw [hs] at hl
  exact mem_ready.2 ⟨h, ops[i], Array.getElem?_eq_getElem hl, fun e he hb => hd _ (mem_depsOf.2 ⟨ops[i], Array.getElem?_eq_getElem hl, e, he, hb, rfl⟩)⟩

/-- Behind the first ones: the rest, one by one. -/
theorem wpAny_tail {m : Nat} (hlow : ∀ i d, d ∈ depsOf ops i → d < i) (ht : ∀ i, m < i → i < ops.size → i - 1 ∈ depsOf ops i) : ∀ (n k : Nat) (listed : Array Bool) (a : Act) (w : World), ops.size ≤ k + n → m ≤ k → listed.size = ops.size → (∀ j, j < ops.size → (listed.getD j false = true ↔ j < k)) →
    wpList P ops Q (ops.toList.drop k) a w → wpAny P .any ops Q n listed a w := by
  intro n
  induction n with
  | zero =>
    intro k listed a w hk hm hs hl h
    have e : ops.toList.drop k = [] := List.drop_eq_nil_of_le (by simp; omega)
    rw [e] at h
    refine ⟨List.eq_nil_iff_forall_not_mem.2 fun i hi => ?_, h⟩
    have h1 := (ready_deps hi).1
    have h2 := lt_of_unlisted h1
    have h3 := (hl i (by omega)).2 (by omega)
    rw [getD_false_of h1] at h3
    cases h3
  | succ n ih =>
    intro k listed a w hk hm hs hl h
    rcases Nat.lt_or_ge k ops.size with hlt | hge
    · have e : ops.toList.drop k = ops[k] :: ops.toList.drop (k + 1) := by
        rw [← List.getElem_cons_drop (by simpa using hlt)]
        simp
      rw [e] at h
      have hun : listed.getD k true = false := unlisted_of (by omega) (by
        cases hb : listed.getD k false
        · rfl
        · exact absurd ((hl k hlt).1 hb) (by omega))
      have only : ∀ i ∈ Region.ready .any ops listed, i = k := by
        intro i hi
        obtain ⟨h1, h2⟩ := ready_deps hi
        have hi' := lt_of_unlisted h1
        have hge : k ≤ i := by
          rcases Nat.lt_or_ge i k with hh | hh
          · have := (hl i (by omega)).2 hh
            rw [getD_false_of h1] at this
            cases this
          · exact hh
        rcases Nat.lt_or_ge m i with hmi | hmi
        · have := (hl (i - 1) (by omega)).1 (h2 _ (ht i hmi (by omega)))
          omega
        · omega
      have step : wpOp P ops Q k (wpAny P .any ops Q n (listed.setIfInBounds k true)) a w := by
        have hstep : wpOp P ops Q k (wpList P ops Q (ops.toList.drop (k + 1))) a w := by
          unfold wpOp
          rw [Array.getElem?_eq_getElem hlt]
          exact h
        refine wpOp_mono (fun a' w' h' => ?_) hstep
        refine ih (k + 1) (listed.setIfInBounds k true) a' w' (by omega) (by omega) (by simpa using hs) (fun j hj => ?_) h'
        by_cases hkj : k = j
        · subst hkj
          simp [show k < listed.size by omega]
        · rw [getD_set_ne false hkj, hl j hj]
          omega
      refine ⟨fun h0 => ?_, fun i hi => by rw [only i hi]; exact step⟩
      have hr : k ∈ Region.ready .any ops listed := ready_of hs hun fun d hd => (hl d (by have := hlow k d hd; omega)).2 (hlow k d hd)
      rw [h0] at hr
      cases hr
    · have e : ops.toList.drop k = [] := List.drop_eq_nil_of_le (by simpa using hge)
      rw [e] at h
      refine ⟨fun _ => h, fun i hi => ?_⟩
      have h1 := (ready_deps hi).1
      have h2 := lt_of_unlisted h1
      have h3 := (hl i (by omega)).2 (by omega)
      rw [getD_false_of h1] at h3
      cases h3

/-- The frame behind the first 'i' operations, in the order of the text. -/
def seqAct (ops : Array Oper) (a0 : Act) (vs : Nat → Value) : Nat → Act
  | 0 => a0
  | i + 1 => (seqAct ops a0 vs i).put (dstOf ops i) (vs i)

theorem size_put (a : Act) (d : Option Tmp) (v : Value) : (a.put d v).tmps.size = a.tmps.size := by
  cases d <;> simp [Act.put]
theorem defers_put (a : Act) (d : Option Tmp) (v : Value) : (a.put d v).defers = a.defers := by
  cases d <;> rfl
theorem get_put_ne (a : Act) {d : Option Tmp} (v : Value) {t : Tmp} (h : d ≠ some t) : (a.put d v).tmps[t]? = a.tmps[t]? := by
  cases d with
  | none => rfl
  | some d =>
    have : d ≠ t := fun e => h (by rw [e])
    simp [Act.put, Array.getElem?_setIfInBounds_ne this]
theorem get_put_same (a : Act) (t : Tmp) (v : Value) (h : t < a.tmps.size) : (a.put (some t) v).tmps[t]? = some v := by
  simp [Act.put, h]

theorem seq_size (a0 : Act) (vs : Nat → Value) : ∀ i, (seqAct ops a0 vs i).tmps.size = a0.tmps.size
  | 0 => rfl
  | i + 1 => by rw [seqAct, size_put, seq_size a0 vs i]
theorem seq_defers (a0 : Act) (vs : Nat → Value) : ∀ i, (seqAct ops a0 vs i).defers = a0.defers
  | 0 => rfl
  | i + 1 => by rw [seqAct, defers_put, seq_defers a0 vs i]
theorem seq_other (a0 : Act) (vs : Nat → Value) {t : Tmp} : ∀ i, (∀ j, j < i → dstOf ops j ≠ some t) → (seqAct ops a0 vs i).tmps[t]? = a0.tmps[t]?
  | 0, _ => rfl
  | i + 1, h => by rw [seqAct, get_put_ne _ _ (h i (by omega)), seq_other a0 vs i fun j hj => h j (by omega)]
theorem seq_same (a0 : Act) (vs : Nat → Value) {t : Tmp} {j : Nat} (hd : dstOf ops j = some t) (hs : t < a0.tmps.size) : ∀ i, j < i → (∀ k, k < i → k ≠ j → dstOf ops k ≠ some t) → (seqAct ops a0 vs i).tmps[t]? = some (vs j)
  | 0, h, _ => absurd h (by omega)
  | i + 1, h, ho => by
    rw [seqAct]
    by_cases hij : i = j
    · subst hij
      rw [hd]
      exact get_put_same _ _ _ (by rw [seq_size]; exact hs)
    · rw [get_put_ne _ _ (ho i (by omega) hij)]
      exact seq_same a0 vs hd hs i (by omega) fun k hk => ho k (by omega)
theorem seq_congr (a0 : Act) {vs vs' : Nat → Value} : ∀ i, (∀ j, j < i → vs j = vs' j) → seqAct ops a0 vs i = seqAct ops a0 vs' i
  | 0, _ => rfl
  | i + 1, h => by rw [seqAct, seqAct, seq_congr a0 i fun j hj => h j (by omega), h i (by omega)]

theorem depFacts_of {Fs : List (World → Prop)} {W : World} : ∀ {es : List Edge}, (∀ e ∈ es, Region.binds .any e = true → (Fs.getD e.on (fun _ => True)) W) → depFacts Fs W es
  | [], _ => trivial
  | e :: r, h => ⟨h e (by simp), depFacts_of fun e' he' => h e' (by simp [he'])⟩

theorem growAt_ex {o : Oper} {a : Act} {W : World} {fr : Bool} {T : World → Value → Prop} (h : growAt R P ops o a W fr T) : ∃ v W', R W W' ∧ T W' v := by
  unfold growAt at h
  split at h
  · generalize (execOp a.eval o).run P W = r at h
    unfold growUpon at h
    split at h
    · exact ⟨_, _, h.1, h.2.1⟩
    · exact ⟨_, _, h.1, h.2.1⟩
    · obtain ⟨e, w', fr, ⟨v, _, hb, ht⟩, _⟩ := h.2.2 []
      exact ⟨v, w', hb, ht⟩
    · exact h.elim
  · exact ⟨_, W, Rel.refl _, h.1⟩

/-- The new ones among the first 'i'. -/
def newOnes (T : Nat → Told) (vs : Nat → Value) (i : Nat) : List Value := ((List.range i).filter fun j => (T j).1).map vs
theorem newOnes_succ (T : Nat → Told) (vs : Nat → Value) (i : Nat) : newOnes T vs (i + 1) = if (T i).1 then newOnes T vs i ++ [vs i] else newOnes T vs i := by
  unfold newOnes
  rw [List.range_succ, List.filter_append, List.map_append]
  by_cases h : (T i).1 = true <;> simp [h]

/-- What the walk gives for each operation, whatever came of the earlier ones. -/
theorem gw_at {tail : List Oper} {a0 : Act} (T : Nat → Told) (vs : Nat → Value) : ∀ (n i : Nat) (L : List Oper) (Ts : List Told), L.length = n → (∀ k o, L[k]? = some o → ops[i + k]? = some o) → (∀ k, Ts[k]? = none ∨ Ts[k]? = some (T (i + k))) →
    (∀ j, j < i + n → ∃ W, (T j).2 W (vs j)) → GW R P ops Q w0 tail L Ts ((List.range i).map fun j => fun W => (T j).2 W (vs j)) (newOnes T vs i) (seqAct ops a0 vs i) →
    (∀ k, k < n → Stable R (T (i + k)).2 ∧ ∀ o, ops[i + k]? = some o → ∀ W, R w0 W → depFacts ((List.range (i + k)).map fun j => fun W => (T j).2 W (vs j)) W o.after.toList → growAt R P ops o (seqAct ops a0 vs (i + k)) W (T (i + k)).1 (T (i + k)).2) ∧
    (∀ W, R w0 W → (∀ j, j < i + n → (T j).2 W (vs j)) → (newOnes T vs (i + n)).Pairwise (fun x y => blockOf x ≠ blockOf y) → wpList P ops Q tail (seqAct ops a0 vs (i + n)) W) := by
  intro n
  induction n with
  | zero =>
    intro i L Ts hn _ _ _ h
    have hL : L = [] := List.eq_nil_of_length_eq_zero hn
    rw [hL] at h
    refine ⟨fun k hk => absurd hk (by omega), fun W hB hT hp => ?_⟩
    unfold GW at h
    refine h W hB (fun F hF => ?_) hp
    obtain ⟨j, hj, rfl⟩ := List.mem_map.1 hF
    exact hT j (List.mem_range.1 hj)
  | succ n ih =>
    intro i L Ts hn hL hTs hv h
    rcases L with _ | ⟨o, L⟩
    · cases hn
    rcases Ts with _ | ⟨T0, Ts⟩
    · unfold GW at h
      exact h.elim
    have e0 : T0 = T i := by
      rcases hTs 0 with h' | h' <;> simp at h'
      exact h'
    rw [e0] at h
    have ho : ops[i]? = some o := by simpa using hL 0 o rfl
    unfold GW at h
    obtain ⟨hs, hstep, hk⟩ := h
    have hd : dstOf ops i = o.dst := by simp [dstOf, ho]
    have h2 := hk (vs i) (hv i (by omega))
    have e1 : ((List.range i).map fun j => fun W => (T j).2 W (vs j)) ++ [fun W => (T i).2 W (vs i)] = (List.range (i + 1)).map fun j => fun W => (T j).2 W (vs j) := by
      rw [List.range_succ, List.map_append]; rfl
    have e2 : (seqAct ops a0 vs i).put o.dst (vs i) = seqAct ops a0 vs (i + 1) := by rw [seqAct, hd]
    rw [e1, e2, ← newOnes_succ] at h2
    obtain ⟨r1, r2⟩ := ih (i + 1) L Ts (by simpa using hn) (fun k o' hk' => by
        have := hL (k + 1) o' (by simpa using hk')
        rwa [show i + (k + 1) = i + 1 + k by omega] at this)
      (fun k => by
        have := hTs (k + 1)
        rwa [List.getElem?_cons_succ, show i + (k + 1) = i + 1 + k by omega] at this) (fun j hj => hv j (by omega)) h2
    refine ⟨fun k hk' => ?_, fun W hB hT hp => ?_⟩
    · rcases k with _ | k
      · refine ⟨hs, fun o' ho' => ?_⟩
        have e3 : o' = o := Option.some.inj (ho'.symm.trans ho)
        rw [e3]
        exact hstep
      · have := r1 k (by omega)
        rwa [show i + 1 + k = i + (k + 1) by omega] at this
    · have := r2 W hB (fun j hj => hT j (by omega)) (by rwa [show i + (n + 1) = i + 1 + n by omega] at hp)
      rwa [show i + 1 + n = i + (n + 1) by omega] at this

theorem countP_less {p p' : Nat → Bool} : ∀ {l : List Nat}, (∀ x, p' x = true → p x = true) → ∀ {i}, i ∈ l → p i = true → p' i = false → l.countP p' < l.countP p
  | [], _, _, h, _, _ => by cases h
  | x :: l, himp, i, h, hp, hp' => by
    rw [List.countP_cons, List.countP_cons]
    rcases List.mem_cons.1 h with rfl | h
    · have := List.countP_mono_left (l := l) (p := p') (q := p) fun x _ => himp x
      simp only [hp, hp', Bool.false_eq_true, if_false, if_true]
      omega
    · have h1 := countP_less himp h hp hp'
      have h2 : (if p' x = true then 1 else 0) ≤ (if p x = true then 1 else 0) := by
        by_cases hx : p' x = true
        · rw [if_pos hx, if_pos (himp x hx)]; exact Nat.le_refl _
        · rw [if_neg hx]; exact Nat.zero_le _
      omega

/-- The state between two operations of the walk's first part. -/
structure GInv (R : World → World → Prop) (ops : Array Oper) (m : Nat) (w0 : World) (a0 : Act) (T : Nat → Told) (listed : Array Bool) (a : Act) (W : World) (vs : Nat → Value) : Prop where
  up : ListedUp ops listed
  size : listed.size = ops.size
  pre : ∀ j, m ≤ j → listed.getD j false = false
  below : R w0 W
  some_ : ∀ j, j < m → ∃ W, (T j).2 W (vs j)
  told : ∀ j, j < m → listed.getD j false = true → (T j).2 W (vs j)
  old : ∀ j, j < m → listed.getD j false = true → (T j).1 = true → ∃ b, blockOf (vs j) = some b ∧ b < W.heap.size
  ne : ∀ i j, i < m → j < m → i ≠ j → listed.getD i false = true → listed.getD j false = true → (T i).1 = true → (T j).1 = true → blockOf (vs i) ≠ blockOf (vs j)
  has : ∀ j, j < m → listed.getD j false = true → ∀ d, dstOf ops j = some d → d < a0.tmps.size → a.tmps[d]? = some (vs j)
  other : ∀ t, (∀ j, j < m → listed.getD j false = true → dstOf ops j ≠ some t) → a.tmps[t]? = a0.tmps[t]?
  len : a.tmps.size = a0.tmps.size
  defs : a.defers = a0.defers

/-- What is known of each operation of the first part. -/
structure GSteps (R : World → World → Prop) (P : Program) (ops : Array Oper) (Q : Exit → Act → World → Prop) (m : Nat) (w0 : World) (a0 : Act) (T : Nat → Told) : Prop where
  sel : Region.noSelect ops = true
  le : m ≤ ops.size
  low : ∀ i d, d ∈ depsOf ops i → d < i
  looks : ∀ i, i < m → ∀ o, ops[i]? = some o → ∀ t ∈ o.looksAt ops, ∀ j, j < m → dstOf ops j = some t → j ∈ depsOf ops i
  apart : ∀ i j, i < m → j < m → i ≠ j → ∀ d, dstOf ops i = some d → dstOf ops j ≠ some d
  first : ∀ listed, ListedUp ops listed → m < ops.size → (∀ d ∈ depsOf ops m, listed.getD d false = true) → ∀ j, j < m → mere ops j = true ∨ listed.getD j false = true
  quiet : ∀ c a (d : Option Tmp) v w, Q (.panic c) (a.put d v) w → Q (.panic c) a w
  rest : ∀ i, m < i → i < ops.size → i - 1 ∈ depsOf ops i
  stable : ∀ i, i < m → Stable R (T i).2
  step : ∀ vs, (∀ j, j < m → ∃ W, (T j).2 W (vs j)) → ∀ i, i < m → ∀ o, ops[i]? = some o → ∀ W, R w0 W → (∀ d ∈ depsOf ops i, (T d).2 W (vs d)) → growAt R P ops o (seqAct ops a0 vs i) W (T i).1 (T i).2
  done : ∀ vs, (∀ j, j < m → ∃ W, (T j).2 W (vs j)) → ∀ W, R w0 W → (∀ j, j < m → (T j).2 W (vs j)) → (newOnes T vs m).Pairwise (fun x y => blockOf x ≠ blockOf y) → wpList P ops Q (ops.toList.drop m) (seqAct ops a0 vs m) W

theorem bAfter' {w W w' : World} (h : R w W) (k : R W w') : R w w' := Rel.trans h k

/-- One operation carried out. -/
theorem GInv.next {m : Nat} {a0 : Act} {T : Nat → Told} (G : GSteps R P ops Q m w0 a0 T) {listed : Array Bool} {a : Act} {W W' : World} {vs : Nat → Value} (I : GInv R ops m w0 a0 T listed a W vs) {i : Nat} (hi : i < m)
    (hr : i ∈ Region.ready .any ops listed) {v : Value} (hB : R W W') (ht : (T i).2 W' v) (hfr : (T i).1 = true → Fresh W W' v) : GInv R ops m w0 a0 T (listed.setIfInBounds i true) (a.put (dstOf ops i) v) W' (fun j => if j = i then v else vs j) where
  up := I.up.set hr
  size := by simpa using I.size
  pre := fun j hj => by rw [getD_set_ne false (by omega)]; exact I.pre j hj
  below := bAfter' I.below hB
  some_ := fun j hj => by
    by_cases h : j = i
    · subst h; rw [if_pos rfl]; exact ⟨W', ht⟩
    · rw [if_neg h]; exact I.some_ j hj
  told := fun j hj hl => by
    by_cases h : j = i
    · subst h; rw [if_pos rfl]; exact ht
    · rw [if_neg h]
      rw [getD_set_ne false (Ne.symm h)] at hl
      exact G.stable j hj W W' _ (I.told j hj hl) hB
  old := fun j hj hl hf => by
    by_cases h : j = i
    · subst h
      rw [if_pos rfl]
      obtain ⟨b, e, _, hb⟩ := hfr hf
      exact ⟨b, e, hb⟩
    · rw [if_neg h]
      rw [getD_set_ne false (Ne.symm h)] at hl
      obtain ⟨b, e, hb⟩ := I.old j hj hl hf
      exact ⟨b, e, Nat.lt_of_lt_of_le hb (Rel.size hB)⟩
  ne := fun j k hj hk hjk hlj hlk hfj hfk => by
    by_cases h : j = i
    · subst h
      rw [if_pos rfl, if_neg (Ne.symm hjk)]
      rw [getD_set_ne false hjk] at hlk
      obtain ⟨b, e, hb, _⟩ := hfr hfj
      obtain ⟨c, e', hc⟩ := I.old k hk hlk hfk
      rw [e, e']
      intro h
      injection h with h
      omega
    · rw [if_neg h]
      rw [getD_set_ne false (Ne.symm h)] at hlj
      by_cases h' : k = i
      · subst h'
        rw [if_pos rfl]
        obtain ⟨b, e, hb, _⟩ := hfr hfk
        obtain ⟨c, e', hc⟩ := I.old j hj hlj hfj
        rw [e, e']
        intro h
        injection h with h
        omega
      · rw [if_neg h']
        rw [getD_set_ne false (Ne.symm h')] at hlk
        exact I.ne j k hj hk hjk hlj hlk hfj hfk
  has := fun j hj hl d hd hs => by
    by_cases h : j = i
    · subst h
      rw [if_pos rfl, hd]
      exact get_put_same _ _ _ (by rw [I.len]; exact hs)
    · rw [if_neg h]
      rw [getD_set_ne false (Ne.symm h)] at hl
      rw [get_put_ne _ _ (G.apart j i hj hi h d hd)]
      exact I.has j hj hl d hd hs
  other := fun t ht' => by
    have hit : (listed.setIfInBounds i true).getD i false = true := by
      have := lt_of_unlisted (ready_deps hr).1
      simp [this]
    rw [get_put_ne _ _ (ht' i hi hit)]
    exact I.other t fun j hj hl => ht' j hj (getD_set_true hl)
  len := by rw [size_put]; exact I.len
  defs := by rw [defers_put]; exact I.defs

theorem seq_at {m : Nat} {a0 : Act} {T : Nat → Told} (G : GSteps R P ops Q m w0 a0 T) {listed : Array Bool} {a : Act} {W : World} {vs : Nat → Value} (I : GInv R ops m w0 a0 T listed a W vs) {i : Nat} (hi : i < m)
    (hr : i ∈ Region.ready .any ops listed) {o : Oper} (ho : ops[i]? = some o) {t : Tmp} (ht : t ∈ o.looksAt ops) : a.tmps[t]? = (seqAct ops a0 vs i).tmps[t]? := by
  by_cases h : ∃ j, j < m ∧ dstOf ops j = some t
  · obtain ⟨j, hj, hd⟩ := h
    have hdep := G.looks i hi o ho t ht j hj hd
    have hl := (ready_deps hr).2 j hdep
    have hlt := G.low i j hdep
    rcases Nat.lt_or_ge t a0.tmps.size with hs | hs
    · rw [I.has j hj hl t hd hs, seq_same a0 vs hd hs i hlt fun k hk hkj => G.apart j k hj (by omega) (Ne.symm hkj) t hd]
    · rw [Array.getElem?_eq_none (by rw [I.len]; exact hs), Array.getElem?_eq_none (by rw [seq_size]; exact hs)]
  · have hno : ∀ j, j < m → dstOf ops j ≠ some t := fun j hj hd => h ⟨j, hj, hd⟩
    rw [I.other t fun j hj _ => hno j hj, seq_other a0 vs i fun j hj => hno j (by omega)]

theorem execOp_seq {o : Oper} (hs : ∀ cs b, o.op ≠ .select cs b) {a b : Act} (h : ∀ t ∈ o.looksAt ops, a.tmps[t]? = b.tmps[t]?) : execOp a.eval o = execOp b.eval o :=
  execOp_congr o hs fun x hx => by
    cases x with
    | tmp t =>
      have := h t (List.mem_append_left _ (List.mem_filterMap.2 ⟨.tmp t, by simpa using hx, rfl⟩))
      simp [Act.eval, this]
    | _ => rfl
theorem wanted_seq {o : Oper} {a b : Act} (h : ∀ t ∈ o.looksAt ops, a.tmps[t]? = b.tmps[t]?) : Region.wanted o (yielded ops a.tmps) = Region.wanted o (yielded ops b.tmps) := by
  unfold Region.wanted
  cases hg : o.guard with
  | none => rfl
  | some gw =>
    obtain ⟨g, want⟩ := gw
    have hy : yielded ops a.tmps g = yielded ops b.tmps g := by
      unfold yielded
      cases ht : (ops[g]?).bind (·.dst) with
      | none => rfl
      | some t =>
        have := h t (List.mem_append_right _ (by simp [hg, ht]))
        simp [this]
    simp only [hy]

theorem mereO_spec {ρ : Operand → Value} {o : Oper} (h : mereO o = true) {W W' : World} {n : Next} (e : (execOp ρ o).run P W = .ok n W') : ∃ v, n = .value v ∧ W' = W ∧ ∀ w, (execOp ρ o).run P w = .ok (.value v) w := by
  unfold mereO at h
  split at h
  case h_2 => cases h
  rename_i t ix ho
  simp only [execOp, ho, Instr.extract] at e ⊢
  cases ht : ρ t <;> simp only [ht] at e ⊢ <;> try (simp [stuck, Sem.run] at e; done)
  rename_i vs
  cases hv : vs[ix]? <;> simp only [hv] at e ⊢ <;> try (simp [stuck, Sem.run] at e; done)
  rename_i v
  simp [go_sem] at e
  exact ⟨v, e.1.symm, e.2.symm, fun w => by simp [go_sem]⟩
theorem mereO_guard {o : Oper} (h : mereO o = true) : o.guard = none := by
  unfold mereO at h
  split at h
  · simpa using h
  · cases h
/-- What such a one yields, in every world. -/
theorem mere_yields {o : Oper} {i : Nat} (ho : ops[i]? = some o) (h : mere ops i = true) {a : Act} {W : World} {fr : Bool} {T : World → Value → Prop} (hg : growAt R P ops o a W fr T) :
    ∃ v W', R W W' ∧ T W' v ∧ (fr = true → Fresh W W' v) ∧ W' = W ∧ Yields P ops o v a := by
  unfold mere at h
  rw [ho] at h
  have hm : mereO o = true := (Bool.and_eq_true_iff.1 h).1
  have hw : Region.wanted o (yielded ops a.tmps) = true := by unfold Region.wanted; rw [mereO_guard hm]
  unfold growAt at hg
  rw [if_pos hw] at hg
  cases hr : (execOp a.eval o).run P W with
  | halt x w => rw [hr] at hg; cases x <;> exact hg.elim
  | ok n W' =>
    obtain ⟨v, rfl, rfl, hv⟩ := mereO_spec hm hr
    rw [hr] at hg
    exact ⟨v, W', hg.1, hg.2.1, hg.2.2, rfl, .inl ⟨hw, hv⟩⟩
theorem mere_apart {o : Oper} {i : Nat} (ho : ops[i]? = some o) (h : mere ops i = true) {listed : Array Bool} (hr : i ∈ Region.ready .any ops listed) : ∀ j oj, ops[j]? = some oj → j ≠ i → listed.getD j true = false → (∀ e ∈ oj.after, Region.binds .any e = true → e.on ≠ i) → o.apart ops oj = true := by
  intro j oj hj hne hun hno
  have hnd : j ∉ depsOf ops i := fun hd => by
    have := (ready_deps hr).2 j hd
    rw [getD_false_of hun] at this
    cases this
  unfold mere at h
  rw [ho] at h
  have h1 := List.all_eq_true.1 (Bool.and_eq_true_iff.1 h).2 j (List.mem_range.2 (Array.getElem?_eq_some_iff.1 hj).1)
  simp only [hj, Bool.or_eq_true, beq_iff_eq, hne, false_or, List.contains_iff_mem, hnd] at h1
  rcases h1 with h1 | h1
  · obtain ⟨e, he, hb⟩ := Array.any_eq_true'.1 h1
    simp only [Bool.and_eq_true, beq_iff_eq] at hb
    exact absurd hb.2 (hno e he hb.1)
  · exact h1

theorem wpOp_of_growAt {o : Oper} {i : Nat} (ho : ops[i]? = some o) {a : Act} {W : World} {fr : Bool} {T : World → Value → Prop} {K : Act → World → Prop} (h : growAt R P ops o a W fr T)
    (k : ∀ v W', R W W' → T W' v → (fr = true → Fresh W W' v) → K (a.put (dstOf ops i) v) W') : wpOp P ops Q i K a W := by
  have hd : dstOf ops i = o.dst := by simp [dstOf, ho]
  rw [hd] at k
  unfold growAt at h
  unfold wpOp
  rw [ho]
  by_cases hw : Region.wanted o (yielded ops a.tmps) = true
  · rw [if_pos hw] at h
    simp only [hw, if_true]
    refine .inl ?_
    unfold Oper.wp
    generalize (execOp a.eval o).run P W = r at h ⊢
    unfold growUpon at h
    split at h
    · exact k _ _ h.1 h.2.1 h.2.2
    · exact k _ _ h.1 h.2.1 fun hf => by rw [h.2.2] at hf; cases hf
    · have hfr := h.2.1
      refine h.2.2.mono fun e w'' he => ?_
      obtain ⟨v, rfl, hb, ht⟩ := he
      exact k _ _ hb ht fun hf => by rw [hfr] at hf; cases hf
    · exact h.elim
  · rw [if_neg hw] at h
    simp only [hw, Bool.false_eq_true, if_false]
    exact k _ _ (Rel.refl _) h.1 fun hf => by rw [h.2] at hf; cases hf

def unl (ops : Array Oper) (listed : Array Bool) : Nat := (List.range ops.size).countP fun j => listed.getD j true == false

theorem unl_less {listed : Array Bool} {i : Nat} (hs : listed.size = ops.size) (h : listed.getD i true = false) : unl ops (listed.setIfInBounds i true) < unl ops listed := by
  have hl := lt_of_unlisted h
  refine countP_less (fun x hx => ?_) (List.mem_range.2 (show i < ops.size by omega)) (by simpa using h) (by simp [hl])
  by_cases hxi : i = x
  · subst hxi
    simp [hl] at hx
  · rw [getD_set_ne true hxi] at hx
    exact hx

theorem wpAny_grow {m : Nat} {a0 : Act} {T : Nat → Told} (G : GSteps R P ops Q m w0 a0 T) : ∀ (n : Nat) (listed : Array Bool) (a : Act) (W : World) (vs : Nat → Value), unl ops listed ≤ n → GInv R ops m w0 a0 T listed a W vs → wpAny P .any ops Q n listed a W := by
  intro n
  induction n with
  | zero =>
    intro listed a W vs hn I
    by_cases hall : ∀ j, j < m → listed.getD j false = true
    case pos => exact last G hn I hall
    case neg =>
      exfalso
      obtain ⟨j, hj'⟩ := Classical.not_forall.1 hall
      obtain ⟨hj, hl⟩ := Classical.not_imp.1 hj'
      have h0 : listed.getD j true = false := unlisted_of (by rw [I.size]; have := G.le; omega) (by simpa using hl)
      have := unl_less I.size h0
      omega
  | succ n ih =>
    intro listed a W vs hn I
    by_cases hall : ∀ j, j < m → listed.getD j false = true
    case pos => exact last G hn I hall
    case neg =>
      by_cases hpk : ∃ k, k < m ∧ mere ops k = true ∧ k ∈ Region.ready .any ops listed
      case pos =>
        obtain ⟨k, hk, hmk, hrk⟩ := hpk
        obtain ⟨h1, h2⟩ := ready_deps hrk
        have hs := lt_of_unlisted h1
        rw [I.size] at hs
        have ho : ops[k]? = some ops[k] := Array.getElem?_eq_getElem hs
        have hg := G.step vs I.some_ k hk _ ho W I.below fun d hd => I.told d (by have := G.low k d hd; omega) (h2 d hd)
        have hsame := fun t ht => seq_at G I hk hrk ho (t := t) ht
        have hg' : growAt R P ops ops[k] a W (T k).1 (T k).2 := by
          unfold growAt at hg ⊢
          rw [wanted_seq hsame, execOp_seq (Region.noSelect_spec G.sel k _ · · ho) hsame]
          exact hg
        obtain ⟨v, W', hR, hT, hfr, rfl, hy⟩ := mere_yields ho hmk hg'
        have hd : dstOf ops k = ops[k].dst := by simp [dstOf, ho]
        refine wpAny_first ho (Region.noSelect_spec G.sel) (fun c a w h => G.quiet c _ _ _ w h) n listed a W' (mere_apart ho hmk hrk) hrk hy ?_
        rw [← hd]
        exact ih _ _ _ _ (by have := unl_less I.size h1; omega) (I.next G hk hrk hR hT hfr)
      case neg =>
      have hmere : ∀ k, k < m → mere ops k = true → (∀ d ∈ depsOf ops k, listed.getD d false = true) → listed.getD k false = true := by
        intro k hk hmk hd
        cases hb : listed.getD k false
        · exact absurd ⟨k, hk, hmk, ready_of I.size (unlisted_of (by rw [I.size]; have := G.le; omega) hb) hd⟩ hpk
        · rfl
      have hlt : ∀ i ∈ Region.ready .any ops listed, i < m := by
        intro i hi
        obtain ⟨h1, h2⟩ := ready_deps hi
        have hs := lt_of_unlisted h1
        rw [I.size] at hs
        rcases Nat.lt_trichotomy i m with h | h | h
        · exact h
        · subst h
          refine absurd ?_ hall
          have hf := G.first listed I.up hs h2
          have key : ∀ k j, j < k → j < i → listed.getD j false = true := by
            intro k
            induction k with
            | zero => intro j hj; omega
            | succ k ihk =>
              intro j hj hji
              rcases Nat.lt_or_ge j k with h | h
              · exact ihk j h hji
              · have hjk : j = k := by omega
                subst hjk
                rcases hf j hji with hm | hm
                · exact hmere j hji hm fun d hd => ihk d (G.low j d hd) (by have := G.low j d hd; omega)
                · exact hm
          exact fun j hj => key i j hj hj
        · have h3 := h2 _ (G.rest i h hs)
          rw [I.pre (i - 1) (by omega)] at h3
          cases h3
      refine ⟨fun h0 => ?_, fun i hi => ?_⟩
      · exfalso
        have key : ∀ k j, j < k → j < ops.size → listed.getD j false = true := by
          intro k
          induction k with
          | zero => intro j hj; omega
          | succ k ihk =>
            intro j hj hs
            rcases Nat.lt_or_ge j k with h | h
            · exact ihk j h hs
            · have hjk : j = k := by omega
              subst hjk
              cases hb : listed.getD j false
              · have hr : j ∈ Region.ready .any ops listed := ready_of I.size (unlisted_of (by rw [I.size]; exact hs) hb) fun d hd => ihk d (G.low j d hd) (by have := G.low j d hd; omega)
                rw [h0] at hr
                cases hr
              · rfl
        exact hall fun j hj => key m j hj (by have := G.le; omega)
      · have him := hlt i hi
        obtain ⟨h1, h2⟩ := ready_deps hi
        have hs := lt_of_unlisted h1
        rw [I.size] at hs
        have ho : ops[i]? = some ops[i] := Array.getElem?_eq_getElem hs
        have hg := G.step vs I.some_ i him _ ho W I.below fun d hd => I.told d (by have := G.low i d hd; omega) (h2 d hd)
        have hsame := fun t ht => seq_at G I him hi ho (t := t) ht
        have hg' : growAt R P ops ops[i] a W (T i).1 (T i).2 := by
          unfold growAt at hg ⊢
          rw [wanted_seq hsame, execOp_seq (Region.noSelect_spec G.sel i _ · · ho) hsame]
          exact hg
        exact wpOp_of_growAt ho hg' fun v W' hb ht hfr => ih _ _ _ _ (by have := unl_less I.size h1; omega) (I.next G him hi hb ht hfr)
where
  last {m : Nat} {a0 : Act} {T : Nat → Told} (G : GSteps R P ops Q m w0 a0 T) {n : Nat} {listed : Array Bool} {a : Act} {W : World} {vs : Nat → Value} (hn : unl ops listed ≤ n) (I : GInv R ops m w0 a0 T listed a W vs) (hall : ∀ j, j < m → listed.getD j false = true) :
      wpAny P .any ops Q n listed a W := by
    have ha : a = seqAct ops a0 vs m := by
      have h1 : a.tmps = (seqAct ops a0 vs m).tmps := by
        apply Array.ext_getElem?
        intro t
        by_cases h : ∃ j, j < m ∧ dstOf ops j = some t
        · obtain ⟨j, hj, hd⟩ := h
          rcases Nat.lt_or_ge t a0.tmps.size with hs | hs
          · rw [I.has j hj (hall j hj) t hd hs, seq_same a0 vs hd hs m hj fun k hk hkj => G.apart j k hj hk (Ne.symm hkj) t hd]
          · rw [Array.getElem?_eq_none (by rw [I.len]; exact hs), Array.getElem?_eq_none (by rw [seq_size]; exact hs)]
        · have hno : ∀ j, j < m → dstOf ops j ≠ some t := fun j hj hd => h ⟨j, hj, hd⟩
          rw [I.other t fun j hj _ => hno j hj, seq_other a0 vs m hno]
      have h2 : a.defers = (seqAct ops a0 vs m).defers := by rw [I.defs, seq_defers]
      cases a
      cases hq : seqAct ops a0 vs m
      rw [hq] at h1 h2
      cases h1
      cases h2
      rfl
    have hpw : (newOnes T vs m).Pairwise (fun x y => blockOf x ≠ blockOf y) := by
      unfold newOnes
      rw [List.pairwise_map, List.pairwise_filter]
      refine List.Pairwise.imp_of_mem (R := fun a b => a < b) (fun {x y} hx hy hlt hfx hfy => ?_) List.pairwise_lt_range
      have hx' := List.mem_range.1 hx
      have hy' := List.mem_range.1 hy
      exact I.ne x y hx' hy' (by omega) (hall x hx') (hall y hy') hfx hfy
    have hw := G.done vs I.some_ W I.below (fun j hj => I.told j hj (hall j hj)) hpw
    rw [← ha] at hw
    refine wpAny_tail (m := m) G.low G.rest n m listed a W ?_ (Nat.le_refl _) I.size (fun j hj => ?_) hw
    · have hcount : ops.size - m ≤ unl ops listed := by
        unfold unl
        have hsp : List.range ops.size = List.range m ++ (List.range (ops.size - m)).map (m + ·) := by
          rw [← List.range_add]
          congr 1
          have := G.le
          omega
        rw [hsp, List.countP_append, List.countP_map]
        have h3 : (List.range (ops.size - m)).countP ((fun j => listed.getD j true == false) ∘ (m + ·)) = (List.range (ops.size - m)).length := by
          rw [List.countP_eq_length]
          intro x hx
          have hx' := List.mem_range.1 hx
          simp only [Function.comp]
          rw [beq_iff_eq]
          exact unlisted_of (by rw [I.size]; omega) (I.pre _ (by omega))
        rw [h3, List.length_range]
        omega
      omega
    · constructor
      · intro h
        rcases Nat.lt_or_ge j m with h' | h'
        · exact h'
        · rw [I.pre j h'] at h; cases h
      · exact hall j

theorem gw_ex {tail : List Oper} : ∀ (L : List Oper) (Ts : List Told) (Fs : List (World → Prop)) (Vs : List Value) (a : Act) (W : World), GW R P ops Q w0 tail L Ts Fs Vs a → R w0 W → (∀ F ∈ Fs, F W) → (∀ F ∈ Fs, ∀ W W', F W → R W W' → F W') →
    ∃ us : List Value, ∀ k, k < L.length → ∃ W, (Ts.getD k (false, fun _ _ => True)).2 W (us.getD k undef)
  | [], _, _, _, _, _, _, _, _, _ => ⟨[], fun k hk => absurd hk (by simp)⟩
  | o :: L, [], _, _, _, _, h, _, _, _ => by
    unfold GW at h
    exact h.elim
  | o :: L, T :: Ts, Fs, Vs, a, W, h, hB, hF, hS => by
    unfold GW at h
    obtain ⟨hs, hstep, hk⟩ := h
    obtain ⟨v, W', hb, ht⟩ := growAt_ex (hstep W hB (depFacts_of fun e _ _ => by
      rcases Nat.lt_or_ge e.on Fs.length with hl | hl
      · rw [List.getD_eq_getElem?_getD, List.getElem?_eq_getElem hl]
        exact hF _ (List.getElem_mem hl)
      · rw [List.getD_eq_getElem?_getD, List.getElem?_eq_none hl]
        trivial))
    obtain ⟨us, hu⟩ := gw_ex L Ts _ _ _ W' (hk v ⟨W', ht⟩) (bAfter' hB hb) (fun F hF' => by
        rcases List.mem_append.1 hF' with h1 | h1
        · exact hS F h1 W W' (hF F h1) hb
        · rw [List.mem_singleton.1 h1]; exact ht)
      (fun F hF' => by
        rcases List.mem_append.1 hF' with h1 | h1
        · exact hS F h1
        · rw [List.mem_singleton.1 h1]
          exact fun W W' h2 h3 => hs W W' v h2 h3)
    refine ⟨v :: us, fun k hk' => ?_⟩
    rcases k with _ | k
    · exact ⟨W', by simpa using ht⟩
    · have := hu k (by simpa using hk')
      simpa using this

theorem gw_long {tail : List Oper} : ∀ (L : List Oper) (Ts : List Told) (Fs : List (World → Prop)) (Vs : List Value) (a : Act) (W : World), GW R P ops Q w0 tail L Ts Fs Vs a → R w0 W → (∀ F ∈ Fs, F W) → (∀ F ∈ Fs, ∀ W W', F W → R W W' → F W') → L.length ≤ Ts.length
  | [], _, _, _, _, _, _, _, _, _ => Nat.zero_le _
  | o :: L, [], _, _, _, _, h, _, _, _ => by
    unfold GW at h
    exact h.elim
  | o :: L, T :: Ts, Fs, Vs, a, W, h, hB, hF, hS => by
    unfold GW at h
    obtain ⟨hs, hstep, hk⟩ := h
    obtain ⟨v, W', hb, ht⟩ := growAt_ex (hstep W hB (depFacts_of fun e _ _ => by
      rcases Nat.lt_or_ge e.on Fs.length with hl | hl
      · rw [List.getD_eq_getElem?_getD, List.getElem?_eq_getElem hl]
        exact hF _ (List.getElem_mem hl)
      · rw [List.getD_eq_getElem?_getD, List.getElem?_eq_none hl]
        trivial))
    have := gw_long L Ts _ _ _ W' (hk v ⟨W', ht⟩) (bAfter' hB hb) (fun F hF' => by
        rcases List.mem_append.1 hF' with h1 | h1
        · exact hS F h1 W W' (hF F h1) hb
        · rw [List.mem_singleton.1 h1]; exact ht)
      (fun F hF' => by
        rcases List.mem_append.1 hF' with h1 | h1
        · exact hS F h1
        · rw [List.mem_singleton.1 h1]
          exact fun W W' h2 h3 => hs W W' v h2 h3)
    simpa using this

/-- **One walk, in the order of the text, serves every order.** -/
theorem wp_region_grow {id : Nat} {l : List Oper} (m : Nat) {a0 : Act} {w : World} {Ts : List Told} (hm : P.follows .mixedOrders = true) (hB : growB l.toArray m = true) (hT : tailB l.toArray m = true) (hq : ∀ c a (d : Option Tmp) v w, Q (.panic c) (a.put d v) w → Q (.panic c) a w)
    (h : GW R P l.toArray Q w (l.drop m) (l.take m) Ts [] [] a0) : (Code.region id l.toArray true).wp P Q a0 w := by
  refine wp_region_any hm ?_
  simp only [growB, Bool.and_eq_true, decide_eq_true_eq, List.all_eq_true, List.mem_range] at hB
  obtain ⟨⟨⟨hsel, hle⟩, hlow⟩, hall⟩ := hB
  have hlow' : ∀ i d, d ∈ depsOf l.toArray i → d < i := fun i d hd => by
    obtain ⟨o, ho, _⟩ := mem_depsOf.1 hd
    exact hlow i (Array.getElem?_eq_some_iff.1 ho).1 d hd
  have hdrew : R w { w with drawn := w.drawn + 1 } := Rel.ofB ⟨rfl, rfl, rfl, Nat.le_refl _, fun _ _ => rfl⟩
  have hlen := gw_long _ _ _ _ _ _ h hdrew (fun F hF => by cases hF) (fun F hF => by cases hF)
  obtain ⟨us, hus⟩ := gw_ex _ _ _ _ _ _ h hdrew (fun F hF => by cases hF) (fun F hF => by cases hF)
  have hlm : (l.take m).length = m := by rw [List.length_take]; have : m ≤ l.length := by simpa using hle; 
                                         omega
  rw [hlm] at hlen hus
  have hgw := fun (vs : Nat → Value) (hv : ∀ j, j < m → ∃ W, (Ts.getD j (false, fun _ _ => True)).2 W (vs j)) => gw_at (P := P) (ops := l.toArray) (Q := Q) (w0 := w) (tail := l.drop m) (a0 := a0) (fun j => Ts.getD j (false, fun _ _ => True)) vs m 0 (l.take m) Ts hlm
    (fun k o hk => by
      rw [Nat.zero_add]
      have hkm : k < m := by
        have := (List.getElem?_eq_some_iff.1 hk).1
        omega
      rw [List.getElem?_take_of_lt hkm] at hk
      simpa using hk)
    (fun k => by
      rw [Nat.zero_add]
      rcases Nat.lt_or_ge k Ts.length with hk | hk
      · right
        rw [List.getD_eq_getElem?_getD, List.getElem?_eq_getElem hk]
        rfl
      · left
        exact List.getElem?_eq_none hk)
    (fun j hj => hv j (by omega)) h
  simp only [Nat.zero_add] at hgw
  have hop : ∀ i, i < m → ∃ o, l.toArray[i]? = some o := fun i hi => ⟨l.toArray[i], Array.getElem?_eq_getElem (by omega)⟩
  have G : GSteps R P l.toArray Q m w a0 (fun j => Ts.getD j (false, fun _ _ => True)) := {
    sel := hsel
    le := hle
    low := hlow'
    looks := fun i hi o ho t ht j hj hd => by
      have h1 := hall i hi
      rw [ho] at h1
      simp only [Bool.and_eq_true, List.all_eq_true, List.mem_range, Bool.or_eq_true] at h1
      rcases h1.1 t ht j hj with h2 | h2
      · rw [hd] at h2; simp at h2
      · simpa using h2
    apart := fun i j hi hj hij d hd hd' => by
      obtain ⟨o, ho⟩ := hop i hi
      have h1 := hall i hi
      rw [ho] at h1
      simp only [Bool.and_eq_true, List.all_eq_true, List.mem_range, Bool.or_eq_true] at h1
      have hdo : o.dst = some d := by simpa [dstOf, ho] using hd
      rcases h1.2 j hj with (h2 | h2) | h2
      · simp at h2; omega
      · rw [hdo] at h2; simp at h2
      · rw [hdo, hd'] at h2; simp at h2
    first := fun listed hup hlt hd j hj => by
      simp only [tailB, Bool.or_eq_true, Bool.and_eq_true, decide_eq_true_eq, List.all_eq_true, List.mem_range] at hT
      rcases hT with h1 | h1
      · omega
      · rcases h1.1 j hj with h2 | h2
        · exact .inl h2
        · exact .inr (reach_listed hup m _ hd j (by simpa using h2))
    quiet := hq
    rest := fun i hi hs => by
      simp only [tailB, Bool.or_eq_true, Bool.and_eq_true, decide_eq_true_eq, List.all_eq_true, List.mem_range] at hT
      rcases hT with h1 | h1
      · omega
      · rcases h1.2 i hs with h2 | h2
        · omega
        · simpa using h2
    stable := fun i hi => ((hgw (fun j => us.getD j undef) hus).1 i hi).1
    step := fun vs hv i hi o ho W hW hd => by
      refine ((hgw vs hv).1 i hi).2 o ho W hW (depFacts_of fun e he hb => ?_)
      have hdep : e.on ∈ depsOf l.toArray i := mem_depsOf.2 ⟨o, ho, e, by simpa using he, hb, rfl⟩
      have hlt := hlow' i e.on hdep
      rw [List.getD_eq_getElem?_getD, List.getElem?_map, List.getElem?_range hlt]
      exact hd e.on hdep
    done := fun vs hv W hW hT' hp => by
      have := (hgw vs hv).2 W hW hT' hp
      simpa using this }
  refine wpAny_grow G _ _ _ _ (fun j => us.getD j undef) ?_ {
    up := fun j hj => by
      rcases Nat.lt_or_ge j l.toArray.size with h1 | h1
      · simp at h1; simp [h1] at hj
      · simp at h1; simp [Nat.not_lt.2 h1] at hj
    size := by simp
    pre := fun j hj => by
      rcases Nat.lt_or_ge j l.length with h1 | h1
      · simp [h1]
      · simp [Nat.not_lt.2 h1]
    below := hdrew
    some_ := hus
    told := fun j hj hl => by
      have h1 : j < l.length := by have : m ≤ l.length := by simpa using hle
                                   omega
      simp [h1] at hl
    old := fun j hj hl => by
      have h1 : j < l.length := by have : m ≤ l.length := by simpa using hle
                                   omega
      simp [h1] at hl
    ne := fun j k hj hk hjk hl => by
      have h1 : j < l.length := by have : m ≤ l.length := by simpa using hle
                                   omega
      simp [h1] at hl
    has := fun j hj hl => by
      have h1 : j < l.length := by have : m ≤ l.length := by simpa using hle
                                   omega
      simp [h1] at hl
    other := fun _ _ => rfl
    len := rfl
    defs := rfl }
  unfold unl
  exact Nat.le_trans List.countP_le_length (by simp)

theorem gw_nil {tail : List Oper} {Fs : List (World → Prop)} {Vs : List Value} {a : Act} (h : ∀ W, R w0 W → (∀ F ∈ Fs, F W) → Vs.Pairwise (fun x y => blockOf x ≠ blockOf y) → wpList P ops Q tail a W) : GW R P ops Q w0 tail [] [] Fs Vs a := by
  unfold GW
  exact h
/-- The same, where the region ends with it. -/
theorem wp_region_grows {id : Nat} {l : List Oper} {a0 : Act} {w : World} {Ts : List Told} (hm : P.follows .mixedOrders = true) (hB : growB l.toArray l.length = true) (hq : ∀ c a (d : Option Tmp) v w, Q (.panic c) (a.put d v) w → Q (.panic c) a w)
    (h : GW R P l.toArray Q w [] l Ts [] [] a0) : (Code.region id l.toArray true).wp P Q a0 w :=
  wp_region_grow l.length hm hB (by simp [tailB]) hq (by simpa using h)

end
end Go.Proofs.Ytkijjgdcbgmglaa.GR
