/- What a machine of commits keeps, as it goes step by step. No walk. -/
import Derived.Test.YtkecbdeekpbbjaaHSteps
import Derived.Test.YtkecbdeekpbbjaaHStart
/-! What a machine of commits keeps, as it goes step by step. No walk. -/
namespace Go.Proofs.Ytkecbdeekpbbjaa.Q
open Go.RowKit Go.Lib Go.Proofs.Ytkecbdeekpbbjaa Go.Proofs.YtkecbdeekpbbjaaW.PrintWords Go.Proofs.YtkecbdeekpbbjaaW.PrintLast Go.Proofs.YtkecbdeekpbbjaaW.PrintMore
set_option linter.unusedVariables false
set_option linter.unusedSimpArgs false

def wx (s : S54) : Nat := s.f0.toNat
def vAt (vars : List Vr) (x : Nat) : Vr := vars.getD x zV
def held (j : Job) : List Nat := if j.state = 0 then (j.writes.take j.next).map wx else if j.state = 1 ∨ j.state = 2 then j.writes.map wx else if j.state = 3 then (j.writes.drop j.next).map wx else []
def v0 : S44 := ⟨1, 0⟩
def putAll (now : List S44) (ws : List S54) : List S44 := ws.foldl (fun now s => now.set (wx s) s.f1) now
def zJ : Job := ⟨[], [], 5, 0, false⟩
def jobAt (m : Mach) (id : Int) : Job := m.jobs.getD (id - 1).toNat zJ
def hist (m : Mach) : List (List S54 × List S54) := m.decided.map fun id => ((jobAt m id).reads, (jobAt m id).writes)
def after (l : List (List S54 × List S54)) (now : List S44) : List S44 := l.foldl (fun now p => putAll now p.2) now
def legal : List (List S54 × List S54) → List S44 → Prop
  | [], _ => True
  | p :: r, now => (∀ s ∈ p.1, now.getD (wx s) v0 = s.f1) ∧ legal r (putAll now p.2)
def zeros (n : Nat) : List S44 := List.replicate n v0
def fin (m : Mach) : List S44 := after (hist m) (zeros m.vars.length)

theorem after_snoc (l : List (List S54 × List S54)) (p : List S54 × List S54) (now : List S44) : after (l ++ [p]) now = putAll (after l now) p.2 := by simp [after]
theorem legal_snoc : ∀ (l : List (List S54 × List S54)) (p : List S54 × List S54) (now : List S44), legal l now → (∀ s ∈ p.1, (after l now).getD (wx s) v0 = s.f1) → legal (l ++ [p]) now
  | [], p, now, _, h => ⟨h, trivial⟩
  | q :: l, p, now, hl, h => ⟨hl.1, legal_snoc l p _ hl.2 h⟩
theorem putAll_len (ws : List S54) : ∀ now : List S44, (putAll now ws).length = now.length := by
  induction ws with
  | nil => intro now; rfl
  | cons s ws ih => intro now; show (putAll (now.set (wx s) s.f1) ws).length = _; rw [ih]; simp
theorem after_len (l : List (List S54 × List S54)) : ∀ now : List S44, (after l now).length = now.length := by
  induction l with
  | nil => intro now; rfl
  | cons p l ih => intro now; show (after l (putAll now p.2)).length = _; rw [ih, putAll_len]
theorem fin_len (m : Mach) : (fin m).length = m.vars.length := by simp [fin, after_len, zeros]
theorem getD_set {α : Type} (l : List α) (x y : Nat) (v z : α) (hx : x < l.length) : (l.set x v).getD y z = if y = x then v else l.getD y z := by
  rw [List.getD_eq_getElem?_getD, List.getD_eq_getElem?_getD, List.getElem?_set]
  by_cases h : y = x
  · subst h; rw [if_pos rfl, if_pos hx, if_pos rfl]; rfl
  · rw [if_neg (fun e => h e.symm), if_neg h]
theorem getD_set_ne {α : Type} (l : List α) (x y : Nat) (v z : α) (h : y ≠ x) : (l.set x v).getD y z = l.getD y z := by
  rw [List.getD_eq_getElem?_getD, List.getD_eq_getElem?_getD, List.getElem?_set_ne (fun e => h e.symm)]
theorem putAll_other (ws : List S54) : ∀ (now : List S44) (x : Nat), x ∉ ws.map wx → (putAll now ws).getD x v0 = now.getD x v0 := by
  induction ws with
  | nil => intro now x _; rfl
  | cons s ws ih =>
    intro now x h
    rw [List.map_cons, List.mem_cons, not_or] at h
    show (putAll (now.set (wx s) s.f1) ws).getD x v0 = _
    rw [ih _ _ h.2, getD_set_ne _ _ _ _ _ h.1]
theorem putAll_mem (ws : List S54) (hd : (ws.map wx).Nodup) : ∀ (now : List S44) (s : S54), s ∈ ws → wx s < now.length → (putAll now ws).getD (wx s) v0 = s.f1 := by
  induction ws with
  | nil => intro now s h; cases h
  | cons a ws ih =>
    intro now s h hl
    rw [List.map_cons, List.nodup_cons] at hd
    show (putAll (now.set (wx a) a.f1) ws).getD (wx s) v0 = _
    rcases List.mem_cons.1 h with rfl | h'
    · rw [putAll_other ws _ _ hd.1, getD_set _ _ _ _ _ hl, if_pos rfl]
    · exact ih hd.2 _ s h' (by simpa using hl)

/-- What holds of one commit. -/
structure JI (m : Mach) (k : Nat) (j : Job) : Prop where
  sorted : (j.writes.map wx).Pairwise (· < ·)
  rd : ∀ s ∈ j.reads, inR m.vars.length s
  wr : ∀ s ∈ j.writes, inR m.vars.length s
  lr : j.reads.length ≤ 64
  lw : j.writes.length ≤ 64
  st : (j.state = 0 ∧ j.next < j.writes.length ∧ j.failed = false ∧ ((k : Int) + 1) ∉ m.decided) ∨ (j.state = 1 ∧ j.next = 0 ∧ j.failed = false ∧ ((k : Int) + 1) ∉ m.decided) ∨
    (j.state = 2 ∧ j.next < j.writes.length ∧ j.failed = false ∧ ((k : Int) + 1) ∈ m.decided) ∨ (j.state = 3 ∧ j.next < j.writes.length ∧ j.failed = false ∧ ((k : Int) + 1) ∈ m.decided) ∨
    (j.state = 3 ∧ j.next < j.writes.length ∧ j.failed = true ∧ ((k : Int) + 1) ∉ m.decided) ∨ (j.state = 4 ∧ j.failed = false ∧ ((k : Int) + 1) ∈ m.decided) ∨ (j.state = 5 ∧ j.failed = true ∧ ((k : Int) + 1) ∉ m.decided)
  hl : ∀ x ∈ held j, (vAt m.vars x).lock = (k : Int) + 1
structure Inv (m : Mach) : Prop where
  n : m.vars.length ≤ 64
  jl : m.jobs.length ≤ 200
  job : ∀ (k : Nat) (j : Job), m.jobs[k]? = some j → JI m k j
  free : ∀ x, x < m.vars.length → (vAt m.vars x).lock = 0 ∨ ∃ (k : Nat) (j : Job), (vAt m.vars x).lock = (k : Int) + 1 ∧ m.jobs[k]? = some j ∧ x ∈ held j
  nod : m.decided.Nodup
  ids : ∀ id ∈ m.decided, 1 ≤ id ∧ id ≤ m.jobs.length
  vals : ∀ x, x < m.vars.length → (∃ (k : Nat) (j : Job), m.jobs[k]? = some j ∧ j.state = 2 ∧ x ∈ (j.writes.drop j.next).map wx) ∨ (vAt m.vars x).val = (fin m).getD x v0
  wvals : ∀ (k : Nat) (j : Job), m.jobs[k]? = some j → j.state = 2 → ∀ s ∈ j.writes, (fin m).getD (wx s) v0 = s.f1
  leg : legal (hist m) (zeros m.vars.length)

theorem set_cases {l : List Job} {k i : Nat} {j' j : Job} (h : (l.set k j')[i]? = some j) : (i = k ∧ j = j') ∨ (i ≠ k ∧ l[i]? = some j) := by
  rw [List.getElem?_set] at h
  by_cases hi : k = i
  · rw [if_pos hi] at h
    split at h
    · exact .inl ⟨hi.symm, (Option.some.inj h).symm⟩
    · cases h
  · rw [if_neg hi] at h
    exact .inr ⟨fun e => hi e.symm, h⟩
theorem wx_lt {n : Nat} {s : S54} (h : inR n s) : wx s < n := by have := h.1; have := h.2; unfold wx; omega
theorem wx_eq {n : Nat} {s : S54} (h : inR n s) : s.f0 = (wx s : Int) := by have := h.1; unfold wx; omega

/-- Reads and writes stay. -/
theorem jobAt_set (m : Mach) (k : Nat) (j' : Job) {j : Job} (hk : m.jobs[k]? = some j) (hr : j'.reads = j.reads) (hw : j'.writes = j.writes) (vars : List Vr) (dec : List Int) (id : Int) :
    (jobAt { m with vars := vars, jobs := m.jobs.set k j', decided := dec } id).reads = (jobAt m id).reads ∧ (jobAt { m with vars := vars, jobs := m.jobs.set k j', decided := dec } id).writes = (jobAt m id).writes := by
  unfold jobAt
  have hl := (List.getElem?_eq_some_iff.1 hk).1
  simp only []
  rw [getD_set _ _ _ _ _ hl]
  by_cases h : (id - 1).toNat = k
  · rw [if_pos h, h, List.getD_eq_getElem?_getD, hk]
    exact ⟨hr, hw⟩
  · rw [if_neg h]
    exact ⟨rfl, rfl⟩
theorem hist_set (m : Mach) (k : Nat) (j' : Job) {j : Job} (hk : m.jobs[k]? = some j) (hr : j'.reads = j.reads) (hw : j'.writes = j.writes) (vars : List Vr) (dec : List Int) :
    hist { m with vars := vars, jobs := m.jobs.set k j', decided := dec } = dec.map fun id => ((jobAt m id).reads, (jobAt m id).writes) := by
  unfold hist
  refine List.map_congr_left fun id _ => ?_
  rw [(jobAt_set m k j' hk hr hw vars dec id).1, (jobAt_set m k j' hk hr hw vars dec id).2]
theorem jobAt_some {m : Mach} {k : Nat} {j : Job} (hk : m.jobs[k]? = some j) : jobAt m ((k : Int) + 1) = j := by
  unfold jobAt
  rw [show ((k : Int) + 1 - 1).toNat = k by omega, List.getD_eq_getElem?_getD, hk]
  rfl

theorem vAt_set (vars : List Vr) {x : Nat} (hx : x < vars.length) (v : Vr) (y : Nat) : vAt (vars.set x v) y = if y = x then v else vAt vars y := getD_set _ _ _ _ _ hx
theorem take_atW {j : Job} (h : j.next < j.writes.length) : j.writes.take (j.next + 1) = j.writes.take j.next ++ [atW j] := by
  rw [List.take_add_one, atW_some h]
  rfl
theorem drop_atW {j : Job} (h : j.next < j.writes.length) : j.writes.drop j.next = atW j :: j.writes.drop (j.next + 1) := by
  rw [List.drop_eq_getElem_cons h]
  have := atW_some h
  rw [List.getElem?_eq_getElem h] at this
  rw [Option.some.inj this]
theorem atW_mem {j : Job} (h : j.next < j.writes.length) : atW j ∈ j.writes := List.mem_of_getElem? (atW_some h)
theorem JI.keep {m m' : Mach} {i : Nat} {j : Job} (h : JI m i j) (hn : m'.vars.length = m.vars.length) (hd : (i : Int) + 1 ∈ m'.decided ↔ (i : Int) + 1 ∈ m.decided) (hl : ∀ x ∈ held j, (vAt m'.vars x).lock = (vAt m.vars x).lock) : JI m' i j :=
  ⟨h.sorted, by rw [hn]; exact h.rd, by rw [hn]; exact h.wr, h.lr, h.lw, by have := h.st; rw [hd]; exact this, fun x hx => (hl x hx).trans (h.hl x hx)⟩
theorem JI.nodup {m : Mach} {k : Nat} {j : Job} (h : JI m k j) : (j.writes.map wx).Nodup := List.Pairwise.imp (fun h => Nat.ne_of_lt h) h.sorted
theorem JI.held_lt {m : Mach} {k : Nat} {j : Job} (h : JI m k j) {x : Nat} (hx : x ∈ held j) : x < m.vars.length := by
  have : x ∈ j.writes.map wx := by
    unfold held at hx
    split at hx
    · exact List.mem_of_mem_take (by rwa [← List.map_take])
    · split at hx
      · exact hx
      · split at hx
        · exact List.mem_of_mem_drop (by rwa [← List.map_drop])
        · cases hx
  obtain ⟨s, hs, rfl⟩ := List.mem_map.1 this
  exact wx_lt (h.wr s hs)
/-- Two that hold the same are the same. -/
theorem Inv.one {m : Mach} (h : Inv m) {i k : Nat} {a b : Job} {x : Nat} (hi : m.jobs[i]? = some a) (hk : m.jobs[k]? = some b) (ha : x ∈ held a) (hb : x ∈ held b) : i = k := by
  have := (h.job i a hi).hl x ha
  have := (h.job k b hk).hl x hb
  omega

theorem held_lock {j : Job} (h : j.next < j.writes.length) (h0 : j.state = 0) (x : Nat) : x ∈ held (onward j 1) ↔ x ∈ held j ∨ x = wx (atW j) := by
  have e1 : held j = (j.writes.take j.next).map wx := by unfold held; rw [if_pos h0]
  rw [e1]
  unfold onward
  split
  · rename_i hn
    have e2 : held { j with next := 0, state := 1 } = j.writes.map wx := by unfold held; simp
    rw [e2]
    have : j.writes = j.writes.take j.next ++ [atW j] := by rw [← take_atW h, hn, List.take_length]
    conv => lhs; rw [this]
    simp
  · have e2 : held { j with next := j.next + 1 } = (j.writes.take (j.next + 1)).map wx := by unfold held; simp [h0]
    rw [e2, take_atW h]
    simp
theorem held_put {j : Job} (h0 : j.state = 2) : held (onward j 3) = held j := by
  have e1 : held j = j.writes.map wx := by unfold held; simp [h0]
  rw [e1]
  unfold onward
  split
  · unfold held; simp
  · unfold held; simp [h0]
theorem held_free {j : Job} (h : j.next < j.writes.length) (h0 : j.state = 3) {t : Int} (ht : t = 4 ∨ t = 5) : held j = wx (atW j) :: held (onward j t) := by
  have e1 : held j = (j.writes.drop j.next).map wx := by unfold held; simp [h0]
  rw [e1, drop_atW h, List.map_cons]
  congr 1
  unfold onward
  split
  · rename_i hn
    rw [hn, List.drop_length]
    unfold held
    rcases ht with rfl | rfl <;> simp
  · unfold held; simp [h0]

/-- The frame that the cases share: one commit, and one variable, are turned; nothing is decided. -/
theorem fin_set (m : Mach) (k : Nat) (j' : Job) {j : Job} (hk : m.jobs[k]? = some j) (hr : j'.reads = j.reads) (hw : j'.writes = j.writes) (vars : List Vr) (hv : vars.length = m.vars.length) : fin { m with vars := vars, jobs := m.jobs.set k j' } = fin m := by
  unfold fin
  have := hist_set m k j' hk hr hw vars m.decided
  have e : hist { m with vars := vars, jobs := m.jobs.set k j' } = hist m := this
  rw [e]
  show after _ (zeros vars.length) = _
  rw [hv]
theorem Inv.lock {m : Mach} (h : Inv m) {k : Nat} {j : Job} (hk : m.jobs[k]? = some j) (h0 : j.state = 0) (hf : (vAt m.vars (wx (atW j))).lock = 0) :
    Inv { m with vars := m.vars.set (wx (atW j)) { vAt m.vars (wx (atW j)) with lock := (k : Int) + 1 }, jobs := m.jobs.set k (onward j 1) } := by
  have hJ := h.job k j hk
  have hnx : j.next < j.writes.length := by have := hJ.st; omega
  have hx : wx (atW j) < m.vars.length := wx_lt (hJ.wr _ (atW_mem hnx))
  have hn : ∀ i (a : Job), i ≠ k → m.jobs[i]? = some a → wx (atW j) ∉ held a := fun i a hi ha hx' => by have := (h.job i a ha).hl _ hx'; omega
  have hfin := fin_set m k (onward j 1) hk (onward_reads _ _) (onward_writes _ _) (m.vars.set (wx (atW j)) { vAt m.vars (wx (atW j)) with lock := (k : Int) + 1 }) (by simp)
  have hval : ∀ x, (vAt (m.vars.set (wx (atW j)) { vAt m.vars (wx (atW j)) with lock := (k : Int) + 1 }) x).val = (vAt m.vars x).val := fun x => by
    rw [vAt_set _ hx]
    split
    · rename_i e; rw [e]
    · rfl
  refine ⟨by simpa using h.n, by simpa using h.jl, fun i a ha => ?_, fun x hxl => ?_, h.nod, by simpa using h.ids, fun x hxl => ?_, fun i a ha h2 => ?_, ?_⟩
  · rcases set_cases ha with ⟨rfl, rfl⟩ | ⟨hi, ha⟩
    · refine ⟨by rw [onward_writes]; exact hJ.sorted, by rw [onward_reads]; simpa using hJ.rd, by rw [onward_writes]; simpa using hJ.wr, by rw [onward_reads]; exact hJ.lr, by rw [onward_writes]; exact hJ.lw, ?_, fun x hx' => ?_⟩
      · have := hJ.st
        rw [onward_writes]
        unfold onward
        split
        · exact .inr (.inl ⟨rfl, rfl, by have := hJ.st; simp_all, by simp_all⟩)
        · exact .inl ⟨h0, by show j.next + 1 < _; omega, by simp_all, by simp_all⟩
      · rcases (held_lock hnx h0 x).1 hx' with h1 | h1
        · show (vAt (m.vars.set _ _) x).lock = _
          rw [vAt_set _ hx]
          split
          · rfl
          · exact hJ.hl x h1
        · subst h1
          show (vAt (m.vars.set _ _) _).lock = _
          rw [vAt_set _ hx, if_pos rfl]
    · refine (h.job i a ha).keep (by simp) Iff.rfl fun x hx' => ?_
      show (vAt (m.vars.set _ _) x).lock = _
      rw [vAt_set _ hx, if_neg (fun e => hn i a hi ha (by rw [← e]; exact hx'))]
  · show (vAt (m.vars.set _ _) x).lock = 0 ∨ _
    rw [vAt_set _ hx]
    by_cases e : x = wx (atW j)
    · subst e
      rw [if_pos rfl]
      exact .inr ⟨k, onward j 1, rfl, List.getElem?_set_self (List.getElem?_eq_some_iff.1 hk).1, (held_lock hnx h0 _).2 (.inr rfl)⟩
    · rw [if_neg e]
      rcases h.free x (by simpa using hxl) with h1 | ⟨i, a, h1, h2, h3⟩
      · exact .inl h1
      · refine .inr ?_
        by_cases hi : i = k
        · subst hi
          rw [hk] at h2
          obtain rfl := Option.some.inj h2
          exact ⟨i, onward j 1, h1, List.getElem?_set_self (List.getElem?_eq_some_iff.1 hk).1, (held_lock hnx h0 _).2 (.inl h3)⟩
        · exact ⟨i, a, h1, by rw [List.getElem?_set_ne (fun e => hi e.symm)]; exact h2, h3⟩
  · rw [hfin]
    show (∃ _ _, _) ∨ (vAt (m.vars.set _ _) x).val = _
    rw [hval]
    rcases h.vals x (by simpa using hxl) with ⟨i, a, h1, h2, h3⟩ | h1
    · refine .inl ⟨i, a, ?_, h2, h3⟩
      show (m.jobs.set _ _)[i]? = _
      rw [List.getElem?_set_ne (fun e => ?_)]
      · exact h1
      · subst e; rw [hk] at h1; obtain rfl := Option.some.inj h1; omega
    · exact .inr h1
  · rw [hfin]
    rcases set_cases ha with ⟨rfl, rfl⟩ | ⟨hi, ha⟩
    · exfalso
      unfold onward at h2
      split at h2
      · cases h2
      · have h2 : j.state = 2 := h2
        omega
    · exact h.wvals i a ha h2
  · have e : hist { m with vars := m.vars.set (wx (atW j)) { vAt m.vars (wx (atW j)) with lock := (k : Int) + 1 }, jobs := m.jobs.set k (onward j 1) } = hist m := hist_set m k (onward j 1) hk (onward_reads _ _) (onward_writes _ _) _ m.decided
    rw [e]
    simpa using h.leg
end Go.Proofs.Ytkecbdeekpbbjaa.Q

/-! What a machine of commits keeps: the other kinds of steps; a start. No walk. -/
namespace Go.Proofs.Ytkecbdeekpbbjaa.Q
open Go.RowKit Go.Lib Go.Proofs.Ytkecbdeekpbbjaa Go.Proofs.YtkecbdeekpbbjaaW.PrintWords Go.Proofs.YtkecbdeekpbbjaaW.PrintLast Go.Proofs.YtkecbdeekpbbjaaW.PrintMore
set_option linter.unusedVariables false
set_option linter.unusedSimpArgs false

theorem Inv.put {m : Mach} (h : Inv m) {k : Nat} {j : Job} (hk : m.jobs[k]? = some j) (h0 : j.state = 2) :
    Inv { m with vars := m.vars.set (wx (atW j)) { vAt m.vars (wx (atW j)) with val := (atW j).f1 }, jobs := m.jobs.set k (onward j 3) } := by
  have hJ := h.job k j hk
  have hnx : j.next < j.writes.length := by have := hJ.st; omega
  have hx : wx (atW j) < m.vars.length := wx_lt (hJ.wr _ (atW_mem hnx))
  have hfin := fin_set m k (onward j 3) hk (onward_reads _ _) (onward_writes _ _) (m.vars.set (wx (atW j)) { vAt m.vars (wx (atW j)) with val := (atW j).f1 }) (by simp)
  have hlock : ∀ x, (vAt (m.vars.set (wx (atW j)) { vAt m.vars (wx (atW j)) with val := (atW j).f1 }) x).lock = (vAt m.vars x).lock := fun x => by
    rw [vAt_set _ hx]
    split
    · rename_i e; rw [e]
    · rfl
  refine ⟨by simpa using h.n, by simpa using h.jl, fun i a ha => ?_, fun x hxl => ?_, h.nod, by simpa using h.ids, fun x hxl => ?_, fun i a ha h2 => ?_, ?_⟩
  · rcases set_cases ha with ⟨rfl, rfl⟩ | ⟨hi, ha⟩
    · refine ⟨by rw [onward_writes]; exact hJ.sorted, by rw [onward_reads]; simpa using hJ.rd, by rw [onward_writes]; simpa using hJ.wr, by rw [onward_reads]; exact hJ.lr, by rw [onward_writes]; exact hJ.lw, ?_, fun x hx' => ?_⟩
      · have := hJ.st
        rw [onward_writes]
        unfold onward
        split
        · exact .inr (.inr (.inr (.inl ⟨rfl, by show 0 < _; omega, by simp_all, by simp_all⟩)))
        · exact .inr (.inr (.inl ⟨h0, by show j.next + 1 < _; omega, by simp_all, by simp_all⟩))
      · rw [held_put h0] at hx'
        exact (hlock x).trans (hJ.hl x hx')
    · exact (h.job i a ha).keep (by simp) Iff.rfl fun x hx' => hlock x
  · show (vAt (m.vars.set _ _) x).lock = 0 ∨ _
    rcases h.free x (by simpa using hxl) with h1 | ⟨i, a, h1, h2, h3⟩
    · exact .inl ((hlock x).trans h1)
    · refine .inr ?_
      by_cases hi : i = k
      · subst hi
        rw [hk] at h2
        obtain rfl := Option.some.inj h2
        exact ⟨i, onward j 3, (hlock x).trans h1, List.getElem?_set_self (List.getElem?_eq_some_iff.1 hk).1, by rw [held_put h0]; exact h3⟩
      · exact ⟨i, a, (hlock x).trans h1, by rw [List.getElem?_set_ne (fun e => hi e.symm)]; exact h2, h3⟩
  · rw [hfin]
    show (∃ _ _, _) ∨ (vAt (m.vars.set _ _) x).val = _
    by_cases e : x = wx (atW j)
    · subst e
      right
      rw [vAt_set _ hx, if_pos rfl]
      exact (h.wvals k j hk h0 _ (atW_mem hnx)).symm
    · rw [vAt_set _ hx, if_neg e]
      rcases h.vals x (by simpa using hxl) with ⟨i, a, h1, h2, h3⟩ | h1
      · by_cases hi : i = k
        · subst hi
          rw [hk] at h1
          obtain rfl := Option.some.inj h1
          rw [drop_atW hnx, List.map_cons, List.mem_cons] at h3
          rcases h3 with h3 | h3
          · exact absurd h3 e
          · refine .inl ⟨i, onward j 3, List.getElem?_set_self (List.getElem?_eq_some_iff.1 hk).1, ?_⟩
            unfold onward
            split
            · rename_i hn
              rw [hn, List.drop_length] at h3
              cases h3
            · exact ⟨h0, h3⟩
        · refine .inl ⟨i, a, ?_, h2, h3⟩
          show (m.jobs.set _ _)[i]? = _
          rw [List.getElem?_set_ne (fun e => hi e.symm)]
          exact h1
      · exact .inr h1
  · rw [hfin]
    rcases set_cases ha with ⟨rfl, rfl⟩ | ⟨hi, ha⟩
    · rw [onward_writes]
      exact h.wvals i j hk h0
    · exact h.wvals i a ha h2
  · have e : hist { m with vars := m.vars.set (wx (atW j)) { vAt m.vars (wx (atW j)) with val := (atW j).f1 }, jobs := m.jobs.set k (onward j 3) } = hist m := hist_set m k (onward j 3) hk (onward_reads _ _) (onward_writes _ _) _ m.decided
    rw [e]
    simpa using h.leg

theorem Inv.unlock {m : Mach} (h : Inv m) {k : Nat} {j : Job} (hk : m.jobs[k]? = some j) (h0 : j.state = 3) :
    Inv { m with vars := m.vars.set (wx (atW j)) { vAt m.vars (wx (atW j)) with lock := 0 }, jobs := m.jobs.set k (onward j (endOf j)) } := by
  have hJ := h.job k j hk
  have hnx : j.next < j.writes.length := by have := hJ.st; omega
  have hx : wx (atW j) < m.vars.length := wx_lt (hJ.wr _ (atW_mem hnx))
  have ht : endOf j = 4 ∨ endOf j = 5 := by unfold endOf; split; exact .inr rfl; exact .inl rfl
  have hH := held_free hnx h0 ht
  have hnd : (held j).Nodup := by
    have : held j = (j.writes.drop j.next).map wx := by unfold held; simp [h0]
    rw [this, List.map_drop]
    exact (List.drop_sublist _ _).nodup hJ.nodup
  have hself : wx (atW j) ∈ held j := by rw [hH]; exact List.mem_cons_self
  have hnot : wx (atW j) ∉ held (onward j (endOf j)) := by rw [hH] at hnd; exact (List.nodup_cons.1 hnd).1
  have hsub : ∀ x, x ∈ held (onward j (endOf j)) → x ∈ held j := fun x hx => by rw [hH]; exact List.mem_cons_of_mem _ hx
  have hn : ∀ i (a : Job), i ≠ k → m.jobs[i]? = some a → wx (atW j) ∉ held a := fun i a hi ha hx' => hi (h.one ha hk hx' hself)
  have hfin := fin_set m k (onward j (endOf j)) hk (onward_reads _ _) (onward_writes _ _) (m.vars.set (wx (atW j)) { vAt m.vars (wx (atW j)) with lock := 0 }) (by simp)
  have hval : ∀ x, (vAt (m.vars.set (wx (atW j)) { vAt m.vars (wx (atW j)) with lock := 0 }) x).val = (vAt m.vars x).val := fun x => by
    rw [vAt_set _ hx]
    split
    · rename_i e; rw [e]
    · rfl
  refine ⟨by simpa using h.n, by simpa using h.jl, fun i a ha => ?_, fun x hxl => ?_, h.nod, by simpa using h.ids, fun x hxl => ?_, fun i a ha h2 => ?_, ?_⟩
  · rcases set_cases ha with ⟨rfl, rfl⟩ | ⟨hi, ha⟩
    · refine ⟨by rw [onward_writes]; exact hJ.sorted, by rw [onward_reads]; simpa using hJ.rd, by rw [onward_writes]; simpa using hJ.wr, by rw [onward_reads]; exact hJ.lr, by rw [onward_writes]; exact hJ.lw, ?_, fun x hx' => ?_⟩
      · have := hJ.st
        rw [onward_writes]
        unfold onward
        split
        · unfold endOf
          cases hf : j.failed with
          | true => exact .inr (.inr (.inr (.inr (.inr (.inr ⟨by simp, rfl, by simp_all⟩)))))
          | false => exact .inr (.inr (.inr (.inr (.inr (.inl ⟨by simp, rfl, by simp_all⟩)))))
        · cases hf : j.failed with
          | true => exact .inr (.inr (.inr (.inr (.inl ⟨h0, by show j.next + 1 < _; omega, rfl, by simp_all⟩))))
          | false => exact .inr (.inr (.inr (.inl ⟨h0, by show j.next + 1 < _; omega, rfl, by simp_all⟩)))
      · show (vAt (m.vars.set _ _) x).lock = _
        rw [vAt_set _ hx, if_neg (fun e => hnot (by rw [← e]; exact hx'))]
        exact hJ.hl x (hsub x hx')
    · refine (h.job i a ha).keep (by simp) Iff.rfl fun x hx' => ?_
      show (vAt (m.vars.set _ _) x).lock = _
      rw [vAt_set _ hx, if_neg (fun e => hn i a hi ha (by rw [← e]; exact hx'))]
  · show (vAt (m.vars.set _ _) x).lock = 0 ∨ _
    rw [vAt_set _ hx]
    by_cases e : x = wx (atW j)
    · rw [if_pos e]
      exact .inl rfl
    · rw [if_neg e]
      rcases h.free x (by simpa using hxl) with h1 | ⟨i, a, h1, h2, h3⟩
      · exact .inl h1
      · refine .inr ?_
        by_cases hi : i = k
        · subst hi
          rw [hk] at h2
          obtain rfl := Option.some.inj h2
          refine ⟨i, onward j (endOf j), h1, List.getElem?_set_self (List.getElem?_eq_some_iff.1 hk).1, ?_⟩
          rw [hH, List.mem_cons] at h3
          exact h3.resolve_left e
        · exact ⟨i, a, h1, by rw [List.getElem?_set_ne (fun e => hi e.symm)]; exact h2, h3⟩
  · rw [hfin]
    show (∃ _ _, _) ∨ (vAt (m.vars.set _ _) x).val = _
    rw [hval]
    rcases h.vals x (by simpa using hxl) with ⟨i, a, h1, h2, h3⟩ | h1
    · refine .inl ⟨i, a, ?_, h2, h3⟩
      show (m.jobs.set _ _)[i]? = _
      rw [List.getElem?_set_ne (fun e => ?_)]
      · exact h1
      · subst e; rw [hk] at h1; obtain rfl := Option.some.inj h1; omega
    · exact .inr h1
  · rw [hfin]
    rcases set_cases ha with ⟨rfl, rfl⟩ | ⟨hi, ha⟩
    · exfalso
      unfold onward at h2
      split at h2
      · have h2 : endOf j = 2 := h2
        omega
      · have h2 : j.state = 2 := h2
        omega
    · exact h.wvals i a ha h2
  · have e : hist { m with vars := m.vars.set (wx (atW j)) { vAt m.vars (wx (atW j)) with lock := 0 }, jobs := m.jobs.set k (onward j (endOf j)) } = hist m := hist_set m k (onward j (endOf j)) hk (onward_reads _ _) (onward_writes _ _) _ m.decided
    rw [e]
    simpa using h.leg

/-! ### It is decided -/
theorem held_one {j : Job} (h1 : j.state = 1) : held j = j.writes.map wx := by unfold held; simp [h1]
theorem Inv.no {m : Mach} (h : Inv m) {k : Nat} {j : Job} (hk : m.jobs[k]? = some j) (h1 : j.state = 1) : Inv { m with jobs := m.jobs.set k { j with failed := true, state := if j.writes.length = 0 then 5 else 3 } } := by
  have hJ := h.job k j hk
  have hst := hJ.st
  have hfin := fin_set m k { j with failed := true, state := if j.writes.length = 0 then 5 else 3 } hk rfl rfl m.vars rfl
  have hH : held { j with failed := true, state := if j.writes.length = 0 then 5 else 3 } = held j := by
    rw [held_one h1]
    have hn0 : j.next = 0 := by omega
    unfold held
    by_cases hw : j.writes.length = 0
    · have : j.writes = [] := List.eq_nil_of_length_eq_zero hw
      simp [this]
    · simp [hw, hn0]
  refine ⟨h.n, by simpa using h.jl, fun i a ha => ?_, fun x hxl => ?_, h.nod, by simpa using h.ids, fun x hxl => ?_, fun i a ha h2 => ?_, ?_⟩
  · rcases set_cases ha with ⟨rfl, rfl⟩ | ⟨hi, ha⟩
    · refine ⟨hJ.sorted, hJ.rd, hJ.wr, hJ.lr, hJ.lw, ?_, fun x hx' => ?_⟩
      · by_cases hw : j.writes.length = 0
        · exact .inr (.inr (.inr (.inr (.inr (.inr ⟨by simp [hw], rfl, by simp_all⟩)))))
        · exact .inr (.inr (.inr (.inr (.inl ⟨by simp [hw], by show j.next < j.writes.length; omega, rfl, by simp_all⟩))))
      · rw [hH] at hx'
        exact hJ.hl x hx'
    · exact (h.job i a ha).keep rfl Iff.rfl fun x hx' => rfl
  · rcases h.free x hxl with h1 | ⟨i, a, h1, h2, h3⟩
    · exact .inl h1
    · refine .inr ?_
      by_cases hi : i = k
      · subst hi
        rw [hk] at h2
        obtain rfl := Option.some.inj h2
        exact ⟨i, _, h1, List.getElem?_set_self (List.getElem?_eq_some_iff.1 hk).1, by rw [hH]; exact h3⟩
      · exact ⟨i, a, h1, by rw [List.getElem?_set_ne (fun e => hi e.symm)]; exact h2, h3⟩
  · have e : fin { m with jobs := m.jobs.set k { j with failed := true, state := if j.writes.length = 0 then 5 else 3 } } = fin m := hfin
    rw [e]
    rcases h.vals x hxl with ⟨i, a, h3, h2, h4⟩ | h3
    · refine .inl ⟨i, a, ?_, h2, h4⟩
      show (m.jobs.set _ _)[i]? = _
      rw [List.getElem?_set_ne (fun e => ?_)]
      · exact h3
      · subst e; rw [hk] at h3; obtain rfl := Option.some.inj h3; omega
    · exact .inr h3
  · have e : fin { m with jobs := m.jobs.set k { j with failed := true, state := if j.writes.length = 0 then 5 else 3 } } = fin m := hfin
    rw [e]
    rcases set_cases ha with ⟨rfl, rfl⟩ | ⟨hi, ha⟩
    · exfalso
      by_cases hw : j.writes.length = 0 <;> simp [hw] at h2
    · exact h.wvals i a ha h2
  · have e : hist { m with jobs := m.jobs.set k { j with failed := true, state := if j.writes.length = 0 then 5 else 3 } } = hist m := hist_set m k { j with failed := true, state := if j.writes.length = 0 then 5 else 3 } hk rfl rfl m.vars m.decided
    rw [e]
    exact h.leg

/-- What a commit that fits read is what there is. -/
theorem Inv.fits {m : Mach} (h : Inv m) {k : Nat} {j : Job} (hk : m.jobs[k]? = some j) (h1 : j.state = 1) (hf : fitsM m ((k : Int) + 1) j = true) : ∀ s ∈ j.reads, (fin m).getD (wx s) v0 = s.f1 := by
  intro s hs
  have hJ := h.job k j hk
  unfold fitsM at hf
  rw [Bool.not_eq_true', List.any_eq_false] at hf
  have hb := hf s hs
  have hin := hJ.rd s hs
  have hx := wx_lt hin
  unfold badR badV at hb
  have e : m.vars.getD s.f0.toNat zV = vAt m.vars (wx s) := rfl
  rw [e] at hb
  simp only [Bool.or_eq_true, Bool.and_eq_true, Bool.not_eq_true', bne_iff_ne, ne_eq, not_or, not_and, Bool.and_eq_false_imp, beq_iff_eq, Bool.not_eq_false, Decidable.not_not] at hb
  obtain ⟨hb1, hb2⟩ := hb
  have hv : (vAt m.vars (wx s)).val = s.f1 := by
    have h3 : (vAt m.vars (wx s)).val.f0 = s.f1.f0 ∧ (vAt m.vars (wx s)).val.f1 = s.f1.f1 := by simpa using hb2
    cases hq : (vAt m.vars (wx s)).val
    cases hr : s.f1
    rw [hq, hr] at h3
    simp at h3
    rw [h3.1, h3.2]
  rcases h.vals (wx s) hx with ⟨i, a, h3, h2, h4⟩ | h3
  · exfalso
    have hh : wx s ∈ held a := by
      have : held a = a.writes.map wx := by unfold held; simp [h2]
      rw [this]
      rw [List.map_drop] at h4
      exact List.mem_of_mem_drop h4
    have hl := (h.job i a h3).hl _ hh
    have := hb1 (by rw [hl]; omega)
    have hik : i = k := by omega
    subst hik
    rw [hk] at h3
    obtain rfl := Option.some.inj h3
    omega
  · rw [← h3, hv]

theorem Inv.yes {m : Mach} (h : Inv m) {k : Nat} {j : Job} (hk : m.jobs[k]? = some j) (h1 : j.state = 1) (hf : fitsM m ((k : Int) + 1) j = true) : Inv { m with decided := m.decided ++ [(k : Int) + 1], jobs := m.jobs.set k { j with state := if j.writes.length = 0 then 4 else 2 } } := by
  have hJ := h.job k j hk
  have hst := hJ.st
  have hfits := h.fits hk h1 hf
  have hni : ((k : Int) + 1) ∉ m.decided := by simp_all
  have hn0 : j.next = 0 := by omega
  have hkl := (List.getElem?_eq_some_iff.1 hk).1
  have hhist : hist { m with decided := m.decided ++ [(k : Int) + 1], jobs := m.jobs.set k { j with state := if j.writes.length = 0 then 4 else 2 } } = hist m ++ [(j.reads, j.writes)] := by
    have := hist_set m k { j with state := if j.writes.length = 0 then 4 else 2 } hk rfl rfl m.vars (m.decided ++ [(k : Int) + 1])
    refine this.trans ?_
    rw [List.map_append, List.map_singleton, jobAt_some hk]
    rfl
  have hfin : fin { m with decided := m.decided ++ [(k : Int) + 1], jobs := m.jobs.set k { j with state := if j.writes.length = 0 then 4 else 2 } } = putAll (fin m) j.writes := by
    unfold fin
    rw [hhist, after_snoc]
  have hH : held { j with state := if j.writes.length = 0 then 4 else 2 } = held j := by
    rw [held_one h1]
    unfold held
    by_cases hw : j.writes.length = 0
    · have : j.writes = [] := List.eq_nil_of_length_eq_zero hw
      simp [this]
    · simp [hw]
  refine ⟨h.n, by simpa using h.jl, fun i a ha => ?_, fun x hxl => ?_, ?_, ?_, fun x hxl => ?_, fun i a ha h2 => ?_, ?_⟩
  · rcases set_cases ha with ⟨rfl, rfl⟩ | ⟨hi, ha⟩
    · refine ⟨hJ.sorted, hJ.rd, hJ.wr, hJ.lr, hJ.lw, ?_, fun x hx' => ?_⟩
      · by_cases hw : j.writes.length = 0
        · exact .inr (.inr (.inr (.inr (.inr (.inl ⟨by simp [hw], by simp_all, by simp⟩)))))
        · exact .inr (.inr (.inl ⟨by simp [hw], by show j.next < j.writes.length; omega, by simp_all, by simp⟩))
      · rw [hH] at hx'
        exact hJ.hl x hx'
    · refine (h.job i a ha).keep rfl ?_ fun x hx' => rfl
      show (i : Int) + 1 ∈ m.decided ++ [(k : Int) + 1] ↔ _
      rw [List.mem_append, List.mem_singleton]
      constructor
      · rintro (h | h)
        · exact h
        · omega
      · exact .inl
  · rcases h.free x hxl with h1 | ⟨i, a, h1, h2, h3⟩
    · exact .inl h1
    · refine .inr ?_
      by_cases hi : i = k
      · subst hi
        rw [hk] at h2
        obtain rfl := Option.some.inj h2
        exact ⟨i, _, h1, List.getElem?_set_self hkl, by rw [hH]; exact h3⟩
      · exact ⟨i, a, h1, by rw [List.getElem?_set_ne (fun e => hi e.symm)]; exact h2, h3⟩
  · show (m.decided ++ [(k : Int) + 1]).Nodup
    rw [List.nodup_append]
    exact ⟨h.nod, by simp, fun a ha b hb => by rw [List.mem_singleton] at hb; subst hb; exact fun e => hni (e ▸ ha)⟩
  · intro id hid
    have hid : id ∈ m.decided ++ [(k : Int) + 1] := hid
    rw [List.mem_append, List.mem_singleton] at hid
    show _ ∧ id ≤ ((m.jobs.set _ _).length : Int)
    rw [List.length_set]
    rcases hid with h1 | h1
    · exact h.ids id h1
    · omega
  · rw [hfin]
    by_cases hx : x ∈ j.writes.map wx
    · left
      refine ⟨k, _, List.getElem?_set_self hkl, ?_, ?_⟩
      · have : j.writes.length ≠ 0 := fun e => by rw [List.eq_nil_of_length_eq_zero e] at hx; cases hx
        simp [this]
      · show x ∈ (j.writes.drop j.next).map wx
        rw [hn0]
        exact hx
    · rw [putAll_other _ _ _ hx]
      rcases h.vals x hxl with ⟨i, a, h3, h2, h4⟩ | h3
      · refine .inl ⟨i, a, ?_, h2, h4⟩
        show (m.jobs.set _ _)[i]? = _
        rw [List.getElem?_set_ne (fun e => ?_)]
        · exact h3
        · subst e; rw [hk] at h3; obtain rfl := Option.some.inj h3; omega
      · exact .inr h3
  · rw [hfin]
    rcases set_cases ha with ⟨rfl, rfl⟩ | ⟨hi, ha⟩
    · intro s hs
      exact putAll_mem _ hJ.nodup _ s hs (by rw [fin_len]; exact wx_lt (hJ.wr s hs))
    · intro s hs
      have hh : wx s ∈ held a := by
        have : held a = a.writes.map wx := by unfold held; simp [h2]
        rw [this]
        exact List.mem_map_of_mem hs
      rw [putAll_other _ _ _ (fun hx => hi (h.one ha hk hh (by rw [held_one h1]; exact hx)))]
      exact h.wvals i a ha h2 s hs
  · rw [hhist]
    exact legal_snoc _ _ _ h.leg hfits
end Go.Proofs.Ytkecbdeekpbbjaa.Q

/-! What a machine of commits keeps: any step, any start; how much is left to do; nobody stands still. No walk. -/
namespace Go.Proofs.Ytkecbdeekpbbjaa.Q
open Go.RowKit Go.Lib Go.Proofs.Ytkecbdeekpbbjaa Go.Proofs.YtkecbdeekpbbjaaW.PrintWords Go.Proofs.YtkecbdeekpbbjaaW.PrintLast Go.Proofs.YtkecbdeekpbbjaaW.PrintMore
set_option linter.unusedVariables false
set_option linter.unusedSimpArgs false

theorem nodup_len : ∀ (n : Nat) (l : List Nat), l.Nodup → (∀ x ∈ l, x < n) → l.length ≤ n
  | 0, l, _, h => by
    cases l with
    | nil => simp
    | cons a l => have := h a List.mem_cons_self; omega
  | n + 1, l, hd, h => by
    have h1 := nodup_len n (l.erase n) (hd.erase n) (fun x hx => by
      have := (List.Nodup.mem_erase_iff hd).1 hx
      have := h x this.2
      omega)
    rw [List.length_erase] at h1
    split at h1 <;> omega
theorem Inv.mok {m : Mach} (h : Inv m) : MOk m := by
  have hd : m.decided.length ≤ m.jobs.length + 1 := by
    have h1 : (m.decided.map Int.toNat).Nodup := by
      rw [List.nodup_iff_pairwise_ne, List.pairwise_map]
      refine List.Pairwise.imp_of_mem ?_ (List.nodup_iff_pairwise_ne.1 h.nod)
      intro a b ha hb hab e
      have := h.ids a ha
      have := h.ids b hb
      exact hab (by omega)
    have h2 := nodup_len (m.jobs.length + 1) (m.decided.map Int.toNat) h1 (fun x hx => by
      obtain ⟨a, ha, rfl⟩ := List.mem_map.1 hx
      have := h.ids a ha
      omega)
    simpa using h2
  refine ⟨by have := h.n; omega, by have := h.jl; omega, by have := h.jl; omega, fun j hj => ?_⟩
  obtain ⟨k, hk⟩ := List.getElem?_of_mem hj
  have hJ := h.job k j hk
  exact ⟨hJ.rd, hJ.wr, fun hs => by have := hJ.st; omega, by have := hJ.lr; omega, by have := hJ.lw; omega⟩

/-- How much is left of a commit. -/
def left (j : Job) : Nat := if j.state = 0 then (j.writes.length - j.next) + 1 + 2 * j.writes.length else if j.state = 1 then 1 + 2 * j.writes.length else if j.state = 2 then (j.writes.length - j.next) + j.writes.length else if j.state = 3 then j.writes.length - j.next else 0
def mu (m : Mach) : Nat := (m.jobs.map left).sum
theorem sum_set : ∀ (l : List Nat) (k v a : Nat), l[k]? = some a → (l.set k v).sum + a = l.sum + v
  | [], k, v, a, h => by cases h
  | b :: l, 0, v, a, h => by
    have : b = a := by simpa using h
    subst this
    simp; omega
  | b :: l, k + 1, v, a, h => by
    have := sum_set l k v a (by simpa using h)
    simp; omega
theorem mu_set (m : Mach) (k : Nat) (j j' : Job) (hk : m.jobs[k]? = some j) (hl : left j' < left j) (vars : List Vr) (dec : List Int) : mu { m with vars := vars, jobs := m.jobs.set k j', decided := dec } < mu m := by
  unfold mu
  simp only [List.map_set]
  have := sum_set (m.jobs.map left) k (left j') (left j) (by rw [List.getElem?_map, hk]; rfl)
  omega

/-- What stays while a machine goes. -/
structure Ran (m m' : Mach) : Prop where
  inv : Inv m'
  vl : m'.vars.length = m.vars.length
  jl : m'.jobs.length = m.jobs.length
  job : ∀ id, (jobAt m' id).reads = (jobAt m id).reads ∧ (jobAt m' id).writes = (jobAt m id).writes
  dec : ∃ l, m'.decided = m.decided ++ l
theorem Ran.refl {m : Mach} (h : Inv m) : Ran m m := ⟨h, rfl, rfl, fun _ => ⟨rfl, rfl⟩, [], by simp⟩
theorem Ran.trans {a b c : Mach} (h : Ran a b) (k : Ran b c) : Ran a c := ⟨k.inv, k.vl.trans h.vl, k.jl.trans h.jl, fun id => ⟨(k.job id).1.trans (h.job id).1, (k.job id).2.trans (h.job id).2⟩, by obtain ⟨l, hl⟩ := h.dec; obtain ⟨l', hl'⟩ := k.dec; exact ⟨l ++ l', by rw [hl', hl, List.append_assoc]⟩⟩

/-- A step that is refused changes nothing; any other one leaves less to do. -/
def Stepped (m : Mach) (r : Mach × Int × Int) : Prop := Ran m r.1 ∧ ((r.2.2 = 0 ∧ mu r.1 < mu m) ∨ ((r.2.2 = 3 ∨ r.2.2 = 6 ∨ r.2.2 = 10) ∧ r.1 = m))
theorem ran_set {m : Mach} {k : Nat} {j j' : Job} (hk : m.jobs[k]? = some j) (hr : j'.reads = j.reads) (hw : j'.writes = j.writes) (vars : List Vr) (hv : vars.length = m.vars.length) (dec : List Int) (hd : ∃ l, dec = m.decided ++ l) (h : Inv { m with vars := vars, jobs := m.jobs.set k j', decided := dec }) : Ran m { m with vars := vars, jobs := m.jobs.set k j', decided := dec } :=
  ⟨h, hv, by simp, fun id => jobAt_set m k j' hk hr hw vars dec id, hd⟩
theorem Inv.step {m : Mach} (h : Inv m) (id : Int) : Stepped m (stepM m id) := by
  unfold stepM
  cases hj : getJob m id with
  | none => exact ⟨Ran.refl h, .inr ⟨.inl rfl, rfl⟩⟩
  | some j =>
    obtain ⟨k, rfl, hk⟩ := getJob_some hj
    show Stepped m (stepJ m ((k : Int) + 1) (((k : Int) + 1 - 1).toNat) j)
    rw [show ((k : Int) + 1 - 1).toNat = k by omega]
    have hJ := h.job k j hk
    have hst := hJ.st
    unfold stepJ
    by_cases h0 : j.state = 0
    · rw [if_pos h0]
      have hnx : j.next < j.writes.length := by omega
      by_cases hl : (varAt m (atW j).f0).lock ≠ 0
      · rw [if_pos hl]
        exact ⟨Ran.refl h, .inr ⟨.inr (.inr rfl), rfl⟩⟩
      · rw [if_neg hl]
        have hl' : (vAt m.vars (wx (atW j))).lock = 0 := Decidable.not_not.1 hl
        refine ⟨ran_set hk (onward_reads _ _) (onward_writes _ _) _ (by simp [putVar]) m.decided ⟨[], by simp⟩ (h.lock hk h0 hl'), .inl ⟨rfl, mu_set m k j _ hk ?_ _ m.decided⟩⟩
        unfold onward
        split
        · unfold left; simp [h0]; omega
        · unfold left; simp [h0]; omega
    rw [if_neg h0]
    by_cases h1 : j.state = 1
    · rw [if_pos h1]
      unfold decideM
      cases hf : fitsM m ((k : Int) + 1) j with
      | true =>
        rw [if_pos rfl]
        refine ⟨ran_set (j' := { j with state := if j.writes.length = 0 then 4 else 2 }) hk rfl rfl m.vars rfl (m.decided ++ [(k : Int) + 1]) ⟨_, rfl⟩ (h.yes hk h1 hf), .inl ⟨rfl, mu_set m k j _ hk ?_ m.vars _⟩⟩
        by_cases hw : j.writes.length = 0
        · unfold left; simp [h1, hw]
        · unfold left; simp [h1, hw]; omega
      | false =>
        rw [if_neg (by decide)]
        refine ⟨ran_set (j' := { j with failed := true, state := if j.writes.length = 0 then 5 else 3 }) hk rfl rfl m.vars rfl m.decided ⟨[], by simp⟩ (h.no hk h1), .inl ⟨rfl, mu_set m k j _ hk ?_ m.vars m.decided⟩⟩
        by_cases hw : j.writes.length = 0
        · unfold left; simp [h1, hw]
        · unfold left; simp [h1, hw]; omega
    rw [if_neg h1]
    by_cases h2 : j.state = 2
    · rw [if_pos h2]
      have hnx : j.next < j.writes.length := by omega
      refine ⟨ran_set hk (onward_reads _ _) (onward_writes _ _) _ (by simp [putVar]) m.decided ⟨[], by simp⟩ (h.put hk h2), .inl ⟨rfl, mu_set m k j _ hk ?_ _ m.decided⟩⟩
      unfold onward
      split
      · unfold left; simp [h2]; omega
      · unfold left; simp [h2]; omega
    rw [if_neg h2]
    by_cases h3 : j.state = 3
    · rw [if_pos h3]
      have hnx : j.next < j.writes.length := by omega
      have ht : endOf j = 4 ∨ endOf j = 5 := by unfold endOf; split; exact .inr rfl; exact .inl rfl
      refine ⟨ran_set hk (onward_reads _ _) (onward_writes _ _) _ (by simp [putVar]) m.decided ⟨[], by simp⟩ (h.unlock hk h3), .inl ⟨rfl, mu_set m k j _ hk ?_ _ m.decided⟩⟩
      unfold onward
      split
      · unfold left; rcases ht with e | e <;> simp [h3, e] <;> omega
      · unfold left; simp [h3]; omega
    rw [if_neg h3]
    exact ⟨Ran.refl h, .inr ⟨.inr (.inl rfl), rfl⟩⟩

/-- It is over. -/
def isOver (j : Job) : Prop := j.state = 4 ∨ j.state = 5
/-- As long as one is not over, one of them can do a step. -/
theorem Inv.goes {m : Mach} (h : Inv m) {k : Nat} {j : Job} (hk : m.jobs[k]? = some j) (hno : ¬ isOver j) : ∃ (i : Nat) (a : Job), m.jobs[i]? = some a ∧ ¬ isOver a ∧ (stepM m ((i : Int) + 1)).2.2 = 0 := by
  -- by what is waited for, the greatest first
  suffices H : ∀ (d : Nat) (k : Nat) (j : Job), m.jobs[k]? = some j → ¬ isOver j → (j.state = 0 → m.vars.length ≤ wx (atW j) + d) → ∃ (i : Nat) (a : Job), m.jobs[i]? = some a ∧ ¬ isOver a ∧ (stepM m ((i : Int) + 1)).2.2 = 0 from
    H m.vars.length k j hk hno (fun _ => by omega)
  intro d
  induction d with
  | zero =>
    intro k j hk hno hw
    have hJ := h.job k j hk
    have hst := hJ.st
    have hs : stepM m ((k : Int) + 1) = stepJ m ((k : Int) + 1) k j := by
      unfold stepM getJob
      rw [if_pos (by omega), show ((k : Int) + 1 - 1).toNat = k by omega, hk]
    by_cases h0 : j.state = 0
    · have hnx : j.next < j.writes.length := by omega
      have := wx_lt (hJ.wr _ (atW_mem hnx))
      have := hw h0
      omega
    · refine ⟨k, j, hk, hno, ?_⟩
      rw [hs]
      unfold stepJ
      unfold isOver at hno
      rw [if_neg h0]
      split
      · rfl
      · split
        · rfl
        · split
          · rfl
          · omega
  | succ d ih =>
    intro k j hk hno hw
    have hJ := h.job k j hk
    have hst := hJ.st
    have hs : stepM m ((k : Int) + 1) = stepJ m ((k : Int) + 1) k j := by
      unfold stepM getJob
      rw [if_pos (by omega), show ((k : Int) + 1 - 1).toNat = k by omega, hk]
    by_cases h0 : j.state = 0
    · have hnx : j.next < j.writes.length := by omega
      have hx := wx_lt (hJ.wr _ (atW_mem hnx))
      by_cases hl : (varAt m (atW j).f0).lock ≠ 0
      · rcases h.free _ hx with h1 | ⟨i, a, h1, h2, h3⟩
        · exact absurd h1 hl
        · have hA := h.job i a h2
          have hsa := hA.st
          refine ih i a h2 ?_ ?_
          · intro ho
            unfold isOver at ho
            unfold held at h3
            have e0 : ¬ a.state = 0 := by omega
            have e1 : ¬ (a.state = 1 ∨ a.state = 2) := by omega
            have e3 : ¬ a.state = 3 := by omega
            rw [if_neg e0, if_neg e1, if_neg e3] at h3
            cases h3
          · intro ha0
            have hna : a.next < a.writes.length := by omega
            have h4 : wx (atW j) < wx (atW a) := by
              have e : held a = (a.writes.take a.next).map wx := by unfold held; rw [if_pos ha0]
              rw [e] at h3
              have hp := hA.sorted
              have e2 : a.writes = a.writes.take a.next ++ a.writes.drop a.next := (List.take_append_drop _ _).symm
              rw [e2, List.map_append, List.pairwise_append] at hp
              exact hp.2.2 _ h3 _ (by rw [drop_atW hna]; exact List.mem_cons_self)
            have := hw h0
            omega
      · refine ⟨k, j, hk, hno, ?_⟩
        rw [hs]
        unfold stepJ
        rw [if_pos h0, if_neg hl]
    · refine ⟨k, j, hk, hno, ?_⟩
      rw [hs]
      unfold stepJ
      unfold isOver at hno
      rw [if_neg h0]
      split
      · rfl
      · split
        · rfl
        · split
          · rfl
          · omega
end Go.Proofs.Ytkecbdeekpbbjaa.Q

/-! Commits are started: what a machine keeps. No walk. -/
namespace Go.Proofs.Ytkecbdeekpbbjaa.Q
open Go.RowKit Go.Lib Go.Proofs.Ytkecbdeekpbbjaa Go.Proofs.YtkecbdeekpbbjaaW.PrintWords Go.Proofs.YtkecbdeekpbbjaaW.PrintLast Go.Proofs.YtkecbdeekpbbjaaW.PrintMore
set_option linter.unusedVariables false
set_option linter.unusedSimpArgs false

theorem mem_writesL {t : List S54} {s : S54} (h : s ∈ writesL t) : s ∈ t ∧ s.f2 = true ∧ 0 ≤ s.f0 ∧ s.f0 < 64 := by
  have h1 := (mem_listOf (good_writes t)).1 h
  have : ∀ (l : List S54) (f : Int → Option S54), (∀ x s, f x = some s → s ∈ t ∧ s.f2 = true ∧ 0 ≤ s.f0 ∧ s.f0 < 64) → (∀ s ∈ l, s ∈ t) → ∀ x s, l.foldl putW f x = some s → s ∈ t ∧ s.f2 = true ∧ 0 ≤ s.f0 ∧ s.f0 < 64 := by
    intro l
    induction l with
    | nil => intro f hf _ x s h; exact hf x s h
    | cons a l ih =>
      intro f hf hl x s h
      refine ih (putW f a) (fun y u hu => ?_) (fun u hu => hl u (List.mem_cons_of_mem _ hu)) x s h
      unfold putW at hu
      split at hu
      · rename_i hc
        have hu : (if y = a.f0 then some a else f y) = some u := hu
        split at hu
        · cases hu; exact ⟨hl a List.mem_cons_self, hc⟩
        · exact hf y u hu
      · exact hf y u hu
  exact this t _ (fun x s h => by cases h) (fun s hs => hs) _ _ h1
theorem mem_rz {zs : List S54} {p : Nat × S54} (h : p ∈ rz zs) : p.2 ∈ zs := by
  unfold rz at h
  obtain ⟨j, hj, rfl⟩ := List.mem_map.1 h
  have hj := List.mem_range.1 hj
  show zs.getD (zs.length - 1 - j) z54 ∈ zs
  rw [List.getD_eq_getElem?_getD, List.getElem?_eq_getElem (by omega)]
  exact List.getElem_mem _
theorem mem_readsL {t : List S54} {s : S54} (h : s ∈ readsL t) : s ∈ t ∧ s.f2 = false ∧ 0 ≤ s.f0 ∧ s.f0 < 64 := by
  have h1 := (mem_listOf (good_reads (rz t))).1 h
  have : ∀ (l : List (Nat × S54)) (f : Int → Option S54), (∀ x s, f x = some s → s ∈ t ∧ s.f2 = false ∧ 0 ≤ s.f0 ∧ s.f0 < 64) → (∀ p ∈ l, p.2 ∈ t) → ∀ x s, l.foldl (fun f p => putR f p.2) f x = some s → s ∈ t ∧ s.f2 = false ∧ 0 ≤ s.f0 ∧ s.f0 < 64 := by
    intro l
    induction l with
    | nil => intro f hf _ x s h; exact hf x s h
    | cons a l ih =>
      intro f hf hl x s h
      refine ih (putR f a.2) (fun y u hu => ?_) (fun u hu => hl u (List.mem_cons_of_mem _ hu)) x s h
      unfold putR at hu
      split at hu
      · rename_i hc
        have hu : (if y = a.2.f0 then some a.2 else f y) = some u := hu
        split at hu
        · cases hu; exact ⟨hl a List.mem_cons_self, hc⟩
        · exact hf y u hu
      · exact hf y u hu
  refine this (rz t) _ (fun x s h => by cases h) (fun p hp => ?_) _ _ h1
  exact mem_rz hp
theorem mem_len {l t : List S54} (hd : l.Pairwise fun a b => a.f0 < b.f0) (h : ∀ s ∈ l, s ∈ t) : l.length ≤ t.length := by
  induction l generalizing t with
  | nil => simp
  | cons a l ih =>
    rw [List.pairwise_cons] at hd
    obtain ⟨i, hi⟩ := List.getElem?_of_mem (h a List.mem_cons_self)
    have hl := (List.getElem?_eq_some_iff.1 hi).1
    have := ih (t := t.eraseIdx i) hd.2 (fun s hs => by
      have hs' := h s (List.mem_cons_of_mem _ hs)
      obtain ⟨k, hk⟩ := List.getElem?_of_mem hs'
      have hne : k ≠ i := by
        rintro rfl
        rw [hi] at hk
        cases hk
        have := hd.1 _ hs
        omega
      rcases Nat.lt_or_ge k i with h1 | h1
      · exact List.mem_of_getElem? (show (t.eraseIdx i)[k]? = some s by rw [List.getElem?_eraseIdx_of_lt h1]; exact hk)
      · obtain ⟨k', rfl⟩ : ∃ q, k = q + 1 := ⟨k - 1, by omega⟩
        exact List.mem_of_getElem? (show (t.eraseIdx i)[k']? = some s by rw [List.getElem?_eraseIdx_of_ge (by omega)]; exact hk))
    rw [List.length_eraseIdx_of_lt hl] at this
    simp only [List.length_cons]
    omega
theorem writesL_sorted (t : List S54) : (writesL t).Pairwise fun a b => a.f0 < b.f0 := sorted_listOf (good_writes t)
theorem readsL_sorted (t : List S54) : (readsL t).Pairwise fun a b => a.f0 < b.f0 := sorted_listOf (good_reads (rz t))
theorem writesL_len (t : List S54) : (writesL t).length ≤ t.length := mem_len (writesL_sorted t) fun s hs => (mem_writesL hs).1
theorem sorted_wx {l : List S54} (h : l.Pairwise fun a b => a.f0 < b.f0) (h0 : ∀ s ∈ l, 0 ≤ s.f0) : (l.map wx).Pairwise (· < ·) := by
  rw [List.pairwise_map]
  refine List.Pairwise.imp_of_mem ?_ h
  intro a b ha hb hab
  have := h0 a ha
  unfold wx
  omega

theorem newS_vars (n : Nat) : (newS n).vars = List.replicate n vr0 := rfl
theorem vAt_new {n x : Nat} (h : x < n) : vAt (newS n).vars x = vr0 := by
  rw [newS_vars]
  unfold vAt
  rw [List.getD_eq_getElem?_getD, List.getElem?_replicate, if_pos h]
  rfl
theorem Inv.new {n : Nat} (h : n ≤ 64) : Inv (newS n) := by
  refine ⟨by rw [newS_vars]; simpa using h, by simp [newS], fun k j hk => by simp [newS] at hk, fun x hx => ?_, by simp [newS], fun id hid => by simp [newS] at hid, fun x hx => ?_, fun k j hk => by simp [newS] at hk, ?_⟩
  · rw [newS_vars, List.length_replicate] at hx
    rw [vAt_new hx]
    exact .inl rfl
  · rw [newS_vars, List.length_replicate] at hx
    right
    rw [vAt_new hx]
    have : fin (newS n) = List.replicate n v0 := by
      unfold fin hist zeros
      rw [newS_vars, List.length_replicate]
      rfl
    rw [this, List.getD_eq_getElem?_getD, List.getElem?_replicate, if_pos hx]
    rfl
  · exact trivial
/-- Is one of its steps of no variable? -/
def farT (n : Nat) (t : List S54) : Bool := (readsL t ++ writesL t).any fun s => decide (s.f0 ≥ n)
theorem startS_eq (m : Mach) (t : List S54) : startS m t = if farT m.vars.length t then (m, 0, 2) else if 200 ≤ m.jobs.length then (m, 0, 4) else ({ m with jobs := m.jobs ++ [jobOf t] }, (m.jobs.length : Int) + 1, 0) := by
  unfold startS farT
  rw [List.any_append]
  rfl
theorem jobAt_old (m : Mach) (l : List Job) {id : Int} (h : id ≤ m.jobs.length) (h1 : 1 ≤ id) : jobAt { m with jobs := m.jobs ++ l } id = jobAt m id := by
  unfold jobAt
  rw [List.getD_eq_getElem?_getD, List.getD_eq_getElem?_getD, List.getElem?_append_left (by omega)]
theorem Inv.start {m : Mach} (h : Inv m) (t : List S54) : Inv (startS m t).1 := by
  rw [startS_eq]
  cases hf : farT m.vars.length t with
  | true => exact h
  | false =>
    rw [if_neg (by decide)]
    by_cases hj : 200 ≤ m.jobs.length
    · rw [if_pos hj]; exact h
    · rw [if_neg hj]
      have hin : ∀ s, s ∈ readsL t ∨ s ∈ writesL t → inR m.vars.length s := fun s hs => by
        unfold farT at hf
        rw [List.any_eq_false] at hf
        have h1 := hf s (List.mem_append.2 hs)
        have h2 : ¬ s.f0 ≥ m.vars.length := fun e => h1 (decide_eq_true e)
        rcases hs with hs | hs
        · exact ⟨(mem_readsL hs).2.2.1, by omega⟩
        · exact ⟨(mem_writesL hs).2.2.1, by omega⟩
      have hcase : ∀ {k : Nat} {j : Job}, (m.jobs ++ [jobOf t])[k]? = some j → (k = m.jobs.length ∧ j = jobOf t) ∨ m.jobs[k]? = some j := fun {k j} hk => by
        rcases Nat.lt_or_ge k m.jobs.length with hl | hl
        · rw [List.getElem?_append_left hl] at hk; exact .inr hk
        · rw [List.getElem?_append_right hl] at hk
          rcases hq : k - m.jobs.length with _ | q
          · rw [hq] at hk
            exact .inl ⟨by omega, by simpa using hk.symm⟩
          · rw [hq] at hk; simp at hk
      have hnew : ((m.jobs.length : Int) + 1) ∉ m.decided := fun hm => by have := h.ids _ hm; omega
      have hheld : held (jobOf t) = [] ∨ (∀ x ∈ held (jobOf t), (vAt m.vars x).lock = (m.jobs.length : Int) + 1) := by
        left
        unfold held jobOf
        by_cases hw : (writesL t).length = 0
        · have : writesL t = [] := List.eq_nil_of_length_eq_zero hw
          simp [this]
        · simp [hw]
      have hheld : held (jobOf t) = [] := by
        unfold held jobOf
        by_cases hw : (writesL t).length = 0
        · have : writesL t = [] := List.eq_nil_of_length_eq_zero hw
          simp [this]
        · simp [hw]
      have hhist : hist { m with jobs := m.jobs ++ [jobOf t] } = hist m := by
        unfold hist
        refine List.map_congr_left fun id hid => ?_
        have := h.ids id hid
        rw [jobAt_old m _ this.2 this.1]
      have hfin : fin { m with jobs := m.jobs ++ [jobOf t] } = fin m := by
        unfold fin
        rw [hhist]
      refine ⟨h.n, by simp; omega, fun k j hk => ?_, fun x hx => ?_, h.nod, fun id hid => ?_, fun x hx => ?_, fun k j hk h2 => ?_, by rw [hhist]; exact h.leg⟩
      · rcases hcase hk with ⟨rfl, rfl⟩ | hk
        · refine ⟨sorted_wx (writesL_sorted t) fun s hs => (mem_writesL hs).2.2.1, fun s hs => hin s (.inl hs), fun s hs => hin s (.inr hs), listOf_len _, listOf_len _, ?_, fun x hx => by rw [hheld] at hx; cases hx⟩
          unfold jobOf
          by_cases hw : (writesL t).length = 0
          · exact .inr (.inl ⟨by simp [hw], rfl, rfl, hnew⟩)
          · exact .inl ⟨by simp [hw], by show 0 < (writesL t).length; omega, rfl, hnew⟩
        · exact (h.job k j hk).keep rfl Iff.rfl fun x _ => rfl
      · rcases h.free x hx with h1 | ⟨k, j, h1, h2, h3⟩
        · exact .inl h1
        · exact .inr ⟨k, j, h1, by rw [List.getElem?_append_left (List.getElem?_eq_some_iff.1 h2).1]; exact h2, h3⟩
      · have := h.ids id hid
        exact ⟨this.1, by simp; omega⟩
      · rw [hfin]
        rcases h.vals x hx with ⟨k, j, h1, h2, h3⟩ | h1
        · exact .inl ⟨k, j, by rw [List.getElem?_append_left (List.getElem?_eq_some_iff.1 h1).1]; exact h1, h2, h3⟩
        · exact .inr h1
      · rw [hfin]
        rcases hcase hk with ⟨rfl, rfl⟩ | hk
        · exfalso
          unfold jobOf at h2
          by_cases hw : (writesL t).length = 0 <;> simp [hw] at h2
        · exact h.wvals k j hk h2
/-- All are started, one behind the other. -/
def startB (m : Mach) (l : List (List S54)) : Mach := l.foldl (fun m t => (startS m t).1) m
theorem startB_inv {m : Mach} (h : Inv m) (l : List (List S54)) : Inv (startB m l) := by
  induction l generalizing m with
  | nil => exact h
  | cons t l ih => exact ih (h.start t)
theorem startB_eq (l : List (List S54)) : ∀ (m : Mach), m.jobs.length + l.length ≤ 200 → startB m l = { m with jobs := m.jobs ++ (l.filter fun t => !(farT m.vars.length t)).map jobOf } := by
  induction l with
  | nil => intro m _; simp [startB]
  | cons t l ih =>
    intro m hl
    rw [List.length_cons] at hl
    show startB (startS m t).1 l = _
    rw [startS_eq]
    cases hf : farT m.vars.length t with
    | true =>
      rw [if_pos rfl, ih m (by omega), List.filter_cons_of_neg (by simp [hf])]
    | false =>
      rw [if_neg (by decide), if_neg (by omega), List.filter_cons_of_pos (by simp [hf])]
      show startB { m with jobs := m.jobs ++ [jobOf t] } l = _
      rw [ih _ (by simp; omega)]
      simp
theorem mu_jobs (l : List Job) (h : ∀ j ∈ l, left j ≤ 91) : (l.map left).sum ≤ 91 * l.length := by
  induction l with
  | nil => simp
  | cons j l ih =>
    have h1 := h j List.mem_cons_self
    have h2 := ih fun a ha => h a (List.mem_cons_of_mem _ ha)
    rw [List.map_cons, List.sum_cons, List.length_cons]
    omega
end Go.Proofs.Ytkecbdeekpbbjaa.Q
