/- One commit alone in a machine: it goes to its end, and its end is what the values say. No walk. -/
import Derived.Test.YtkecbdeekpbbjaaPureM
namespace Go.Proofs.Ytkecbdeekpbbjaa.Q
open Go.RowKit Go.Lib Go.Proofs.Ytkecbdeekpbbjaa Go.Proofs.YtkecbdeekpbbjaaW.PrintWords Go.Proofs.YtkecbdeekpbbjaaW.PrintLast Go.Proofs.YtkecbdeekpbbjaaW.PrintMore
set_option linter.unusedVariables false
set_option linter.unusedSimpArgs false

/-- What a transaction read is what there is. -/
def okR (t : List S54) (now : List S44) : Prop := ∀ s ∈ readsL t, now.getD (wx s) v0 = s.f1
structure Solo (m : Mach) (k : Nat) (t : List S54) (now : List S44) : Prop where
  inv : Inv m
  jl : m.jobs.length = k + 1
  oth : ∀ (i : Nat) (j : Job), m.jobs[i]? = some j → i ≠ k → isOver j
  job : ∀ (j : Job), m.jobs[k]? = some j → j.reads = readsL t ∧ j.writes = writesL t
  pre : ((k : Int) + 1) ∉ m.decided → fin m = now
  post : ((k : Int) + 1) ∈ m.decided → okR t now ∧ fin m = putAll now (writesL t)
  fail : ∀ (j : Job), m.jobs[k]? = some j → j.failed = true → ¬ okR t now

theorem Solo.set {m : Mach} {k : Nat} {t : List S54} {now : List S44} (h : Solo m k t now) {j j' : Job} (hk : m.jobs[k]? = some j) (hr : j'.reads = j.reads) (hw : j'.writes = j.writes) (hf : j'.failed = true → ¬ okR t now) (vars : List Vr) (hv : vars.length = m.vars.length) (hI : Inv { m with vars := vars, jobs := m.jobs.set k j' }) : Solo { m with vars := vars, jobs := m.jobs.set k j' } k t now := by
  have hfin := fin_set m k j' hk hr hw vars hv
  refine ⟨hI, by simpa using h.jl, fun i a ha hne => ?_, fun a ha => ?_, fun hd => ?_, fun hd => ?_, fun a ha hfa => ?_⟩
  · rcases set_cases ha with ⟨rfl, -⟩ | ⟨hi, ha⟩
    · exact absurd rfl hne
    · exact h.oth i a ha hne
  · rcases set_cases ha with ⟨-, rfl⟩ | ⟨hi, ha⟩
    · rw [hr, hw]; exact h.job j hk
    · exact absurd rfl hi
  · rw [hfin]; exact h.pre hd
  · rw [hfin]; exact h.post hd
  · rcases set_cases ha with ⟨-, rfl⟩ | ⟨hi, ha⟩
    · exact hf hfa
    · exact absurd rfl hi
theorem onward_failed (j : Job) (t : Int) : (onward j t).failed = j.failed := by unfold onward; split <;> rfl
theorem Solo.fits {m : Mach} {k : Nat} {t : List S54} {now : List S44} (h : Solo m k t now) {j : Job} (hk : m.jobs[k]? = some j) (h1 : j.state = 1) (ho : okR t now) : fitsM m ((k : Int) + 1) j = true := by
  have hJ := h.inv.job k j hk
  have hnd : ((k : Int) + 1) ∉ m.decided := by
    rcases hJ.st with ⟨a, -⟩ | ⟨-, -, -, a⟩ | ⟨a, -⟩ | ⟨a, -⟩ | ⟨a, -⟩ | ⟨a, -⟩ | ⟨a, -⟩
    · omega
    · exact a
    · omega
    · omega
    · omega
    · omega
    · omega
  unfold fitsM
  rw [Bool.not_eq_true', List.any_eq_false]
  intro s hs hb
  have hin := hJ.rd s hs
  have hx := wx_lt hin
  have hval : (vAt m.vars (wx s)).val = s.f1 := by
    rcases h.inv.vals (wx s) hx with ⟨i, a, h3, h2, h4⟩ | h3
    · exfalso
      by_cases hi : i = k
      · subst hi
        rw [hk] at h3
        obtain rfl := Option.some.inj h3
        omega
      · have := h.oth i a h3 hi
        unfold isOver at this
        omega
    · rw [h3, h.pre hnd]
      exact ho s (by rw [← (h.job j hk).1]; exact hs)
  have hlock : (vAt m.vars (wx s)).lock = 0 ∨ (vAt m.vars (wx s)).lock = (k : Int) + 1 := by
    rcases h.inv.free (wx s) hx with h1 | ⟨i, a, h1, h2, h3⟩
    · exact .inl h1
    · by_cases hi : i = k
      · subst hi
        exact .inr h1
      · exfalso
        have hov := h.oth i a h2 hi
        unfold isOver at hov
        unfold held at h3
        rw [if_neg (by omega), if_neg (by omega), if_neg (by omega)] at h3
        cases h3
  unfold badR badV at hb
  have e : m.vars.getD s.f0.toNat zV = vAt m.vars (wx s) := rfl
  rw [e, hval] at hb
  rcases hlock with hl | hl <;> rw [hl] at hb <;> simp at hb

theorem Solo.free {m : Mach} {k : Nat} {t : List S54} {now : List S44} (h : Solo m k t now) {j : Job} (hk : m.jobs[k]? = some j) (hno : ¬ isOver j) : (stepM m ((k : Int) + 1)).2.2 = 0 := by
  obtain ⟨i, a, hi, hna, he⟩ := h.inv.goes hk hno
  by_cases hik : i = k
  · subst hik
    exact he
  · exact absurd (h.oth i a hi hik) hna
/-- What a step of it does. -/
theorem Solo.step {m : Mach} {k : Nat} {t : List S54} {now : List S44} (h : Solo m k t now) : Solo (stepM m ((k : Int) + 1)).1 k t now ∧ ((∃ j', (stepM m ((k : Int) + 1)).1.jobs[k]? = some j' ∧ (stepM m ((k : Int) + 1)).2.1 = j'.state ∧ (stepM m ((k : Int) + 1)).2.2 = 0 ∧ mu (stepM m ((k : Int) + 1)).1 < mu m) ∨
    ((stepM m ((k : Int) + 1)).1 = m ∧ (stepM m ((k : Int) + 1)).2.2 = 6 ∧ ∀ j, m.jobs[k]? = some j → isOver j)) := by
  have hkl : k < m.jobs.length := by rw [h.jl]; omega
  obtain ⟨j, hk⟩ : ∃ j, m.jobs[k]? = some j := ⟨_, List.getElem?_eq_getElem hkl⟩
  have hJ := h.inv.job k j hk
  have hst := h.inv.step ((k : Int) + 1)
  have hfr := h.free hk
  have hs : stepM m ((k : Int) + 1) = stepJ m ((k : Int) + 1) k j := by
    unfold stepM getJob
    rw [if_pos (by omega), show ((k : Int) + 1 - 1).toNat = k by omega, hk]
  have hfj : j.failed = true → ¬ okR t now := h.fail j hk
  have hself : ∀ j', (m.jobs.set k j')[k]? = some j' := fun j' => List.getElem?_set_self hkl
  have hmu : ∀ {r : Mach × Int × Int}, Stepped m r → r.2.2 = 0 → mu r.1 < mu m := fun hr h0 => by
    rcases hr.2 with ⟨-, a⟩ | ⟨a, -⟩
    · exact a
    · omega
  by_cases h0 : j.state = 0
  · by_cases hl : (varAt m (atW j).f0).lock ≠ 0
    · have e : stepJ m ((k : Int) + 1) k j = (m, 0, 10) := by unfold stepJ; rw [if_pos h0, if_pos hl]
      have := hfr (by unfold isOver; omega)
      rw [hs, e] at this
      cases this
    · have e : stepJ m ((k : Int) + 1) k j = ({ m with vars := putVar m (atW j).f0 { varAt m (atW j).f0 with lock := (k : Int) + 1 }, jobs := m.jobs.set k (onward j 1) }, (onward j 1).state, 0) := by unfold stepJ; rw [if_pos h0, if_neg hl]
      rw [hs, e] at hst ⊢
      exact ⟨h.set hk (onward_reads _ _) (onward_writes _ _) (by rw [onward_failed]; exact hfj) _ (by simp [putVar]) hst.1.inv, .inl ⟨_, hself _, rfl, rfl, hmu hst rfl⟩⟩
  by_cases h1 : j.state = 1
  · have e : stepJ m ((k : Int) + 1) k j = (decideM m ((k : Int) + 1) k j, ((decideM m ((k : Int) + 1) k j).jobs.getD k j).state, 0) := by unfold stepJ; rw [if_neg h0, if_pos h1]
    rw [hs, e] at hst ⊢
    have hgs : ∀ j' : Job, (m.jobs.set k j').getD k j = j' := fun j' => by rw [List.getD_eq_getElem?_getD, hself]; rfl
    cases hf : fitsM m ((k : Int) + 1) j with
    | true =>
      have e2 : decideM m ((k : Int) + 1) k j = { m with decided := m.decided ++ [(k : Int) + 1], jobs := m.jobs.set k { j with state := if j.writes.length = 0 then 4 else 2 } } := by unfold decideM; rw [if_pos hf]
      rw [e2] at hst ⊢
      have hnd : ((k : Int) + 1) ∉ m.decided := by
        rcases hJ.st with ⟨a, -⟩ | ⟨-, -, -, a⟩ | ⟨a, -⟩ | ⟨a, -⟩ | ⟨a, -⟩ | ⟨a, -⟩ | ⟨a, -⟩
        · omega
        · exact a
        · omega
        · omega
        · omega
        · omega
        · omega
      have hhist : hist { m with decided := m.decided ++ [(k : Int) + 1], jobs := m.jobs.set k { j with state := if j.writes.length = 0 then 4 else 2 } } = hist m ++ [(j.reads, j.writes)] := by
        refine (hist_set m k { j with state := if j.writes.length = 0 then 4 else 2 } hk rfl rfl m.vars (m.decided ++ [(k : Int) + 1])).trans ?_
        rw [List.map_append, List.map_singleton, jobAt_some hk]
        rfl
      have hfin : fin { m with decided := m.decided ++ [(k : Int) + 1], jobs := m.jobs.set k { j with state := if j.writes.length = 0 then 4 else 2 } } = putAll (fin m) j.writes := by
        unfold fin
        rw [hhist, after_snoc]
      have hfit := h.inv.fits hk h1 hf
      rw [h.pre hnd, (h.job j hk).1] at hfit
      refine ⟨⟨hst.1.inv, by simpa using h.jl, fun i a ha hne => ?_, fun a ha => ?_, fun hd => ?_, fun hd => ?_, fun a ha hfa => ?_⟩, .inl ⟨_, hself _, by rw [hgs], rfl, hmu hst rfl⟩⟩
      · rcases set_cases ha with ⟨rfl, -⟩ | ⟨hi, ha⟩
        · exact absurd rfl hne
        · exact h.oth i a ha hne
      · rcases set_cases ha with ⟨-, rfl⟩ | ⟨hi, ha⟩
        · exact h.job j hk
        · exact absurd rfl hi
      · exact absurd (List.mem_append.2 (.inr (List.mem_singleton.2 rfl))) hd
      · exact ⟨hfit, by rw [hfin, h.pre hnd, (h.job j hk).2]⟩
      · rcases set_cases ha with ⟨-, rfl⟩ | ⟨hi, ha⟩
        · exact hfj hfa
        · exact absurd rfl hi
    | false =>
      have e2 : decideM m ((k : Int) + 1) k j = { m with jobs := m.jobs.set k { j with failed := true, state := if j.writes.length = 0 then 5 else 3 } } := by unfold decideM; rw [hf]; rfl
      rw [e2] at hst ⊢
      refine ⟨h.set (j' := { j with failed := true, state := if j.writes.length = 0 then 5 else 3 }) hk rfl rfl (fun _ ho => ?_) m.vars rfl hst.1.inv, .inl ⟨_, hself _, by rw [hgs], rfl, hmu hst rfl⟩⟩
      have := h.fits hk h1 ho
      rw [hf] at this
      cases this
  by_cases h2 : j.state = 2
  · have e : stepJ m ((k : Int) + 1) k j = ({ m with vars := putVar m (atW j).f0 { varAt m (atW j).f0 with val := ⟨(atW j).f1.f0, (atW j).f1.f1⟩ }, jobs := m.jobs.set k (onward j 3) }, (onward j 3).state, 0) := by unfold stepJ; rw [if_neg h0, if_neg h1, if_pos h2]
    rw [hs, e] at hst ⊢
    exact ⟨h.set hk (onward_reads _ _) (onward_writes _ _) (by rw [onward_failed]; exact hfj) _ (by simp [putVar]) hst.1.inv, .inl ⟨_, hself _, rfl, rfl, hmu hst rfl⟩⟩
  by_cases h3 : j.state = 3
  · have e : stepJ m ((k : Int) + 1) k j = ({ m with vars := putVar m (atW j).f0 { varAt m (atW j).f0 with lock := 0 }, jobs := m.jobs.set k (onward j (endOf j)) }, (onward j (endOf j)).state, 0) := by unfold stepJ; rw [if_neg h0, if_neg h1, if_neg h2, if_pos h3]
    rw [hs, e] at hst ⊢
    exact ⟨h.set hk (onward_reads _ _) (onward_writes _ _) (by rw [onward_failed]; exact hfj) _ (by simp [putVar]) hst.1.inv, .inl ⟨_, hself _, rfl, rfl, hmu hst rfl⟩⟩
  · have e : stepJ m ((k : Int) + 1) k j = (m, j.state, 6) := by unfold stepJ; rw [if_neg h0, if_neg h1, if_neg h2, if_neg h3]
    rw [hs, e]
    refine ⟨h, .inr ⟨rfl, rfl, fun a ha => ?_⟩⟩
    rw [hk] at ha
    obtain rfl := Option.some.inj ha
    have := hJ.st
    unfold isOver
    omega

theorem left_over {j : Job} (h : isOver j) : left j = 0 := by
  unfold isOver at h
  unfold left
  rw [if_neg (by omega), if_neg (by omega), if_neg (by omega), if_neg (by omega)]
theorem left_job {t : List S54} (h : t.length ≤ 30) : left (jobOf t) ≤ 91 := by
  have := writesL_len t
  unfold left jobOf
  by_cases hw : (writesL t).length = 0
  · simp [hw]
  · simp [hw]
    omega
/-- It starts. -/
theorem Solo.start {m : Mach} (h : Inv m) (ho : ∀ (i : Nat) (j : Job), m.jobs[i]? = some j → isOver j) {t : List S54} (hf : farT m.vars.length t = false) (hl : m.jobs.length < 200) (ht : t.length ≤ 30) :
    startS m t = ((startS m t).1, (m.jobs.length : Int) + 1, 0) ∧ Solo (startS m t).1 m.jobs.length t (fin m) ∧ mu (startS m t).1 ≤ 91 ∧ (startS m t).1.vars.length = m.vars.length ∧ (startS m t).1.jobs[m.jobs.length]? = some (jobOf t) := by
  have hI := h.start t
  have e : startS m t = ({ m with jobs := m.jobs ++ [jobOf t] }, (m.jobs.length : Int) + 1, 0) := by rw [startS_eq, hf, if_neg (by decide), if_neg (by omega)]
  rw [e] at hI ⊢
  have hnew : ((m.jobs.length : Int) + 1) ∉ m.decided := fun hm => by have := h.ids _ hm; omega
  have hcase : ∀ {k : Nat} {j : Job}, (m.jobs ++ [jobOf t])[k]? = some j → (k = m.jobs.length ∧ j = jobOf t) ∨ m.jobs[k]? = some j := fun {k j} hk => by
    rcases Nat.lt_or_ge k m.jobs.length with hl | hl
    · rw [List.getElem?_append_left hl] at hk; exact .inr hk
    · rw [List.getElem?_append_right hl] at hk
      rcases hq : k - m.jobs.length with _ | q
      · rw [hq] at hk
        exact .inl ⟨by omega, by simpa using hk.symm⟩
      · rw [hq] at hk; simp at hk
  have hlast : ∀ {j : Job}, (m.jobs ++ [jobOf t])[m.jobs.length]? = some j → j = jobOf t := fun {j} hk => by
    rcases hcase hk with ⟨-, a⟩ | a
    · exact a
    · have := (List.getElem?_eq_some_iff.1 a).1
      omega
  have hfin : fin { m with jobs := m.jobs ++ [jobOf t] } = fin m := by
    unfold fin
    have hhist : hist { m with jobs := m.jobs ++ [jobOf t] } = hist m := by
      unfold hist
      refine List.map_congr_left fun id hid => ?_
      have := h.ids id hid
      rw [jobAt_old m _ this.2 this.1]
    rw [hhist]
  refine ⟨rfl, ⟨hI, by simp, fun i j hi hne => ?_, fun j hj => ?_, fun _ => hfin, fun hd => absurd hd hnew, fun j hj hfa => ?_⟩, ?_, rfl, by rw [List.getElem?_append_right (Nat.le_refl _), Nat.sub_self]; rfl⟩
  · rcases hcase hi with ⟨a, -⟩ | a
    · exact absurd a hne
    · exact ho i j a
  · rw [hlast hj]
    exact ⟨rfl, rfl⟩
  · rw [hlast hj] at hfa
    cases hfa
  · show ((m.jobs ++ [jobOf t]).map left).sum ≤ 91
    have hz : ∀ l : List Job, (∀ j ∈ l, isOver j) → (l.map left).sum = 0 := fun l => by
      induction l with
      | nil => intro _; rfl
      | cons a l ih => intro hall; rw [List.map_cons, List.sum_cons, left_over (hall a List.mem_cons_self), ih fun j hj => hall j (List.mem_cons_of_mem _ hj)]
    rw [List.map_append, List.sum_append, hz m.jobs fun j hj => by obtain ⟨i, hi⟩ := List.getElem?_of_mem hj; exact ho i j hi]
    have := left_job ht
    simp
    omega
/-- It has ended. -/
theorem Solo.done {m : Mach} {k : Nat} {t : List S54} {now : List S44} (h : Solo m k t now) {j : Job} (hk : m.jobs[k]? = some j) (ho : isOver j) : (j.state = 4 ∧ okR t now ∧ fin m = putAll now (writesL t)) ∨ (j.state = 5 ∧ ¬ okR t now ∧ fin m = now) := by
  have hJ := h.inv.job k j hk
  unfold isOver at ho
  rcases hJ.st with ⟨a, -⟩ | ⟨a, -⟩ | ⟨a, -⟩ | ⟨a, -⟩ | ⟨a, -⟩ | ⟨a, -, b⟩ | ⟨a, b, c⟩
  · omega
  · omega
  · omega
  · omega
  · omega
  · exact .inl ⟨a, h.post b⟩
  · exact .inr ⟨a, h.fail j hk b, h.pre c⟩
theorem Solo.over {m : Mach} {k : Nat} {t : List S54} {now : List S44} (h : Solo m k t now) {j : Job} (hk : m.jobs[k]? = some j) (ho : isOver j) : ∀ (i : Nat) (a : Job), m.jobs[i]? = some a → isOver a := fun i a ha => by
  by_cases hi : i = k
  · subst hi
    rw [hk] at ha
    obtain rfl := Option.some.inj ha
    exact ho
  · exact h.oth i a ha hi
theorem left_pos {m : Mach} {k : Nat} {j : Job} (h : Inv m) (hk : m.jobs[k]? = some j) (hz : mu m = 0) : isOver j := by
  have hJ := h.job k j hk
  have : left j ≤ mu m := by
    unfold mu
    have := sum_set (m.jobs.map left) k 0 (left j) (by rw [List.getElem?_map, hk]; rfl)
    omega
  have h0 : left j = 0 := by omega
  unfold left at h0
  unfold isOver
  have := hJ.st
  split at h0
  · omega
  · split at h0
    · omega
    · split at h0
      · omega
      · split at h0
        · omega
        · omega
end Go.Proofs.Ytkecbdeekpbbjaa.Q
