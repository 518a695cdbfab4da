/- slices.Repeat of a row of one variable, by hand. -/
import Derived.Test.YtkecbdeekpbbjaaHIter
import Derived.Laws.CopyOwn
import Derived.Deep.RegionLaw
import Derived.OwnWalk
import Derived.Test.YtkecbdeekpbbjaaQ1
namespace Go.Proofs.Ytkecbdeekpbbjaa.Q
open Go.RowKit Go.Lib Go.Proofs.Ytkecbdeekpbbjaa Go.Proofs.YtkecbdeekpbbjaaW.PrintWords Go.Proofs.YtkecbdeekpbbjaaW.PrintLast Go.Proofs.YtkecbdeekpbbjaaW.PrintMore
set_option linter.unusedVariables false
set_option linter.unusedSimpArgs false

section
variable {P : Program}
/-- copy, of elements of any size, into a block of one's own. -/
theorem run_copy_sized (w : World) (dT sT ty elem : TypeId) (size g o dLen dCap : Nat) (a : Addr) (sLen sCap : Nat) (cur : Array Value) (t : TypeId) (cs : List Value)
    (hu : P.underlying dT = some (.slice elem)) (hs : (P.info? elem).map (·.size) = some size)
    (hg : w.heap[g]? = some (.cells cur t (0, 0))) (hn : cs.length = Nat.min sLen dLen * size)
    (hsrc : ∀ j v, cs[j]? = some v → w.cell? (a.add j) = some v) (hfit : o + cs.length ≤ cur.size) (h1 : ∀ v ∈ cs, v.oneCell' = true) :
    (Builtin.copy_ #[dT, sT] ty #[.slice (some ⟨g, o, none⟩) dLen dCap, .slice (some a) sLen sCap]).run P w =
      .ok (goInt (Nat.min sLen dLen)) (w.setRow g (cur.toList.take o ++ cs ++ cur.toList.drop (o + cs.length)).toArray) := by
  have hl := run_loadCells_list (P := P) w a cs hsrc
  have hst := run_storeCells_at P g o t cs 0 cur w hg (by simpa using hfit) h1
  rw [hn] at hl
  cases hq : P.info? elem with
  | none => simp [hq] at hs
  | some i =>
    have hi : i.size = size := by simpa [hq] using hs
    simp only [Nat.add_zero] at hst
    have hmin : Nat.min dLen sLen = Nat.min sLen dLen := Nat.min_comm _ _
    simp [Builtin.copy_, run_underlying hu, Builtin.lenOf, Builtin.firstCells, sizeOf, typeInfo, hq, hi, hl, hst, hmin]

theorem wpList_copy_sized {w : World} {ops : Array Oper} {rest : List Oper} {o : Oper} {a : Act} {Q : Exit → Act → World → Prop} (hgd : o.guard = none) (d s : Operand) (dT sT : TypeId)
    (ho : o.op = .call { callee := .builtin .copy, args := #[d, s], argTypes := #[dT, sT] }) (elem : TypeId) (size : Nat) (hu : P.underlying dT = some (.slice elem)) (hsz : (P.info? elem).map (·.size) = some size)
    (g off dLen dCap : Nat) (ad : Addr) (sLen sCap : Nat) (hd : a.eval d = .slice (some ⟨g, off, none⟩) dLen dCap) (hs : a.eval s = .slice (some ad) sLen sCap)
    (cur : List Value) (t : TypeId) (hg : w.heap[g]? = some (.cells cur.toArray t (0, 0))) (cs : List Value) (m : Nat) (hm : Nat.min sLen dLen = m) (hn : cs.length = m * size)
    (hsrc : ∀ j v, cs[j]? = some v → w.cell? (ad.add j) = some v) (hfit : off + cs.length ≤ cur.length) (h1 : ∀ v ∈ cs, v.oneCell' = true) (B : Nat) (w0 : World) (hb : Below B w0 w) (hBg : B ≤ g)
    (h : ∀ w', Hid (w'.heap[g]? = some (.cells (splice cur off cs).toArray t (0, 0))) → Below B w0 w' → wpList P ops Q rest (a.put o.dst (goInt m)) w') : wpList P ops Q (o :: rest) a w := by
  refine wpList_plain hgd fun K hK => ?_
  subst hm
  have hrun := run_copy_sized (P := P) w dT sT o.type elem size g off dLen dCap ad sLen sCap cur.toArray t cs hu hsz hg hn hsrc (by simpa using hfit) h1
  unfold Oper.wp
  simp [execOp, ho, resolve, invoke, builtin, hd, hs, hrun, Result.andThen]
  exact hK _ _ (h _ (show _ = _ by simpa [splice] using setRow_heap w g _ _ t _ hg) (below_setRow hb hBg _))

theorem step_copy_sized {ops : Array Oper} {o : Oper} {a : Act} {w : World} {K : Act → World → Prop} {Q : Exit → Act → World → Prop} {E : Prop} (hgd : o.guard = none) (d s : Operand) (dT sT : TypeId)
    (ho : o.op = .call { callee := .builtin .copy, args := #[d, s], argTypes := #[dT, sT] }) (elem : TypeId) (size : Nat) (hu : P.underlying dT = some (.slice elem)) (hsz : (P.info? elem).map (·.size) = some size)
    (g off dLen dCap : Nat) (ad : Addr) (sLen sCap : Nat) (hd : a.eval d = .slice (some ⟨g, off, none⟩) dLen dCap) (hs : a.eval s = .slice (some ad) sLen sCap)
    (cur : List Value) (t : TypeId) (hg : w.heap[g]? = some (.cells cur.toArray t (0, 0))) (cs : List Value) (m : Nat) (hm : Nat.min sLen dLen = m) (hn : cs.length = m * size)
    (hsrc : ∀ j v, cs[j]? = some v → w.cell? (ad.add j) = some v) (hfit : off + cs.length ≤ cur.length) (h1 : ∀ v ∈ cs, v.oneCell' = true) (B : Nat) (w0 : World) (hb : Below B w0 w) (hBg : B ≤ g)
    (h : ∀ w', Hid (w'.heap[g]? = some (.cells (splice cur off cs).toArray t (0, 0))) → Below B w0 w' → K (a.put o.dst (goInt m)) w') :
    if Region.wanted o (yielded ops a.tmps) = true then Oper.wp P o a w K Q else E := by
  have hw : Region.wanted o (yielded ops a.tmps) = true := by simp [Region.wanted, hgd]
  rw [if_pos hw]
  subst hm
  have hrun := run_copy_sized (P := P) w dT sT o.type elem size g off dLen dCap ad sLen sCap cur.toArray t cs hu hsz hg hn hsrc (by simpa using hfit) h1
  unfold Oper.wp
  simp [execOp, ho, resolve, invoke, builtin, hd, hs, hrun, Result.andThen]
  exact h _ (show _ = _ by simpa [splice] using setRow_heap w g _ _ t _ hg) (below_setRow hb hBg _)
end

/-- A variable as it is at first; its cells. -/
def cells0 : List Value := [.int .i64 1, .int .i64 0, .int .i64 0]
def repC (m : Nat) : List Value := (List.replicate m cells0).flatten
theorem repC_len (m : Nat) : (repC m).length = m * 3 := by
  induction m with
  | zero => rfl
  | succ m ih =>
    unfold repC at ih ⊢
    rw [List.replicate_succ, List.flatten_cons, List.length_append, ih, Nat.succ_mul, Nat.add_comm]
    rfl
theorem repC_add (m k : Nat) : repC (m + k) = repC m ++ repC k := by
  unfold repC
  rw [← List.replicate_append_replicate, List.flatten_append]
theorem repC_one (m : Nat) : ∀ u ∈ repC m, u.oneCell' = true := by
  intro u hu
  unfold repC at hu
  rw [List.mem_flatten] at hu
  obtain ⟨l, hl, hu⟩ := hu
  rw [List.eq_of_mem_replicate hl] at hu
  simp [cells0] at hu
  rcases hu with rfl | rfl <;> rfl
theorem mul_one_f : ∀ n : Fin 65, bits_Mul.f 1 (n.val : Int) = some (0, (n.val : Int)) := by decide +kernel

theorem mul_one (n : Nat) (h : n ≤ 64) : bits_Mul.f 1 (n : Int) = some (0, (n : Int)) := mul_one_f ⟨n, by omega⟩
theorem wrap_u_f : ∀ n : Fin 65, IntKind.u64.wrap (n.val : Int) = n.val ∧ IntKind.i64.wrap (n.val : Int) = n.val ∧ wrap64 (n.val : Int) = n.val := by decide +kernel
theorem wrap_u (n : Nat) (h : n ≤ 64) : IntKind.u64.wrap (n : Int) = n ∧ IntKind.i64.wrap (n : Int) = n ∧ wrap64 (n : Int) = n := wrap_u_f ⟨n, by omega⟩

/-- The block: so many cells, of which the first ones are a variable's, over and over. -/
def Filled (w0 : World) (B g n m : Nat) (W : World) : Prop := ∃ cur : List Value, W.heap[g]? = some (.cells cur.toArray 76 (0, 0)) ∧ cur.length = n * 3 ∧ cur.take (m * 3) = repC m ∧ m ≤ n ∧ B ≤ g ∧ Below B w0 W

theorem filled_more {cur : List Value} {n m k : Nat} (hl : cur.length = n * 3) (ht : cur.take (m * 3) = repC m) (hm : m + k ≤ n) : (splice cur (m * 3) (repC k)).length = n * 3 ∧ (splice cur (m * 3) (repC k)).take ((m + k) * 3) = repC (m + k) := by
  refine ⟨by rw [length_splice _ _ _ (by rw [repC_len, hl, ← Nat.add_mul]; exact Nat.mul_le_mul_right _ hm)]; exact hl, ?_⟩
  unfold splice
  rw [ht, ← List.append_assoc, ← repC_add, List.take_append_of_le_length (by rw [repC_len]; exact Nat.le_refl _), List.take_of_length_le (by rw [repC_len]; exact Nat.le_refl _)]

theorem filled_src {cur : List Value} {m k : Nat} (ht : cur.take (m * 3) = repC m) (hk : k ≤ m) : ∀ (j : Nat) (v : Value), (repC k)[j]? = some v → cur[j]? = some v := by
  intro j v hv
  obtain ⟨q, rfl⟩ := Nat.exists_eq_add_of_le hk
  have hj : j < k * 3 := by have := (List.getElem?_eq_some_iff.1 hv).1; rwa [repC_len] at this
  have h2 : (repC (k + q))[j]? = some v := by rw [repC_add, List.getElem?_append_left (by rw [repC_len]; exact hj)]; exact hv
  rw [← ht, List.getElem?_take] at h2
  split at h2
  · exact h2
  · cases h2

theorem own_raw {W : World} {base g n size : Nat} {e : TypeId} {xs : List Value} (h : W.ownsRow base e size (.slice (some ⟨g, 0, none⟩) n n) n xs) : W.heap[g]? = some (.cells xs.toArray e (0, 0)) ∧ base ≤ g ∧ xs.length = n * size := by
  obtain ⟨hl, ⟨h1, _⟩ | ⟨g', cap, cur, he, hb, hh, _, _, hc, ht⟩⟩ := h
  · cases h1
  · injection he with h1 _ h2
    injection h1 with h1
    injection h1 with h1
    subst h1; subst h2
    refine ⟨?_, hb, hl⟩
    rw [hh, ← ht, List.take_of_length_le (by rw [Array.length_toList, hc]; exact Nat.le_refl _)]
theorem raw_own {W : World} {base g n size : Nat} {e : TypeId} {xs : List Value} (hh : W.heap[g]? = some (.cells xs.toArray e (0, 0))) (hb : base ≤ g) (hl : xs.length = n * size) (hn : n ≤ maxLen) : W.ownsRow base e size (.slice (some ⟨g, 0, none⟩) n n) n xs :=
  ⟨hl, .inr ⟨g, n, _, rfl, hb, hh, Nat.le_refl _, hn, by simpa using hl, List.take_of_length_le (by simp [hl])⟩⟩

set_option maxRecDepth 100000 in
set_option maxHeartbeats 2000000 in
theorem repeat_calls (n b : Nat) (hn : n ≤ 64) (w : World) (hb : w.heap[b]? = some (.cells cells0.toArray 76 (0, 0))) :
    Calls Try.prog 39 #[.slice (some ⟨b, 0, none⟩) 1 1, .int .i64 n] w fun e w' => ∃ v, e = .returned v ∧ w'.ownsRow w.heap.size 76 3 v n (repC n) ∧ Below w.heap.size w w' := by
  have C1 := Lib.hid fun W => bits_Mul.calls 1 (n : Int) _ _ W (mul_one n hn)
  have hinfo : (Try.prog.info? 76).map (fun i => (i.zero, i.size, i.bytes)) = some (some (.agg #[.int .i64 0, .int .i64 0, .int .i64 0]), 3, 24) := by kernel_rfl
  obtain ⟨i0, hi0, hz0, hs0, hy0⟩ := info_parts hinfo
  have hsz : (Try.prog.info? 76).map (·.size) = some 3 := by rw [hi0]; simp [hs0]
  have tS := Try.underlying57
  obtain ⟨wu, wi, wi'⟩ := wrap_u n hn
  have HN := Lib.hid hn
  have HBk := Lib.hid hb
  clear hb
  go_enter Try.func39, Try.ntmps39
  have hneg : ¬ ((n : Int) < 0) := by omega
  go_wp2_with fail
  refine (C1.out _).mono ?_
  rintro e w1 ⟨rfl, hd⟩
  obtain ⟨q, rfl⟩ := hd.out
  clear hd C1
  go_wp2_with (at_make; refine wpList_make_full _ rfl _ _ 57 rfl w.heap.size 76 i0 _ 3 tS hi0 hz0 hs0 .i64 .i64 _ _ n rfl rfl ?qc1 ?qc2 ?qc3 ?qc4 (Nat.le_refl _) ?_)
  case qc1 => rfl
  case qc2 => rfl
  case qc3 => rw [hy0]; omega
  case qc4 => unfold maxLen; omega
  intro w2 hown hg
  obtain ⟨hZ, -, hZl⟩ := own_raw hown
  generalize (madeCells _ _).toList = Z at *
  have hB2 : Below w.heap.size w w2 := ((pw_below_drewN (Below.refl _ _) q).grown hg (Nat.le_refl _) (by intro k hk; cases hk))
  have hsb : ∀ (j : Nat) (v : Value), (repC (Nat.min 1 n))[j]? = some v → w2.cell? ((⟨b, 0, none⟩ : Addr).add j) = some v := by
    intro j v hv
    have hlt : b < w.heap.size := (Array.getElem?_eq_some_iff.1 HBk.out).1
    rw [add_plain, World.cell?_of_block (w := w) (hB2.block b hlt)]
    have h3 := filled_src (cur := cells0) (m := 1) (k := Nat.min 1 n) rfl (Nat.min_le_left _ _) j v hv
    simp [World.cell?, HBk.out, h3]
  have HZ := Lib.hid (And.intro hZ (And.intro hB2 hsb))
  clear hZ hB2 hsb hown hg
  go_wp2_with (refine wpList_copy_sized rfl _ _ 57 57 rfl 76 3 tS hsz w.heap.size 0 n n ⟨b, 0, none⟩ 1 1 rfl rfl Z 76 HZ.out.1 (repC (Nat.min 1 n)) (Nat.min 1 n) rfl (repC_len _) HZ.out.2.2 ?qc5 (repC_one _) w.heap.size w HZ.out.2.1 (Nat.le_refl _) ?_)
  case qc5 => rw [repC_len, hZl, Nat.zero_add]; exact Nat.mul_le_mul_right _ (Nat.min_le_right _ _)
  intro w3 hh3 hB3
  have HF : Hid (Filled w w.heap.size w.heap.size n (Nat.min 1 n) w3) := Lib.hid (by
    have := filled_more (cur := Z) (n := n) (m := 0) (k := Nat.min 1 n) hZl (by simp [repC]) (by rw [Nat.zero_add]; exact Nat.min_le_right _ _)
    rw [Nat.zero_mul, Nat.zero_add] at this
    exact ⟨_, hh3.out, this.1, this.2, Nat.min_le_right _ _, Nat.le_refl _, hB3⟩)
  have hm1 : 0 < n → 0 < Nat.min 1 n := fun h => Nat.lt_min.2 ⟨by omega, h⟩
  have hm2 : Nat.min 1 n ≤ n := Nat.min_le_right _ _
  generalize Nat.min 1 n = m0 at *
  have HM := Lib.hid (And.intro hm1 hm2)
  clear HZ hh3 hB3 hZl hm1 hm2
  go_wp2_with fail
  go_loopg [8] n (fun kq v8 w' => ∃ m : Nat, v8 = .int .i64 m ∧ Hid ((0 < n → 0 < m) ∧ m ≤ n ∧ n ≤ kq + m) ∧ Hid (Filled w w.heap.size w.heap.size n m w'))
  case atStart => exact ⟨m0, rfl, Lib.hid ⟨HM.out.1, HM.out.2, by omega⟩, HF⟩
  case round =>
    obtain ⟨m, rfl, hk, hI⟩ := hrel
    clear HF HM
    by_cases hlt : m < n
    · have hl2 : (m : Int) < n := by omega
      have hm0 : (0 : Int) ≤ m := by omega
      have hl3 : (m : Int) ≤ n := by omega
      obtain ⟨cur, hh, hcl, hct, -, hbg, hB⟩ := hI.out
      obtain ⟨k, hkd⟩ : ∃ k, k = Nat.min m (n - m) := ⟨_, rfl⟩
      have hk1 : k ≤ m := by rw [hkd]; exact Nat.min_le_left _ _
      have hk2 : k ≤ n - m := by rw [hkd]; exact Nat.min_le_right _ _
      have hk3 : 0 < k := by rw [hkd]; exact Nat.lt_min.2 ⟨hk.out.1 (by omega), by omega⟩
      have HK := Lib.hid hkd
      clear hkd
      have hwr : IntKind.i64.wrap ((m : Int) + (k : Int)) = ((m + k : Nat) : Int) := by rw [← Int.natCast_add]; exact (wrap_u _ (by omega)).2.1
      have hsrc := filled_src hct hk1
      have HZ := Lib.hid (And.intro (show wr.drew.heap[w.heap.size]? = _ from hh) (And.intro hB.drew (show ∀ (j : Nat) (v : Value), (repC (k))[j]? = some v → wr.drew.cell? ((⟨w.heap.size, 0, none⟩ : Addr).add j) = some v from fun j v hv => by
        rw [add_plain]
        show wr.cell? _ = _
        simp [World.cell?, hh, hsrc j v hv])))
      clear hh hB hsrc hI
      go_wp2_with fail
      have hne : ¬ n = m := by omega
      have HQ := Lib.hid (show m * 3 + (repC (k)).length ≤ cur.length by rw [repC_len, hcl, ← Nat.add_mul]; exact Nat.mul_le_mul_right _ (by omega))
      go_region_law (refine step_copy_sized rfl (.tmp 41) (.tmp 44) 57 57 rfl 76 3 tS hsz w.heap.size (m * 3) (n - m) (n - m) ⟨w.heap.size, 0, none⟩ m n (by kernel_rfl) (by kernel_rfl) cur 76 HZ.out.1 (repC k) k HK.out.symm (repC_len _) HZ.out.2.2 HQ.out (repC_one _) w.heap.size w HZ.out.2.1 (Nat.le_refl _) ?_; intro w4 hh4 hB4)
      have HF := Lib.hid (show Filled w w.heap.size w.heap.size n (m + k) w4 from ⟨_, hh4.out, (filled_more hcl hct (by omega)).1, (filled_more hcl hct (by omega)).2, by omega, hbg, hB4⟩)
      clear HZ HQ hh4 hB4
      go_wp2_with fail
      obtain ⟨k1, rfl⟩ : ∃ q, gk = q + 1 := ⟨gk - 1, by have := hk.out; omega⟩
      go_roundg k1
      case measure => omega
      case rel => exact ⟨m + k, rfl, Lib.hid ⟨by omega, by omega, by have := hk.out; omega⟩, HF⟩
    · have hl2 : ¬ (m : Int) < n := by omega
      obtain rfl : m = n := by have := hk.out.2.1; omega
      go_wp2_with fail
      go_ret
      obtain ⟨cur, hh, hcl, hct, -, hbg, hB⟩ := hI.out
      refine ⟨_, rfl, ?_, hB⟩
      have : cur = repC m := by rw [← hct, List.take_of_length_le (by omega)]
      rw [← this]
      exact raw_own hh hbg hcl (by unfold maxLen; omega)

end Go.Proofs.Ytkecbdeekpbbjaa.Q
