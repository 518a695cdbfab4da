/- slices.IndexFunc, Clone and DeleteFunc of steps, by hand, whatever the function value does to the memory meanwhile. -/
import Derived.Test.YtaagbiaddgohkaaHAdd
import Derived.Lib.SliceRun
namespace Go.Proofs.Ytaagbiaddgohkaa.Q
open Go.RowKit Go.Lib Go.Proofs.Ytaagbiaddgohkaa Go.Proofs.YtaagbiaddgohkaaW.PrintWords Go.Proofs.YtaagbiaddgohkaaW.PrintLast Go.Proofs.YtaagbiaddgohkaaW.PrintMore
set_option linter.unusedVariables false
set_option linter.unusedSimpArgs false

theorem flatK39 {w w' : World} {x : S39} {cs : List Value} (h : k39.K w x cs) : k39.K w' x cs := by
  rw [k39_open h]
  exact k39_mk w' x
/-- What a search comes to. -/
def Found {α : Type} (p : α → Bool) (I : List α → World → Prop) (l : List α) (r : Int) (W : World) : Prop :=
  (r = -1 ∧ (∀ x ∈ l, p x = false) ∧ I l W) ∨ ∃ i : Nat, r = i ∧ i < l.length ∧ (l.take i).all (fun x => !p x) = true ∧ (∃ x, l[i]? = some x ∧ p x = true) ∧ I (l.take (i + 1)) W

theorem take_next {α : Type} {l : List α} {i : Nat} {x : α} (h : l[i]? = some x) : l.take (i + 1) = l.take i ++ [x] := by
  rw [List.take_add_one, h]
  rfl

set_option maxHeartbeats 2000000 in
theorem indexFunc_step (g : Nat) (lb : Array Value) (p : S39 → Bool) (I : List S39 → World → Prop) (A : Option Addr) (c : Nat) (l : List S39) (w : World)
    (eg : ∀ args W, (callFunc g args).run Try.prog W = .ok (.enter g args) W) (hI : ∀ pre W, I pre W → Kd.C k39 W A l.length l)
    (hcall : ∀ pre x W, pre.length < l.length → I pre W → Calls Try.prog g (#[.agg #[.int .i64 x.f0, .int .i64 x.f1.f0, .int .i64 x.f1.f1, .bool x.f2]] ++ lb) W fun e w' => e = .returned (.bool (p x)) ∧ I (pre ++ [x]) w') (h0 : I [] w) (hl : l.length < 1000000000) :
    Calls Try.prog 26 #[.slice A l.length c, .func (.func g) #[] lb] w fun e w' => ∃ r : Int, e = .returned (.int .i64 r) ∧ Found p I l r w' := by
  have hu := Try.underlying39
  have HI := Lib.hid hI
  have HC := Lib.hid hcall
  clear hI hcall
  go_enter Try.func26, Try.ntmps26
  go_wp2_with fail
  go_loopg [5, 8] l.length (fun kq _ v8 W => ∃ i : Nat, v8 = .int .i64 i ∧ Hid (kq + i = l.length) ∧ Hid (I (l.take i) W ∧ (l.take i).all (fun x => !p x) = true))
  case atStart => exact ⟨0, rfl, by simp [Hid], Lib.hid ⟨by simpa using h0, by simp⟩⟩
  case round =>
    obtain ⟨i, rfl, hk, hJ⟩ := hrel
    by_cases hi : i < l.length
    · have hi2 : (i : Int) < l.length := by omega
      have hi0 : (0 : Int) ≤ i := by omega
      obtain ⟨ad, rfl, a0, a1, a2, a3⟩ := at_T39 (HI.out _ _ hJ.out.1) (i : Int) hi0 hi2
      have hx : l[i]? = some (rd_T39 l i) := by
        unfold rd_T39
        simp [List.getD_eq_getElem?_getD, hi]
      have HX := Lib.hid hx
      clear hx
      generalize rd_T39 l i = x at *
      simp only [Int.toNat_natCast] at a0 a1 a2 a3
      have hc := HC.out _ x _ (by rw [List.length_take]; omega) hJ.out.1
      have HJ := hJ
      clear hJ
      cases hp : p x with
      | true =>
        rw [hp] at hc
        have hp := Lib.hid hp
        go_wp2_with fail
        refine hc.mono ?_
        rintro e w' ⟨rfl, hI1⟩
        have HI1 := Lib.hid hI1
        clear hI1 hc
        go_wp2_with fail
        go_ret
        exact ⟨_, rfl, .inr ⟨i, rfl, hi, HJ.out.2, ⟨x, HX.out, hp.out⟩, by rw [take_next HX.out]; exact HI1.out⟩⟩
      | false =>
        rw [hp] at hc
        have hp := Lib.hid hp
        go_wp2_with fail
        refine hc.mono ?_
        rintro e w' ⟨rfl, hI1⟩
        have HI1 := Lib.hid hI1
        clear hI1 hc
        go_wp2_with fail
        obtain ⟨k1, rfl⟩ : ∃ m, gk = m + 1 := ⟨gk - 1, by have := hk.out; omega⟩
        go_roundg k1
        case measure => omega
        case rel => exact ⟨i + 1, by first | rfl | rw [wrap_next (by omega)] | (unfold wrap64; congr 1; omega), Lib.hid (by have := hk.out; omega), Lib.hid ⟨by rw [take_next HX.out]; exact HI1.out, by rw [take_next HX.out, List.all_append, HJ.out.2]; simp [hp.out]⟩⟩
    · have hi2 : ¬ (i : Int) < l.length := by omega
      have hk0 : i = l.length := by have := hk.out; omega
      subst hk0
      go_wp2_with fail
      go_ret
      have h2 := hJ.out
      rw [List.take_length] at h2
      exact ⟨_, rfl, .inl ⟨rfl, fun x hx => by have := List.all_eq_true.1 h2.2 x hx; simpa using this, h2.1⟩⟩

theorem grown_cells (W : World) (g o : Nat) (L : List Value) : W.grownBy (W.setCells g o L) (some g) := by
  obtain ⟨s1, s2, s3, s4⟩ := setCells_same g L o W
  exact ⟨s1, s2, s3, by rw [s4]; exact Nat.le_refl _, fun k _ hk => setCells_far _ _ k (fun he => hk (by rw [he]))⟩
theorem grown_below {W W' : World} (h : Below W.heap.size W W') (r : Option Nat) : W.grownBy W' r := ⟨h.os, h.tape, h.output, h.size, fun k hk _ => h.block k hk⟩
/-- A row whose elements lead to nothing: its block alone matters. -/
theorem R_same {α : Type} {d : Kd α} {e : Nat} {W W' : World} {base g n cap : Nat} {ok : Nat → Prop} {xs : List α} (hE : d.E = []) (h : d.R e W base ok (.slice (some ⟨g, 0, none⟩) n cap) xs) (hg : W'.heap[g]? = W.heap[g]?) : d.R e W' base ok (.slice (some ⟨g, 0, none⟩) n cap) xs :=
  Kd.R_mono (Kd.R_move (Kd.R_tight2 hE h) (fun k hk => by
    have : k = g := by simpa [Value.ownBlock] using hk.1
    rw [this]; exact hg)) (fun k hk => hk.2)
theorem C_cut {α : Type} {d : Kd α} (hflat : ∀ w w' x cs, d.K w x cs → d.K w' x cs) {W : World} {g m : Nat} {xs : List α} (h : d.C W (some ⟨g, 0, none⟩) m xs) (L : List Value) {o : Nat} (ho : o = m * d.sz := by first | rfl | simp [Kd.int, Kd.scalar]) : d.C (W.setCells g o L) (some ⟨g, 0, none⟩) m xs := by
  subst ho
  refine ⟨h.1, h.2.1, fun hn => ?_⟩
  obtain ⟨ad, hA, hcell⟩ := h.2.2 hn
  refine ⟨ad, hA, fun j p hj => ?_⟩
  obtain ⟨cs, h1, h2, h3⟩ := hcell j p hj
  refine ⟨cs, h1, hflat _ _ _ _ h2, fun i u hu => ?_⟩
  injection hA with hA
  subst hA
  rw [World.cell?_setCells_out g L _ W _ (fun _ _ => Or.inl ?_)]
  · exact h3 i u hu
  · have hi := (List.getElem?_eq_some_iff.1 hu).1
    have hjm := (List.getElem?_eq_some_iff.1 hj).1
    rw [h.1] at hjm
    have h5 : (j + 1) * d.sz ≤ m * d.sz := Nat.mul_le_mul_right _ hjm
    rw [Nat.add_mul] at h5
    rw [Addr.add_lit]
    show 0 + (j * d.sz + i) < m * d.sz
    omega
/-- What the row holds, as far as it has been gone through: what is kept lies ahead. -/
structure Keeps {α : Type} (q : α → Bool) (l cur : List α) (i j : Nat) : Prop where
  len : cur.length = l.length
  lt : i < j
  le : j ≤ l.length
  kept : cur.take i = (l.take j).filter q
  rest : cur.drop j = l.drop j
theorem Keeps.at {α : Type} {q : α → Bool} {l cur : List α} {i j : Nat} (h : Keeps q l cur i j) (hj : j < l.length) : cur[j]? = l[j]? := by
  have := congrArg (fun z => z[0]?) h.rest
  simpa using this
theorem Keeps.skip {α : Type} {q : α → Bool} {l cur : List α} {i j : Nat} {x : α} (h : Keeps q l cur i j) (hx : l[j]? = some x) (hq : q x = false) : Keeps q l cur i (j + 1) := by
  have hj := (List.getElem?_eq_some_iff.1 hx).1
  refine ⟨h.len, by have := h.lt; omega, by omega, ?_, ?_⟩
  · rw [take_next hx, List.filter_append, h.kept]
    simp [hq]
  · have := congrArg (fun z => z.drop 1) h.rest
    simpa [List.drop_drop] using this
theorem Keeps.keep {α : Type} {q : α → Bool} {l cur : List α} {i j : Nat} {x : α} (h : Keeps q l cur i j) (hx : l[j]? = some x) (hq : q x = true) : Keeps q l (cur.set i x) (i + 1) (j + 1) := by
  have hj := (List.getElem?_eq_some_iff.1 hx).1
  have hi := h.lt
  have hlen := h.len
  refine ⟨by rw [List.length_set]; exact h.len, by omega, by omega, ?_, ?_⟩
  · rw [take_next hx, List.filter_append, ← h.kept]
    have h1 : (cur.set i x)[i]? = some x := by
      rw [List.getElem?_set_self (by omega)]
    rw [take_next h1, List.take_set_of_le (Nat.le_refl _)]
    simp [hq]
  · rw [List.drop_set_of_lt (by omega)]
    have := congrArg (fun z => z.drop 1) h.rest
    simpa [List.drop_drop] using this
theorem Keeps.start {α : Type} {q : α → Bool} {l : List α} {i : Nat} {x : α} (hx : l[i]? = some x) (hq : q x = false) (ha : (l.take i).all q = true) : Keeps q l l i (i + 1) := by
  have hj := (List.getElem?_eq_some_iff.1 hx).1
  refine ⟨rfl, by omega, by omega, ?_, rfl⟩
  rw [take_next hx, List.filter_append]
  have h1 : (l.take i).filter q = l.take i := List.filter_eq_self.2 (fun y hy => List.all_eq_true.1 ha y hy)
  rw [h1]
  simp [hq]
theorem Keeps.done {α : Type} {q : α → Bool} {l cur : List α} {i : Nat} (h : Keeps q l cur i l.length) : cur.take i = l.filter q ∧ (l.filter q).length = i := by
  have h1 := h.kept
  rw [List.take_length] at h1
  have h2 := congrArg List.length h1
  have h3 := h.lt
  have h4 := h.len
  rw [List.length_take] at h2
  exact ⟨h1, by omega⟩

set_option maxHeartbeats 2000000 in
theorem clone_step (A0 : Option Addr) (c0 : Nat) (l0 : List S39) (w : World) (hr : Kd.C k39 w A0 l0.length l0) (hl : l0.length < 1000000000) :
    Calls Try.prog 19 #[.slice A0 l0.length c0] w fun e w' => ∃ v, e = .returned v ∧ Kd.R k39 39 w' w.heap.size (fun _ => True) v l0 ∧ Below w.heap.size w w' := by
  have tS := Try.underlying29
  have qS : ∀ (W : World) (a : Option Addr) (n c n' c' : Nat), (binOp .eql 29 (.slice a n c) (.slice none n' c')).run Try.prog W = .ok (.bool a.isNone) W := fun W a n c n' c' => Lib.run_eql_slice_nil W _ _ a n c n' c' tS
  rcases A0 with _ | ad
  · obtain rfl := C_empty hr
    clear hr
    go_enter Try.func19, Try.ntmps19
    go_wp2
    go_ret
    exact ⟨_, rfl, Kd.R_nil _ _ _ _ _, Below.refl _ _⟩
  · have HR := Aside0.mk hr
    clear hr
    go_enter Try.func19, Try.ntmps19
    go_wp2_with (at_builtin; refine Kd.R_append_rows k39 (w0 := w) (Rr := k39.K w) w.heap.size rfl _ _ 29 39 _ _ rfl tS info39 rfl (by decide) (by decide) _ [] l0 (some ad) l0.length c0 (fun _ => True) (fun _ => False) rfl rfl ?HO ?HR ?hKM (fun _ h => h.elim) (fun _ _ => trivial) ?HB ?hbase ?hl ?_)
    case HO => exact ⟨fun _ _ => trivial, [], World.ownsRow_made w #[] 0 (Nat.le_refl _) (Nat.zero_le _) (by simp), Reps.none _ _⟩
    case HR => exact ReadsRow.imp_ HR.out (below_alloc (Below.refl _ _) _) (fun _ _ h => h)
    case hKM => exact fun x cs h => flat39 h w.heap.size (fun _ => False)
    case HB => exact below_alloc (Below.refl _ _) _
    case hbase => simp
    case hl => simp; omega
    intro v' w1 hR hB hg hv
    go_wp2
    go_ret
    exact ⟨_, rfl, by simpa using hR, hB⟩

set_option maxHeartbeats 4000000 in
theorem deleteFunc_step (pf : Nat) (lb : Array Value) (p : S39 → Bool) (S : List S39 → World → Prop) (g cap : Nat) (l : List S39) (w : World) (B : Nat)
    (eg : ∀ args W, (callFunc pf args).run Try.prog W = .ok (.enter pf args) W) (hR0 : Kd.R k39 39 w B (fun _ => True) (.slice (some ⟨g, 0, none⟩) l.length cap) l) (hS0 : S [] w)
    (hgrow : ∀ pre W W', S pre W → W.grownBy W' (some g) → S pre W')
    (hcall : ∀ pre x W W1, pre.length < l.length → S pre W → Below W.heap.size W W1 → g < W.heap.size → Calls Try.prog pf (#[.agg #[.int .i64 x.f0, .int .i64 x.f1.f0, .int .i64 x.f1.f1, .bool x.f2]] ++ lb) W1 fun e w' => e = .returned (.bool (p x)) ∧ S (pre ++ [x]) w' ∧ w'.heap[g]? = W1.heap[g]? ∧ (∀ k, W.heap.size ≤ k → k < W1.heap.size → w'.heap[k]? = W1.heap[k]?) ∧ W1.heap.size ≤ w'.heap.size) (hl : l.length < 1000000000) :
    Calls Try.prog 18 #[.slice (some ⟨g, 0, none⟩) l.length cap, .func (.func pf) #[] lb] w fun e w' => ∃ m, e = .returned (.slice (some ⟨g, 0, none⟩) m cap) ∧ m = (l.filter fun x => !p x).length ∧ m ≤ cap ∧ Kd.C k39 w' (some ⟨g, 0, none⟩) m (l.filter fun x => !p x) ∧ S l w' := by
  have hu := Try.underlying39
  have hg0 : g < w.heap.size := (Kd.R_bound hR0).1 g (by simp [Value.ownBlock]) |>.2.2.1
  have hcap := (Kd.R_reads' hR0).2.1
  have C1 := Lib.hid (indexFunc_step pf lb p (fun pre W => S pre W ∧ Kd.R k39 39 W B (fun _ => True) (.slice (some ⟨g, 0, none⟩) l.length cap) l) (some ⟨g, 0, none⟩) cap l w eg (fun pre W h => (Kd.R_reads' h.2).2.2) (fun pre x W hpl h => by
    have hlt : g < W.heap.size := (Kd.R_bound h.2).1 g (by simp [Value.ownBlock]) |>.2.2.1
    refine (hcall pre x W W hpl h.1 (Below.refl _ _) hlt).mono ?_
    rintro e w' ⟨rfl, h1, h2, -, -⟩
    exact ⟨rfl, h1, R_same rfl h.2 h2⟩) ⟨hS0, hR0⟩ hl)
  have HG := Lib.hid hgrow
  have HC := Lib.hid hcall
  have HL := Lib.hid (And.intro hl hcap)
  clear hgrow hcall hR0 hS0 hl hcap hg0
  go_enter Try.func18, Try.ntmps18
  go_wp2_with fail
  refine C1.out.mono ?_
  rintro e w1 ⟨r, rfl, hF⟩
  clear C1
  rcases hF with ⟨rfl, hn, hS, hR⟩ | ⟨i0, rfl, hi0, ha, ⟨x0, hx0, hp0⟩, hS, hR⟩
  · have hfl : (l.filter fun x => !p x) = l := List.filter_eq_self.2 (fun y hy => by simp [hn y hy])
    have HZ := Lib.hid (And.intro hS (And.intro hR hfl))
    clear hS hR hn hfl
    go_wp2_with fail
    go_ret
    rw [HZ.out.2.2]
    exact ⟨_, rfl, rfl, HL.out.2, (Kd.R_reads' HZ.out.2.1).2.2, HZ.out.1⟩
  · have HS := Lib.hid (And.intro hS (And.intro hR (Keeps.start (q := fun x => !p x) hx0 (by simp [hp0]) ha)))
    have hne : ((i0 : Int) == -1) = false := beq_eq_false_iff_ne.2 (by omega)
    have h63 : (i0 : Int) < 1000000000 := by have := HL.out.1; omega
    clear hS hR ha hx0 hp0
    go_wp2_with fail
    go_loopg [5, 6, 7] (l.length - (i0 + 1)) (fun kq v5 v6 _ W => ∃ (i j : Nat) (cur : List S39), v5 = .int .i64 i ∧ v6 = .int .i64 j ∧ Hid (kq + j = l.length) ∧ Hid (S (l.take j) W ∧ Kd.R k39 39 W B (fun _ => True) (.slice (some ⟨g, 0, none⟩) l.length cap) cur ∧ Keeps (fun x => !p x) l cur i j))
    case atStart => exact ⟨i0, i0 + 1, l, rfl, by first | rfl | (rw [show wrap64 ((i0 : Int) + 1) = ((i0 + 1 : Nat) : Int) by unfold wrap64; omega]), Lib.hid (by have := HS.out.2.2.le; omega), Lib.hid HS.out⟩
    case round =>
      obtain ⟨i, j, cur, rfl, rfl, hk, hJ⟩ := hrel
      clear HS
      have hle := hJ.out.2.2.le
      have hlt := hJ.out.2.2.lt
      by_cases hj : j < l.length
      · have hj2 : (j : Int) < l.length := by omega
        have hj0 : (0 : Int) ≤ j := by omega
        have hi2 : (i : Int) < l.length := by omega
        have hi0 : (0 : Int) ≤ i := by omega
        have hlc : (l.length : Int) < 1000000000 := by have := HL.out.1; omega
        obtain ⟨x, hx⟩ : ∃ x, l[j]? = some x := ⟨_, List.getElem?_eq_getElem hj⟩
        have hx2 := (hJ.out.2.2.at hj).trans hx
        obtain ⟨c, hcl, hM, hcc, -⟩ := Kd.R_elem hJ.out.2.1 z39 (j : Int) hj0 hj2
        have e2 : cur.getD (j : Int).toNat z39 = x := by simp [List.getD_eq_getElem?_getD, hx2]
        rw [e2] at hM
        have e5 := k39_openM hM
        have a0 : wr.cell? ⟨g, j * 4, none⟩ = some (.int .i64 x.f0) := hcc 0 _ (by rw [e5]; rfl)
        have a1 : wr.cell? ⟨g, j * 4 + 1, none⟩ = some (.int .i64 x.f1.f0) := hcc 1 _ (by rw [e5]; rfl)
        have a2 : wr.cell? ⟨g, j * 4 + 2, none⟩ = some (.int .i64 x.f1.f1) := hcc 2 _ (by rw [e5]; rfl)
        have a3 : wr.cell? ⟨g, j * 4 + 3, none⟩ = some (.bool x.f2) := hcc 3 _ (by rw [e5]; rfl)
        clear e5
        have hg0 : g < wr.heap.size := (Kd.R_bound hJ.out.2.1).1 g (by simp [Value.ownBlock]) |>.2.2.1
        have HX := Lib.hid (And.intro hx hx2)
        have HJ := hJ
        clear hcc hM hcl hx hx2 e2 hJ
        go_wp2_with fail
        refine (HC.out (l.take j) x wr _ (by rw [List.length_take]; omega) HJ.out.1 (bOne _) hg0).mono ?_
        rintro e w2 ⟨rfl, hS2, hg2, hk2, hz2⟩
        have hb : w2.heap[wr.heap.size]? = some (.cells #[.int .i64 x.f0, .int .i64 x.f1.f0, .int .i64 x.f1.f1, .bool x.f2] 39 (0, 0)) := (hk2 _ (Nat.le_refl _) (by simp)).trans (heap_alloc_new _ _)
        have b0 : w2.cell? ⟨wr.heap.size, 0, none⟩ = some (.int .i64 x.f0) := blk_cell hb 0
        have b1 : w2.cell? ⟨wr.heap.size, 1, none⟩ = some (.int .i64 x.f1.f0) := blk_cell hb 1
        have b2 : w2.cell? ⟨wr.heap.size, 2, none⟩ = some (.int .i64 x.f1.f1) := blk_cell hb 2
        have b3 : w2.cell? ⟨wr.heap.size, 3, none⟩ = some (.bool x.f2) := blk_cell hb 3
        have HC0 := True.intro
        clear hb a0 a1 a2 a3
        have hR2 : Kd.R k39 39 w2 B (fun _ => True) (.slice (some ⟨g, 0, none⟩) l.length cap) cur := R_same rfl (Kd.R_alloc HJ.out.2.1 _) hg2
        have HK := HJ.out.2.2
        have HS2 := Lib.hid (And.intro hS2 (And.intro hR2 HK))
        obtain ⟨ci, hcil, hMi, hcci, hfzi⟩ := Kd.R_elem hR2 z39 (i : Int) hi0 hi2
        have HCI := Lib.hid (And.intro hcil hcci)
        clear hg2 hk2 hz2 hS2 hR2 HK HJ HC0 hcil hMi hcci hfzi
        cases hp : p x with
        | true =>
          have hp2 := Lib.hid hp
          clear hp
          go_wp2_with fail
          obtain ⟨k1, rfl⟩ : ∃ m, gk = m + 1 := ⟨gk - 1, by have := hk.out; omega⟩
          go_roundg k1
          case measure => omega
          case rel => exact ⟨i, j + 1, cur, rfl, by first | rfl | rw [wrap_next (by omega)], Lib.hid (by have := hk.out; omega), Lib.hid ⟨by rw [take_next HX.out.1]; exact HS2.out.1, HS2.out.2.1, HS2.out.2.2.skip HX.out.1 (by simp [hp2.out])⟩⟩
        | false =>
          have hp2 := Lib.hid hp
          clear hp
          go_wp2_with (refine Kd.R_store k39 (w0 := w2) B rfl rfl 39 _ _ rfl 39 (i : Int) 0 cur x _ [.int .i64 x.f0, .int .i64 x.f1.f0, .int .i64 x.f1.f1, .bool x.f2] ci (fun _ => True) (fun k => True ∧ k ≠ g) rfl ?qc0 rfl ?qc1 ?qc2 ?qc3 HS2.out.2.1 hi0 hi2 HCI.out.1 HCI.out.2 (Nat.le_refl _) ?qc4 (fun _ h => h) (Below.refl _ _) ?_)
          case qc0 => first | rfl | simp [Kd.int, Kd.scalar]
          case qc1 => rfl
          case qc2 => kernel_rfl
          case qc3 => simp [Value.oneCell']
          case qc4 =>
            have h5 : ci.length = 4 := HCI.out.1
            show k39.M _ _ _ _ (ci.take 0 ++ _ ++ ci.drop 4)
            rw [List.drop_eq_nil_of_le (by omega), List.take_zero, List.append_nil, List.nil_append]
            exact k39_mkM _ _ _ x
          intro w3 hR3 _ hg3
          have HR3 := Lib.hid (And.intro hR3 (HG.out _ _ _ HS2.out.1 hg3))
          clear hR3 hg3 HCI
          go_wp2_with fail
          obtain ⟨k1, rfl⟩ : ∃ m, gk = m + 1 := ⟨gk - 1, by have := hk.out; omega⟩
          go_roundg k1
          case measure => omega
          case rel => exact ⟨i + 1, j + 1, cur.set i x, by first | rfl | rw [wrap_next (by omega)], by first | rfl | rw [wrap_next (by omega)], Lib.hid (by have := hk.out; omega), Lib.hid ⟨by rw [take_next HX.out.1]; exact HR3.out.2, by simpa using HR3.out.1, HS2.out.2.2.keep HX.out.1 (by simp [hp2.out])⟩⟩
      · obtain rfl : j = l.length := by omega
        have hn2 : ¬ (l.length : Int) < l.length := by omega
        have hlc : (l.length : Int) < 1000000000 := by have := HL.out.1; omega
        have hil : (i : Int) < l.length := by omega
        have hcap2 : (l.length : Int) ≤ cap := by have := HL.out.2; omega
        obtain ⟨hm, hlen⟩ := hJ.out.2.2.done
        have hfz : ∀ j, wr.frozen? ⟨g, j, none⟩ = false := by
          obtain ⟨_, _, _, q, _, cells, hcells⟩ := (Kd.R_bound hJ.out.2.1).1 g (by simp [Value.ownBlock])
          intro j
          exact blk_frozen hcells j
        have hsome : ∀ j, j < (l.length - i) * 4 → (wr.cell? ⟨g, i * 4 + j, none⟩).isSome = true := by
          intro j hj
          have hq : i * 4 + j = (i + j / 4) * 4 + j % 4 := by
            rw [Nat.add_mul]
            omega
          have hlt2 : i + j / 4 < l.length := by omega
          obtain ⟨c, hcl, -, hcc, -⟩ := Kd.R_elem hJ.out.2.1 z39 ((i + j / 4 : Nat) : Int) (by omega) (by omega)
          have h5 : c.length = 4 := hcl
          have h6 := hcc (j % 4) _ (List.getElem?_eq_getElem (by rw [h5]; exact Nat.mod_lt _ (by decide)))
          rw [hq]
          have h7 : wr.cell? ⟨g, (i + j / 4) * 4 + j % 4, none⟩ = _ := h6
          rw [h7]
          rfl
        obtain ⟨L, hL, hclr⟩ := run_clear_sized (P := Try.prog) wr 29 39 (.agg #[.int .i64 0, .int .i64 0, .int .i64 0, .bool false]) 4 Try.underlying29 (fun _ => rfl) rfl (by decide) (by intro u hu; simp [Value.cells] at hu; rcases hu with rfl | rfl | rfl | rfl <;> rfl) g (i * 4) (l.length - i) (cap - i) (by omega) hsome (fun j _ => hfz _)
        have HZ := Lib.hid (And.intro hJ.out (And.intro hm (And.intro hlen hL)))
        have HGR := HG
        clear hJ hm hlen hL hsome hfz HC HG eg
        go_wp2_with fail
        go_ret
        have h1 := (Kd.R_reads' (Kd.R_take HZ.out.1.2.1 (m := i) (by have := HZ.out.1.2.2.len; omega))).2.2
        rw [HZ.out.2.1, HZ.out.2.2.1] at h1
        refine ⟨i, rfl, HZ.out.2.2.1.symm, by omega, C_cut (fun _ _ _ _ h => flatK39 h) h1 L, ?_⟩
        have h2 := HZ.out.1.1
        rw [List.take_length] at h2
        exact HGR.out _ _ _ h2 (grown_cells _ _ _ _)

set_option maxHeartbeats 1000000 in
theorem deleteFunc_nil_step (fv : Value) (p : S39 → Bool) (I : List S39 → World → Prop) (A : Option Addr) (c : Nat) (w : World)
    (h : Calls Try.prog 26 #[.slice A 0 c, fv] w fun e w' => ∃ r : Int, e = .returned (.int .i64 r) ∧ Found p I [] r w') :
    Calls Try.prog 18 #[.slice A 0 c, fv] w fun e w' => e = .returned (.slice A 0 c) ∧ I [] w' := by
  have H := Lib.hid h
  clear h
  go_enter Try.func18, Try.ntmps18
  go_wp2_with fail
  refine H.out.mono ?_
  rintro e w1 ⟨r, rfl, hF⟩
  rcases hF with ⟨rfl, -, hI⟩ | ⟨i, -, hi, -⟩
  · have HI := Lib.hid hI
    clear hI H
    go_wp2_with fail
    go_ret
    exact ⟨rfl, HI.out⟩
  · simp at hi

end Go.Proofs.Ytaagbiaddgohkaa.Q
