/- What each of them did, by hand. -/
import Derived.Test.YtkijjgdcbgmglaaHListed
import Derived.Test.YtkijjgdcbgmglaaHRight
import Derived.Test.YtkijjgdcbgmglaaHAhead
import Derived.Laws.BitsLemmas
namespace Go.Proofs.Ytkijjgdcbgmglaa.Q
open Go.RowKit Go.Lib Go.Maps Go.Proofs.Ytkijjgdcbgmglaa Go.Proofs.YtkijjgdcbgmglaaW.PrintWords Go.Proofs.YtkijjgdcbgmglaaW.PrintLast Go.Proofs.YtkijjgdcbgmglaaW.PrintMore
set_option linter.unusedVariables false
set_option linter.unusedSimpArgs false

/-- What one did. -/
def entryL (i : Nat) (l : Life) : S47 := ⟨(i : Int) + 1, l.com, decide (0 ≤ l.fin), stepsOf l.reads, if l.com = true then stepsOf l.writes else []⟩
def entriesL (all : List Life) : List S47 := all.mapIdx entryL
theorem entriesL_next (all : List Life) {i : Nat} {l : Life} (h : all[i]? = some l) : (entriesL all).take (i + 1) = (entriesL all).take i ++ [entryL i l] := by
  rw [List.take_add_one]
  congr 1
  unfold entriesL
  rw [List.getElem?_mapIdx, h]
  rfl
theorem LifeOK.good_r {l : Life} (h : LifeOK l) : Good l.reads := fun x t ht => ⟨(h.r x t ht).2.2.1, (h.r x t ht).1, (h.r x t ht).2.1⟩
theorem LifeOK.good_w {l : Life} (h : LifeOK l) : Good l.writes := fun x t ht => ⟨(h.w x t ht).2.2.1, (h.w x t ht).1, (h.w x t ht).2.1⟩
/-- A row of steps that was made. -/
def TL (base : Nat) (L : List S103) (W : World) (v : Value) : Prop := ∃ A c, v = .slice A L.length c ∧ Kd.R k103 103 W base (fun _ => True) v L
theorem RB_refl (W : World) : RB W W := Below.refl _ _
theorem stable_TL (base : Nat) (L : List S103) : GR.Stable RB (TL base L) := by
  rintro W W' v ⟨A, c, rfl, h⟩ hR
  exact ⟨A, c, rfl, Kd.R_below h hR⟩
/-- An entry, as a value. -/
def TB (base : Nat) (n : Int) (com ov : Bool) (L : List S103) (W : World) (v : Value) : Prop := ∃ A c, v = .agg #[.int .i64 n, .bool com, .bool ov, .slice A L.length c, .slice none 0 0] ∧ Kd.R k103 103 W base (fun _ => True) (.slice A L.length c) L
theorem stable_TB (base : Nat) (n : Int) (com ov : Bool) (L : List S103) : GR.Stable RB (TB base n com ov L) := by
  rintro W W' v ⟨A, c, rfl, h⟩ hR
  exact ⟨A, c, rfl, Kd.R_below h hR⟩
theorem TL_at {base : Nat} {L : List S103} {W : World} {A : Option Addr} {n c : Nat} (h : TL base L W (.slice A n c)) : n = L.length ∧ Kd.R k103 103 W base (fun _ => True) (.slice A L.length c) L := by
  obtain ⟨A', c', e, hR⟩ := h
  injection e with e1 e2 e3
  subst e1; subst e2; subst e3
  exact ⟨rfl, hR⟩
theorem TB_at {base : Nat} {n : Int} {com ov : Bool} {L : List S103} {W : World} {A : Option Addr} {c : Nat} (h : TB base n com ov L W (.agg #[.int .i64 n, .bool com, .bool ov, .slice A L.length c, .slice none 0 0])) : Kd.R k103 103 W base (fun _ => True) (.slice A L.length c) L := by
  obtain ⟨A', c', e, hR⟩ := h
  injection e with e
  simp at e
  obtain ⟨rfl, rfl⟩ := e
  exact hR
theorem listed_at {W : World} {b k : Nat} {f : Int → Option Told} (hM : MapAt W b k f) (hG : Good f) (hk : k ≤ 1000000) (base : Nat) (hb : base ≤ W.heap.size) :
    Calls Try.prog 38 #[.map (some b)] W fun e w' => ∃ v, e = .returned v ∧ RB W w' ∧ TL base (stepsOf f) w' v := by
  obtain ⟨n, D, hown, hI, hn⟩ := hM
  refine (listed_calls b n D f W hown hI hG (by omega)).mono ?_
  rintro e w' ⟨v, rfl, hR, hB⟩
  obtain ⟨A, c, rfl, -⟩ := Kd.R_reads hR
  exact ⟨_, rfl, hB, A, c, rfl, Kd.R_lower hR hb⟩
/-- A block of another kind is turned. -/
theorem LivesV.only {base g t : Nat} {W W' : World} {k : Nat} {v : Value} {bs : List (Nat × Nat × Nat)} {all : List Life} {cs : Array Value} (h : LivesV base W k v bs all) (hg : W.heap[g]? = some (.cells cs t (0, 0))) (h3 : t ≠ 83) (h6 : t ≠ 86) (hO : Only g W W') : LivesV base W' k v bs all := by
  refine ⟨⟨h.row.1, ?_⟩, h.at_.same fun q hq => hO.block q (h.at_.lt q hq) (h.at_.apart hg h6 q hq)⟩
  rcases h.row.2 with ⟨e, h3⟩ | ⟨g', cap, cur, e, h4, h5, h7⟩
  · exact .inl ⟨e, h3⟩
  · refine .inr ⟨g', cap, cur, e, h4, (hO.block g' (blk_lt h5) (fun e => ?_)).trans h5, h7⟩
    rw [e, hg] at h5
    injection h5 with h5
    injection h5 with _ h5
    exact h3 h5
theorem TL.only {base g : Nat} {L : List S103} {W W' : World} {v : Value} {cs : Array Value} (h : TL base L W v) (hg : W.heap[g]? = some (.cells cs 47 (0, 0))) (hO : Only g W W') : TL base L W' v := by
  obtain ⟨A', c', e, hR⟩ := h
  refine ⟨A', c', e, Kd.R_mono (Kd.R_step (Kd.R_bound hR) ?_) (fun _ _ => trivial)⟩
  rintro k ⟨-, -, -, q, hq, cells, hc⟩ hlt
  refine hO.block k hlt (fun e => ?_)
  have : q = 103 := by rw [show k103.E = [] from rfl] at hq; simpa using hq
  subst this
  subst e
  rw [hg] at hc
  injection hc with hc
  injection hc with _ hc
  cases hc
theorem Kd.R_only {α : Type} {d : Kd α} {e base g : Nat} {W W' : World} {v : Value} {xs : List α} (h : Kd.R d e W base (fun k => k ≠ g) v xs) (hO : Only g W W') : Kd.R d e W' base (fun k => k ≠ g) v xs := Kd.R_step h fun k hk hlt => hO.block k hlt hk
/-- Rows of steps, told by what they are. -/
theorem TL.ok {base lo : Nat} {L : List S103} {W : World} {v : Value} (h : TL base L W v) (hb : lo ≤ base) : k103.R 103 W lo (fun k => ∃ cells, W.heap[k]? = some (.cells cells 103 (0, 0))) v L := by
  obtain ⟨A, c, rfl, hR⟩ := h
  refine Kd.R_mono (Kd.R_bound (Kd.R_lower hR hb)) ?_
  rintro k ⟨-, -, -, q, hq, cells, hc⟩
  have : q = 103 := by rw [show k103.E = [] from rfl] at hq; simpa using hq
  subst this
  exact ⟨cells, hc⟩
/-- What is kept at each round. -/
def ERel (w : World) (v : Value) (bs : List (Nat × Nat × Nat)) (all : List Life) (i : Nat) (u : Value) (V : World) : Prop :=
  Kd.R k47 47 V w.heap.size (fun _ => True) u ((entriesL all).take i) ∧ LivesV w.heap.size V 2000 v bs all ∧ Below w.heap.size w V
def history_Entries.f (l0 : List (S44)) : Option ((List (S47))) := some (entriesL (allL l0))
set_option maxRecDepth 100000 in
set_option maxHeartbeats 4000000 in
theorem history_Entries.calls (A0 : Option Addr) (c0 : Nat) (l0 : List (S44)) (r : List (S47)) (w : World) (hr0 : Kd.C k44 w A0 l0.length l0) (hc0 : l0.length ≤ c0) (h : history_Entries.f l0 = some r) :
    Calls Try.prog 14 #[.slice A0 l0.length c0] w fun e w' => ∃ v0_ : Value, e = .returned (v0_) ∧ Kd.R k47 47 w' w.heap.size (fun _ => True) v0_ r ∧ Below w.heap.size w w' := by
  unfold history_Entries.f at h
  injection h with h
  subst h
  have hu86 := Try.underlying86
  have hu83 := Try.underlying83
  have hu69 := Try.underlying69
  have hu47 := Try.underlying47
  have hu45 := Try.underlying45
  have hu84 := Try.underlying84
  have HC := Lib.hid (lived_all A0 c0 l0 w hr0)
  have HO := Lib.hid (allL_ok l0)
  generalize allL l0 = all at *
  clear hr0 hc0
  go_enter Try.func14, Try.ntmps14
  go_wp2_with fail
  refine HC.out.mono ?_
  rintro e w1 ⟨A, c, bs, rfl, hL, hB⟩
  have HB := Lib.hid (And.intro hL hB)
  clear hL hB HC
  go_wp2_with fail
  go_loopg [2, 15] all.length (fun kq v2 v15 V => ∃ i : Nat, v15 = .int .i64 i ∧ Hid (kq + i = all.length) ∧ Hid (ERel w (.slice A all.length c) bs all i v2 V))
  case atStart => exact ⟨0, rfl, by simp [Hid], Lib.hid ⟨Kd.R_nil _ _ _ _ _, HB.out.1, HB.out.2⟩⟩
  case round =>
    obtain ⟨i, rfl, hk, hJ⟩ := hrel
    clear HB
    have hi0 : (0 : Int) ≤ i := by omega
    by_cases hi : i < all.length
    · have hi2 : (i : Int) < all.length := by omega
      have hwr : wrap64 ((i : Int) + 1) = (i : Int) + 1 := by have := HO.out.1; unfold wrap64; omega
      have hwr2 : IntKind.i64.wrap ((i : Int) + 1) = (i : Int) + 1 := by rw [IntKind.wrap_i64]; have := HO.out.1; omega
      obtain ⟨l, hli⟩ : ∃ l, all[i]? = some l := ⟨_, List.getElem?_eq_getElem hi⟩
      obtain ⟨g, b, rb, wb, rfl, hbi, a0, hA⟩ := hJ.out.2.1.at_row hli
      have hlo := HO.out.2 l (List.mem_of_getElem? hli)
      have HI := Lib.hid (And.intro hi (And.intro hk.out (And.intro hli hlo)))
      have HA := Lib.hid hA
      have n1 : ∀ W', Below wr.heap.size wr W' → W'.cell? ⟨b, 1, none⟩ = some (.int .i64 l.fin) := fun W' hB => blk_cell (blk_below HA.out.hb hB) 1
      have n2 : ∀ W', Below wr.heap.size wr W' → W'.cell? ⟨b, 2, none⟩ = some (.bool l.com) := fun W' hB => blk_cell (blk_below HA.out.hb hB) 2
      have n3 : ∀ W', Below wr.heap.size wr W' → W'.cell? ⟨b, 3, none⟩ = some (.map (some rb)) := fun W' hB => blk_cell (blk_below HA.out.hb hB) 3
      have HL := Lib.hid (fun (W' : World) (hB : Below wr.heap.size wr W') => listed_at (HA.out.below hB).hr hlo.good_r (by omega) wr.heap.size hB.size)
      clear hi hk hli hlo hA hbi
      go_wp2_with fail
      apply GR.wp_region_grow (R := RB) 18 (by kernel_rfl) (by kernel_rfl) (by kernel_rfl)
      · intro c a d v w h; cases d <;> exact h
      simp only [List.take_succ_cons, List.take_zero, List.drop_succ_cons, List.drop_zero]
      iterate 15
        apply GR.gw_val (by rfl)
        · (intro W' hB hD; have z1 := n1 W' hB; have z2 := n2 W' hB; have z3 := n3 W' hB; go_simp; first | done | rfl)
        simp only [Act.put, List.setIfInBounds_toArray, List.set_cons_zero, List.set_cons_succ]
      apply GR.gw_callR (stable_TL wr.heap.size (stepsOf l.reads)) (by rfl)
      · (intro W' hB hD; go_simp; exact ⟨rfl, rfl⟩)
      · (intro W' hB hD; exact HL.out W' hB)
      rintro v3 ⟨-, A3, c3, rfl, -⟩
      simp only [Act.put, List.setIfInBounds_toArray, List.set_cons_zero, List.set_cons_succ]
      apply GR.gw_rel (stable_TB wr.heap.size ((i : Int) + 1) l.com (decide (0 ≤ l.fin)) (stepsOf l.reads)) (by rfl)
      · intro W' hB hD
        simp [GR.depFacts, Region.binds] at hD
        refine ⟨_, W', ?_, RB_refl W', A3, c3, rfl, (TL_at hD).2⟩
        go_simp
        first | done | rfl
      rintro v4 ⟨-, A4, c4, rfl, -⟩
      simp only [Act.put, List.setIfInBounds_toArray, List.set_cons_zero, List.set_cons_succ]
      apply GR.gw_rel (stable_TZ wr.heap.size (.cells #[.int .i64 0, .bool false, .bool false, .slice none 0 0, .slice none 0 0] 47 (0, 0))) (by rfl)
      · intro W' hB hD
        refine ⟨_, _, ?_, bOne (.cells #[.int .i64 0, .bool false, .bool false, .slice none 0 0, .slice none 0 0] 47), W'.heap.size, rfl, hB.size, heap_alloc_new _ _⟩
        go_simp
        first | done | rfl
      rintro v ⟨-, p, rfl, -, -⟩
      simp only [Act.put, List.setIfInBounds_toArray, List.set_cons_zero, List.set_cons_succ]
      apply GR.gw_nil
      intro Wz hBz hF hP
      have hx := hF (fun W => TZ wr.heap.size (.cells #[.int .i64 0, .bool false, .bool false, .slice none 0 0, .slice none 0 0] 47 (0, 0)) W (ptr p)) (by simp)
      have hy := hF (fun W => TB wr.heap.size ((i : Int) + 1) l.com (decide (0 ≤ l.fin)) (stepsOf l.reads) W (.agg #[.int .i64 ((i : Int) + 1), .bool l.com, .bool (decide (0 ≤ l.fin)), .slice A4 (stepsOf l.reads).length c4, .slice none 0 0])) (by simp)
      replace hy := TB_at hy
      obtain ⟨n3l, hn3l⟩ : ∃ n, (stepsOf l.reads).length = n := ⟨_, rfl⟩
      have HN3 := Lib.hid hn3l
      rw [hn3l] at hy ⊢
      clear hn3l
      rw [TZ_ptr] at hx
      clear hF hP n1 n2 n3
      obtain ⟨hp, Kp⟩ := hx
      obtain ⟨W8, hS8, K8, hO8⟩ := st_whole (P := Try.prog) (ty := 47) (vs := [.int .i64 ((i : Int) + 1), .bool l.com, .bool (decide (0 ≤ l.fin)), .slice A4 n3l c4, .slice none 0 0]) Kp rfl (by kernel_rfl) (by simp [Value.oneCell'])
      have hrow8 : Kd.R k47 47 W8 w.heap.size (fun k => k ≠ p) u2 ((entriesL all).take i) := Kd.R_only (Kd.R_mono (Kd.R_below (Kd.R_bound hJ.out.1) hBz) (fun k hk => by have := hk.2.2.1; omega)) hO8
      have hL8 := (hJ.out.2.1.below hBz).only Kp (by decide) (by decide) hO8
      have hTL8 : TL wr.heap.size (stepsOf l.reads) W8 (.slice A4 n3l c4) := TL.only (⟨A4, c4, by rw [HN3.out], hy⟩ : TL wr.heap.size (stepsOf l.reads) Wz (.slice A4 n3l c4)) Kp hO8
      have hB8 : Below w.heap.size w W8 := (bAfter hJ.out.2.2 hBz).trans (hO8.below (by have := hJ.out.2.2.size; omega) (bAfter hJ.out.2.2 hBz).size)
      have hA8 : LifeAt W8 b rb wb 2000 l := by
        obtain ⟨g', b', rb', wb', e1, hb', -, hA'⟩ := hL8.at_row HI.out.2.2.1
        obtain ⟨g2, b2, rb2, wb2, e2, hb2, -, hA2⟩ := hJ.out.2.1.at_row HI.out.2.2.1
        have hAz := HA.out.below hBz
        have n1 : b ≠ p := fun e => by have := blk_lt HA.out.hb; omega
        have n2 : rb ≠ p := fun e => by have := HA.out.hr.lt; omega
        have n3 : wb ≠ p := fun e => by have := HA.out.hw.lt; omega
        exact hAz.same (hO8.block _ (blk_lt hAz.hb) n1) (hO8.block _ hAz.hr.lt n2) (hO8.block _ hAz.hw.lt n3)
      have m2 : W8.cell? ⟨b, 2, none⟩ = some (.bool l.com) := blk_cell hA8.hb 2
      have HG := Lib.hid (And.intro hrow8 (And.intro hL8 (And.intro hTL8 (And.intro hB8 (And.intro hA8 K8)))))
      have HSZ := Lib.hid (show wr.heap.size ≤ W8.heap.size from Nat.le_trans hBz.size hO8.size)
      have HPL := Lib.hid hp
      clear hrow8 hL8 hTL8 hB8 hA8 K8 hO8 Kp hy hBz hp
      obtain ⟨cm, hcm⟩ : ∃ x, l.com = x := ⟨_, rfl⟩
      obtain ⟨ov, hov⟩ : ∃ x, decide (0 ≤ l.fin) = x := ⟨_, rfl⟩
      rw [hcm] at m2 hS8 ⊢
      rw [hov] at hS8 ⊢
      have HCM := Lib.hid (And.intro hcm hov)
      clear hcm hov
      cases cm with
      | false =>
        have K9 := HG.out.2.2.2.2.2
        rw [HCM.out.1, HCM.out.2] at K9
        have r0 := blk_cell K9 0
        have r1 := blk_cell K9 1
        have r2 := blk_cell K9 2
        have r3 := blk_cell K9 3
        have r4 := blk_cell K9 4
        have HJS := Lib.hid hJ.out.2.2.size
        clear K9
        obtain ⟨xs, hxs⟩ : ∃ xs, (entriesL all).take i = xs := ⟨_, rfl⟩
        have hlen : xs.length ≤ 32 := by rw [← hxs, List.length_take]; have := HO.out.1; have : (entriesL all).length = all.length := (by simp [entriesL]); omega
        have hent : entryL i l = (⟨(i : Int) + 1, false, ov, stepsOf l.reads, []⟩ : S47) := by unfold entryL; rw [HCM.out.1, HCM.out.2]; rfl
        have hnx := entriesL_next all HI.out.2.2.1
        rw [hxs, hent] at hnx
        have hR : Kd.R k47 47 W8 w.heap.size (fun _ => True) u2 xs := by rw [← hxs]; exact Kd.R_mono HG.out.1 (fun _ _ => trivial)
        have hB := HG.out.2.2.2.1
        have hM : k47.M W8 w.heap.size (fun k => ∃ cells, W8.heap[k]? = some (.cells cells 103 (0, 0))) (⟨(i : Int) + 1, false, ov, stepsOf l.reads, []⟩ : S47) [.int .i64 ((i : Int) + 1), .bool false, .bool ov, .slice A4 n3l c4, .slice none 0 0] := k47_mkM W8 w.heap.size _ (⟨(i : Int) + 1, false, ov, stepsOf l.reads, []⟩ : S47) (HG.out.2.2.1.ok (by have := HJS.out; omega)) (Kd.R_nil _ _ _ _ _)
        have hokp : ∀ k, (∃ cells, W8.heap[k]? = some (.cells cells 103 (0, 0))) → True ∧ some k ≠ u2.ownBlock := fun k ⟨cells, hc⟩ => ⟨trivial, fun e => by
          obtain ⟨cells', hc'⟩ := Kd.R_typed hR k e.symm
          rw [hc] at hc'
          injection hc' with hc'
          injection hc' with _ hc'
          cases hc'⟩
        have HX := Lib.hid (And.intro hnx hlen)
        have HLV := Lib.hid HG.out.2.1
        clear hxs hlen hent hnx
        go_wp2_with (first | refine wpList_st rfl rfl hS8 ?_ | (at_builtin; refine Kd.R_append k47 (w0 := w) w.heap.size rfl (.tmp 47) (.tmp 49) 38 47 (.agg #[.int .i64 0, .bool false, .bool false, .slice none 0 0, .slice none 0 0]) 64 rfl Try.underlying38 info47 rfl (by decide) (by omega) u2 xs (⟨(i : Int) + 1, false, ov, stepsOf l.reads, []⟩ : S47) [.int .i64 ((i : Int) + 1), .bool false, .bool ov, .slice A4 n3l c4, .slice none 0 0] (fun _ => True) _ rfl rfl hM hokp (fun _ _ => trivial) hR hB hB.size ?aL ?_))
        case aL => have := HX.out.2; omega
        intro v9 w9x ho hb hg hat
        obtain ⟨inner, hown⟩ := Kd.R_own hR
        have HN : Hid (ERel w (.slice (some ⟨g, 0, none⟩) all.length c) bs all (i + 1) v9 w9x) := Lib.hid ⟨by rw [HX.out.1]; exact ho, ⟨HLV.out.row.kept hg (own_type_ne HLV.out.row hown (by decide)), HLV.out.at_.grown hg (fun q hq => by obtain ⟨cs, hc⟩ := Kd.R_typed hR q hq; exact ⟨cs, 47, hc, by decide⟩)⟩, hb⟩
        clear ho hb hg hat hM hokp hR hB hown
        go_wp2_with fail
        obtain ⟨k1, rfl⟩ : ∃ m, gk = m + 1 := ⟨gk - 1, by have := HI.out.1; have := HI.out.2.1; omega⟩
        go_roundg k1
        case measure => omega
        case rel => exact ⟨i + 1, by first | rfl | exact congrArg _ (wrap_next (by have := HO.out.1; have := HI.out.1; omega)), by have := HI.out.2.1; exact Lib.hid (by omega), HN⟩
      | true =>
        have K9 := HG.out.2.2.2.2.2
        rw [HCM.out.1, HCM.out.2] at K9
        have m4 : W8.cell? ⟨b, 4, none⟩ = some (.map (some wb)) := blk_cell HG.out.2.2.2.2.1.hb 4
        have HL2 := Lib.hid (listed_at HG.out.2.2.2.2.1.hw HI.out.2.2.2.good_w (by omega) wr.heap.size HSZ.out)
        have HK9 := Lib.hid K9
        have HJS := Lib.hid hJ.out.2.2.size
        clear K9
        go_wp2_with (refine wpList_st rfl rfl hS8 ?_)
        refine HL2.out.mono ?_
        rintro e w9 ⟨v5, rfl, hR9, A5, c5, rfl, hT5⟩
        have K10 := blk_below HK9.out hR9
        have f10 := blk_frozen K10 4
        have r10 := blk_cell K10 4
        obtain ⟨n5, hn5⟩ : ∃ n, (stepsOf l.writes).length = n := ⟨_, rfl⟩
        rw [hn5] at hT5 ⊢
        obtain ⟨W10, hW10⟩ : ∃ V, w9.setCell ⟨p, 4, none⟩ (.slice A5 n5 c5) = V := ⟨_, rfl⟩
        have hO10 : Only p w9 W10 := by rw [← hW10]; exact Only.set _ _ _
        have K11 : W10.heap[p]? = some (.cells #[.int .i64 ((i : Int) + 1), .bool true, .bool ov, .slice A4 n3l c4, .slice A5 n5 c5] 47 (0, 0)) := by rw [← hW10]; exact blk_set K10 4 _
        have hB9 := bAfter HG.out.2.2.2.1 hR9
        have HG2 := Lib.hid (show Kd.R k47 47 W10 w.heap.size (fun k => k ≠ p) u2 ((entriesL all).take i) ∧ LivesV w.heap.size W10 2000 (.slice (some ⟨g, 0, none⟩) all.length c) bs all ∧ TL wr.heap.size (stepsOf l.reads) W10 (.slice A4 n3l c4) ∧ Below w.heap.size w W10 ∧ TL wr.heap.size (stepsOf l.writes) W10 (.slice A5 n5 c5) from
          ⟨Kd.R_only (Kd.R_below HG.out.1 hR9) hO10, (HG.out.2.1.below hR9).only K10 (by decide) (by decide) hO10, (stable_TL _ _ _ _ _ HG.out.2.2.1 hR9).only K10 hO10, hB9.trans (hO10.below (by have := HJS.out; have := HPL.out; omega) hB9.size), TL.only ⟨A5, c5, by rw [hn5], hT5⟩ K10 hO10⟩)
        have s0 := blk_cell K11 0
        have s1 := blk_cell K11 1
        have s2 := blk_cell K11 2
        have s3 := blk_cell K11 3
        have s4 := blk_cell K11 4
        clear hR9 hT5 K10 hn5 hO10 K11 hB9 HL2
        obtain ⟨xs, hxs⟩ : ∃ xs, (entriesL all).take i = xs := ⟨_, rfl⟩
        have hlen : xs.length ≤ 32 := by rw [← hxs, List.length_take]; have := HO.out.1; have : (entriesL all).length = all.length := (by simp [entriesL]); omega
        have hent : entryL i l = (⟨(i : Int) + 1, true, ov, stepsOf l.reads, stepsOf l.writes⟩ : S47) := by unfold entryL; rw [HCM.out.1, HCM.out.2]; rfl
        have hnx := entriesL_next all HI.out.2.2.1
        rw [hxs, hent] at hnx
        have hR : Kd.R k47 47 W10 w.heap.size (fun _ => True) u2 xs := by rw [← hxs]; exact Kd.R_mono HG2.out.1 (fun _ _ => trivial)
        have hB := HG2.out.2.2.2.1
        have hM : k47.M W10 w.heap.size (fun k => ∃ cells, W10.heap[k]? = some (.cells cells 103 (0, 0))) (⟨(i : Int) + 1, true, ov, stepsOf l.reads, stepsOf l.writes⟩ : S47) [.int .i64 ((i : Int) + 1), .bool true, .bool ov, .slice A4 n3l c4, .slice A5 n5 c5] := k47_mkM W10 w.heap.size _ (⟨(i : Int) + 1, true, ov, stepsOf l.reads, stepsOf l.writes⟩ : S47) (HG2.out.2.2.1.ok (by have := HJS.out; omega)) (HG2.out.2.2.2.2.ok (by have := HJS.out; omega))
        have hokp : ∀ k, (∃ cells, W10.heap[k]? = some (.cells cells 103 (0, 0))) → True ∧ some k ≠ u2.ownBlock := fun k ⟨cells, hc⟩ => ⟨trivial, fun e => by
          obtain ⟨cells', hc'⟩ := Kd.R_typed hR k e.symm
          rw [hc] at hc'
          injection hc' with hc'
          injection hc' with _ hc'
          cases hc'⟩
        have HX := Lib.hid (And.intro hnx hlen)
        have HLV := Lib.hid HG2.out.2.1
        clear hxs hlen hent hnx
        go_wp2_with (at_builtin; refine Kd.R_append k47 (w0 := w) w.heap.size rfl (.tmp 47) (.tmp 49) 38 47 (.agg #[.int .i64 0, .bool false, .bool false, .slice none 0 0, .slice none 0 0]) 64 rfl Try.underlying38 info47 rfl (by decide) (by omega) u2 xs (⟨(i : Int) + 1, true, ov, stepsOf l.reads, stepsOf l.writes⟩ : S47) [.int .i64 ((i : Int) + 1), .bool true, .bool ov, .slice A4 n3l c4, .slice A5 n5 c5] (fun _ => True) _ rfl rfl hM hokp (fun _ _ => trivial) hR hB hB.size ?aL ?_)
        case aL => have := HX.out.2; omega
        intro v9 w9x ho hb hg hat
        obtain ⟨inner, hown⟩ := Kd.R_own hR
        have HN : Hid (ERel w (.slice (some ⟨g, 0, none⟩) all.length c) bs all (i + 1) v9 w9x) := Lib.hid ⟨by rw [HX.out.1]; exact ho, ⟨HLV.out.row.kept hg (own_type_ne HLV.out.row hown (by decide)), HLV.out.at_.grown hg (fun q hq => by obtain ⟨cs, hc⟩ := Kd.R_typed hR q hq; exact ⟨cs, 47, hc, by decide⟩)⟩, hb⟩
        clear ho hb hg hat hM hokp hR hB hown
        go_wp2_with fail
        obtain ⟨k1, rfl⟩ : ∃ m, gk = m + 1 := ⟨gk - 1, by have := HI.out.1; have := HI.out.2.1; omega⟩
        go_roundg k1
        case measure => omega
        case rel => exact ⟨i + 1, by first | rfl | exact congrArg _ (wrap_next (by have := HO.out.1; have := HI.out.1; omega)), by have := HI.out.2.1; exact Lib.hid (by omega), HN⟩
    · have hi2 : ¬ (i : Int) < all.length := by omega
      obtain rfl : i = all.length := by have := hk.out; omega
      have HF : Hid (Kd.R k47 47 wr w.heap.size (fun _ => True) u2 (entriesL all) ∧ Below w.heap.size w wr) := Lib.hid ⟨by have := hJ.out.1; rwa [List.take_of_length_le (by simp [entriesL])] at this, hJ.out.2.2⟩
      clear hi hk hJ
      go_wp2_with fail
      go_ret
      exact ⟨_, rfl, HF.out⟩
end Go.Proofs.Ytkijjgdcbgmglaa.Q
