/- A row of additions: the law. -/
import Derived.Test.YtgnjkegnddekeaaSumsP
import Derived.Test.YtgnjkegnddekeaaElse
namespace Go.Proofs.Ytgnjkegnddekeaa.Q
open Go.RowKit Go.Lib Go.Proofs.Ytgnjkegnddekeaa Go.Proofs.YtgnjkegnddekeaaW.PrintWords Go.Proofs.YtgnjkegnddekeaaW.PrintLast Go.Proofs.YtgnjkegnddekeaaW.PrintMore
set_option linter.unusedVariables false
set_option linter.unusedSimpArgs false
set_option linter.unnecessarySimpa false

theorem rows74 : ∀ (l : List S74) (w : World) (base : Nat) (ok : Nat → Prop), Reps (k74.M w base ok) 5 l (l.flatMap encO)
  | l, w, base, ok => by
    have : ∀ (zs pre : List S74), Reps (k74.M w base ok) 5 pre (pre.flatMap encO) → Reps (k74.M w base ok) 5 (pre ++ zs) ((pre ++ zs).flatMap encO) := by
      intro zs
      induction zs with
      | nil => intro pre h; rw [List.append_nil]; exact h
      | cons z zs ih =>
        intro pre h
        have := ih (pre ++ [z]) (by rw [List.flatMap_append, List.flatMap_cons, List.flatMap_nil, List.append_nil]; exact Reps.snoc h (k74_mkM w base ok z) rfl)
        rwa [List.append_assoc] at this
    simpa using this l [] (Reps.none _ _)
/-- A literal row is a row of one's own. -/
theorem lit74 (l : List S74) (W : World) (base : Nat) (hb : base ≤ W.heap.size) (hl : l.length ≤ 1000000) : Kd.R k74 74 (W.alloc (.cells (l.flatMap encO).toArray 74)) base (fun _ => True) (.slice (some ⟨W.heap.size, 0, none⟩) l.length l.length) l := by
  have hr := rows74 l (W.alloc (.cells (l.flatMap encO).toArray 74)) base (fun k => True ∧ some k ≠ (Value.slice (some ⟨W.heap.size, 0, none⟩) l.length l.length).ownBlock)
  refine ⟨fun _ _ => trivial, l.flatMap encO, ?_, hr⟩
  have h2 := World.ownsRow_lit (base := base) (e := 74) (size := 5) W (l.flatMap encO).toArray l.length hb (by simp only [maxLen]; omega) (by simpa using hr.1)
  have h3 : (W.alloc (.cells (l.flatMap encO).toArray 74)).ownsRow base 74 5 (.slice (some ⟨W.heap.size, 0, none⟩) l.length l.length) l.length (l.flatMap encO) := by simpa using h2
  exact h3
def opsL (k : Int) (l : List Int) : List S74 := [⟨2, 0, k, 0, 0⟩, ⟨0, 1, 0, 0, 0⟩] ++ l.flatMap sumO
theorem opsL_len (k : Int) (l : List Int) : (opsL k l).length = 2 + 2 * l.length := by
  simp only [opsL, List.length_append, sums_len]
  rfl
theorem sums_rng (k : Int) (l : List Int) (h0 : 0 ≤ k) (h4 : k < 4) (hg : ∀ y ∈ l, -32768 ≤ y ∧ y ≤ 32767) : ∀ o ∈ sumsL k l, R64 o.f2 ∧ R64 o.f4 := by
  intro o ho
  simp only [sumsL, sumO, List.mem_append, List.mem_cons, List.not_mem_nil, or_false, List.mem_flatMap] at ho
  rcases ho with ((rfl | rfl) | ⟨y, hy, rfl | rfl⟩) | rfl
  all_goals (try have := hg _ hy)
  all_goals (unfold R64; dsimp only; omega)
set_option maxRecDepth 100000 in
set_option maxHeartbeats 2000000 in
theorem sums_core (l : List Int) (A : Option Addr) (c : Nat) (x : Int) (hx0 : 0 ≤ x) (hx1 : x < 256) (W : World) (hC : Kd.C (Kd.int .i16) W A l.length l) (hlc : l.length ≤ c) (hg : ∀ y ∈ l, -32768 ≤ y ∧ y ≤ 32767) (RD : ∀ (A : Option Addr) (c : Nat) (l : List S80) (w : World), Kd.C k80 w A l.length l → l.length ≤ 1000000 → Calls Try.prog 26 #[.slice A l.length c] w fun e w' => ∃ A c, e = .returned (.slice A (readsL l).length c) ∧ Kd.C k80 w' A (readsL l).length (readsL l) ∧ (readsL l).length ≤ c ∧ Below w.heap.size w w')
    (WR : ∀ (A : Option Addr) (c : Nat) (l : List S80) (w : World), Kd.C k80 w A l.length l → l.length ≤ 1000000 → Calls Try.prog 27 #[.slice A l.length c] w fun e w' => ∃ A c, e = .returned (.slice A (writesL l).length c) ∧ Kd.C k80 w' A (writesL l).length (writesL l) ∧ (writesL l).length ≤ c ∧ Below w.heap.size w w') :
    Calls Try.prog 9 #[.slice A l.length c, .int .u8 x] W fun e w' => e = .returned (.bool true) ∧ Below W.heap.size W w' := by
  have hu34 := Try.underlying34
  have hu42 := Try.underlying42
  have hu61 := Try.underlying61
  have hu59 := Try.underlying59
  have hu56 := Try.underlying56
  have hu80 := Try.underlying80
  have hu74 := Try.underlying74
  have hu32 := Try.underlying32
  have hu83 := Try.underlying83
  have HA := Lib.hid (alive_calls W)
  by_cases h40 : l.length ≤ 40
  case neg =>
    have h40' : (40 : Int) < l.length := by omega
    go_enter Try.func9, Try.ntmps9
    go_wp2_with fail
    refine HA.out.mono ?_
    rintro e w1 ⟨rfl, hB1⟩
    go_wp2_with fail
    go_ret
    exact ⟨rfl, hB1⟩
  have h40' : ¬ (40 : Int) < l.length := by omega
  have hk0' : 0 ≤ x % 4 := by omega
  have hk4' : x % 4 < 4 := by omega
  have hK := Lib.hid (And.intro hk0' hk4')
  clear hk0' hk4'
  have HC := Lib.hid (And.intro hC hg)
  clear hC
  go_enter Try.func9, Try.ntmps9
  go_wp2_with fail
  refine HA.out.mono ?_
  rintro e w1 ⟨rfl, hB1⟩
  obtain ⟨W2, hW2, KW2, hBW2⟩ : ∃ V, w1.alloc (.cells #[.int .i64 2, .int .i64 0, .int .i64 (x % 4), .int .i64 0, .int .i64 0, .int .i64 0, .int .i64 1, .int .i64 0, .int .i64 0, .int .i64 0] 74) = V ∧ V.heap[w1.heap.size]? = some (.cells #[.int .i64 2, .int .i64 0, .int .i64 (x % 4), .int .i64 0, .int .i64 0, .int .i64 0, .int .i64 1, .int .i64 0, .int .i64 0, .int .i64 0] 74 (0, 0)) ∧ Below w1.heap.size w1 V := ⟨_, rfl, heap_alloc_new _ _, bOne _⟩
  have hR2 : Kd.R k74 74 W2 w1.heap.size (fun _ => True) (.slice (some ⟨w1.heap.size, 0, none⟩) 2 2) (opsL (x % 4) []) := by
    rw [← hW2]
    exact lit74 (opsL (x % 4) []) w1 w1.heap.size (Nat.le_refl _) (by simp [opsL])
  have HR2 := Lib.hid (And.intro hR2 (And.intro hBW2 hB1))
  clear hR2 KW2 hBW2 hB1 HA hg
  go_wp2_with fail
  go_loopg [6, 7, 26, 9] l.length (fun kq v6 v7 v26 _ W' => ∃ (i : Nat) (A : Option Addr) (c : Nat) (s : Int), v6 = .slice A (2 + 2 * i) c ∧ v7 = .int .i64 s ∧ v26 = .int .i64 i ∧ Hid (kq + i = l.length) ∧ Hid ((l.take i).sum = s) ∧ Hid (Kd.R k74 74 W' w1.heap.size (fun _ => True) (.slice A (2 + 2 * i) c) (opsL (x % 4) (l.take i)) ∧ Below w1.heap.size w1 W'))
  case atStart => exact ⟨0, _, 2, 0, rfl, rfl, rfl, by simp [Hid], by simp [Hid], Lib.hid ⟨HR2.out.1, HR2.out.2.1⟩⟩
  case round =>
    obtain ⟨i, B, d, s, rfl, rfl, rfl, hk', hs', hJ⟩ := hrel
    by_cases hi : i < l.length
    · have hi2 : (i : Int) < l.length := by omega
      have hi0 : (0 : Int) ≤ i := by omega
      obtain ⟨ad, rfl, a0⟩ := Kd.at_int (Kd.C_below HC.out.1 (bAfter HR2.out.2.2 hJ.out.2)) (i : Int) hi0 hi2
      have hx : l[i]? = some (rd l i) := by
        unfold rd
        simp [List.getD_eq_getElem?_getD, hi]
      have hy := HC.out.2 _ (List.mem_of_getElem? hx)
      have hsum := sum_bound (l.take (i + 1)) fun y h => HC.out.2 _ (List.mem_of_mem_take h)
      have hst : (l.take (i + 1)).sum = s + rd l i := by rw [take_next1 hx, List.sum_append, hs'.out]; simp
      rw [hst, List.length_take] at hsum
      have HX := Lib.hid (And.intro hx hst)
      clear hx hst
      generalize rd l i = y at *
      simp only [Int.toNat_natCast] at a0
      have hy0 := hy.1
      have hy1 := hy.2
      have hsy0 : -9223372036854775808 ≤ s + y := by omega
      have hsy1 : s + y < 9223372036854775808 := by omega
      have hw : wrap64 (s + y) = s + y := by unfold wrap64; omega
      generalize hsy : s + y = s2 at *
      have hlo : (opsL (x % 4) (l.take i)).length = 2 + 2 * i := by rw [opsL_len, List.length_take]; omega
      generalize hout : opsL (x % 4) (l.take i) = out at *
      have HO := Lib.hid (And.intro hout hlo)
      have HJ := Lib.hid hJ.out
      clear hJ hout hlo
      go_wp2_with (at_builtin; refine Kd.R_append_rows k74 (w0 := w1) (Rr := k74.K wr) w1.heap.size rfl _ _ 42 74 _ _ rfl Try.underlying42 info74 rfl (by decide) (by decide) _ out [(⟨0, 2, 0, 0, y⟩ : S74), (⟨4, 1, 1, 2, 0⟩ : S74)] (some ⟨wr.heap.size, 0, none⟩) 2 2 (fun _ => True) (fun _ => False) rfl rfl ?HO ?HR ?hKM (fun _ h => h.elim) (fun _ _ => trivial) ?HB ?hbase ?hl ?_)
      case HO => exact Kd.R_alloc HJ.out.1 _
      case HR => exact ⟨rfl, by decide, fun _ => ⟨_, rfl, fun j p hj => by
          rcases j with _ | _ | j
          · have : (⟨0, 2, 0, 0, y⟩ : S74) = p := by simpa using hj
            subst this
            exact ⟨[.int .i64 0, .int .i64 2, .int .i64 0, .int .i64 0, .int .i64 y], rfl, k74_mk _ (⟨0, 2, 0, 0, y⟩ : S74), fun q u hu => by
              rw [Addr.add_lit]
              show (wr.alloc _).cell? ⟨wr.heap.size, 0 + (0 * 5 + q), none⟩ = _
              rw [Nat.zero_mul, Nat.zero_add, Nat.zero_add]
              refine (blk_cell (blk_new _ _) q).trans ?_
              have hq := (List.getElem?_eq_some_iff.1 hu).1
              simp at hq
              rcases q with _ | _ | _ | _ | _ | q
              all_goals first | (simpa using hu) | omega⟩
          · have : (⟨4, 1, 1, 2, 0⟩ : S74) = p := by simpa using hj
            subst this
            exact ⟨[.int .i64 4, .int .i64 1, .int .i64 1, .int .i64 2, .int .i64 0], rfl, k74_mk _ (⟨4, 1, 1, 2, 0⟩ : S74), fun q u hu => by
              rw [Addr.add_lit]
              show (wr.alloc _).cell? ⟨wr.heap.size, 0 + ((0 + 1) * 5 + q), none⟩ = _
              rw [Nat.zero_add, Nat.zero_add, Nat.one_mul]
              refine (blk_cell (blk_new _ _) (5 + q)).trans ?_
              have hq := (List.getElem?_eq_some_iff.1 hu).1
              simp at hq
              rcases q with _ | _ | _ | _ | _ | q
              all_goals first | (simpa using hu) | omega⟩
          · simp at hj⟩⟩
      case hKM => exact fun x cs h => flat74 h _ _
      case HB => exact bAfter HJ.out.2 (bOne _)
      case hbase => have := HJ.out.2.size; simp; omega
      case hl => have := HO.out.2; omega
      intro v2 w2 hR2 hB2' hg2 _
      generalize hl2 : out ++ [(⟨0, 2, 0, 0, y⟩ : S74), (⟨4, 1, 1, 2, 0⟩ : S74)] = l2 at hR2
      have HL2 := Lib.hid hl2
      clear hl2
      have hlen2 : l2.length = 2 + 2 * (i + 1) := by rw [← HL2.out, List.length_append, HO.out.2]; simp; omega
      obtain ⟨A2, c2, rfl⟩ := Kd.R_slice hR2
      rw [hlen2] at hR2
      have hBF := hB2'
      have HZ := Lib.hid (And.intro hR2 hBF)
      rw [hlen2]
      clear hR2 hg2 hBF hlen2 hB2'
      go_wp2_with fail
      obtain ⟨kk, rfl⟩ : ∃ m, gk = m + 1 := ⟨gk - 1, by have := hk'.out; omega⟩
      go_roundg kk
      case measure => omega
      case rel =>
        have h3 : opsL (x % 4) (l.take (i + 1)) = l2 := by
          rw [take_next1 HX.out.1, ← HL2.out, ← HO.out.1]
          simp [opsL, sumO]
        refine ⟨i + 1, A2, c2, s2, rfl, rfl, by first | rfl | rw [wrap_next (by omega)], Lib.hid (by have := hk'.out; omega), Lib.hid HX.out.2, Lib.hid ⟨?_, HZ.out.2⟩⟩
        rw [h3]
        exact HZ.out.1
    · have hi2 : ¬ (i : Int) < l.length := by omega
      have hk0 : i = l.length := by have := hk'.out; omega
      subst hk0
      have hs2 := hs'.out
      have hJ2 := hJ.out
      rw [List.take_length] at hs2 hJ2
      subst hs2
      have HJ := Lib.hid hJ2
      clear hs' hJ hJ2
      go_wp2_with (at_builtin; refine Kd.R_append_rows k74 (w0 := w1) (Rr := k74.K wr) w1.heap.size rfl _ _ 42 74 _ _ rfl Try.underlying42 info74 rfl (by decide) (by decide) _ (opsL (x % 4) l) [(⟨9, 0, 1, 0, 0⟩ : S74)] (some ⟨wr.heap.size, 0, none⟩) 1 1 (fun _ => True) (fun _ => False) rfl rfl ?HO ?HR ?hKM (fun _ h => h.elim) (fun _ _ => trivial) ?HB ?hbase ?hl ?_)
      case HO => exact Kd.R_alloc HJ.out.1 _
      case HR => exact ⟨rfl, by decide, fun _ => ⟨_, rfl, fun j p hj => by
          rcases j with _ | j
          · have : (⟨9, 0, 1, 0, 0⟩ : S74) = p := by simpa using hj
            subst this
            exact ⟨[.int .i64 9, .int .i64 0, .int .i64 1, .int .i64 0, .int .i64 0], rfl, k74_mk _ (⟨9, 0, 1, 0, 0⟩ : S74), fun q u hu => by
              rw [Addr.add_lit]
              show (wr.alloc _).cell? ⟨wr.heap.size, 0 + (0 * 5 + q), none⟩ = _
              rw [Nat.zero_mul, Nat.zero_add, Nat.zero_add]
              exact (blk_cell (blk_new _ _) q).trans (by simpa using hu)⟩
          · simp at hj⟩⟩
      case hKM => exact fun x cs h => flat74 h _ _
      case HB => exact bAfter HJ.out.2 (bOne _)
      case hbase => have := HJ.out.2.size; simp; omega
      case hl => rw [opsL_len]; omega
      intro v2 w2 hR2 hB2' hg2 _
      obtain ⟨L, hL⟩ : ∃ L, sumsL (x % 4) l = L := ⟨_, rfl⟩
      have hLo : opsL (x % 4) l ++ [(⟨9, 0, 1, 0, 0⟩ : S74)] = L := hL
      rw [hLo] at hR2
      obtain ⟨A2, c2, e2, q2, g2⟩ := Kd.R_reads hR2
      subst e2
      have hBF := hB2'
      have hBw := bAfter HR2.out.2.2 hBF
      obtain ⟨W3, hW3, KW3, hBW3⟩ := made_four w2
      have hsr := sums_run (x % 4) hK.out.1 hK.out.2 l h40 (fun y hy => HC.out.2 y hy)
      rw [hL] at hsr
      obtain ⟨rs, hl8, hsr⟩ := hsr
      have hLn : 3 + 2 * l.length = L.length := by rw [← hL, sumsL_len]
      have hR := run_calls W3 _ c2 L _ 4 z4 1000 zR (Kd.C_below g2 hBW3) q2 KW3 (Nat.le_refl _) (by rw [← hL]; exact sums_rng (x % 4) l hK.out.1 hK.out.2 (fun y hy => HC.out.2 y hy)) z4_ok zR_ok (by omega)
      rw [show ((1000 : Int).toNat + 1) = 1001 from rfl, hsr, hLn] at hR
      have HR := Lib.hid hR
      have HB3 := Lib.hid (bAfter hBw hBW3)
      clear hR hR2 hB2' hg2 hBF hBw g2 KW3 hBW3
      go_wp2_with fail
      refine HR.out.mono ?_
      rintro e w4 ⟨TA, tc, rfl, hl8, hT, htc, hB4⟩
      dsimp only at hl8 hT
      obtain ⟨Vc, hVc, KVc, hBVc⟩ : ∃ V, w4.alloc (.cells #[.int .i64 0, .int .i64 0, .int .i64 0, .int .i64 0, .int .i64 0, .int .i64 0, .int .i64 0, .int .i64 0, .int .i64 0, .int .i64 0, .int .i64 0, .int .i64 0, .int .i64 0, .int .i64 0, .int .i64 0, .int .i64 0, .int .i64 0, .int .i64 0, .slice none 0 0] 59) = V ∧ V.heap[w4.heap.size]? = some (.cells #[.int .i64 0, .int .i64 0, .int .i64 0, .int .i64 0, .int .i64 0, .int .i64 0, .int .i64 0, .int .i64 0, .int .i64 0, .int .i64 0, .int .i64 0, .int .i64 0, .int .i64 0, .int .i64 0, .int .i64 0, .int .i64 0, .int .i64 0, .int .i64 0, .slice none 0 0] 59 (0, 0)) ∧ Below w4.heap.size w4 V := ⟨_, rfl, heap_alloc_new _ _, bOne _⟩
      obtain ⟨V8, hSV8, KKV8, hOV8⟩ := st_whole (P := Try.prog) (ty := 59) (vs := .int .i64 0 :: .int .i64 (L.length : Int) :: (rc (rs) ++ [.slice TA 1 tc])) KVc (by have := rc_length (rs); simp [this, hl8]) (by have := rc_length (rs); rw [size59]; simp [this, hl8]) (by
        intro v hv
        simp only [List.mem_cons, List.mem_append, List.not_mem_nil, or_false] at hv
        rcases hv with rfl | rfl | hv | rfl
        · rfl
        · rfl
        · exact rc_one _ v hv
        · rfl)
      have r0 : V8.cell? ⟨w4.heap.size, 0, none⟩ = some (.int .i64 0) := blk_cell KKV8 0
      have r1 : V8.cell? ⟨w4.heap.size, 1, none⟩ = some (.int .i64 (L.length : Int)) := blk_cell KKV8 1
      have r18 : V8.cell? ⟨w4.heap.size, 18, none⟩ = some (.slice TA 1 tc) := (blk_cell KKV8 18).trans (res_tail (by rw [rc_length, hl8]))
      have hB8 := bAfter HB3.out (bAfter hB4 (hBVc.trans (hOV8.below (Nat.le_refl _) hBVc.size)))
      have hT8 : Kd.C k80 V8 TA 1 [⟨x % 4, ⟨1, l.sum⟩, true⟩] := Kd.C_below hT (hBVc.trans (hOV8.below (Nat.le_refl _) hBVc.size))
      have hWR := WR TA tc [⟨x % 4, ⟨1, l.sum⟩, true⟩] V8 hT8 (by simp)
      rw [one_write ⟨x % 4, ⟨1, l.sum⟩, true⟩ rfl hK.out.1 (by have := hK.out.2; show x % 4 < 64; omega)] at hWR
      have HWR := Lib.hid hWR
      have H8 := Lib.hid (And.intro hB8 (And.intro hT8 KKV8))
      clear hWR hB8 hT8 hT hBVc hOV8 KVc KKV8 hB4 HR HB3
      go_wp2_with (refine wpList_st rfl rfl hSV8 ?_)
      refine HWR.out.mono ?_
      rintro e w9 ⟨A9, c9, rfl, g1, -, hB9⟩
      obtain ⟨ad, rfl, a0, a1, a2, a3⟩ := at_T80 g1 0 (by omega) (by simp)
      simp [rd_T80, addr_zero] at a0 a1 a2 a3
      have q0 := blk_cell (blk_below H8.out.2.2 hB9) 0
      have q1 := blk_cell (blk_below H8.out.2.2 hB9) 1
      have q18 := (blk_cell (blk_below H8.out.2.2 hB9) 18).trans (res_tail (by rw [rc_length, hl8]))
      have hRD := RD TA tc [⟨x % 4, ⟨1, l.sum⟩, true⟩] w9 (Kd.C_below H8.out.2.1 hB9) (by simp)
      rw [no_read ⟨x % 4, ⟨1, l.sum⟩, true⟩ rfl] at hRD
      have HRD := Lib.hid hRD
      have H9 := Lib.hid (bAfter H8.out.1 hB9)
      clear hRD hB9 g1 r0 r1 r18 H8 HWR
      go_wp2_with fail
      refine HRD.out.mono ?_
      rintro e wz ⟨Az, cz, rfl, -, -, hBz⟩
      have HZ := Lib.hid (bAfter H9.out hBz)
      clear hBz H9 HRD
      go_wp2_with fail
      go_ret
      exact ⟨rfl, HZ.out⟩
end Go.Proofs.Ytgnjkegnddekeaa.Q
