/- CodeReads: what any bytes are as a block is the document's. -/
import Derived.Test.YtbnchippfebdkaaPureD
import Derived.Test.YtbnchippfebdkaaFlat
import Derived.Test.YtbnchippfebdkaaQ14
namespace Go.Proofs.Ytbnchippfebdkaa
open Go.RowKit Go.Proofs.Ytbnchippfebdkaa.Q Go.Proofs.YtbnchippfebdkaaW.PrintWords Go.Proofs.YtbnchippfebdkaaW.PrintLast Go.Proofs.YtbnchippfebdkaaW.PrintMore
set_option linter.unusedVariables false
set_option linter.unusedSimpArgs false

/-! ### The size of an operation -/
theorem adv_bel {s many : Int} (hs : sym s) (hm : 1 ≤ many) : adv (bel s many) = if s = 45 then 0 else 1 := by
  unfold adv bel
  rcases hs with rfl | rfl | rfl | rfl
  · simp
  · simp
  · simp
    omega
  · simp
theorem refsize_step (F : ByteArray) (k i t : Nat) (hi : i < 3) (hF : F.size = 4) (hs : sym (bt F i)) (ht : t < 1000) :
    warpbeamref16_size.l0 (k + 1) F (t : Int) (i : Int) = warpbeamref16_size.l0 k F ((t + adv (bel (bt F i) 200) : Nat) : Int) ((i + 1 : Nat) : Int) := by
  rw [warpbeamref16_size.l0, if_pos (by omega), if_pos (by omega), hF, if_pos (by omega), wrap_next (by omega), wrap_next (by omega), adv_bel hs (by decide)]
  by_cases h : bt F i = 45
  · rw [if_pos h, if_pos h]
    rfl
  · rw [if_neg h, if_neg h]
theorem refsize {c : Int} (hc : 0 ≤ c ∧ c < 17) (k : Nat) (hk : 10 < k) : warpbeamref16_size.f k c = some ((sz c : Nat) : Int) := by
  obtain ⟨F, hF, hs, hne, h0, h1, h2, h3, p0, p1, p2⟩ := table c hc
  obtain ⟨k, rfl⟩ : ∃ j, k = j + 10 := ⟨k - 10, by omega⟩
  unfold warpbeamref16_size.f
  rw [hF, Option.bind_some, if_neg hne]
  have a1 (b : Int) : adv b ≤ 1 := by unfold adv; split <;> omega
  have g1 : 1 + adv (bel (bt F ((0 : Nat) : Int)) 200) = q1 c := by rw [show bel (bt F ((0 : Nat) : Int)) 200 = (sh c).f1 from h0 200]; rfl
  have g2 : q1 c + adv (bel (bt F ((0 + 1 : Nat) : Int)) 200) = q2 c := by rw [show bel (bt F ((0 + 1 : Nat) : Int)) 200 = (sh c).f2 from h1 200]; rfl
  have g3 : q2 c + adv (bel (bt F ((0 + 1 + 1 : Nat) : Int)) 200) = q3 c := by rw [show bel (bt F ((0 + 1 + 1 : Nat) : Int)) 200 = third (sh c) 200 from h2 200]; rfl
  have b1 := a1 (bel (bt F ((0 : Nat) : Int)) 200)
  have b2 := a1 (bel (bt F ((0 + 1 : Nat) : Int)) 200)
  have b3 := a1 (bel (bt F ((0 + 1 + 1 : Nat) : Int)) 200)
  rw [show (1 : Int) = ((1 : Nat) : Int) from rfl, show (0 : Int) = ((0 : Nat) : Int) from rfl, refsize_step F (k + 9) 0 1 (by decide) hs p0 (by decide), g1, refsize_step F (k + 8) (0 + 1) (q1 c) (by decide) hs p1 (by omega), g2, refsize_step F (k + 7) (0 + 1 + 1) (q2 c) (by decide) hs p2 (by omega), g3]
  rw [warpbeamref16_size.l0, if_neg (by omega), hs, if_pos (by decide)]
  unfold sz
  rcases h3 with ⟨h3, h5⟩ | ⟨h3, h5⟩
  · rw [if_pos h3, h5, if_pos rfl]
    congr 1
    unfold wrap64
    omega
  · rw [if_neg (by rw [h3]; decide), h5, if_neg (by decide)]
    rfl
theorem refsize_no {c : Int} (hc : ¬ (0 ≤ c ∧ c < 17)) (k : Nat) : warpbeamref16_size.f k c = some (-1) := by
  unfold warpbeamref16_size.f
  rw [(no_table c hc).1, Option.bind_some, if_pos (by rw [ByteArray.toList_eq])]

/-! ### The operation of so many bytes -/
theorem refop_step (X : List Int) (F : ByteArray) (xs : List Int) (k i p : Nat) (hi : i < 3) (hF : F.size = 4) (hs : sym (bt F i)) (hb : Bytes X) (hX : X.length < 100000) (hxs : xs.length = 3) (hz : xs.set i 0 = xs) (hp : p + adv (bel (bt F i) 200) ≤ X.length) :
    warpbeamref16_op.l0 (k + 1) X F xs (p : Int) (i : Int) = warpbeamref16_op.l0 k X F (xs.set i (val X p (bel (bt F i) 200))) ((p + adv (bel (bt F i) 200) : Nat) : Int) ((i + 1 : Nat) : Int) := by
  have ha := adv_bel hs (many := 200) (by decide)
  have hv : val X p (bel (bt F i) 200) = if bt F i = 45 then 0 else rd X p := by
    unfold val
    unfold adv at ha
    by_cases h : bel (bt F i) 200 = 0
    · rw [if_pos h] at ha ⊢
      by_cases h4 : bt F i = 45
      · rw [if_pos h4]
      · rw [if_neg h4] at ha; omega
    · rw [if_neg h] at ha ⊢
      by_cases h4 : bt F i = 45
      · rw [if_pos h4] at ha; omega
      · rw [if_neg h4]
  rw [warpbeamref16_op.l0, if_pos (by omega), if_pos (by omega), hF, if_pos (by omega), wrap_next (i := i) (by omega), hv]
  rw [ha] at hp ⊢
  by_cases h : bt F i = 45
  · rw [if_pos h, if_pos h, if_pos h, hz]
    rfl
  · rw [if_neg h] at hp
    rw [if_neg h, if_neg h, if_neg h, if_pos (by omega), if_pos (by omega), hxs, if_pos (by omega), wrap_next (by omega), Int.toNat_natCast]
    have := hb.rd (i := p) (by omega)
    rw [show wrap64 (rd X p) = rd X p from by unfold wrap64; omega]
theorem refop_num (X : List Int) (xs : List Int) (p : Nat) (hb : Bytes X) (hX : X.length < 100000) (h0 : 0 < X.length) (hxs : xs.length = 3) (hp : p ≤ X.length) (h8 : X.length - p ≤ 8) : ∀ (t k : Nat), p + t ≤ X.length → t < k →
    warpbeamref16_op.l1 k X xs (p : Int) (lev (X.drop (p + t))) (((p + t : Nat) : Int) - 1) = some (wrap64 (rd X 0), rd xs 0, rd xs 1, rd xs 2, wrap64 (lev (X.drop p)))
  | 0, k, ht, hk => by
    obtain ⟨k, rfl⟩ : ∃ j, k = j + 1 := ⟨k - 1, by omega⟩
    rw [warpbeamref16_op.l1, if_neg (by omega), if_pos (by omega), hxs, if_pos (by decide), if_pos (by decide), if_pos (by decide)]
    rfl
  | t + 1, k, ht, hk => by
    obtain ⟨k, rfl⟩ : ∃ j, k = j + 1 := ⟨k - 1, by omega⟩
    have ih := refop_num X xs p hb hX h0 hxs hp h8 t k (by omega) (by omega)
    have hbd := lev_bound (hb.drop (p + (t + 1)))
    have hpw : (256 : Int) ^ (X.drop (p + (t + 1))).length ≤ 72057594037927936 := pow_small (by rw [List.length_drop]; omega)
    have hy := hb.rd (i := p + t) (by omega)
    have e : lev (X.drop (p + t)) = rd X ((p + t : Nat) : Int) + 256 * lev (X.drop (p + (t + 1))) := by
      rw [List.drop_eq_getElem_cons (by omega), rd_eq (by omega)]
      rfl
    have i1 : (((p + (t + 1) : Nat) : Int) - 1) = ((p + t : Nat) : Int) := by omega
    rw [i1, warpbeamref16_op.l1, if_pos (by omega), if_pos (by omega), if_pos (by omega)]
    have e2 : IntKind.u64.wrap ((IntKind.u64.wrap (lev (X.drop (p + (t + 1))) * 256)) + (IntKind.u64.wrap (rd X ((p + t : Nat) : Int)))) = lev (X.drop (p + t)) := by
      rw [e]
      show ((lev (X.drop (p + (t + 1))) * 256) % 18446744073709551616 + rd X ((p + t : Nat) : Int) % 18446744073709551616) % 18446744073709551616 = _
      omega
    rw [e2, show wrap64 (((p + t : Nat) : Int) - 1) = ((p + t : Nat) : Int) - 1 from by unfold wrap64; omega]
    exact ih

theorem refop {X : List Int} {x : Int} {l : List Int} (hX : X = x :: l) (hb : Bytes X) (hc : 0 ≤ x ∧ x < 17) (hs : X.length = sz x) (k : Nat) (hk : 30 < k) :
    warpbeamref16_op.f k X = some ((opOf X x).f0, (opOf X x).f1, (opOf X x).f2, (opOf X x).f3, (opOf X x).f4) := by
  obtain ⟨F, hF, hs4, hne, h0, h1, h2, h3, p0, p1, p2⟩ := table x hc
  obtain ⟨k, rfl⟩ : ∃ j, k = j + 20 := ⟨k - 20, by omega⟩
  have a1 (b : Int) : adv b ≤ 1 := by unfold adv; split <;> omega
  have t1 : q1 x ≤ 2 := by have := a1 (sh x).f1; unfold q1; omega
  have t2 : q2 x ≤ 3 := by have := a1 (sh x).f2; unfold q2; omega
  have t3 : q3 x ≤ 4 := by have := a1 (third (sh x) 200); unfold q3; omega
  have u2 : q1 x ≤ q2 x := by unfold q2; omega
  have u3 : q2 x ≤ q3 x := by unfold q3; omega
  have u1 : 1 ≤ q1 x := by unfold q1; omega
  have z8 : sz x ≤ q3 x + 8 ∧ q3 x ≤ sz x := by unfold sz; split <;> omega
  have hx0 : rd X 0 = x := by rw [hX]; rfl
  have hw : wrap64 x = x := by unfold wrap64; omega
  unfold warpbeamref16_op.f
  rw [if_pos (by omega), hx0, hw, hF, Option.bind_some]
  have g1 : 1 + adv (bel (bt F ((0 : Nat) : Int)) 200) = q1 x := by rw [show bel (bt F ((0 : Nat) : Int)) 200 = (sh x).f1 from h0 200]; rfl
  have g2 : q1 x + adv (bel (bt F ((0 + 1 : Nat) : Int)) 200) = q2 x := by rw [show bel (bt F ((0 + 1 : Nat) : Int)) 200 = (sh x).f2 from h1 200]; rfl
  have g3 : q2 x + adv (bel (bt F ((0 + 1 + 1 : Nat) : Int)) 200) = q3 x := by rw [show bel (bt F ((0 + 1 + 1 : Nat) : Int)) 200 = third (sh x) 200 from h2 200]; rfl
  have v1 : val X 1 (bel (bt F ((0 : Nat) : Int)) 200) = val X 1 (sh x).f1 := by rw [show bel (bt F ((0 : Nat) : Int)) 200 = (sh x).f1 from h0 200]
  have v2 : val X (q1 x) (bel (bt F ((0 + 1 : Nat) : Int)) 200) = val X (q1 x) (sh x).f2 := by rw [show bel (bt F ((0 + 1 : Nat) : Int)) 200 = (sh x).f2 from h1 200]
  have v3 : val X (q2 x) (bel (bt F ((0 + 1 + 1 : Nat) : Int)) 200) = val X (q2 x) (third (sh x) 200) := by rw [show bel (bt F ((0 + 1 + 1 : Nat) : Int)) 200 = third (sh x) 200 from h2 200]
  have r1 := refop_step X F [0, 0, 0] (k + 19) 0 1 (by decide) hs4 p0 hb (by omega) rfl rfl (by omega)
  rw [v1, g1] at r1
  have r2 := refop_step X F ([0, 0, 0].set 0 (val X 1 (sh x).f1)) (k + 18) (0 + 1) (q1 x) (by decide) hs4 p1 hb (by omega) rfl rfl (by omega)
  rw [v2, g2] at r2
  have r3 := refop_step X F (([0, 0, 0].set 0 (val X 1 (sh x).f1)).set (0 + 1) (val X (q1 x) (sh x).f2)) (k + 17) (0 + 1 + 1) (q2 x) (by decide) hs4 p2 hb (by omega) rfl rfl (by omega)
  rw [v3, g3] at r3
  rw [show (1 : Int) = ((1 : Nat) : Int) from rfl, show (0 : Int) = ((0 : Nat) : Int) from rfl]
  rw [show ([((0 : Nat) : Int), ((0 : Nat) : Int), ((0 : Nat) : Int)] : List Int) = [0, 0, 0] from rfl, r1, r2, r3]
  rw [warpbeamref16_op.l0, if_neg (by omega)]
  have hn := refop_num X ((([0, 0, 0].set 0 (val X 1 (sh x).f1)).set (0 + 1) (val X (q1 x) (sh x).f2)).set (0 + 1 + 1) (val X (q2 x) (third (sh x) 200))) (q3 x) hb (by omega) (by omega) rfl (by omega) (by omega) (X.length - q3 x) (k + 16) (by omega) (by omega)
  rw [show q3 x + (X.length - q3 x) = X.length from by omega, List.drop_length, hx0, hw] at hn
  rw [show wrap64 ((X.length : Int) - 1) = (X.length : Int) - 1 from by unfold wrap64; omega]
  have hl : wrap64 (lev (X.drop (q3 x))) = (opOf X x).f4 := by
    unfold opOf
    cases h5 : (sh x).f5 with
    | false =>
      have : sz x = q3 x := by unfold sz; rw [h5]; rfl
      rw [List.drop_eq_nil_of_le (by omega)]
      show wrap64 0 = (0 : Int)
      simp [wrap64]
    | true =>
      have hz : sz x = q3 x + 8 := by unfold sz; rw [h5]; rfl
      show _ = numT (X.drop (q3 x)) 8
      have hd : (X.drop (q3 x)).length = 8 := by rw [List.length_drop]; omega
      rw [numT_lev (hb.drop _) 8 (Nat.le_refl _) (by omega), List.take_of_length_le (by omega)]
  rw [hl] at hn
  exact hn

theorem val_take {X : List Int} {p n : Nat} {b : Int} (h : p + adv b ≤ n) (hn : n ≤ X.length) : val (X.take n) p b = val X p b := by
  unfold val
  unfold adv at h
  by_cases hb : b = 0
  · rw [if_pos hb, if_pos hb]
  · rw [if_neg hb] at h ⊢
    rw [if_neg hb, rd_take (by omega) hn]
theorem opOf_take {X : List Int} (hb : Bytes X) (x : Int) (h : sz x ≤ X.length) : opOf (X.take (sz x)) x = opOf X x := by
  have s4 : q3 x ≤ sz x := by unfold sz; omega
  have s3 : q2 x ≤ q3 x := by unfold q3; omega
  have s2 : q1 x ≤ q2 x := by unfold q2; omega
  unfold opOf
  rw [val_take (show q1 x ≤ _ by omega) h, val_take (show q2 x ≤ _ by omega) h, val_take (show q3 x ≤ _ by omega) h]
  cases h5 : (sh x).f5 with
  | false => rw [if_neg (by decide), if_neg (by decide)]
  | true =>
    have hz : sz x = q3 x + 8 := by unfold sz; rw [h5]; rfl
    rw [if_pos rfl, if_pos rfl, numT_lev ((hb.take _).drop _) 8 (Nat.le_refl _) (by rw [List.length_drop, List.length_take]; omega), numT_lev (hb.drop _) 8 (Nat.le_refl _) (by rw [List.length_drop]; omega), List.drop_take, hz, show q3 x + 8 - q3 x = 8 from by omega, List.take_take, Nat.min_self]

/-- What the document makes of bytes. -/
def refD (o : Option (List S46)) : Option (List S51 × Int) := match o with
  | none => some ([], 8)
  | some r => if rightB r = true then some (r.map conv51, 0) else some ([], 8)
theorem refdecode : ∀ (n : Nat) (X : List Int) (out : List S51) (k : Nat), Bytes X → X.length < n → X.length + out.length ≤ 2000 → X.length + 4100 < k → warpbeamref16_Decode.l0 k X out = refD (decA n X (out.map conv46))
  | 0, X, out, k, hb, hn, hl, hk => by omega
  | n + 1, [], out, k, hb, hn, hl, hk => by
    obtain ⟨k, rfl⟩ : ∃ j, k = j + 1 := ⟨k - 1, by omega⟩
    rw [warpbeamref16_Decode.l0, if_neg (by decide), ref_right out (by simp at hl; omega) k (by simp at hl; omega), Option.bind_some, decA]
    unfold refD
    simp only
    rw [conv_back]
  | n + 1, x :: l, out, k, hb, hn, hl, hk => by
    obtain ⟨k, rfl⟩ : ∃ j, k = j + 1 := ⟨k - 1, by omega⟩
    have hx := hb x List.mem_cons_self
    have hw : wrap64 x = x := by unfold wrap64; omega
    have hp : 0 < (x :: l).length := by simp
    rw [decA, take_at, warpbeamref16_Decode.l0, if_pos (by omega), if_pos (by omega), show rd (x :: l) 0 = x from rfl, hw]
    by_cases hc : 0 ≤ x ∧ x < 17
    · rw [refsize hc k (by omega), Option.bind_some, if_neg (by omega), is_code hc]
      by_cases hs : sz x ≤ (x :: l).length
      · have hz : 1 ≤ sz x := by unfold sz q3 q2 q1; omega
        have ht : (x :: l).take (sz x) = x :: l.take (sz x - 1) := by
          obtain ⟨m, hm⟩ : ∃ m, sz x = m + 1 := ⟨sz x - 1, by omega⟩
          rw [hm, List.take_succ_cons]
          rfl
        have ho := refop ht (hb.take _) hc (by rw [List.length_take]; omega) k (by omega)
        rw [opOf_take hb x hs] at ho
        rw [if_neg (by omega), if_pos (by omega), if_pos (by omega), Int.toNat_natCast, ho, Option.bind_some, if_pos (by omega), if_pos ⟨rfl, hs⟩, Option.bind_some]
        have ih := refdecode n ((x :: l).drop (sz x)) (out ++ [(⟨(opOf (x :: l) x).f0, (opOf (x :: l) x).f1, (opOf (x :: l) x).f2, (opOf (x :: l) x).f3, (opOf (x :: l) x).f4⟩ : S51)]) k (hb.drop _) (by rw [List.length_drop]; omega) (by rw [List.length_drop, List.length_append, List.length_singleton]; omega) (by rw [List.length_drop]; omega)
        rw [List.map_append] at ih
        exact ih
      · rw [if_pos (by omega), if_neg (by omega)]
        rfl
    · rw [refsize_no hc k, Option.bind_some, if_pos (by decide), (no_table x hc).2, if_neg (by simp)]
      rfl

theorem reads_pure (X : List Int) (hb : Bytes X) (k : Nat) (hk : 7000 < k) : warpbeamlaw16_CodeReads.f k X = some true := by
  unfold warpbeamlaw16_CodeReads.f
  simp only [warpbeamlaw16_alive.f, Option.bind_some, if_true]
  by_cases h : (X.length : Int) > 2000
  · rw [if_pos h]
  · rw [if_neg h]
    unfold code_Decode.f warpbeamref16_Decode.f
    have hbr : byteRow X = true := by
      unfold byteRow
      rw [List.all_eq_true]
      intro y hy
      have := hb y hy
      simp [this.1, this.2]
    rw [if_pos ⟨hbr, by omega⟩, refdecode (X.length + 1) X [] k hb (by omega) (by simp; omega) (by omega)]
    simp only [List.map_nil]
    unfold refD
    cases hd : decA (X.length + 1) X [] with
    | none =>
      simp only [Option.bind_some]
      rw [ours_f [] (by decide)]
      simp only [Option.bind_some, List.map_nil]
      rw [same_refl [] (by decide) k (by simp; omega)]
      rfl
    | some r =>
      simp only
      cases hr : rightB r with
      | false =>
        simp only [Option.bind_some, Bool.false_eq_true, if_false]
        rw [ours_f [] (by decide)]
        simp only [Option.bind_some, List.map_nil]
        rw [same_refl [] (by decide) k (by simp; omega)]
        rfl
      | true =>
        have a1 := right_in hr
        simp only [Option.bind_some, if_true]
        rw [ours_f r (by omega)]
        simp only [Option.bind_some]
        rw [same_refl _ (by rw [List.length_map]; omega) k (by rw [List.length_map]; omega)]
        rfl

theorem walk_CodeReads {H : Type} {enc : TypeId × Value → H} (W : World) (base : Nat) (v0 : Value) (d0 : DataW H) (p0 : List MemPlace) (o0 : Value.okWide Try.prog W .any base 24 v0) (h0 : DataW.Trod enc Try.prog W 0 (fun _ => true) true 24 v0 d0 p0) {P : Prop} (_hsz : P) :
    Calls Try.prog 4 #[v0] W fun e w' => e = .returned (.bool true) ∧ Below W.heap.size W w' := by
  obtain ⟨A, c, b, rfl, hbd, hE, gb⟩ := bytes_of o0 h0
  exact warpbeamlaw16_CodeReads.calls 8000 A c b true W hE hbd (reads_pure b gb 8000 (by decide))

end Go.Proofs.Ytbnchippfebdkaa
