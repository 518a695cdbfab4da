/- The law of ChoiceTurns, out of what its functions compute: who asked first is alone first; everybody who asked is alone once, as each passes. -/
import Derived.Test.YtnegpjnjgdnmpaaQ12
import Derived.Test.YtnegpjnjgdnmpaaPure0
import Derived.ProofKit
import Derived.OpenShut
import Derived.SizedLaws
import Derived.WideLaws
namespace Go.Proofs.Ytnegpjnjgdnmpaa
open Go.ChangeShapes Go.WideShapes Go.ChangeAt Go.RowKit Go.Proofs.Ytnegpjnjgdnmpaa.Q Go.Proofs.YtnegpjnjgdnmpaaW.PrintWords Go.Proofs.YtnegpjnjgdnmpaaW.PrintLast Go.Proofs.YtnegpjnjgdnmpaaW.PrintMore

theorem rd_drop (l : List Int) (i : Nat) (h : i < l.length) : l.drop i = rd l (i : Int) :: l.drop (i + 1) := by
  unfold rd
  rw [List.drop_eq_getElem_cons h, Int.toNat_natCast, List.getD_eq_getElem?_getD, List.getElem?_eq_getElem h]
  rfl

theorem turns_pass (l : List Int) (hn : l.Nodup) (hr : ∀ x ∈ l, 1 ≤ x ∧ x ≤ 256) (hl : l.length ≤ 150) : ∀ (d i k : Nat), i + d = l.length → 2 * d + 2 ≤ k →
    warpbeamlaw18_ChoiceTurns.l1 k l (l.length : Int) (i : Int) [] (l.drop i) = some true
  | 0, i, k, hd, hk => by
    obtain ⟨k, rfl⟩ : ∃ m, k = m + 1 := ⟨k - 1, by omega⟩
    obtain rfl : i = l.length := by omega
    rw [warpbeamlaw18_ChoiceTurns.l1, if_neg (by omega), List.drop_length, holder_f k (by omega), Option.bind_some, if_pos (show ([] : List Int).headD 0 = 0 from rfl), may_f k (by omega) _ _ _ (by decide)]
    rfl
  | d + 1, i, k, hd, hk => by
    obtain ⟨k, rfl⟩ : ∃ m, k = m + 1 + 1 := ⟨k - 2, by omega⟩
    have hi : i < l.length := by omega
    have hdr := rd_drop l i hi
    have hx : rd l (i : Int) ∈ l := by
      have : rd l (i : Int) ∈ l.drop i := by rw [hdr]; exact List.mem_cons_self
      exact List.mem_of_mem_drop this
    have hxr := hr _ hx
    have hnd : (l.drop i).Nodup := hn.sublist (List.drop_sublist i l)
    rw [hdr] at hnd
    have hnot : rd l (i : Int) ∉ l.drop (i + 1) := (List.nodup_cons.1 hnd).1
    rw [hdr]
    rw [warpbeamlaw18_ChoiceTurns.l1, if_pos (by omega), if_pos (by omega), if_pos (by omega), holder_f (k + 1) (by omega), Option.bind_some, List.headD_cons, if_pos rfl, may_f (k + 1) (by omega) _ _ _ (by decide), Option.bind_some]
    generalize rd l (i : Int) = x at *
    have m1 : mayB [] (x :: l.drop (i + 1)) x = true := by simp [mayB]; exact hxr.1
    have m2 : mayB [] (x :: l.drop (i + 1)) 1000 = false := by
      have : (x == 1000) = false := by rw [beq_eq_false_iff_ne]; omega
      simp [mayB, this]
    rw [m1, if_pos rfl, may_f (k + 1) (by omega) _ _ _ (by decide), Option.bind_some, m2, warpbeamlaw18_ChoiceTurns.j2, if_neg (by decide)]
    have hp : choice_Pass.f [] (x :: l.drop (i + 1)) x = some ([], l.drop (i + 1), 0) := by
      unfold choice_Pass.f
      rw [if_pos (by simp only [List.length_cons, List.length_drop]; omega), if_pos (by simp)]
      have : (x :: l.drop (i + 1)).filter (fun y => !(y == x)) = l.drop (i + 1) := by
        rw [List.filter_cons_of_neg (by simp)]
        apply List.filter_eq_self.2
        intro y hy
        have : y ≠ x := fun h => hnot (h ▸ hy)
        simpa using this
      rw [this]
    rw [hp, Option.bind_some, if_pos rfl, wrap_next (by omega)]
    exact turns_pass l hn hr hl d (i + 1) k (by omega) (by omega)

theorem turns_ask (l : List Int) (hg : ∀ x ∈ l, 0 ≤ x ∧ x ≤ 255) (hl : l.length ≤ 150) : ∀ (d i k : Nat) (q : List Int), i + d = l.length → d + 310 ≤ k → q.Nodup → (∀ x ∈ q, 1 ≤ x ∧ x ≤ 256) → q.length ≤ i →
    warpbeamlaw18_ChoiceTurns.l0 k q l (l.length : Int) (i : Int) [] q = some true
  | 0, i, k, q, hd, hk, hn, hr, hq => by
    obtain ⟨k, rfl⟩ : ∃ m, k = m + 1 := ⟨k - 1, by omega⟩
    obtain rfl : i = l.length := by omega
    rw [warpbeamlaw18_ChoiceTurns.l0, if_neg (by omega)]
    have := turns_pass q hn hr (by omega) q.length 0 k (by omega) (by omega)
    simpa using this
  | d + 1, i, k, q, hd, hk, hn, hr, hq => by
    obtain ⟨k, rfl⟩ : ∃ m, k = m + 1 := ⟨k - 1, by omega⟩
    have hi : i < l.length := by omega
    have hx : rd l (i : Int) ∈ l := by
      have : rd l (i : Int) ∈ l.drop i := by rw [rd_drop l i hi]; exact List.mem_cons_self
      exact List.mem_of_mem_drop this
    have hxr := hg _ hx
    rw [warpbeamlaw18_ChoiceTurns.l0, if_pos (by omega), if_pos (by omega), if_pos (by omega)]
    generalize rd l (i : Int) = x at *
    have e : wrap64 (1 + wrap64 x) = 1 + x := by unfold wrap64; omega
    rw [e, wrap_next (by omega)]
    by_cases hc : q.contains (1 + x) = true
    · have ha : choice_Ask.f [] q (1 + x) = some ([], q, 10) := by
        unfold choice_Ask.f
        rw [if_pos (by omega), if_neg (by omega), if_pos hc]
      rw [ha, Option.bind_some, if_neg (show ¬ (10 : Int) = 0 by decide)]
      exact turns_ask l hg hl d (i + 1) k q (by omega) (by omega) hn hr (by omega)
    · have ha : choice_Ask.f [] q (1 + x) = some ([], q ++ [1 + x], 0) := by
        unfold choice_Ask.f
        rw [if_pos (by omega), if_neg (by omega), if_neg hc]
      rw [ha, Option.bind_some, if_pos rfl, if_pos (by omega)]
      have hm : (1 + x) ∉ q := by simpa using hc
      refine turns_ask l hg hl d (i + 1) k (q ++ [1 + x]) (by omega) (by omega) ?_ ?_ (by simp; omega)
      · rw [List.nodup_append]
        refine ⟨hn, by simp, fun a ha b hb => ?_⟩
        rw [List.mem_singleton] at hb
        subst hb
        exact fun h => hm (h ▸ ha)
      · intro y hy
        rcases List.mem_append.1 hy with h | h
        · exact hr y h
        · rw [List.mem_singleton] at h
          omega

theorem turns_pure (l : List Int) (hg : ∀ x ∈ l, 0 ≤ x ∧ x ≤ 255) : warpbeamlaw18_ChoiceTurns.f 600 l = some true := by
  unfold warpbeamlaw18_ChoiceTurns.f
  simp only [warpbeamlaw18_alive.f, Option.bind_some, if_true]
  by_cases h : (l.length : Int) > 150
  · rw [if_pos h]
  · rw [if_neg h]
    exact turns_ask l hg (by omega) l.length 0 600 [] (by omega) (by omega) List.nodup_nil (fun x hx => by cases hx) (by simp)

theorem byte_of {W : World} {cs : List Value} (h : Fits [.int .u8] cs) : ∃ x : Int, (Kd.int .u8).K W x cs ∧ (0 ≤ x ∧ x ≤ 255) := by
  obtain ⟨a, r, rfl, hw, h⟩ := fits_int h
  obtain rfl := fits_nil h
  refine ⟨a, rfl, ?_⟩
  simp only [Lit.wf, Bool.and_eq_true, decide_eq_true_eq] at hw
  have m1 : IntKind.u8.min = 0 := by decide
  have m2 : IntKind.u8.max = 255 := by decide
  rw [m1, m2] at hw
  exact hw

theorem walk_ChoiceTurns {H : Type} {enc : TypeId × Value → H} (W : World) (base : Nat) (v0 : Value) (d0 : DataW H) (p0 : List MemPlace) (o0 : Value.okWide Try.prog W .any base 22 v0) (h0 : DataW.Trod enc Try.prog W 0 (fun _ => true) true 22 v0 d0 p0) {P : Prop} (_hsz : P) :
    Calls Try.prog 3 #[v0] W fun e w' => e = .returned (.bool true) ∧ Below W.heap.size W w' := by
  obtain ⟨B, d, l, rfl, hld, -, hD, hg⟩ := open_rows (Kd.int .u8) (fun x => 0 ≤ x ∧ x ≤ 255) 0 Try.underlying22 (flat_int (by kernel_rfl)) (by kernel_rfl) rfl (fun cs h => byte_of h) o0 h0
  exact warpbeamlaw18_ChoiceTurns.calls 600 B d l true W hD hld (turns_pure l hg)

end Go.Proofs.Ytnegpjnjgdnmpaa
