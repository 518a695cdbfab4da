/- The law of ChoiceWakes, out of what its functions compute: who waits for a variable is woken by just that: all others wait on, in their order. -/
import Derived.Test.YtnegpjnjgdnmpaaQ13
import Derived.Test.YtnegpjnjgdnmpaaPure0
import Derived.Test.YtnegpjnjgdnmpaaFlat
import Derived.ProofKit
import Derived.OpenShut
import Derived.SizedLaws
import Derived.WideLaws
namespace Go.Proofs.Ytnegpjnjgdnmpaa
open Go.ChangeShapes Go.WideShapes Go.ChangeAt Go.RowKit Go.Proofs.Ytnegpjnjgdnmpaa.Q Go.Proofs.YtnegpjnjgdnmpaaW.PrintWords Go.Proofs.YtnegpjnjgdnmpaaW.PrintLast Go.Proofs.YtnegpjnjgdnmpaaW.PrintMore

/-- A row of spots as it grows: each has a thread's number, and no two have one. -/
structure Row (P : List S43) : Prop where
  one : ∀ s ∈ P, 1 ≤ s.f0
  apart : P.Pairwise (fun s t => s.f0 ≠ t.f0)

theorem rdT_drop (l : List S43) (i : Nat) (h : i < l.length) : l.drop i = rd_T43 l (i : Int) :: l.drop (i + 1) := by
  unfold rd_T43
  rw [List.drop_eq_getElem_cons h, Int.toNat_natCast, List.getD_eq_getElem?_getD, List.getElem?_eq_getElem h]
  rfl
theorem rdT_at {l m : List S43} {s : S43} {r : List S43} (h : l = m ++ s :: r) : rd_T43 l (m.length : Int) = s := by
  unfold rd_T43
  rw [h, Int.toNat_natCast, List.getD_eq_getElem?_getD, List.getElem?_append_right (Nat.le_refl _), Nat.sub_self]
  rfl
theorem rd_at {l m : List Int} {s : Int} {r : List Int} (h : l = m ++ s :: r) : rd l (m.length : Int) = s := by
  unfold rd
  rw [h, Int.toNat_natCast, List.getD_eq_getElem?_getD, List.getElem?_append_right (Nat.le_refl _), Nat.sub_self]
  rfl
def restOf (a : Int) (l : List S43) : List S43 := l.filter fun x => !(wakesB a x)
theorem rest_app (a : Int) (l m : List S43) : restOf a (l ++ m) = restOf a l ++ restOf a m := List.filter_append ..
theorem woken_app (a : Int) (l m : List S43) : wokenIds a (l ++ m) = wokenIds a l ++ wokenIds a m := by unfold wokenIds; rw [List.filter_append, List.map_append]
theorem both_len (a : Int) : ∀ l : List S43, (wokenIds a l).length + (restOf a l).length = l.length
  | [] => rfl
  | s :: l => by
    have := both_len a l
    unfold wokenIds restOf at *
    cases h : wakesB a s <;> simp [h] at * <;> omega

theorem wakes_loop (a : Int) (P : List S43) (hR : Row P) (hl : P.length ≤ 150) : ∀ (d i k : Nat), i + d = P.length → 2 * d + 2 ≤ k →
    warpbeamlaw18_ChoiceWakes.l1 k a (wokenIds a P) ((wokenIds a (P.take i)).length : Int) ((restOf a (P.take i)).length : Int) P (P.length : Int) (i : Int) (restOf a P) [] = some true
  | 0, i, k, hd, hk => by
    obtain ⟨k, rfl⟩ : ∃ m, k = m + 1 := ⟨k - 1, by omega⟩
    rw [warpbeamlaw18_ChoiceWakes.l1, if_neg (by omega)]
  | d + 1, i, k, hd, hk => by
    obtain ⟨k, rfl⟩ : ∃ m, k = m + 1 + 1 := ⟨k - 2, by omega⟩
    have hi : i < P.length := by omega
    have hdr := rdT_drop P i hi
    have hsplit : P = P.take i ++ rd_T43 P (i : Int) :: P.drop (i + 1) := by rw [← hdr, List.take_append_drop]
    have htake : P.take (i + 1) = P.take i ++ [rd_T43 P (i : Int)] := by
      rw [List.take_add_one]
      congr 1
      have : P[i]? = some (rd_T43 P (i : Int)) := by
        unfold rd_T43
        simp [List.getD_eq_getElem?_getD, hi]
      rw [this]
      rfl
    have hb := both_len a P
    have hb1 := both_len a (P.take i)
    have hlt : (P.take i).length = i := by rw [List.length_take]; omega
    have hrl : (restOf a P).length < 1000000000 := by omega
    rw [warpbeamlaw18_ChoiceWakes.l1, if_pos (by omega), if_pos (by omega), if_pos (by omega)]
    have ih := wakes_loop a P hR hl d (i + 1)
    generalize rd_T43 P (i : Int) = s at *
    have hmem : s ∈ P := by rw [hsplit]; simp
    have hs1 := hR.one s hmem
    rw [htake, rest_app, woken_app] at ih
    by_cases hw : Go.bits .and .u64 s.f1 a = 0
    · have hwb : wakesB a s = false := by unfold wakesB; rw [hw]; rfl
      have e1 : wokenIds a [s] = [] := by simp [wokenIds, hwb]
      have e2 : restOf a [s] = [s] := by simp [restOf, hwb]
      have e3 : restOf a P = restOf a (P.take i) ++ s :: restOf a (P.drop (i + 1)) := by
        conv => lhs; rw [hsplit]
        rw [rest_app]
        simp [restOf, hwb]
      have hlen : (restOf a (P.take i)).length < (restOf a P).length := by rw [e3]; simp
      rw [if_pos hw, if_neg (by omega), if_pos (by omega), if_pos (by omega), rdT_at e3, if_neg (by simp)]
      have hmay : mayB (restOf a P) [] s.f0 = false := by
        have : ((restOf a P).any fun t => t.f0 == s.f0) = true := by
          rw [List.any_eq_true]
          exact ⟨s, by rw [e3]; simp, by simp⟩
        simp [mayB, this]
      rw [may_f (k + 1) (by omega) _ _ _ hrl, Option.bind_some, hmay, if_neg (by decide), wrap_next (by omega), wrap_next (by omega)]
      have := ih (k + 1) (by omega) (by omega)
      rw [e1, e2, List.append_nil, List.length_append] at this
      exact this
    · have hwb : wakesB a s = true := by unfold wakesB; simpa using hw
      have e1 : wokenIds a [s] = [s.f0] := by simp [wokenIds, hwb]
      have e2 : restOf a [s] = [] := by simp [restOf, hwb]
      have e3 : wokenIds a P = wokenIds a (P.take i) ++ s.f0 :: wokenIds a (P.drop (i + 1)) := by
        conv => lhs; rw [hsplit]
        rw [woken_app]
        simp [wokenIds, hwb]
      have hlen : (wokenIds a (P.take i)).length < (wokenIds a P).length := by rw [e3]; simp
      rw [if_neg hw, if_neg (by omega), if_pos (by omega), if_pos (by omega), rd_at e3, if_pos rfl]
      have hmay : mayB (restOf a P) [] s.f0 = true := by
        have : ((restOf a P).any fun t => t.f0 == s.f0) = false := by
          rw [List.any_eq_false]
          intro t ht
          have htP : t ∈ P := (List.mem_filter.1 ht).1
          have htw : wakesB a t = false := by simpa using (List.mem_filter.1 ht).2
          have hne : t ≠ s := fun e => by rw [e, hwb] at htw; cases htw
          have hap := hR.apart
          rw [hsplit] at hap htP
          rw [List.pairwise_append, List.pairwise_cons] at hap
          rcases List.mem_append.1 htP with h | h
          · have := hap.2.2 t h s (by simp)
            simpa using this
          · rcases List.mem_cons.1 h with h | h
            · exact absurd h hne
            · have := hap.2.1.1 t h
              simpa using fun e => this e.symm
        simp [mayB, this]
        exact hs1
      rw [may_f (k + 1) (by omega) _ _ _ hrl, Option.bind_some, hmay, warpbeamlaw18_ChoiceWakes.j2, if_neg (by decide), wrap_next (by omega), wrap_next (by omega)]
      have := ih k (by omega) (by omega)
      rw [e1, e2, List.append_nil, List.length_append] at this
      exact this

theorem park_row {P : List S43} (hR : Row P) (hl : P.length ≤ 150) (id a : Int) : ∃ P' e, choice_Park.f P [] id a = some (P', [], e) ∧ Row P' ∧ P'.length ≤ P.length + 1 := by
  unfold choice_Park.f
  rw [if_pos (by omega)]
  by_cases h0 : id < 1 ∨ a = 0
  · rw [if_pos h0]
    exact ⟨_, _, rfl, hR, by omega⟩
  · rw [if_neg h0]
    cases h1 : (P.any fun s => s.f0 == id) with
    | true => exact ⟨_, _, rfl, hR, by omega⟩
    | false =>
      refine ⟨_, _, rfl, ⟨fun s hs => ?_, ?_⟩, by simp⟩
      · rcases List.mem_append.1 hs with h | h
        · exact hR.one s h
        · rw [List.mem_singleton] at h
          subst h
          show 1 ≤ id
          omega
      · rw [List.pairwise_append]
        refine ⟨hR.apart, by simp, fun s hs t ht => ?_⟩
        rw [List.mem_singleton] at ht
        subst ht
        have := List.any_eq_false.1 h1 s hs
        simpa using this

theorem wakes_park (a : Int) (l : List S37) (hl : l.length ≤ 150) : ∀ (d i k : Nat) (P : List S43), i + d = l.length → d + 310 ≤ k → Row P → P.length ≤ i →
    warpbeamlaw18_ChoiceWakes.l0 k a l (l.length : Int) (i : Int) P [] = some true
  | 0, i, k, P, hd, hk, hR, hP => by
    obtain ⟨k, rfl⟩ : ∃ m, k = m + 1 := ⟨k - 1, by omega⟩
    rw [warpbeamlaw18_ChoiceWakes.l0, if_neg (by omega)]
    have hw : choice_Wake.f P [] a = some (restOf a P, [], wokenIds a P) := by
      unfold choice_Wake.f
      rw [if_pos (by omega)]
      rfl
    have hb := both_len a P
    rw [hw, Option.bind_some, if_pos (by show wrap64 (((wokenIds a P).length : Int) + ((restOf a P).length : Int)) = _; unfold wrap64; omega)]
    exact wakes_loop a P hR (by omega) P.length 0 k (by omega) (by omega)
  | d + 1, i, k, P, hd, hk, hR, hP => by
    obtain ⟨k, rfl⟩ : ∃ m, k = m + 1 := ⟨k - 1, by omega⟩
    rw [warpbeamlaw18_ChoiceWakes.l0, if_pos (by omega), if_pos (by omega), if_pos (by omega), wrap_next (by omega)]
    obtain ⟨P', e, h1, h2, h3⟩ := park_row hR (by omega) (rd_T37 l (i : Int)).f0 (rd_T37 l (i : Int)).f1
    rw [h1, Option.bind_some]
    exact wakes_park a l hl d (i + 1) k P' (by omega) (by omega) h2 (by omega)

theorem wakes_pure (l : List S37) (a : Int) : warpbeamlaw18_ChoiceWakes.f 600 l a = some true := by
  unfold warpbeamlaw18_ChoiceWakes.f
  simp only [warpbeamlaw18_alive.f, Option.bind_some, if_true]
  by_cases h : (l.length : Int) > 150
  · rw [if_pos h]
  · rw [if_neg h]
    exact wakes_park a l (by omega) l.length 0 600 [] (by omega) (by omega) ⟨(fun s hs => by cases hs), List.Pairwise.nil⟩ (by simp)

theorem walk_ChoiceWakes {H : Type} {enc : TypeId × Value → H} (W : World) (base : Nat) (v0 : Value) (d0 : DataW H) (p0 : List MemPlace) (o0 : Value.okWide Try.prog W .any base 34 v0) (h0 : DataW.Trod enc Try.prog W 0 (fun _ => true) true 34 v0 d0 p0) (v1 : Value) (d1 : DataW H) (p1 : List MemPlace) (o1 : Value.okWide Try.prog W .any base 35 v1) (h1 : DataW.Trod enc Try.prog W 0 (fun _ => true) true 35 v1 d1 p1) {P : Prop} (_hsz : P) :
    Calls Try.prog 4 #[v0, v1] W fun e w' => e = .returned (.bool true) ∧ Below W.heap.size W w' := by
  obtain ⟨A, c, l, rfl, hlc, -, hC, -⟩ := open_rows k37 (fun _ => True) z37 Try.underlying34 flat_spot (by kernel_rfl) rfl (fun cs h => spot_of h) o0 h0
  obtain ⟨a, rfl⟩ := okWide_int (k := .u64) (by kernel_rfl) o1
  exact warpbeamlaw18_ChoiceWakes.calls 600 A c l a true W hC hlc (wakes_pure l a)

end Go.Proofs.Ytnegpjnjgdnmpaa
