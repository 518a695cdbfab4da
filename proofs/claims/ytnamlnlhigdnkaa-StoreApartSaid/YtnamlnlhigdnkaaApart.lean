/- The law of StoreApart, out of what its functions compute: what is done with one variable leaves all others; what was put is got, without marks. -/
import Derived.Test.YtnamlnlhigdnkaaQ12
import Derived.Test.YtnamlnlhigdnkaaPure0
import Derived.Test.YtnamlnlhigdnkaaFlat
import Derived.Test.YtnamlnlhigdnkaaBits
import Derived.ProofKit
import Derived.OpenShut
import Derived.SizedLaws
import Derived.WideLaws
set_option linter.unusedSimpArgs false
set_option linter.unusedVariables false
namespace Go.Proofs.Ytnamlnlhigdnkaa
open Go.ChangeShapes Go.WideShapes Go.ChangeAt Go.RowKit Go.Proofs.Ytnamlnlhigdnkaa.Q Go.Proofs.YtnamlnlhigdnkaaW.PrintWords Go.Proofs.YtnamlnlhigdnkaaW.PrintLast Go.Proofs.YtnamlnlhigdnkaaW.PrintMore

theorem rd_set_same (t : List S35) (X : Int) (v : S35) (h : 0 ≤ X ∧ X < t.length) : rd_T35 (t.set X.toNat v) X = v := by
  have : X.toNat < t.length := by omega
  unfold rd_T35
  simp [List.getD_eq_getElem?_getD, this]
theorem rd_set_other (t : List S35) (X : Int) (v : S35) (i : Nat) (h0 : 0 ≤ X) (h : (i : Int) ≠ X) : rd_T35 (t.set X.toNat v) i = rd_T35 t i := by
  have : X.toNat ≠ i := by omega
  unfold rd_T35
  simp [List.getD_eq_getElem?_getD, List.getElem?_set, this]

theorem put_tells (t : List S35) (ht : t.length ≤ 100) (X a b c d : Int) : ∃ p e, store_Put.f t X a b c d = some (p, e) ∧ p.length = t.length ∧ (∀ i : Nat, (i : Int) ≠ X → rd_T35 p i = rd_T35 t i) ∧
    (e = 0 → (0 ≤ X ∧ X < t.length) ∧ rd_T35 p X = ⟨⟨a, b⟩, c, d, 0⟩) := by
  unfold store_Put.f
  rw [if_pos (by omega)]
  split
  · rename_i hx
    split
    · exact ⟨_, _, rfl, by simp, fun i hi => rd_set_other _ _ _ _ hx.1 hi, fun _ => ⟨hx, rd_set_same _ _ _ hx⟩⟩
    · exact ⟨_, _, rfl, rfl, fun _ _ => rfl, fun h => by cases h⟩
  · exact ⟨_, _, rfl, rfl, fun _ _ => rfl, fun h => by cases h⟩
theorem mark_tells (t : List S35) (ht : t.length ≤ 100) (X s : Int) : ∃ p e, store_Mark.f t X s = some (p, e) ∧ p.length = t.length ∧ (∀ i : Nat, (i : Int) ≠ X → rd_T35 p i = rd_T35 t i) ∧
    (e = 0 → (0 ≤ X ∧ X < t.length) ∧ (0 ≤ s ∧ s < 64) ∧ rd_T35 p X = ⟨(rd_T35 t X).f0, (rd_T35 t X).f1, (rd_T35 t X).f2, Go.bits .or .u64 (rd_T35 t X).f3 (bitI s)⟩) := by
  unfold store_Mark.f
  rw [if_pos (by omega)]
  split
  · rename_i hx
    split
    · rename_i hs
      have hs2 : 0 ≤ s ∧ s < 64 := by unfold slotB at hs; simp at hs; omega
      exact ⟨_, _, rfl, by simp, fun i hi => rd_set_other _ _ _ _ hx.1 hi, fun _ => ⟨hx, hs2, rd_set_same _ _ _ hx⟩⟩
    · exact ⟨_, _, rfl, rfl, fun _ _ => rfl, fun h => by cases h⟩
  · exact ⟨_, _, rfl, rfl, fun _ _ => rfl, fun h => by cases h⟩

theorem apart_loop (t p q : List S35) (e f s X c d a b : Int) (ht : t.length ≤ 100) (hp : p.length = t.length) (hq : q.length = t.length) (po : ∀ i : Nat, (i : Int) ≠ X → rd_T35 p i = rd_T35 t i) (qo : ∀ i : Nat, (i : Int) ≠ X → rd_T35 q i = rd_T35 t i)
    (pe : e = 0 → (0 ≤ X ∧ X < t.length) ∧ rd_T35 p X = ⟨⟨a, b⟩, c, d, 0⟩)
    (qe : f = 0 → (0 ≤ X ∧ X < t.length) ∧ (0 ≤ s ∧ s < 64) ∧ rd_T35 q X = ⟨(rd_T35 t X).f0, (rd_T35 t X).f1, (rd_T35 t X).f2, Go.bits .or .u64 (rd_T35 t X).f3 (bitI s)⟩)
    (hm : 0 ≤ X ∧ X < t.length → 0 ≤ (rd_T35 t X).f3 ∧ (rd_T35 t X).f3 < 2 ^ 64) (k : Nat) (hk : t.length < k) :
    warpbeamlaw07_StoreApart.l0 k s t p e q f t.length 0 X c d a b = some true := by
  refine all_loop (fun k i => warpbeamlaw07_StoreApart.l0 k s t p e q f t.length i X c d a b) t.length true (fun k i hi => ?_) (fun k => ?_) t.length 0 k (by omega) hk
  · show warpbeamlaw07_StoreApart.l0 (k + 1) s t p e q f t.length i X c d a b = _
    rw [warpbeamlaw07_StoreApart.l0, if_pos (by omega), wrap_next (by omega)]
    by_cases hX : (i : Int) = X
    · rw [if_pos hX]
    · rw [if_neg hX, if_pos (by omega), if_pos (by omega), if_pos (by omega), po i hX, if_neg (by simp), if_pos (by omega), qo i hX, if_neg (by simp)]
  · show warpbeamlaw07_StoreApart.l0 (k + 1) s t p e q f t.length t.length X c d a b = _
    rw [warpbeamlaw07_StoreApart.l0, if_neg (by omega)]
    have tail : (if f = 0 then (if 0 ≤ X then (if X < (q.length : Int) then ((set_Has.f ((rd_T35 q X).f3) s).bind fun t226 => (if t226 = true then (if X < (t.length : Int) then (some (((rd_T35 q X).f0.f0) == ((rd_T35 t X).f0.f0) && (((rd_T35 q X).f0.f1) == ((rd_T35 t X).f0.f1)))) else (none)) else (some false))) else (none)) else none) else (some true)) = some true := by
      by_cases hf : f = 0
      · obtain ⟨hx, hs, hv⟩ := qe hf
        rw [if_pos hf, if_pos hx.1, if_pos (by omega), hv, has_after _ s (hm hx) hs, Option.bind_some, if_pos rfl, if_pos hx.2]
        simp
      · rw [if_neg hf]
    by_cases he : e = 0
    · obtain ⟨hx, hv⟩ := pe he
      rw [if_pos he, if_pos hx.1, if_pos (by omega), hv, if_neg (by simp)]
      rw [if_pos hx.1] at tail
      exact tail
    · rw [if_neg he]
      exact tail

theorem apart_pure (l : List S40) (hg : ∀ x ∈ l, goodVar x) (X c d a b s : Int) : warpbeamlaw07_StoreApart.f 200 l X c d a b s = some true := by
  unfold warpbeamlaw07_StoreApart.f
  simp only [warpbeamlaw07_alive.f, Option.bind_some, if_true]
  by_cases h : (l.length : Int) > 100
  · rw [if_pos h]
  · have hl : l.length ≤ 100 := by omega
    have hm : (l.map th).length = l.length := List.length_map _
    rw [if_neg h, theirs_f l (by omega) 200 (by omega), Option.bind_some]
    have hw : 0 ≤ X ∧ X < (l.map th).length → 0 ≤ (rd_T35 (l.map th) X).f3 ∧ (rd_T35 (l.map th) X).f3 < 2 ^ 64 := by
      intro hx
      have hlt : X.toNat < l.length := by omega
      have := hg _ (List.getElem_mem hlt)
      unfold goodVar at this
      simp only [Lit.wf, Bool.and_eq_true, decide_eq_true_eq] at this
      have m1 : IntKind.u64.min = 0 := by decide
      have m2 : IntKind.u64.max = 18446744073709551615 := by decide
      rw [m1, m2] at this
      have e : rd_T35 (l.map th) X = th l[X.toNat] := by unfold rd_T35; simp [List.getD_eq_getElem?_getD, hlt]
      rw [e]
      show 0 ≤ l[X.toNat].f3 ∧ l[X.toNat].f3 < 2 ^ 64
      omega
    generalize l.map th = t at *
    obtain ⟨p, e, e1, hp, po, pe⟩ := put_tells t (by omega) X a b c d
    obtain ⟨q, f, e2, hq, qo, qe⟩ := mark_tells t (by omega) X s
    rw [e1, Option.bind_some, e2, Option.bind_some]
    rw [if_pos (by show (p.length : Int) = t.length; omega), warpbeamlaw07_StoreApart.j0, if_neg (by simp [hq])]
    exact apart_loop t p q e f s X c d a b (by omega) hp hq po qo pe qe hw 199 (by omega)

theorem walk_StoreApart {H : Type} {enc : TypeId × Value → H} (W : World) (base : Nat) (v0 : Value) (d0 : DataW H) (p0 : List MemPlace) (o0 : Value.okWide Try.prog W .any base 22 v0) (h0 : DataW.Trod enc Try.prog W 0 (fun _ => true) true 22 v0 d0 p0) (v1 : Value) (d1 : DataW H) (p1 : List MemPlace) (o1 : Value.okWide Try.prog W .any base 26 v1) (h1 : DataW.Trod enc Try.prog W 0 (fun _ => true) true 26 v1 d1 p1) (v2 : Value) (d2 : DataW H) (p2 : List MemPlace) (o2 : Value.okWide Try.prog W .any base 3 v2) (h2 : DataW.Trod enc Try.prog W 0 (fun _ => true) true 3 v2 d2 p2) {P : Prop} (_hsz : P) :
    Calls Try.prog 7 #[v0, v1, v2] W fun e w' => e = .returned (.bool true) ∧ Below W.heap.size W w' := by
  obtain ⟨A, c, l, rfl, hlc, -, hC, hg⟩ := open_rows k40 goodVar z40 Try.underlying22 flat_var (by kernel_rfl) rfl (fun cs h => var_of h) o0 h0
  obtain ⟨cs, rfl, hf⟩ := open_struct Try.underlying26 flat_put o1 h1
  obtain ⟨a, b, x, y, z, rfl⟩ := put_of hf
  obtain ⟨s, rfl, _, _, _⟩ := open_int Try.underlying3 o2 h2
  exact warpbeamlaw07_StoreApart.calls 200 A c l a b x y z s true W hC hlc (apart_pure l hg a b x y z s)

end Go.Proofs.Ytnamlnlhigdnkaa
