/- The law of StoreMarks, out of what its functions compute: marks of one variable come one by one, and are gone when it is put. -/
import Derived.Test.YtnamlnlhigdnkaaQ14
import Derived.Test.YtnamlnlhigdnkaaPure0
import Derived.Test.YtnamlnlhigdnkaaFlat
import Derived.ProofKit
import Derived.OpenShut
import Derived.SizedLaws
import Derived.WideLaws
namespace Go.Proofs.Ytnamlnlhigdnkaa
open Go.ChangeShapes Go.WideShapes Go.ChangeAt Go.RowKit Go.Proofs.Ytnamlnlhigdnkaa.Q Go.Proofs.YtnamlnlhigdnkaaW.PrintWords Go.Proofs.YtnamlnlhigdnkaaW.PrintLast Go.Proofs.YtnamlnlhigdnkaaW.PrintMore

theorem slot_of (x : Int) (h : 0 ≤ x ∧ x ≤ 255) : slotB (Int.tmod (wrap64 x) 32) = true := by
  have e : wrap64 x = x := by unfold wrap64; omega
  rw [e, Int.tmod_eq_emod_of_nonneg h.1]
  unfold slotB
  have h1 : 0 ≤ x % 32 := by omega
  have h2 : x % 32 < 32 := by omega
  simp [h1, h2]

theorem marks_loop (l1 : List Int) (hg : ∀ x ∈ l1, 0 ≤ x ∧ x ≤ 255) (hlen : l1.length ≤ 100) : ∀ (d i k : Nat) (x5 : List S35), i + d = l1.length → d < k → 0 < x5.length → x5.length ≤ 100 →
    warpbeamlaw07_StoreMarks.l0 k x5 ((rd_T35 x5 0).f3) l1 l1.length i = some true
  | 0, i, k, x5, hd, hk, hp, hl => by
    obtain ⟨k, rfl⟩ : ∃ m, k = m + 1 := ⟨k - 1, by omega⟩
    obtain rfl : i = l1.length := by omega
    rw [warpbeamlaw07_StoreMarks.l0, if_neg (by omega)]
    have e : store_Put.f x5 0 1 0 1 (-1) = some (x5.set 0 ⟨⟨1, 0⟩, 1, -1, 0⟩, 0) := by
      unfold store_Put.f
      rw [if_pos (by omega), if_pos (by constructor <;> omega), if_pos (by decide)]
      rfl
    rw [e, Option.bind_some]
    rw [if_pos rfl, if_pos (by simp; omega)]
    have h0 : rd_T35 (x5.set 0 ⟨⟨1, 0⟩, 1, -1, 0⟩) 0 = ⟨⟨1, 0⟩, 1, -1, 0⟩ := by
      unfold rd_T35
      simp [List.getD_eq_getElem?_getD, hp]
    rw [h0]
    rfl
  | d + 1, i, k, x5, hd, hk, hp, hl => by
    obtain ⟨k, rfl⟩ : ∃ m, k = m + 1 := ⟨k - 1, by omega⟩
    rw [warpbeamlaw07_StoreMarks.l0, if_pos (by omega), if_pos (by omega), if_pos (by omega)]
    have hx : 0 ≤ rd l1 i ∧ rd l1 i ≤ 255 := by
      have hi : i < l1.length := by omega
      unfold rd
      rw [Int.toNat_natCast, List.getD_eq_getElem?_getD, List.getElem?_eq_getElem hi]
      exact hg _ (List.getElem_mem hi)
    have hs := slot_of _ hx
    generalize Int.tmod (wrap64 (rd l1 i)) 32 = s at *
    obtain ⟨v, hv⟩ : ∃ v : S35, v = ⟨(rd_T35 x5 0).f0, (rd_T35 x5 0).f1, (rd_T35 x5 0).f2, Go.bits .or .u64 (rd_T35 x5 0).f3 (bitI s)⟩ := ⟨_, rfl⟩
    have e : store_Mark.f x5 0 s = some (x5.set 0 v, 0) := by
      unfold store_Mark.f
      rw [if_pos (by omega), if_pos (by constructor <;> omega), if_pos hs, hv]
      rfl
    have h0 : rd_T35 (x5.set 0 v) 0 = v := by
      unfold rd_T35
      simp [List.getD_eq_getElem?_getD, hp]
    rw [e, Option.bind_some, if_pos rfl, with_f, Option.bind_some, if_pos (by simp; omega)]
    have h3 : v.f3 = Go.bits .or .u64 (rd_T35 x5 0).f3 (bitI s) := by rw [hv]
    rw [if_pos (by show (rd_T35 (x5.set 0 v) 0).f3 = _; rw [h0, h3])]
    have := marks_loop l1 hg hlen d (i + 1) k (x5.set 0 v) (by omega) (by omega) (by simpa using hp) (by simpa using hl)
    rw [h0, h3] at this
    rw [wrap_next (by omega)]
    exact this

theorem marks_pure (l : List S40) (l1 : List Int) (hg : ∀ x ∈ l1, 0 ≤ x ∧ x ≤ 255) : warpbeamlaw07_StoreMarks.f 200 l l1 = some true := by
  unfold warpbeamlaw07_StoreMarks.f
  simp only [warpbeamlaw07_alive.f, Option.bind_some, if_true]
  by_cases h : (l.length : Int) > 100
  · rw [if_pos h]; rfl
  · rw [if_neg h]
    by_cases h1 : (l1.length : Int) > 100
    · rw [if_pos h1]; rfl
    · rw [if_neg h1]
      by_cases h2 : l = []
      · subst h2; rfl
      · have hp : 0 < l.length := List.length_pos_iff.2 h2
        have hm : (l.map th).length = l.length := List.length_map _
        rw [show ((l.length : Int) == 0) = false by simp; omega, warpbeamlaw07_StoreMarks.j0, if_neg (by simp), theirs_f l (by omega) 199 (by omega), Option.bind_some, if_pos (by omega)]
        exact marks_loop l1 hg (by omega) l1.length 0 199 (l.map th) (by omega) (by omega) (by omega) (by omega)

theorem byte_of {W : World} {cs : List Value} (h : Fits [.int .u8] cs) : ∃ x : Int, (Kd.int .u8).K W x cs ∧ (0 ≤ x ∧ x ≤ 255) := by
  obtain ⟨a, r, rfl, hw, h⟩ := fits_int h
  obtain rfl := fits_nil h
  refine ⟨a, rfl, ?_⟩
  simp only [Lit.wf, Bool.and_eq_true, decide_eq_true_eq] at hw
  have m1 : IntKind.u8.min = 0 := by decide
  have m2 : IntKind.u8.max = 255 := by decide
  rw [m1, m2] at hw
  exact hw

theorem walk_StoreMarks {H : Type} {enc : TypeId × Value → H} (W : World) (base : Nat) (v0 : Value) (d0 : DataW H) (p0 : List MemPlace) (o0 : Value.okWide Try.prog W .any base 22 v0) (h0 : DataW.Trod enc Try.prog W 0 (fun _ => true) true 22 v0 d0 p0) (v1 : Value) (d1 : DataW H) (p1 : List MemPlace) (o1 : Value.okWide Try.prog W .any base 60 v1) (h1 : DataW.Trod enc Try.prog W 0 (fun _ => true) true 60 v1 d1 p1) {P : Prop} (_hsz : P) :
    Calls Try.prog 5 #[v0, v1] W fun e w' => e = .returned (.bool true) ∧ Below W.heap.size W w' := by
  obtain ⟨A, c, l, rfl, hlc, -, hC, -⟩ := open_rows k40 goodVar z40 Try.underlying22 flat_var (by kernel_rfl) rfl (fun cs h => var_of h) o0 h0
  obtain ⟨B, d, l1, rfl, hld, -, hD, hg⟩ := open_rows (Kd.int .u8) (fun x => 0 ≤ x ∧ x ≤ 255) 0 Try.underlying60 (flat_int (by kernel_rfl)) (by kernel_rfl) rfl (fun cs h => byte_of h) o1 h1
  exact warpbeamlaw07_StoreMarks.calls 200 A c l B d l1 true W hC hlc hD hld (marks_pure l l1 hg)

end Go.Proofs.Ytnamlnlhigdnkaa
