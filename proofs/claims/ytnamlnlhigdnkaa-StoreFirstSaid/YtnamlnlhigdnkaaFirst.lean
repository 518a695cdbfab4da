/- The law of StoreFirst, out of what its functions compute: at first each variable has nought, from nobody, read by nobody. -/
import Derived.Test.YtnamlnlhigdnkaaQ13
import Derived.ProofKit
import Derived.OpenShut
import Derived.SizedLaws
import Derived.WideLaws
namespace Go.Proofs.Ytnamlnlhigdnkaa
open Go.ChangeShapes Go.WideShapes Go.ChangeAt Go.RowKit Go.Proofs.Ytnamlnlhigdnkaa.Q

theorem first_mid : ∀ n : Fin 65, warpbeamlaw07_StoreFirst.f 200 (n.val : Int) = some true := by decide +kernel

theorem first_pure (a : Int) : warpbeamlaw07_StoreFirst.f 200 a = some true := by
  by_cases h : 0 ≤ a ∧ a ≤ 64
  · obtain ⟨n, rfl⟩ := Int.eq_ofNat_of_zero_le h.1
    exact first_mid ⟨n, by omega⟩
  · have e : store_New.f a = some ([], false) := if_neg h
    unfold warpbeamlaw07_StoreFirst.f
    simp only [warpbeamlaw07_alive.f, e, Option.bind_some, if_true]
    by_cases h0 : a ≥ 0
    · have h1 : ¬ a ≤ 64 := fun h2 => h ⟨h0, h2⟩
      rw [if_pos h0, decide_eq_false h1]
      rfl
    · rw [if_neg h0]
      rfl

theorem walk_StoreFirst {H : Type} {enc : TypeId × Value → H} (W : World) (base : Nat) (v0 : Value) (d0 : DataW H) (p0 : List MemPlace) (o0 : Value.okWide Try.prog W .any base 3 v0) (h0 : DataW.Trod enc Try.prog W 0 (fun _ => true) true 3 v0 d0 p0) {P : Prop} (_hsz : P) :
    Calls Try.prog 6 #[v0] W fun e w' => e = .returned (.bool true) ∧ Below W.heap.size W w' := by
  obtain ⟨a, rfl, _, _, _⟩ := open_int Try.underlying3 o0 h0
  exact warpbeamlaw07_StoreFirst.calls 200 a true W (first_pure a)

end Go.Proofs.Ytnamlnlhigdnkaa
