/- The law of StoreOwn, out of what its functions compute: a store that is handed in is not changed. -/
import Derived.Test.YtnamlnlhigdnkaaQ13
import Derived.Test.YtnamlnlhigdnkaaPure0
import Derived.Test.YtnamlnlhigdnkaaFlat
import Derived.ProofKit
import Derived.OpenShut
import Derived.SizedLaws
import Derived.WideLaws
namespace Go.Proofs.Ytnamlnlhigdnkaa
open Go.ChangeShapes Go.WideShapes Go.ChangeAt Go.RowKit Go.Proofs.Ytnamlnlhigdnkaa.Q

theorem put_some (l : List S35) (hl : l.length ≤ 1000) (a b c d e : Int) : ∃ r, store_Put.f l a b c d e = some r := by
  unfold store_Put.f
  rw [if_pos (by omega)]
  split
  · split
    · exact ⟨_, rfl⟩
    · exact ⟨_, rfl⟩
  · exact ⟨_, rfl⟩
theorem mark_some (l : List S35) (hl : l.length ≤ 1000) (a b : Int) : ∃ r, store_Mark.f l a b = some r := by
  unfold store_Mark.f
  rw [if_pos (by omega)]
  split
  · split
    · exact ⟨_, rfl⟩
    · exact ⟨_, rfl⟩
  · exact ⟨_, rfl⟩

theorem own_pure (l : List S40) (a b c d e s : Int) : warpbeamlaw07_StoreOwn.f 200 l a b c d e s = some true := by
  unfold warpbeamlaw07_StoreOwn.f
  simp only [warpbeamlaw07_alive.f, Option.bind_some, if_true]
  by_cases h : (l.length : Int) > 100
  · rw [if_pos h]
  · have hl : l.length ≤ 100 := by omega
    have hm : (l.map th).length = l.length := List.length_map _
    rw [if_neg h, theirs_f l (by omega) 200 (by omega), Option.bind_some]
    obtain ⟨r1, e1⟩ := put_some (l.map th) (by omega) a d e b c
    obtain ⟨r2, e2⟩ := mark_some (l.map th) (by omega) a s
    rw [e1, Option.bind_some, e2, Option.bind_some, show store_Drop.f (l.map th) s = some _ from if_pos (by omega), Option.bind_some, values_f (l.map th) (by omega) 200 (by omega), Option.bind_some, ours_f (l.map th) (by omega) 200 (by omega), Option.bind_some]
    rw [show (l.map th).map ou = l by rw [List.map_map]; exact List.map_id' l, same_f l (by omega) 200 (by omega), Option.bind_some]
    split
    · rfl
    · rfl

theorem walk_StoreOwn {H : Type} {enc : TypeId × Value → H} (W : World) (base : Nat) (v0 : Value) (d0 : DataW H) (p0 : List MemPlace) (o0 : Value.okWide Try.prog W .any base 22 v0) (h0 : DataW.Trod enc Try.prog W 0 (fun _ => true) true 22 v0 d0 p0) (v1 : Value) (d1 : DataW H) (p1 : List MemPlace) (o1 : Value.okWide Try.prog W .any base 26 v1) (h1 : DataW.Trod enc Try.prog W 0 (fun _ => true) true 26 v1 d1 p1) (v2 : Value) (d2 : DataW H) (p2 : List MemPlace) (o2 : Value.okWide Try.prog W .any base 3 v2) (h2 : DataW.Trod enc Try.prog W 0 (fun _ => true) true 3 v2 d2 p2) {P : Prop} (_hsz : P) :
    Calls Try.prog 4 #[v0, v1, v2] W fun e w' => e = .returned (.bool true) ∧ Below W.heap.size W w' := by
  obtain ⟨A, c, l, rfl, hlc, -, hC, -⟩ := open_rows k40 goodVar z40 Try.underlying22 flat_var (by kernel_rfl) rfl (fun cs h => var_of h) o0 h0
  obtain ⟨cs, rfl, hf⟩ := open_struct Try.underlying26 flat_put o1 h1
  obtain ⟨a, b, x, y, z, rfl⟩ := put_of hf
  obtain ⟨s, rfl, _, _, _⟩ := open_int Try.underlying3 o2 h2
  exact warpbeamlaw07_StoreOwn.calls 200 A c l a b x y z s true W hC hlc (own_pure l a b x y z s)

end Go.Proofs.Ytnamlnlhigdnkaa
