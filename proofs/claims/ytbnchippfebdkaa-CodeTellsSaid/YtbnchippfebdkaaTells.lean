/- CodeTells: whether a block may be, and its bytes, are the document's. -/
import Derived.Test.YtbnchippfebdkaaPureA
import Derived.Test.YtbnchippfebdkaaFlat
import Derived.Test.YtbnchippfebdkaaQ13
namespace Go.Proofs.Ytbnchippfebdkaa
open Go.RowKit Go.Proofs.Ytbnchippfebdkaa.Q Go.Proofs.YtbnchippfebdkaaW.PrintWords Go.Proofs.YtbnchippfebdkaaW.PrintLast Go.Proofs.YtbnchippfebdkaaW.PrintMore

theorem enc_len (l : List S46) {r : List Int} {e : Int} (h : code_Encode.f l = some (r, e)) : r.length ≤ 2400 := by
  unfold code_Encode.f at h
  split at h
  · rename_i hr
    obtain ⟨rfl, -⟩ := Prod.mk.inj (Option.some.inj h)
    have := flat_len (encOp l.length) 12 (encOp_len l.length) l
    have := (right_in hr).2.1
    omega
  · obtain ⟨rfl, -⟩ := Prod.mk.inj (Option.some.inj h)
    simp
theorem enc_some (l : List S46) : ∃ r e, code_Encode.f l = some (r, e) := by
  unfold code_Encode.f
  split
  · exact ⟨_, _, rfl⟩
  · exact ⟨_, _, rfl⟩
theorem tells_pure (l : List S51) : warpbeamlaw16_CodeTells.f 3000 l = some true := by
  unfold warpbeamlaw16_CodeTells.f
  simp only [warpbeamlaw16_alive.f, Option.bind_some, if_true]
  by_cases h : (l.length : Int) > 250
  · rw [if_pos h]
  · rw [if_neg h, theirs_f l (by omega)]
    obtain ⟨r, e, hE⟩ := enc_some (l.map conv46)
    have := enc_len _ hE
    simp only [Option.bind_some]
    rw [hE, ref_encode l (by omega) 3000 (by omega), hE]
    simp only [Option.bind_some]
    rw [right_f, ref_right l (by omega) 3000 (by omega)]
    simp only [Option.bind_some]
    rw [equal_f r r (by omega) 3000 (by omega)]
    simp

theorem walk_CodeTells {H : Type} {enc : TypeId × Value → H} (W : World) (base : Nat) (v0 : Value) (d0 : DataW H) (p0 : List MemPlace) (o0 : Value.okWide Try.prog W .any base 22 v0) (h0 : DataW.Trod enc Try.prog W 0 (fun _ => true) true 22 v0 d0 p0) {P : Prop} (_hsz : P) :
    Calls Try.prog 3 #[v0] W fun e w' => e = .returned (.bool true) ∧ Below W.heap.size W w' := by
  obtain ⟨A, c, l, rfl, hlc, hC, -⟩ := ops_of o0 h0
  exact warpbeamlaw16_CodeTells.calls 3000 A c l true W hC hlc (tells_pure l)

end Go.Proofs.Ytbnchippfebdkaa
