/- CodeParts: a block behind another one. -/
import Derived.Test.YtbnchippfebdkaaPureB
import Derived.Test.YtbnchippfebdkaaFlat
import Derived.Test.YtbnchippfebdkaaQ16
namespace Go.Proofs.Ytbnchippfebdkaa
open Go.RowKit Go.Proofs.Ytbnchippfebdkaa.Q Go.Proofs.YtbnchippfebdkaaW.PrintWords Go.Proofs.YtbnchippfebdkaaW.PrintLast Go.Proofs.YtbnchippfebdkaaW.PrintMore

theorem parts_true (k : Nat) (l m : List S51) : warpbeamlaw16_CodeParts.j0 (k + 1) l m true = some true := by
  rw [warpbeamlaw16_CodeParts.j0, if_pos rfl]
theorem parts_pure (l m : List S51) : warpbeamlaw16_CodeParts.f 3000 l m = some true := by
  unfold warpbeamlaw16_CodeParts.f
  simp only [warpbeamlaw16_alive.f, Option.bind_some, if_true]
  by_cases h : (l.length : Int) > 250
  · rw [if_pos h, parts_true]
  · rw [if_neg h]
    by_cases h1 : (m.length : Int) > 250
    · rw [if_pos h1, parts_true]
    · rw [if_neg h1, theirs_f l (by omega), theirs_f m (by omega)]
      simp only [Option.bind_some]
      rw [right_f, right_f]
      simp only [Option.bind_some]
      cases ha : rightB (l.map conv46) with
      | false => rw [if_neg (by decide), parts_true]
      | true =>
        rw [if_pos rfl]
        cases hc : rightB (m.map conv46) with
        | false => rw [if_neg (by decide), parts_true]
        | true =>
          rw [if_pos rfl]
          by_cases h2 : wrap64 ((l.length : Int) + (m.length : Int)) > 200
          · rw [decide_eq_true h2, parts_true]
          · rw [decide_eq_false h2, warpbeamlaw16_CodeParts.j0, if_neg (by decide), theirs_f l (by omega), theirs_f m (by omega)]
            simp only [Option.bind_some]
            have hl : (l.map conv46).length + (m.map conv46).length ≤ 200 := by
              rw [List.length_map, List.length_map]
              unfold wrap64 at h2
              omega
            have hr := right_append ha hc hl
            have a1 := right_in ha
            have c1 := right_in hc
            generalize l.map conv46 = a at *
            generalize m.map conv46 = c at *
            rw [if_pos (by omega)]
            try simp only [Option.bind_some]
            rw [enc_right ha, enc_right hc, enc_right hr]
            simp only [Option.bind_some]
            rw [right_f, hr]
            simp only [Option.bind_some, if_true]
            have n1 := enc_len a (enc_right ha)
            have n2 := enc_len c (enc_right hc)
            have n3 := enc_len (a ++ c) (enc_right hr)
            rw [show slices_Clone_byte_byte.f (a.flatMap (encOp a.length)) = some (a.flatMap (encOp a.length)) from by unfold slices_Clone_byte_byte.f; rw [if_pos (by omega)]]
            simp only [Option.bind_some]
            rw [if_pos (by omega), equal_f _ _ (by omega) 2999 (by omega), ← enc_append a1.1 c1.1]
            simp

theorem walk_CodeParts {H : Type} {enc : TypeId × Value → H} (W : World) (base : Nat) (v0 : Value) (d0 : DataW H) (p0 : List MemPlace) (o0 : Value.okWide Try.prog W .any base 22 v0) (h0 : DataW.Trod enc Try.prog W 0 (fun _ => true) true 22 v0 d0 p0) (v1 : Value) (d1 : DataW H) (p1 : List MemPlace) (o1 : Value.okWide Try.prog W .any base 22 v1) (h1 : DataW.Trod enc Try.prog W 0 (fun _ => true) true 22 v1 d1 p1) {P : Prop} (_hsz : P) :
    Calls Try.prog 9 #[v0, v1] W fun e w' => e = .returned (.bool true) ∧ Below W.heap.size W w' := by
  obtain ⟨A, c, l, rfl, hlc, hC, -⟩ := ops_of o0 h0
  obtain ⟨B, d, m, rfl, hmd, hD, -⟩ := ops_of o1 h1
  exact warpbeamlaw16_CodeParts.calls 3000 A c l B d m true W hC hlc hD hmd (parts_pure l m)

end Go.Proofs.Ytbnchippfebdkaa
