/- What the small functions on lots come to, in plain words: Holder, May. -/
import Derived.Test.YtnegpjnjgdnmpaaHAlive
import Derived.Test.YtnegpjnjgdnmpaaLoops
import Derived.Test.YtnegpjnjgdnmpaaOpen
namespace Go.Proofs.Ytnegpjnjgdnmpaa
open Go.RowKit Go.Proofs.Ytnegpjnjgdnmpaa.Q

theorem holder_f (k : Nat) (hk : 0 < k) (P : List S43) (Q : List Int) : choice_Holder.f k P Q = some (Q.headD 0) := by
  obtain ⟨k, rfl⟩ : ∃ m, k = m + 1 := ⟨k - 1, by omega⟩
  unfold choice_Holder.f
  rw [choice_Holder.l0]
  cases Q with
  | nil => rfl
  | cons q Q =>
    rw [if_pos (by simp only [List.length_cons]; omega), if_pos (by omega), if_pos (by simp only [List.length_cons]; omega)]
    rfl
def mayB (P : List S43) (Q : List Int) (id : Int) : Bool := decide (1 ≤ id) && !(P.any fun s => s.f0 == id) && (Q.isEmpty || Q.headD 0 == id)
theorem may_f (k : Nat) (hk : 0 < k) (P : List S43) (Q : List Int) (id : Int) (hP : P.length < 1000000000) : choice_May.f k P Q id = some (mayB P Q id) := by
  unfold choice_May.f mayB
  have hw : choice_Lot_waits.f P Q id = some (P.any fun s => s.f0 == id) := if_pos hP
  rw [hw, holder_f k hk]
  by_cases h1 : id ≥ 1
  · rw [if_pos h1, Option.bind_some]
    have h2 : decide (1 ≤ id) = true := decide_eq_true h1
    rw [h2]
    cases h3 : (P.any fun s => s.f0 == id) with
    | true => simp
    | false =>
      rw [if_neg (by decide)]
      cases Q with
      | nil => simp
      | cons q Q =>
        rw [if_neg (by simp only [List.length_cons]; omega)]
        simp
  · rw [if_neg h1]
    have h2 : decide (1 ≤ id) = false := decide_eq_false (by omega)
    rw [h2]
    rfl

end Go.Proofs.Ytnegpjnjgdnmpaa
