/- Plain loops: one that goes through a list and puts what comes of each element behind what there is; one that looks for a place at which something fails. No program in sight. -/
import Derived.RowKit3
namespace Go.Proofs.Ytkijjgdcbgmglaa
open Go Go.RowKit

theorem conv_loop {α β : Type} (L : Nat → List β → Int → Option (List β)) (conv : α → β) (z : α) (l : List α) (lim : Nat) (hl : l.length ≤ lim)
    (hstep : ∀ k acc (i : Nat), i < l.length → acc.length < lim → L (k + 1) acc (i : Int) = L k (acc ++ [conv (l.getD i z)]) ((i + 1 : Nat) : Int)) (hend : ∀ k acc, L (k + 1) acc (l.length : Int) = some acc) :
    ∀ d i acc k, i + d = l.length → d < k → acc.length = i → L k acc (i : Int) = some (acc ++ (l.drop i).map conv)
  | 0, i, acc, k, hd, hk, ha => by
    obtain ⟨k, rfl⟩ : ∃ m, k = m + 1 := ⟨k - 1, by omega⟩
    obtain rfl : i = l.length := by omega
    rw [hend]
    simp
  | d + 1, i, acc, k, hd, hk, ha => by
    obtain ⟨k, rfl⟩ : ∃ m, k = m + 1 := ⟨k - 1, by omega⟩
    have hi : i < l.length := by omega
    rw [hstep k acc i hi (by omega), conv_loop L conv z l lim hl hstep hend d (i + 1) _ k (by omega) (by omega) (by simp [ha]), List.append_assoc]
    rw [List.drop_eq_getElem_cons hi, List.map_cons, show l.getD i z = l[i] by simp [List.getD_eq_getElem?_getD, hi]]
    rfl

theorem conv_all {α β : Type} (L : Nat → List β → Int → Option (List β)) (conv : α → β) (z : α) (l : List α) (lim : Nat) (hl : l.length ≤ lim)
    (hstep : ∀ k acc (i : Nat), i < l.length → acc.length < lim → L (k + 1) acc (i : Int) = L k (acc ++ [conv (l.getD i z)]) ((i + 1 : Nat) : Int)) (hend : ∀ k acc, L (k + 1) acc (l.length : Int) = some acc) (k : Nat) (hk : l.length < k) :
    L k [] 0 = some (l.map conv) := by
  have := conv_loop L conv z l lim hl hstep hend l.length 0 [] k (by omega) hk rfl
  simpa using this

/-- A loop that finds nothing wrong. -/
theorem all_loop {ρ : Type} (L : Nat → Int → Option ρ) (n : Nat) (r : ρ) (hstep : ∀ k (i : Nat), i < n → L (k + 1) (i : Int) = L k ((i + 1 : Nat) : Int)) (hend : ∀ k, L (k + 1) (n : Int) = some r) :
    ∀ d i k, i + d = n → d < k → L k (i : Int) = some r
  | 0, i, k, hd, hk => by
    obtain ⟨k, rfl⟩ : ∃ m, k = m + 1 := ⟨k - 1, by omega⟩
    obtain rfl : i = n := by omega
    exact hend k
  | d + 1, i, k, hd, hk => by
    obtain ⟨k, rfl⟩ : ∃ m, k = m + 1 := ⟨k - 1, by omega⟩
    rw [hstep k i (by omega)]
    exact all_loop L n r hstep hend d (i + 1) k (by omega) (by omega)

theorem wrap_next {i : Nat} (h : i < 9223372036854775807) : wrap64 ((i : Int) + 1) = ((i + 1 : Nat) : Int) := by
  unfold wrap64
  omega

end Go.Proofs.Ytkijjgdcbgmglaa
