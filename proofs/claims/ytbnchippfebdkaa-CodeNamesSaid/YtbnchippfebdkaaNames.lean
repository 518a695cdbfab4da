/- CodeNames: each code has its name, and each name its code. -/
import Derived.Test.YtbnchippfebdkaaHFind
import Derived.Test.YtbnchippfebdkaaLoops
import Derived.Test.YtbnchippfebdkaaFlat
import Derived.WideShapes
import Derived.Test.YtbnchippfebdkaaQ15
namespace Go.Proofs.Ytbnchippfebdkaa
open Go.RowKit Go.Proofs.Ytbnchippfebdkaa.Q Go.Proofs.YtbnchippfebdkaaW.PrintWords Go.Proofs.YtbnchippfebdkaaW.PrintLast Go.Proofs.YtbnchippfebdkaaW.PrintMore
set_option linter.unusedVariables false
set_option linter.unusedSimpArgs false

/-- The names. -/
def namesL : List ByteArray := shapesL.map fun s => s.f0
theorem names_f : warpbeamref16_Names.f = some namesL := rfl
theorem names_len : namesL.length = 17 := rfl
theorem fidx_map {α β : Type} (g : α → β) (p : β → Bool) (l : List α) : fidx p (l.map g) = fidx (fun x => p (g x)) l := by
  unfold fidx
  rw [List.findIdx?_map]
  rfl
theorem fidx_range {α : Type} (p : α → Bool) (l : List α) : -1 ≤ fidx p l := by
  unfold fidx
  split <;> omega
def eqName (s : ByteArray) (y : ByteArray) : Bool := y.toList == s.toList
theorem find_name (s : ByteArray) : code_Find.f s = some (max0 (fidx (eqName s) namesL), decide (0 ≤ fidx (eqName s) namesL)) := by
  unfold code_Find.f namesL
  rw [fidx_map]
  rfl
theorem rdOf_eq {l : List ByteArray} {i : Nat} (hi : i < l.length) : rdOf ByteArray.empty l (i : Int) = l[i] := by
  unfold rdOf
  simp [List.getD_eq_getElem?_getD, hi]
theorem index_loop (l : List ByteArray) (s : ByteArray) (hl : l.length ≤ 1000) : ∀ (d i k : Nat), i + d = l.length → d < k → slices_Index_string_string.l0 k l s (l.length : Int) (i : Int) = some (match (l.drop i).findIdx? (eqName s) with | some j => ((i + j : Nat) : Int) | none => -1)
  | 0, i, k, hd, hk => by
    obtain ⟨k, rfl⟩ : ∃ m, k = m + 1 := ⟨k - 1, by omega⟩
    obtain rfl : i = l.length := by omega
    rw [slices_Index_string_string.l0, if_neg (by omega), List.drop_length]
    rfl
  | d + 1, i, k, hd, hk => by
    obtain ⟨k, rfl⟩ : ∃ m, k = m + 1 := ⟨k - 1, by omega⟩
    have hi : i < l.length := by omega
    rw [slices_Index_string_string.l0, if_pos (by omega), if_pos (by omega), if_pos (by omega), rdOf_eq hi, List.drop_eq_getElem_cons hi, List.findIdx?_cons]
    by_cases h : s.toList = l[i].toList
    · rw [if_pos h, if_pos (by unfold eqName; rw [h]; simp)]
      simp
    · rw [if_neg h, if_neg (by unfold eqName; simpa using fun h2 => h h2.symm), wrap_next (by omega), index_loop l s hl d (i + 1) k (by omega) (by omega)]
      cases (l.drop (i + 1)).findIdx? (eqName s) with
      | none => rfl
      | some j =>
        show some (((i + 1 + j : Nat)) : Int) = some (((i + (j + 1) : Nat)) : Int)
        rw [show i + 1 + j = i + (j + 1) from by omega]
theorem index_f (s : ByteArray) (k : Nat) (hk : 17 < k) : slices_Index_string_string.f k namesL s = some (fidx (eqName s) namesL) := by
  unfold slices_Index_string_string.f
  have := index_loop namesL s (by decide) namesL.length 0 k (by omega) (by rw [names_len]; omega)
  rw [show ((0 : Nat) : Int) = 0 from rfl] at this
  rw [this, List.drop_zero]
  unfold fidx
  cases namesL.findIdx? (eqName s) with
  | none => rfl
  | some j => show some (((0 + j : Nat)) : Int) = some ((j : Nat) : Int); rw [Nat.zero_add]

theorem name_of (c : Nat) (h : c < 17) : code_Name.f c = some (rdOf ByteArray.empty namesL c) ∧ code_Find.f (rdOf ByteArray.empty namesL c) = some ((c : Int), true) := by
  have hf : ∀ n : Fin 17, fidx (eqName (rdOf ByteArray.empty namesL (n.val : Int))) namesL = n.val := by
    unfold eqName
    simp only [ByteArray.toList_eq]
    decide +kernel
  refine ⟨?_, ?_⟩
  · rcases c with _ | _ | _ | _ | _ | _ | _ | _ | _ | _ | _ | _ | _ | _ | _ | _ | _ | n
    all_goals first
      | rfl
      | (exfalso; omega)
  · rw [find_name, hf ⟨c, h⟩]
    unfold max0
    rw [if_neg (by show ¬ ((c : Int) < 0); omega)]
    simp
theorem name_no (c : Int) (h : ¬ (0 ≤ c ∧ c < 17)) : code_Name.f c = some ⟨#[]⟩ := by
  unfold code_Name.f
  rw [find_f]
  unfold sh
  rw [if_neg h]
  rfl

theorem names_end (s : ByteArray) (T : List UInt8) (U : List UInt8) (hT : T = U) :
    (if T = U then (if ((decide (0 ≤ fidx (eqName s) namesL)) == (decide (fidx (eqName s) namesL ≥ 0))) = true then (if (decide (0 ≤ fidx (eqName s) namesL)) = true then (some (max0 (fidx (eqName s) namesL) == fidx (eqName s) namesL)) else (if max0 (fidx (eqName s) namesL) = 0 then (some true) else (some false))) else (some false)) else (some false)) = some true := by
  rw [if_pos hT]
  have hb : (decide (0 ≤ fidx (eqName s) namesL) == decide (fidx (eqName s) namesL ≥ 0)) = true := by simp
  rw [if_pos hb]
  have hr := fidx_range (eqName s) namesL
  generalize fidx (eqName s) namesL = r at *
  unfold max0
  by_cases h : 0 ≤ r
  · rw [decide_eq_true h, if_pos rfl, if_neg (by omega)]
    simp
  · rw [decide_eq_false h, if_neg (by decide), if_pos (by omega)]

theorem names_pure (c : Int) (s : ByteArray) (k : Nat) (hk : 100 < k) : warpbeamlaw16_CodeNames.f k c s = some true := by
  obtain ⟨k, rfl⟩ : ∃ m, k = m + 2 := ⟨k - 2, by omega⟩
  unfold warpbeamlaw16_CodeNames.f
  simp only [warpbeamlaw16_alive.f, Option.bind_some, if_true]
  rw [names_f]
  simp only [Option.bind_some]
  by_cases hc : 0 ≤ c ∧ c < 17
  · obtain ⟨n, rfl⟩ : ∃ n : Nat, c = n := ⟨c.toNat, by omega⟩
    have hn : n < 17 := by omega
    obtain ⟨h1, h2⟩ := name_of n hn
    rw [if_pos hc.1, names_len, decide_eq_true (by omega), warpbeamlaw16_CodeNames.j0, if_pos rfl, if_pos hc.1, names_len, if_pos (by omega), h2]
    simp only [Option.bind_some]
    rw [if_pos trivial, Bool.not_true, warpbeamlaw16_CodeNames.j1, if_neg (by decide), find_name]
    simp only [Option.bind_some]
    rw [index_f s k (by omega), h1]
    simp only [Option.bind_some]
    have he := names_end s [] [] rfl
    simpa using he
  · have hj : (if c ≥ 0 then (warpbeamlaw16_CodeNames.j0 (k + 2) c s namesL (⟨#[]⟩ : ByteArray) (decide (c < (namesL.length : Int)))) else (warpbeamlaw16_CodeNames.j0 (k + 2) c s namesL (⟨#[]⟩ : ByteArray) false)) = warpbeamlaw16_CodeNames.j0 (k + 2) c s namesL (⟨#[]⟩ : ByteArray) false := by
      by_cases h0 : c ≥ 0
      · rw [if_pos h0, names_len, decide_eq_false (by omega)]
      · rw [if_neg h0]
    rw [hj, warpbeamlaw16_CodeNames.j0, if_neg (by decide), find_name]
    simp only [Option.bind_some]
    rw [index_f s (k + 1) (by omega), name_no c hc]
    simp only [Option.bind_some]
    have he := names_end s [] [] rfl
    simpa using he

theorem walk_CodeNames {H : Type} {enc : TypeId × Value → H} (W : World) (base : Nat) (v0 : Value) (d0 : DataW H) (p0 : List MemPlace) (o0 : Value.okWide Try.prog W .any base 3 v0) (h0 : DataW.Trod enc Try.prog W 0 (fun _ => true) true 3 v0 d0 p0) (v1 : Value) (d1 : DataW H) (p1 : List MemPlace) (o1 : Value.okWide Try.prog W .any base 9 v1) (h1 : DataW.Trod enc Try.prog W 0 (fun _ => true) true 9 v1 d1 p1) {P : Prop} (_hsz : P) :
    Calls Try.prog 8 #[v0, v1] W fun e w' => e = .returned (.bool true) ∧ Below W.heap.size W w' := by
  obtain ⟨c, rfl⟩ := Go.WideShapes.okWide_int (k := .i64) (by kernel_rfl) o0
  obtain ⟨s, rfl⟩ := Go.WideShapes.okWide_string (by kernel_rfl) o1
  exact warpbeamlaw16_CodeNames.calls 200 c s true W (names_pure c s 200 (by decide))

end Go.Proofs.Ytbnchippfebdkaa
