/- Arguments that are structs of whole numbers and bools, and slices of such: opened, cell by cell. Over any program. -/
import Derived.Deep.Slices
import Derived.ChangeArms
import Derived.ChangeSlices
import Derived.Lib.SmallJoins
import Derived.Test.YtkijjgdcbgmglaaWMore
set_option linter.unusedVariables false
set_option linter.unusedSimpArgs false
namespace Go.Proofs.Ytkijjgdcbgmglaa
open Go.Joins Go.ChangeShapes Go.WideShapes Go.RowKit Go.Proofs.YtkijjgdcbgmglaaW.PrintWords Go.Proofs.YtkijjgdcbgmglaaW.PrintLast Go.Proofs.YtkijjgdcbgmglaaW.PrintMore

/-- What a cell may be. -/
inductive Leaf | int (k : IntKind) | bool
def Leaf.fits : Leaf → Value → Prop
  | .int k, v => ∃ n, v = .int k n ∧ (Lit.int k n).wf = true
  | .bool, v => ∃ b, v = .bool b
def Fits : List Leaf → List Value → Prop
  | [], [] => True
  | l :: ls, v :: vs => l.fits v ∧ Fits ls vs
  | _, _ => False
theorem Fits.append : ∀ {a b : List Leaf} {x y : List Value}, Fits a x → Fits b y → Fits (a ++ b) (x ++ y)
  | [], _, [], _, _, h => h
  | _ :: a, b, _ :: x, y, h, k => ⟨h.1, Fits.append (a := a) (x := x) h.2 k⟩
  | [], _, _ :: _, _, h, _ => h.elim
  | _ :: _, _, [], _, h, _ => h.elim
theorem Fits.len : ∀ {a : List Leaf} {x : List Value}, Fits a x → x.length = a.length
  | [], [], _ => rfl
  | _ :: a, _ :: x, h => by simp [Fits.len (a := a) (x := x) h.2]
  | [], _ :: _, h => h.elim
  | _ :: _, [], h => h.elim

theorem fits_int {k : IntKind} {ls : List Leaf} : ∀ {cs : List Value}, Fits (.int k :: ls) cs → ∃ (n : Int) (r : List Value), cs = .int k n :: r ∧ (Lit.int k n).wf = true ∧ Fits ls r
  | [], h => h.elim
  | v :: r, h => by
    obtain ⟨⟨n, rfl, hw⟩, hr⟩ := h
    exact ⟨n, r, rfl, hw, hr⟩
theorem fits_bool {ls : List Leaf} : ∀ {cs : List Value}, Fits (.bool :: ls) cs → ∃ (b : Bool) (r : List Value), cs = .bool b :: r ∧ Fits ls r
  | [], h => h.elim
  | v :: r, h => by
    obtain ⟨⟨b, rfl⟩, hr⟩ := h
    exact ⟨b, r, rfl, hr⟩
theorem fits_nil : ∀ {cs : List Value}, Fits [] cs → cs = []
  | [], _ => rfl
  | _ :: _, h => h.elim

/-- A type all of whose cells are such. -/
def Flat (P : Program) (t : TypeId) (ls : List Leaf) : Prop := ∀ (H : Type) (enc : TypeId × Value → H) (w : World) (base : Nat) (spare : Nat → Bool) (held : Bool) (fuel : Nat) (cs : List Value) (x : DataW H × List MemPlace), DataW.trod enc P w base spare held fuel t cs = some x → Fits ls cs
theorem flat_int {P : Program} {t : TypeId} {k : IntKind} (ht : P.underlying t = some (.int k)) : Flat P t [.int k] := by
  intro H enc w base spare held fuel cs x h
  obtain ⟨n, rfl, _, hw⟩ := DataW.trod_int ht h
  exact ⟨⟨n, rfl, hw⟩, trivial⟩
theorem flat_bool {P : Program} {t : TypeId} (ht : P.underlying t = some .bool) : Flat P t [.bool] := by
  intro H enc w base spare held fuel cs x h
  obtain ⟨b, rfl, _⟩ := DataW.trod_bool ht h
  exact ⟨⟨b, rfl⟩, trivial⟩

def total (lss : List (List Leaf)) : Nat := (lss.map List.length).sum
theorem fits_flatten : ∀ (lss : List (List Leaf)) (cs : List Value), cs.length = total lss → (∀ i ls, lss[i]? = some ls → Fits ls ((cs.drop (total (lss.take i))).take ls.length)) → Fits lss.flatten cs
  | [], cs, h, _ => by
    have : cs = [] := List.eq_nil_of_length_eq_zero (by simpa [total] using h)
    subst this
    exact trivial
  | l :: lss, cs, h, k => by
    have h0 := k 0 l rfl
    simp [total] at h0 h
    rw [← List.take_append_drop l.length cs, List.flatten_cons]
    refine Fits.append h0 (fits_flatten lss _ (by simp [total]; omega) fun i ls hi => ?_)
    have := k (i + 1) ls (by simpa using hi)
    simp [total, List.take_succ_cons] at this
    rw [List.drop_drop]
    simpa [total] using this

/-- A struct whose fields are such, one behind the other: 'offs' is for the kernel. -/
theorem flat_struct {P : Program} {t : TypeId} {fs : Array Field} (lss : List (List Leaf)) (ht : P.underlying t = some (.struct fs)) (hn : lss.length = fs.size) (hc : P.cellsOf t = total lss)
    (ho : ((List.range fs.size).all fun i => match fs[i]?, lss[i]? with | some f, some ls => f.offset == total (lss.take i) && P.cellsOf f.type == ls.length | _, _ => false) = true)
    (hf : ∀ (i : Nat) (f : Field) (ls : List Leaf), fs[i]? = some f → lss[i]? = some ls → Flat P f.type ls) : Flat P t lss.flatten := by
  intro H enc w base spare held fuel cs x h
  obtain ⟨xs, n, rfl, _, hl, hxs, hx⟩ := DataW.trod_struct ht h
  refine fits_flatten lss cs (by rw [hl, hc]) fun i ls hi => ?_
  have hlt : i < fs.size := by rw [← hn]; exact (List.getElem?_eq_some_iff.1 hi).1
  have hfi : fs[i]? = some fs[i] := Array.getElem?_eq_getElem hlt
  have h2 := List.all_eq_true.1 ho i (List.mem_range.2 hlt)
  rw [hfi, hi] at h2
  simp only [Bool.and_eq_true, beq_iff_eq] at h2
  have h3 := hx i _ hfi
  rw [h2.1, h2.2, List.getElem?_eq_getElem (by rw [hxs]; exact hlt)] at h3
  exact hf i _ ls hfi hi H enc w base spare held n _ _ h3

/-- A slice of such: what its cells hold. -/
theorem open_rows {H : Type} {enc : TypeId × Value → H} {P : Program} {W : World} {base : Nat} {v : Value} {dt : DataW H} {p : List MemPlace} {t e : TypeId} {ls : List Leaf} {α : Type} (d : Kd α) (good : α → Prop) (z : α)
    (ht : P.underlying t = some (.slice e)) (he : Flat P e ls) (hc : P.cellsOf e = ls.length) (hs : d.sz = ls.length) (hk : ∀ cs, Fits ls cs → ∃ x, d.K W x cs ∧ good x)
    (o : Value.okWide P W .any base t v) (h : DataW.Trod enc P W 0 (fun _ => true) true t v dt p) :
    ∃ (A : Option Addr) (c : Nat) (l : List α), v = .slice A l.length c ∧ l.length ≤ c ∧ l.length ≤ maxLen ∧ Kd.C d W A l.length l ∧ ∀ x ∈ l, good x := by
  obtain ⟨a, len, cap, rfl⟩ := okWide_slice ht o
  obtain ⟨fuel, hf⟩ := h
  rcases Deep.open_slice ht hf with ⟨h1, -⟩ | ⟨ad, len', cap', m, n, D, Pl, h1, -, hlc, hcm, hm, -, hx⟩
  · have h1 : [Value.slice a len cap] = [Value.slice none 0 0] := h1
    injection h1 with h1
    injection h1 with e1 e2 e3
    subst e1; subst e2; subst e3
    exact ⟨none, 0, [], rfl, Nat.le_refl _, Nat.zero_le _, Kd.C_nil _ _, fun x hx => by cases hx⟩
  · have h1 : [Value.slice a len cap] = [Value.slice (some ad) len' cap'] := h1
    injection h1 with h1
    injection h1 with e1 e2 e3
    subst e1; subst e2; subst e3
    have hlm : len ≤ m := by rw [hm]; simpa using hlc
    have each : ∀ i, i < len → ∃ q : α × List Value, q.2.length = ls.length ∧ d.K W q.1 q.2 ∧ good q.1 ∧ ∀ j u, q.2[j]? = some u → W.cell? (ad.add (i * d.sz + j)) = some u := by
      intro i hi
      obtain ⟨cs, h2, h3⟩ := hx i (by omega)
      obtain ⟨_, hl, hcell⟩ := World.cells?_some h2
      have hfit := he H enc W 0 (fun _ => true) true n cs _ h3
      obtain ⟨x, hK, hg⟩ := hk cs hfit
      refine ⟨(x, cs), hfit.len, hK, hg, fun j u hu => ?_⟩
      have hj := (List.getElem?_eq_some_iff.1 hu).1
      have h4 := hcell j (by simp at hj; omega)
      rw [Deep.add_add, hc, ← hs] at h4
      rw [h4]
      exact hu
    haveI : Inhabited (α × List Value) := ⟨(z, [])⟩
    obtain ⟨q, hq⟩ := Deep.choose_lt each
    refine ⟨some ad, cap, (List.range len).map fun i => (q i).1, by simp, by simpa using hlc, by simp; omega, ⟨by simp, by simp only [List.length_map, List.length_range]; simp only [maxLen] at hcm; omega, fun _ => ⟨ad, rfl, fun j y hy => ?_⟩⟩, fun x hx => ?_⟩
    · rw [List.getElem?_map] at hy
      obtain ⟨i, hi, rfl⟩ := Option.map_eq_some_iff.1 hy
      obtain ⟨hlt, rfl⟩ := List.getElem?_eq_some_iff.1 hi
      simp at hlt
      simp only [List.getElem_range]
      exact ⟨(q j).2, by rw [hs]; exact (hq j hlt).1, (hq j hlt).2.1, (hq j hlt).2.2.2⟩
    · obtain ⟨i, hi, rfl⟩ := List.mem_map.1 hx
      exact (hq i (List.mem_range.1 hi)).2.2.1

/-- The same, of the cells alone: a slice that lies in a struct. -/
theorem open_rowsT {H : Type} {enc : TypeId × Value → H} {P : Program} {W : World} {fuel : Nat} {cs0 : List Value} {x0 : DataW H × List MemPlace} {t e : TypeId} {ls : List Leaf} {α : Type} (d : Kd α) (good : α → Prop) (z : α)
    (ht : P.underlying t = some (.slice e)) (he : Flat P e ls) (hc : P.cellsOf e = ls.length) (hs : d.sz = ls.length) (hk : ∀ cs, Fits ls cs → ∃ x, d.K W x cs ∧ good x)
    (hf : DataW.trod enc P W 0 (fun _ => true) true fuel t cs0 = some x0) :
    ∃ (A : Option Addr) (c : Nat) (l : List α), cs0 = [.slice A l.length c] ∧ l.length ≤ c ∧ l.length ≤ maxLen ∧ Kd.C d W A l.length l ∧ ∀ x ∈ l, good x := by
  rcases Deep.open_slice ht hf with ⟨h1, -⟩ | ⟨ad, len, cap, m, n, D, Pl, h1, -, hlc, hcm, hm, -, hx⟩
  · exact ⟨none, 0, [], h1, Nat.le_refl _, Nat.zero_le _, Kd.C_nil _ _, fun x hx => by cases hx⟩
  · have hlm : len ≤ m := by rw [hm]; simpa using hlc
    have each : ∀ i, i < len → ∃ q : α × List Value, q.2.length = ls.length ∧ d.K W q.1 q.2 ∧ good q.1 ∧ ∀ j u, q.2[j]? = some u → W.cell? (ad.add (i * d.sz + j)) = some u := by
      intro i hi
      obtain ⟨cs, h2, h3⟩ := hx i (by omega)
      obtain ⟨_, hl, hcell⟩ := World.cells?_some h2
      have hfit := he H enc W 0 (fun _ => true) true n cs _ h3
      obtain ⟨x, hK, hg⟩ := hk cs hfit
      refine ⟨(x, cs), hfit.len, hK, hg, fun j u hu => ?_⟩
      have hj := (List.getElem?_eq_some_iff.1 hu).1
      have h4 := hcell j (by simp at hj; omega)
      rw [Deep.add_add, hc, ← hs] at h4
      rw [h4]
      exact hu
    haveI : Inhabited (α × List Value) := ⟨(z, [])⟩
    obtain ⟨q, hq⟩ := Deep.choose_lt each
    refine ⟨some ad, cap, (List.range len).map fun i => (q i).1, by simpa using h1, by simpa using hlc, by simp; omega, ⟨by simp, by simp only [List.length_map, List.length_range]; simp only [maxLen] at hcm; omega, fun _ => ⟨ad, rfl, fun j y hy => ?_⟩⟩, fun x hx => ?_⟩
    · rw [List.getElem?_map] at hy
      obtain ⟨i, hi, rfl⟩ := Option.map_eq_some_iff.1 hy
      obtain ⟨hlt, rfl⟩ := List.getElem?_eq_some_iff.1 hi
      simp at hlt
      simp only [List.getElem_range]
      exact ⟨(q j).2, by rw [hs]; exact (hq j hlt).1, (hq j hlt).2.1, (hq j hlt).2.2.2⟩
    · obtain ⟨i, hi, rfl⟩ := List.mem_map.1 hx
      exact (hq i (List.mem_range.1 hi)).2.2.1

/-- A struct of such, by value. -/
theorem open_struct {H : Type} {enc : TypeId × Value → H} {P : Program} {W : World} {base : Nat} {v : Value} {dt : DataW H} {p : List MemPlace} {t : TypeId} {fs : Array Field} {ls : List Leaf}
    (ht : P.underlying t = some (.struct fs)) (he : Flat P t ls) (o : Value.okWide P W .any base t v) (h : DataW.Trod enc P W 0 (fun _ => true) true t v dt p) : ∃ cs : Array Value, v = .agg cs ∧ Fits ls cs.toList := by
  obtain ⟨cs, rfl, -⟩ := okWide_struct ht o
  obtain ⟨fuel, hf⟩ := h
  exact ⟨cs, rfl, he H enc W 0 (fun _ => true) true fuel _ _ hf⟩

end Go.Proofs.Ytkijjgdcbgmglaa
