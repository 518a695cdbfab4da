/- What the small functions around a store come to, in plain words: Theirs, Ours, Values, Same. -/
import Derived.Test.YtnamlnlhigdnkaaQ4
import Derived.Test.YtnamlnlhigdnkaaLoops
namespace Go.Proofs.Ytnamlnlhigdnkaa
open Go.RowKit Go.Proofs.Ytnamlnlhigdnkaa.Q

def th (x : S40) : S35 := ⟨⟨x.f0.f0, x.f0.f1⟩, x.f1, x.f2, x.f3⟩
def ou (x : S35) : S40 := ⟨⟨x.f0.f0, x.f0.f1⟩, x.f1, x.f2, x.f3⟩
def va (x : S35) : S31 := ⟨x.f0.f0, x.f0.f1⟩
theorem ou_th (x : S40) : ou (th x) = x := rfl

theorem theirs_f (l : List S40) (hl : l.length ≤ 1000) (k : Nat) (hk : l.length < k) : warpbeamlaw07_Theirs.f k l = some (l.map th) :=
  conv_all (fun k acc i => warpbeamlaw07_Theirs.l0 k acc l l.length i) th z40 l 1000 hl (fun k acc i hi ha => by
    show warpbeamlaw07_Theirs.l0 (k + 1) acc l l.length i = _
    rw [warpbeamlaw07_Theirs.l0, if_pos (by omega), if_pos (by omega), if_pos (by omega), if_pos (by omega), wrap_next (by omega)]
    rfl) (fun k acc => by
    show warpbeamlaw07_Theirs.l0 (k + 1) acc l l.length l.length = _
    rw [warpbeamlaw07_Theirs.l0, if_neg (by omega)]) k hk
theorem ours_f (l : List S35) (hl : l.length ≤ 1000) (k : Nat) (hk : l.length < k) : warpbeamlaw07_Ours.f k l = some (l.map ou) :=
  conv_all (fun k acc i => warpbeamlaw07_Ours.l0 k acc l l.length i) ou z35 l 1000 hl (fun k acc i hi ha => by
    show warpbeamlaw07_Ours.l0 (k + 1) acc l l.length i = _
    rw [warpbeamlaw07_Ours.l0, if_pos (by omega), if_pos (by omega), if_pos (by omega), if_pos (by omega), wrap_next (by omega)]
    rfl) (fun k acc => by
    show warpbeamlaw07_Ours.l0 (k + 1) acc l l.length l.length = _
    rw [warpbeamlaw07_Ours.l0, if_neg (by omega)]) k hk
theorem values_f (l : List S35) (hl : l.length ≤ 1000) (k : Nat) (hk : l.length < k) : store_Values.f k l = some (l.map va) :=
  conv_all (fun k acc i => store_Values.l0 k acc l l.length i) va z35 l 1000 hl (fun k acc i hi ha => by
    show store_Values.l0 (k + 1) acc l l.length i = _
    rw [store_Values.l0, if_pos (by omega), if_pos (by omega), if_pos (by omega), if_pos (by omega), wrap_next (by omega)]
    rfl) (fun k acc => by
    show store_Values.l0 (k + 1) acc l l.length l.length = _
    rw [store_Values.l0, if_neg (by omega)]) k hk
theorem same_f (l : List S40) (hl : l.length ≤ 1000) (k : Nat) (hk : l.length < k) : warpbeamref07_Same.f k l l = some true := by
  unfold warpbeamref07_Same.f
  rw [if_pos rfl]
  exact all_loop (fun k i => warpbeamref07_Same.l0 k l l i) l.length true (fun k i hi => by
    show warpbeamref07_Same.l0 (k + 1) l l i = _
    rw [warpbeamref07_Same.l0, if_pos (by omega), if_pos (by omega), if_pos (by omega), if_neg (by simp), wrap_next (by omega)]) (fun k => by
    show warpbeamref07_Same.l0 (k + 1) l l l.length = _
    rw [warpbeamref07_Same.l0, if_neg (by omega)]) l.length 0 k (by omega) hk

end Go.Proofs.Ytnamlnlhigdnkaa
