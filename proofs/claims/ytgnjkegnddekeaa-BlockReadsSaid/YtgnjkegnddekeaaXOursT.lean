/- Rows of steps as the document's; what any run is. -/
import Derived.Test.YtgnjkegnddekeaaXFlat2
import Derived.Test.YtgnjkegnddekeaaXQ6
namespace Go.Proofs.Ytgnjkegnddekeaa.Q
open Go.WideShapes Go.ChangeShapes Go.RowKit Go.Lib Go.Proofs.Ytgnjkegnddekeaa Go.Proofs.YtgnjkegnddekeaaW.PrintWords Go.Proofs.YtgnjkegnddekeaaW.PrintLast Go.Proofs.YtgnjkegnddekeaaW.PrintMore
set_option linter.unusedVariables false
set_option linter.unusedSimpArgs false
theorem ours_f (l:List S80) (hl:l.length ≤ 1000000) (k:Nat) (hk:l.length < k):warpbeamlaw08_Ours.f k l=some (l.map our80) :=
  conv_all (fun k acc i => warpbeamlaw08_Ours.l0 k acc l l.length i) our80 z80 l 1000000 hl (fun k acc i hi ha => by
    show warpbeamlaw08_Ours.l0 (k + 1) acc l l.length i=_
    rw [warpbeamlaw08_Ours.l0,if_pos (by omega),if_pos (by omega),if_pos (by omega),if_pos (by omega),wrap_next (by omega)]
    rfl) (fun k acc => by
    show warpbeamlaw08_Ours.l0 (k + 1) acc l l.length l.length=_
    rw [warpbeamlaw08_Ours.l0,if_neg (by omega)]) k hk
theorem same_f (l:List S114) (hl:l.length ≤ 1000000) (k:Nat) (hk:l.length < k):warpbeamref08_Same.f k l l=some true:=by
  unfold warpbeamref08_Same.f
  rw [if_pos rfl]
  exact all_loop (fun k i => warpbeamref08_Same.l0 k l l i) l.length true (fun k i hi => by
    show warpbeamref08_Same.l0 (k + 1) l l i=_
    rw [warpbeamref08_Same.l0,if_pos (by omega),if_pos (by omega),if_pos (by omega),if_neg (by simp),wrap_next (by omega)]) (fun k => by
    show warpbeamref08_Same.l0 (k + 1) l l l.length=_
    rw [warpbeamref08_Same.l0,if_neg (by omega)]) l.length 0 k (by omega) hk
theorem ours_calls (A:Option Addr) (c:Nat) (l:List S80) (w:World) (h:Kd.C k80 w A l.length l) (hc:l.length ≤ c) (hl:l.length ≤ 1000000) :
    Calls Try.prog 24 #[.slice A l.length c] w fun e w' => ∃ v,e=.returned v∧Kd.R k114 114 w' w.heap.size (fun _ => True) v (l.map our80)∧Below w.heap.size w w' :=
  warpbeamlaw08_Ours.calls (l.length + 1) A c l _ w h hc (ours_f l hl _ (by omega))
theorem run_tl (l:List S74) (now:List S32) (f:Int) (hl:∀ o ∈ l,R64 o.f2∧R64 o.f4) (hn:∀ v ∈ now,R64 v.f1) (hf1:f ≤ 1000000000):∀ (n:Nat) (c:CpuD) (t:List S80),InvR c t → (runP l now f n c t).t.length ≤ 200
  | 0,c,t,hI => hI.tl
  | n + 1,c,t,hI => by
    obtain ⟨h1,h2⟩:=step_inv (vars:=now.length) (fuel:=f) hI.ic hl
    unfold runP
    dsimp only
    split
    · exact hI.tl
    · rename_i hk
      obtain ⟨h3,h4,h5,h6,h7,h8⟩:=h2 hk
      have h9:=answer_inv (a:=(stepP l c now.length f).2) h1 hI.tl hI.tr hn h8
      split
      · exact run_tl l now f hl hn hf1 n _ _ ⟨h9.1,by rw [h9.2.1,h4];have:=hI.u0;unfold wrap64;omega,h9.2.2.1,h9.2.2.2⟩
      · exact h9.2.2.1
theorem inv_first {rs:List S32} (h8:rs.length=8) (hr:∀ v ∈ rs,R64 v.f1):InvR ⟨0,0,rs,[]⟩ [] :=
  ⟨⟨⟨h8,hr⟩,by simp,by simp⟩,by simp,by simp,by simp⟩
end Go.Proofs.Ytgnjkegnddekeaa.Q
