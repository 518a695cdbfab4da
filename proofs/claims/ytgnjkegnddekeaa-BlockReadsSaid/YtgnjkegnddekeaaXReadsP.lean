/- What a block reads: what no read was of does not matter: in plain words. -/
import Derived.Test.YtgnjkegnddekeaaXRunM
namespace Go.Proofs.Ytgnjkegnddekeaa.Q
open Go.RowKit Go.Lib Go.Proofs.Ytgnjkegnddekeaa Go.Proofs.YtgnjkegnddekeaaW.PrintWords Go.Proofs.YtgnjkegnddekeaaW.PrintLast Go.Proofs.YtgnjkegnddekeaaW.PrintMore
set_option linter.unusedVariables false
set_option linter.unusedSimpArgs false
theorem addL_keep {t:List S80} {s x:S80} (hx:x ∈ t):x ∈ (addL t s).1:=by
  unfold addL
  split
  · exact hx
  split
  · exact hx
  · exact List.mem_append_left _ hx
theorem backL_keep {t:List S80} {d:Int} {x:S80} (hx:x ∈ t) (h2:x.f2=false):x ∈ (backL t d).1:=by
  unfold backL
  split
  · exact hx
  · rw [← List.take_append_drop d.toNat t] at hx
    rcases List.mem_append.1 hx with h | h
    · exact List.mem_append_left _ h
    · exact List.mem_append_right _ (List.mem_filter.2 ⟨h,by simp [h2]⟩)
theorem answer_keep {now:List S32} {c:CpuD} {a:AskD} {t:List S80} {x:S80} (hx:x ∈ t) (h2:x.f2=false):x ∈ (answerP now c a t).2.1:=by
  unfold answerP
  split
  · split
    · exact hx
    split
    · exact addL_keep hx
    · exact addL_keep hx
  split
  · exact addL_keep hx
  split
  · exact hx
  split
  · exact backL_keep hx h2
  · exact hx
theorem run_keep (l:List S74) (now:List S32) (f:Int):∀ (n:Nat) (c:CpuD) (t:List S80) (x:S80),x ∈ t → x.f2=false → x ∈ (runP l now f n c t).t
  | 0,c,t,x,hx,h2 => hx
  | n + 1,c,t,x,hx,h2 => by
    unfold runP
    dsimp only
    split
    · exact hx
    split
    · exact run_keep l now f n _ _ x (answer_keep hx h2) h2
    · exact answer_keep hx h2
/-- What was read is what there is. -/
def Reads (now:List S32) (t:List S80):Prop:=∀ s ∈ t,s.f2=false → 0 ≤ s.f0∧s.f0 < now.length∧s.f0 < 64∧s.f1=rd_T32 now s.f0
theorem addL_reads {now:List S32} {t:List S80} {s:S80} (h:Reads now t) (hs:s.f2=false → 0 ≤ s.f0∧s.f0 < now.length∧s.f1=rd_T32 now s.f0):Reads now (addL t s).1:=by
  unfold addL
  split
  · exact h
  rename_i hn
  split
  · exact h
  · intro x hx h2
    rcases List.mem_append.1 hx with h3 | h3
    · exact h x h3 h2
    · obtain rfl:=List.mem_singleton.1 h3
      obtain ⟨q1,q2,q3⟩:=hs h2
      exact ⟨q1,q2,by omega,q3⟩
theorem backL_reads {now:List S32} {t:List S80} {d:Int} (h:Reads now t):Reads now (backL t d).1:=by
  unfold backL
  split
  · exact h
  · intro x hx h2
    rcases List.mem_append.1 hx with h3 | h3
    · exact h x (List.mem_of_mem_take h3) h2
    · exact h x (List.mem_of_mem_drop (List.mem_filter.1 h3).1) h2
theorem answer_reads {now:List S32} {c:CpuD} {a:AskD} {t:List S80} (h:Reads now t) (ha:a.k=1 → 0 ≤ a.x∧a.x < now.length):Reads now (answerP now c a t).2.1:=by
  unfold answerP
  split
  · rename_i hk
    have hs:=addL_reads (s:=⟨a.x,rd_T32 now a.x,false⟩) h (fun _ => ⟨(ha hk).1,(ha hk).2,rfl⟩)
    split
    · exact h
    split
    · exact hs
    · exact hs
  split
  · exact addL_reads h (fun h2 => by cases h2)
  split
  · exact h
  split
  · exact backL_reads h
  · exact h
theorem run_reads (l:List S74) (now:List S32) (f:Int) (hl:∀ o ∈ l,R64 o.f2∧R64 o.f4) (hn:∀ v ∈ now,R64 v.f1) (hf1:f ≤ 1000000000):∀ (n:Nat) (c:CpuD) (t:List S80),InvR c t → Reads now t → Reads now (runP l now f n c t).t
  | 0,c,t,hI,h => h
  | n + 1,c,t,hI,h => by
    obtain ⟨h1,h2⟩:=step_inv (vars:=now.length) (fuel:=f) hI.ic hl
    unfold runP
    dsimp only
    split
    · exact h
    · rename_i hk
      obtain ⟨h3,h4,h5,h6,h7,h8⟩:=h2 hk
      have h9:=answer_inv (a:=(stepP l c now.length f).2) h1 hI.tl hI.tr hn h8
      have h10:=answer_reads (c:=(stepP l c now.length f).1) (a:=(stepP l c now.length f).2) h (fun hk1 => ⟨(h6 hk1).1,(h6 hk1).2.1⟩)
      split
      · exact run_reads l now f hl hn hf1 n _ _ ⟨h9.1,by rw [h9.2.1,h4];have:=hI.u0;unfold wrap64;omega,h9.2.2.1,h9.2.2.2⟩ h10
      · exact h10
theorem addL_code {t:List S80} {x:Int} {v w:S32} {b:Bool} (hv:valR v.f0 v.f1=true) (hw:valR w.f0 w.f1=true):(addL t ⟨x,v,b⟩).2=(addL t ⟨x,w,b⟩).2∧((addL t ⟨x,v,b⟩).2 ≠ 0 → (addL t ⟨x,v,b⟩).1=t∧(addL t ⟨x,w,b⟩).1=t)∧((addL t ⟨x,v,b⟩).2=0 → (addL t ⟨x,v,b⟩).1=t ++ [⟨x,v,b⟩]):=by
  unfold addL
  dsimp only
  rw [hv,hw]
  split
  · exact ⟨rfl,fun _ => ⟨rfl,rfl⟩,fun h => by cases h⟩
  split
  · exact ⟨rfl,fun _ => ⟨rfl,rfl⟩,fun h => by cases h⟩
  · exact ⟨rfl,fun h => absurd rfl h,fun _ => rfl⟩
/-- What no read was of does not matter. -/
theorem run_same (l:List S74) (now now2:List S32) (f:Int) (hlen:now2.length=now.length) (hv:∀ x:Int,valR (rd_T32 now x).f0 (rd_T32 now x).f1=true) (hv2:∀ x:Int,valR (rd_T32 now2 x).f0 (rd_T32 now2 x).f1=true):∀ (n:Nat) (c:CpuD) (t:List S80),
    (∀ s ∈ (runP l now f n c t).t,s.f2=false → rd_T32 now2 s.f0=rd_T32 now s.f0) → runP l now2 f n c t=runP l now f n c t
  | 0,c,t,h => rfl
  | n + 1,c,t,h => by
    have e1:∀ nw:List S32,nw.length=now.length → runP l nw f (n + 1) c t=(if (stepP l c now.length f).2.k=5 then ⟨(stepP l c now.length f).2.e,(stepP l c now.length f).1.used,(stepP l c now.length f).1.rs,t⟩ else if (answerP nw (stepP l c now.length f).1 (stepP l c now.length f).2 t).2.2=0 then runP l nw f n (answerP nw (stepP l c now.length f).1 (stepP l c now.length f).2 t).1 (answerP nw (stepP l c now.length f).1 (stepP l c now.length f).2 t).2.1 else ⟨5,(answerP nw (stepP l c now.length f).1 (stepP l c now.length f).2 t).1.used,(answerP nw (stepP l c now.length f).1 (stepP l c now.length f).2 t).1.rs,(answerP nw (stepP l c now.length f).1 (stepP l c now.length f).2 t).2.1⟩):=by
      intro nw hnw
      rw [runP,hnw]
    rw [e1 now rfl] at h
    rw [e1 now rfl,e1 now2 hlen]
    by_cases hk:(stepP l c now.length f).2.k=5
    · rw [if_pos hk,if_pos hk]
    rw [if_neg hk] at h
    rw [if_neg hk,if_neg hk]
    obtain ⟨c1,hc1⟩:∃ c1,(stepP l c now.length f).1=c1:=⟨_,rfl⟩
    obtain ⟨a,ha⟩:∃ a,(stepP l c now.length f).2=a:=⟨_,rfl⟩
    rw [hc1,ha] at h
    rw [hc1,ha]
    -- the answer is the same, or the read was not taken in
    have hans:answerP now2 c1 a t=answerP now c1 a t:=by
      by_cases hk1:a.k=1
      · by_cases hl:(lookL t a.x).2=true
        · unfold answerP
          rw [if_pos hk1,if_pos hk1,if_pos hl,if_pos hl]
        · obtain ⟨q1,q2,q3⟩:=addL_code (t:=t) (x:=a.x) (b:=false) (hv a.x) (hv2 a.x)
          by_cases h0:(addL t ⟨a.x,rd_T32 now a.x,false⟩).2=0
          · have e2 : answerP now c1 a t = (⟨c1.pc, c1.used, c1.rs.set a.a.toNat (rd_T32 now a.x), c1.fs⟩, (addL t ⟨a.x, rd_T32 now a.x, false⟩).1, 0) := by
              unfold answerP
              rw [if_pos hk1,if_neg hl,if_pos h0]
            rw [e2] at h
            rw [if_pos rfl] at h
            have h3:rd_T32 now2 a.x=rd_T32 now a.x:=h ⟨a.x,rd_T32 now a.x,false⟩ (run_keep l now f n _ _ _ (by rw [q3 h0];simp) rfl) rfl
            unfold answerP
            rw [if_pos hk1,if_pos hk1,if_neg hl,if_neg hl,h3]
          · have h02:¬ (addL t ⟨a.x,rd_T32 now2 a.x,false⟩).2=0:=by rw [← q1];exact h0
            unfold answerP
            rw [if_pos hk1,if_pos hk1,if_neg hl,if_neg hl,if_neg h0,if_neg h02,← q1,(q2 h0).1,(q2 h0).2]
      · unfold answerP
        rw [if_neg hk1,if_neg hk1]
    rw [hans]
    by_cases h0:(answerP now c1 a t).2.2=0
    · rw [if_pos h0] at h
      rw [if_pos h0,if_pos h0]
      exact run_same l now now2 f hlen hv hv2 n _ _ h
    · rw [if_neg h0,if_neg h0]
end Go.Proofs.Ytgnjkegnddekeaa.Q
