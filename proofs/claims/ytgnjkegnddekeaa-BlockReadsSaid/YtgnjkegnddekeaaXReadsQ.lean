/- What a block reads: small facts (counting maps, rows beside a written block, values changed where no read was). -/
import Derived.Test.YtgnjkegnddekeaaXTSets
import Derived.Test.YtgnjkegnddekeaaXReadsP
import Derived.Test.YtgnjkegnddekeaaXFlat2
import Derived.Test.YtgnjkegnddekeaaXQ4
import Derived.Maps.OwnSet
import Derived.Maps.OwnOps
namespace Go.Proofs.Ytgnjkegnddekeaa.Q
open Go.RowKit Go.Lib Go.ChangeShapes Go.WideShapes Go.Maps Go.Proofs.Ytgnjkegnddekeaa Go.Proofs.YtgnjkegnddekeaaW.PrintWords Go.Proofs.YtgnjkegnddekeaaW.PrintLast Go.Proofs.YtgnjkegnddekeaaW.PrintMore
set_option linter.unusedVariables false
set_option linter.unusedSimpArgs false
/-- A map that counts. -/
def Cnt (D:DataW Unit) (L:List Int):Prop:=IsMap D∧∀ x,D.atKey (.int .i64 x) (.lit (.int .i64 0))=.lit (.int .i64 (L.count x:Nat))
theorem Cnt.nil:Cnt (.map []) []:=⟨isMap_empty,fun x => rfl⟩
theorem Cnt.put {D:DataW Unit} {L:List Int} (h:Cnt D L) (x:Int):Cnt (D.put (.int .i64 x) (.lit (.int .i64 ((L.count x:Nat) + 1)))) (L ++ [x]):=by
  refine ⟨h.1.put _ _,fun y => ?_⟩
  rw [List.count_append]
  by_cases hy:y=x
  · subst hy
    rw [atKey_put_same h.1 (by simp [WideAt.IsKeyLit])]
    congr 2
    rw [List.count_singleton_self]
    omega
  · have hne:(Lit.int .i64 y) ≠ .int .i64 x:=fun e => hy (by injection e)
    rw [atKey_put_other hne,h.2 y]
    congr 2
    rw [List.count_singleton,if_neg (by simpa using fun e => hy e.symm)]
    rfl
theorem zero3 (w:World):(zeroValue 3).run Try.prog w=.ok (.int .i64 0) w:=by kernel_rfl
abbrev ownC (W:World) (b n:Nat) (D:DataW Unit):Prop:=W.ownsMap Try.prog 3 (plainElem (H:=Unit) Try.prog 3) b n D
theorem not_map {w:World} {b n:Nat} {D:DataW Unit} (h:ownC w b n D):∃ o,w.heap[b]?=some o∧o.isCells=false:=by
  obtain ⟨es,clock,hb,-⟩:=h
  exact ⟨_,hb,rfl⟩
theorem map_move {w w':World} {b n:Nat} {D:DataW Unit} (h:ownC w b n D) (he:w'.heap[b]?=w.heap[b]?):ownC w' b n D:=by
  obtain ⟨es,clock,hb,F,hs,hD⟩:=h
  exact ⟨es,clock,he.trans hb,F,hs,hD⟩
/-- A row of steps, where one block alone was written that is not the row's. -/
theorem C80_but {W W':World} {g:Nat} {A:Option Addr} {n:Nat} {t:List S80} (h:Kd.C k80 W A n t) (hO:∀ k,k < W.heap.size → k ≠ g → W'.heap[k]?=W.heap[k]?) (hA:∀ ad,A=some ad → ad.block ≠ g):Kd.C k80 W' A n t:=by
  obtain ⟨h1,h2,h3⟩:=h
  refine ⟨h1,h2,fun hn => ?_⟩
  obtain ⟨ad,hAd,h4⟩:=h3 hn
  refine ⟨ad,hAd,fun j q hj => ?_⟩
  obtain ⟨c,c1,c2,c3⟩:=h4 j q hj
  have hb:∀ k,(ad.add k).block=ad.block:=fun k => by unfold Addr.add;split <;> simp
  refine ⟨c,c1,(by rw [k80_open c2];exact k80_mk _ _),fun i u hu => ?_⟩
  have h5:=c3 i u hu
  have hlt:=World.block_lt_of_cell? W _ h5
  have e:=hO _ hlt (by rw [hb];exact hA ad hAd)
  unfold World.cell? at h5 ⊢
  rw [e]
  exact h5
theorem C80_spare {W W':World} {A:Option Addr} {n b:Nat} {t:List S80} (h:Kd.C k80 W A n t) (hg:W.grownBy W' (some b)) (hb:∃ o,W.heap[b]?=some o∧o.isCells=false):Kd.C k80 W' A n t:=by
  obtain ⟨h1,h2,h3⟩:=h
  refine ⟨h1,h2,fun hn => ?_⟩
  obtain ⟨ad,e,hc⟩:=h3 hn
  refine ⟨ad,e,fun j q hq => ?_⟩
  obtain ⟨cl,hl,hk,hcell⟩:=hc j q hq
  refine ⟨cl,hl,(by rw [k80_open hk];exact k80_mk _ _),fun i u hu => ?_⟩
  have h5:=hcell i u hu
  refine (World.cell?_of_block (w:=W) (w':=W') (hg.block _ (World.block_lt_of_cell? _ _ h5) (fun e => ?_))).trans h5
  injection e with e
  obtain ⟨o,ho,hno⟩:=hb
  unfold World.cell? at h5
  rw [e,ho] at h5
  cases o <;> simp_all [Obj.isCells]
theorem C_block_lt {W:World} {A:Option Addr} {n:Nat} {t:List S32} (h:Kd.C k32 W A n t) (hn:0 < t.length):∀ ad,A=some ad → ad.block < W.heap.size:=by
  intro ad hA
  obtain ⟨x,xs,rfl⟩:∃ x xs,t=x :: xs:=by cases t with
    | nil => simp at hn
    | cons x xs => exact ⟨x,xs,rfl⟩
  obtain ⟨ad',cs,e,-,hk,hc⟩:=Kd.C_get h z32 0 (Int.le_refl _) (by have:=h.1;have h2:(x :: xs).length=n:=this;rw [← h2];simp)
  rw [hA] at e
  injection e with e
  subst e
  have hk':=k32_open hk
  have h5:=hc 0 _ (by rw [hk'];rfl)
  have h6:=World.block_lt_of_cell? W _ h5
  have hb:∀ k,(ad.add k).block=ad.block:=fun k => by unfold Addr.add;split <;> simp
  rwa [hb] at h6
theorem fold_some:∀ (L:List (Nat × S80)) (f:Int → Option S80) (x:Int) (s:S80),(L.foldl (fun f p => putR f p.2) f) x=some s → f x=some s ∨ ∃ p ∈ L,p.2=s∧s.f2=false
  | [],f,x,s,h => .inl h
  | p :: L,f,x,s,h => by
    rcases fold_some L _ x s h with h1 | ⟨q,hq,h2⟩
    · change putR f p.2 x=some s at h1
      unfold putR at h1
      split at h1
      · rename_i hc
        by_cases hx:x=p.2.f0
        · simp only [hx,if_true] at h1
          injection h1 with h1
          subst h1
          exact .inr ⟨p,List.mem_cons_self,rfl,hc.1⟩
        · simp only [if_neg hx] at h1
          exact .inl h1
      · exact .inl h1
    · exact .inr ⟨q,List.mem_cons_of_mem _ hq,h2⟩
theorem fold_keep:∀ (L:List (Nat × S80)) (f:Int → Option S80) (x:Int),(f x).isSome=true → ((L.foldl (fun f p => putR f p.2) f) x).isSome=true
  | [],f,x,h => h
  | p :: L,f,x,h => by
    refine fold_keep L _ x ?_
    show (putR f p.2 x).isSome=true
    unfold putR
    split
    · by_cases hx:x=p.2.f0
      · simp [hx]
      · simp only [if_neg hx];exact h
    · exact h
theorem fold_in:∀ (L:List (Nat × S80)) (f:Int → Option S80) (p:Nat × S80),p ∈ L → p.2.f2=false → 0 ≤ p.2.f0 → p.2.f0 < 64 → ((L.foldl (fun f p => putR f p.2) f) p.2.f0).isSome=true
  | [],f,p,h,_,_,_ => by cases h
  | q :: L,f,p,h,h2,h0,h1 => by
    rcases List.mem_cons.1 h with e | h
    · subst e
      refine fold_keep L _ _ ?_
      show (putR f p.2 p.2.f0).isSome=true
      unfold putR
      rw [if_pos ⟨h2,h0,h1⟩]
      simp
    · exact fold_in L _ p h h2 h0 h1
theorem mem_rz {t:List S80} {s:S80} (h:s ∈ t):∃ p ∈ rz t,p.2=s:=by
  obtain ⟨i,hi,rfl⟩:=List.mem_iff_getElem.1 h
  refine ⟨(i,t[i]),List.mem_map.2 ⟨t.length - 1 - i,List.mem_range.2 (by omega),?_⟩,rfl⟩
  have e:t.length - 1 - (t.length - 1 - i)=i:=by omega
  rw [e]
  simp [List.getD_eq_getElem?_getD,hi]
theorem rz_mem {t:List S80} {p:Nat × S80} (h:p ∈ rz t):p.2 ∈ t:=by
  obtain ⟨j,hj,rfl⟩:=List.mem_map.1 h
  have hj:=List.mem_range.1 hj
  have hlt:t.length - 1 - j < t.length:=by omega
  simp only [List.getD_eq_getElem?_getD,List.getElem?_eq_getElem hlt,Option.getD_some]
  exact List.getElem_mem hlt
theorem reads_mem {t:List S80} {s:S80} (h:s ∈ readsL t):s ∈ t∧s.f2=false:=by
  have h1:=(mem_listOf (good_reads _)).1 h
  rcases fold_some _ _ _ _ h1 with h2 | ⟨p,hp,h2,h3⟩
  · cases h2
  · exact ⟨by rw [← h2];exact rz_mem hp,h3⟩
theorem reads_of {t:List S80} {s:S80} (h:s ∈ t) (h2:s.f2=false) (h0:0 ≤ s.f0) (h1:s.f0 < 64):s.f0 ∈ (readsL t).map (·.f0):=by
  obtain ⟨p,hp,rfl⟩:=mem_rz h
  have h3:=fold_in (rz t) (fun _ => none) p hp h2 h0 h1
  obtain ⟨s',hs⟩:=Option.isSome_iff_exists.1 h3
  have hg:=good_reads (rz t) p.2.f0 s' hs
  exact List.mem_map.2 ⟨s',(mem_listOf (good_reads _)).2 (by rw [hg.1];exact hs),hg.1⟩
theorem reads_len (t:List S80):(readsL t).length ≤ 64:=by
  unfold readsL listOf
  exact Nat.le_trans (List.length_filterMap_le _ _) (by simp)
def mix (fr:Nat → Bool) (o:S32) (N:List S32) (i:Nat):List S32:=N.mapIdx fun j v => if j < i∧fr j=true then o else v
theorem mix_len (fr:Nat → Bool) (o:S32) (N:List S32) (i:Nat):(mix fr o N i).length=N.length:=by simp [mix]
theorem mix_at (fr:Nat → Bool) (o:S32) (N:List S32) (i j:Nat):(mix fr o N i)[j]?=N[j]?.map fun v => if j < i∧fr j=true then o else v:=by simp [mix,List.getElem?_mapIdx]
theorem mix_zero (fr:Nat → Bool) (o:S32) (N:List S32):mix fr o N 0=N:=by
  refine List.ext_getElem? fun j => ?_
  rw [mix_at]
  cases N[j]? <;> simp
theorem mix_set {fr:Nat → Bool} {o:S32} {N:List S32} {i:Nat} (hi:i < N.length) (hf:fr i=true):(mix fr o N i).set i o=mix fr o N (i + 1):=by
  refine List.ext_getElem? fun j => ?_
  rw [List.getElem?_set,mix_at,mix_at,mix_len]
  by_cases hj:i=j
  · subst hj
    rw [if_pos rfl,if_pos hi,List.getElem?_eq_getElem hi]
    simp [hf]
  · rw [if_neg hj]
    cases N[j]? with
    | none => rfl
    | some v =>
      simp only [Option.map_some]
      congr 1
      by_cases h1:j < i∧fr j=true
      · rw [if_pos h1,if_pos ⟨by omega,h1.2⟩]
      · rw [if_neg h1,if_neg (fun h => h1 ⟨by omega,h.2⟩)]
theorem mix_skip {fr:Nat → Bool} {o:S32} {N:List S32} {i:Nat} (hf:fr i=false):mix fr o N i=mix fr o N (i + 1):=by
  refine List.ext_getElem? fun j => ?_
  rw [mix_at,mix_at]
  cases N[j]? with
  | none => rfl
  | some v =>
    simp only [Option.map_some]
    congr 1
    by_cases h1:j < i∧fr j=true
    · rw [if_pos h1,if_pos ⟨by omega,h1.2⟩]
    · rw [if_neg h1, if_neg (fun h => h1 ⟨by
        by_cases e:j=i
        · rw [e,hf] at h;cases h.2
        · omega,h.2⟩)]
theorem mix_rd {fr:Nat → Bool} {o:S32} {N:List S32} {i:Nat} (x:Int):rd_T32 (mix fr o N i) x=rd_T32 N x ∨ (rd_T32 (mix fr o N i) x=o∧fr x.toNat=true):=by
  unfold rd_T32
  rw [List.getD_eq_getElem?_getD,List.getD_eq_getElem?_getD,mix_at]
  cases N[x.toNat]? with
  | none => exact .inl rfl
  | some v =>
    simp only [Option.map_some,Option.getD_some]
    by_cases h1:x.toNat < i∧fr x.toNat=true
    · exact .inr ⟨by rw [if_pos h1],h1.2⟩
    · exact .inl (by rw [if_neg h1])
theorem mix_mem {fr:Nat → Bool} {o:S32} {N:List S32} {i:Nat} {v:S32} (h:v ∈ mix fr o N i):v ∈ N ∨ v=o:=by
  obtain ⟨j,hj⟩:=List.mem_iff_getElem?.1 h
  rw [mix_at] at hj
  cases hN:N[j]? with
  | none => rw [hN] at hj;cases hj
  | some u =>
    rw [hN] at hj
    simp only [Option.map_some] at hj
    split at hj
    · injection hj with hj;exact .inr hj.symm
    · injection hj with hj;exact .inl (by rw [← hj];exact List.mem_of_getElem? hN)
theorem right_val (a b:Int):warpbeamref06_Right.f a b=some (valR a b):=by
  unfold warpbeamref06_Right.f valR
  split
  · rfl
  split
  · rfl
  split
  · split <;> rfl
  · rfl
set_option maxRecDepth 100000 in
theorem val_arg {H:Type} {enc:TypeId × Value → H} {W:World} {base:Nat} {v:Value} {dt:DataW H} {p:List MemPlace} (o:Value.okWide Try.prog W .any base 24 v) (h:DataW.Trod enc Try.prog W 0 (fun _ => true) true 24 v dt p) :
    ∃ a b:Int,v=.agg #[.int .i64 a,.int .i64 b]∧R64 a∧R64 b:=by
  obtain ⟨cs,rfl,hF⟩:=open_struct Try.underlying24 flat_val o h
  obtain ⟨a,r,ea,ha,hF⟩:=fits_int hF
  obtain ⟨b,r',eb,hb,hF⟩:=fits_int hF
  obtain rfl:=fits_nil hF
  refine ⟨a,b,?_,word_of ha,word_of hb⟩
  congr 1
  apply Array.toList_inj.1
  rw [ea,eb]
end Go.Proofs.Ytgnjkegnddekeaa.Q
