/- append onto a row that is cut to its length: a new row, whatever lay behind it. And 'clear', at elements of any size. Over any program. -/
import Derived.ArgAppend
import Derived.Lib.SliceRun
import Derived.Test.YtgnjkegnddekeaaXWMore
set_option linter.unusedVariables false
set_option linter.unusedSimpArgs false
namespace Go.Proofs.Ytgnjkegnddekeaa
open Go.RowKit Go.Lib Go.Proofs.YtgnjkegnddekeaaW.PrintWords Go.Proofs.YtgnjkegnddekeaaW.PrintLast Go.Proofs.YtgnjkegnddekeaaW.PrintMore
section
variable {P : Program} {ops : Array Oper} {rest : List Oper} {o : Oper} {a : Act} {Q : Exit → Act → World → Prop} {α : Type}
theorem inner_any {d:Kd α} {W:World} {A:Option Addr} {n:Nat} {xs:List α} (h:d.C W A n xs):∃ inner,Reps (d.K W) d.sz xs inner∧∀ b,A=some b → ∀ j u,inner[j]?=some u → W.cell? (b.add j)=some u:=by
  rcases A with _ | ad
  · rcases Nat.eq_zero_or_pos n with h0 | h0
    · have hx:xs=[]:=List.eq_nil_of_length_eq_zero (h.1.trans h0)
      subst hx
      exact ⟨[],Reps.none _ _,fun b hb => by cases hb⟩
    · obtain ⟨ad,hA,_⟩:=h.2.2 h0
      cases hA
  · obtain ⟨inner,h1,h2⟩:=ReadsRow.inner_ h
    exact ⟨inner,h1,fun b hb => by injection hb with hb;subst hb;exact h2⟩
theorem R_append_clip (d:Kd α) {w0 W:World} (base:Nat) (hgd:o.guard=none) (s x:Operand) (t e:TypeId) (z:Value) (bytes:Nat)
    (ho:o.op=.call { callee:=.builtin .append,args:=#[s,x],argTypes:=#[t,t] })
    (ht:P.underlying t=some (.slice e)) (hinfo:(P.info? e).map (fun i => (i.zero,i.size,i.bytes))=some (some z,d.sz,bytes)) (hz:z.cells.size=d.sz) (hs0:0 < d.sz) (hb0:0 < bytes)
    (A:Option Addr) (n:Nat) (xs:List α) (y:α) (cs:List Value) (g c:Nat) (hs:a.eval s=.slice A n n) (hx:a.eval x=.slice (some ⟨g,0,none⟩) 1 c)
    (HX:d.C W A n xs) (hcs:∀ j u,cs[j]?=some u → W.cell? ⟨g,j,none⟩=some u) (hy:d.K W y cs)
    (hKM:∀ w1 ok x cs,d.K W x cs → d.M w1 W.heap.size ok x cs) (HB:Below base w0 W) (hbase:base ≤ W.heap.size) (hl:(n + 1) * bytes ≤ 140737488355328)
    (h:∀ v1 w1,d.R e w1 W.heap.size (fun _ => True) v1 (xs ++ [y]) → Below base w0 w1 → Below W.heap.size W w1 → wpList P ops Q rest (a.put o.dst v1) w1):wpList P ops Q (o :: rest) a W:=by
  obtain ⟨i0,hi,hzz⟩:=Option.map_eq_some_iff.1 hinfo
  simp only [Prod.mk.injEq] at hzz
  obtain ⟨hz0,hz1,hz2⟩:=hzz
  obtain ⟨inner,hr,hc⟩:=inner_any HX
  have hn:xs.length=n:=HX.1
  have hA:A=none → n=0∧n=0:=by
    intro hA
    rcases Nat.eq_zero_or_pos n with h0 | h0
    · exact ⟨h0,h0⟩
    · obtain ⟨ad,he,_⟩:=HX.2.2 h0
      rw [hA] at he
      cases he
  have hlen:n + 1 ≤ 140737488355328:=Nat.le_trans (Nat.le_mul_of_pos_right _ hb0) hl
  refine wpList_append_grows W hgd s x t ho e i0 z d.sz bytes ht hi hz0 hz1 hz2 hz hs0 A n n inner hs hA (by rw [hr.1,hn]) hc ⟨g,0,none⟩ 1 c cs hx (by rw [d.K_len hy];omega) (fun j u hj => by rw [Addr.add_lit,Nat.zero_add];exact hcs j u hj) (d.K_one hy) (by omega) (by unfold maxLen;omega) hl ?_
  intro v1 w1 hown hg
  have hB:Below W.heap.size W w1:=(Below.refl _ _).grown hg (Nat.le_refl _) (by intro k hk;cases hk)
  refine h v1 w1 ⟨fun _ _ => trivial,inner ++ cs,?_,?_⟩ (HB.grown hg hbase (by intro k hk;cases hk)) hB
  · rw [List.length_append,hn]
    exact hown
  · exact (hr.snoc hy (d.K_len hy)).imp_ (fun p c hp => hKM _ _ _ _ hp)
/-- clear, of elements of any size: what it writes is as long as the row. -/
theorem run_clear_sized (w:World) (t e:TypeId) (z:Value) (size:Nat) (ht:P.underlying t=some (.slice e)) (hv:∀ w,(zeroValue e).run P w=.ok z w) (hz:z.cells.size=size) (hs0:0 < size) (h1:∀ u ∈ z.cells,u.oneCell'=true) (b o n c:Nat) (hn:0 < n)
    (hc:∀ j,j < n * size → (w.cell? ⟨b,o + j,none⟩).isSome=true) (hf:∀ j,j < n * size → w.frozen? ⟨b,o + j,none⟩=false) :
    ∃ L:List Value,L.length=n * size∧∀ ty,(Builtin.clear_ #[t] ty #[.slice (some ⟨b,o,none⟩) n c]).run P w=.ok (.tuple #[]) (w.setCells b o L):=by
  have hlen:(Builtin.zeroCells z.cells n).toList.length=n * size:=by simp [Builtin.zeroCells,hz]
  have hone:∀ v ∈ (Builtin.zeroCells z.cells n).toList,v.oneCell'=true:=by
    intro v hv'
    simp only [Builtin.zeroCells,Array.toList_map,List.mem_map] at hv'
    obtain ⟨i,-,rfl⟩:=hv'
    have hlt:i % z.cells.size < z.cells.size:=Nat.mod_lt _ (by omega)
    apply h1
    rw [getElem!_pos z.cells _ hlt]
    exact Array.getElem_mem hlt
  have hst:=run_storeCells_cells (P:=P) b o (Builtin.zeroCells z.cells n).toList 0 w (by rw [hlen];simpa using hc) (by rw [hlen];simpa using hf) hone
  simp only [Nat.add_zero] at hst
  obtain ⟨m,rfl⟩:∃ m,n=m + 1:=⟨n - 1,by omega⟩
  refine ⟨_,hlen,fun ty => ?_⟩
  simp [Builtin.clear_,run_underlying ht,hv,hst]
end
end Go.Proofs.Ytgnjkegnddekeaa
