/- The document's transactions are the program's, in plain words. -/
import Derived.Test.YtgnjkegnddekeaaYTxnT
import Derived.Test.YtgnjkegnddekeaaYFlat2
import Derived.Test.YtgnjkegnddekeaaYQ4
import Derived.Test.YtgnjkegnddekeaaYQ5
namespace Go.Proofs.Ytgnjkegnddekeaa.Q
open Go.RowKit Go.Lib Go.Proofs.Ytgnjkegnddekeaa Go.Proofs.YtgnjkegnddekeaaW.PrintWords Go.Proofs.YtgnjkegnddekeaaW.PrintLast Go.Proofs.YtgnjkegnddekeaaW.PrintMore
set_option linter.unusedVariables false
set_option linter.unusedSimpArgs false
theorem right_ref (a b:Int):warpbeamref06_Right.f a b=some (valR a b):=by
 unfold warpbeamref06_Right.f valR
 split
 ·
  rfl
 split
 ·
  rfl
 split
 ·
  split <;> rfl
 ·
  rfl
theorem add_f (t:List S80) (s:S80) (ht:t.length≤1000000):warpbeamref08_Add.f 1 (t.map our80) s.f0 s.f1.f0 s.f1.f1 s.f2=some ((addL t s).1.map our80,(addL t s).2):=by
 have j0t:∀ a b c d,warpbeamref08_Add.j0 1 (t.map our80) true a b c d=some (t.map our80,2):=fun a b c d=>by rw [warpbeamref08_Add.j0,if_pos rfl]
 have j0f:warpbeamref08_Add.j0 1 (t.map our80) false s.f0 s.f1.f0 s.f1.f1 s.f2=if 200≤t.length then some (t.map our80,4) else some ((t++[s]).map our80,0):=by
  rw [warpbeamref08_Add.j0,if_neg (by decide)]
  by_cases h:200≤t.length
  ·
   rw [if_pos (by rw [List.length_map];omega),if_pos h]
  ·
   rw [if_neg (by rw [List.length_map];omega),if_neg h]
   show (if ([]:List S114).length+(t.map our80).length<4398046511104 then _ else _)=_
   rw [if_pos (by simp;omega)]
   show (if ([]++t.map our80:List S114).length+([(⟨s.f0,(⟨s.f1.f0,s.f1.f1⟩:S24),s.f2⟩:S114)]:List S114).length<4398046511104 then _ else _)=_
   rw [if_pos (by simp;omega)]
   simp [our80]
 unfold warpbeamref08_Add.f addL
 by_cases h0:s.f0<0
 ·
  rw [if_pos h0,if_pos (Or.inl h0),j0t]
 rw [if_neg h0]
 by_cases h1:s.f0 ≥ 64
 ·
  rw [if_pos h1,if_pos (Or.inr (Or.inl h1)),j0t]
 rw [if_neg h1,right_ref]
 show warpbeamref08_Add.j0 1 (t.map our80) (!valR s.f1.f0 s.f1.f1) _ _ _ _=_
 cases hv:valR s.f1.f0 s.f1.f1 with
 | false=>rw [if_pos (Or.inr (Or.inr rfl))];exact j0t _ _ _ _
 | true =>
  rw [if_neg (by simp;omega)]
  show warpbeamref08_Add.j0 1 (t.map our80) false _ _ _ _=_
  rw [j0f]
  split <;> rfl
def go80 (x:Int) (wr last:Bool):List S80→Int→Int→Int
 | [],_,best=>best
 | s :: r,i,best=>go80 x wr last r (i+1) (if s.f0=x∧s.f2=wr∧(best<0∨last=true) then i else best)
theorem go80_app (x:Int) (wr last:Bool) (s:S80):∀ (l:List S80) (i best:Int),go80 x wr last (l++[s]) i best=(if s.f0=x∧s.f2=wr∧(go80 x wr last l i best<0∨last=true) then i+l.length else go80 x wr last l i best)
 | [],i,best=>by simp [go80]
 | a :: l,i,best=>by
  simp only [List.cons_append,go80,List.length_cons]
  rw [go80_app x wr last s l]
  refine ite_congr rfl (fun _=>?_) (fun _=>rfl)
  omega
theorem go80_lt (x:Int) (wr last:Bool):∀ (l:List S80) (i best:Int),best<i→go80 x wr last l i best<i+l.length
 | [],i,best,h=>by simp [go80];omega
 | a :: l,i,best,h=>by
  simp only [go80,List.length_cons]
  have:=go80_lt x wr last l (i+1) (if a.f0=x∧a.f2=wr∧(best<0∨last=true) then i else best) (by split <;> omega)
  omega
theorem rd_map80 (t:List S80) (i:Int):rd_T114 (t.map our80) i=our80 (rd_T80 t i):=by
 unfold rd_T114 rd_T80
 rw [List.getD_eq_getElem?_getD,List.getD_eq_getElem?_getD,List.getElem?_map]
 cases t[i.toNat]? <;> rfl
theorem find_loop (t:List S80) (x:Int) (wr last:Bool) (ht:t.length≤1000000):∀ (d i k:Nat) (best:Int),i+d=t.length→d<k→warpbeamref08_Find.l0 k (t.map our80) x wr last best (i:Int)=some (go80 x wr last (t.drop i) i best)
 | 0,i,k,best,hd,hk=>by
  obtain ⟨k,rfl⟩:∃ m,k=m+1:=⟨k - 1,by omega⟩
  obtain rfl:i=t.length:=by omega
  rw [warpbeamref08_Find.l0,if_neg (by simp),List.drop_length]
  rfl
 | d+1,i,k,best,hd,hk=>by
  obtain ⟨k,rfl⟩:∃ m,k=m+1:=⟨k - 1,by omega⟩
  have hi:i<t.length:=by omega
  have hw:wrap64 ((i:Int)+1)=((i+1:Nat):Int):=by unfold wrap64;omega
  have hr:rd_T114 (t.map our80) (i:Int)=our80 t[i]:=by
   rw [rd_map80]
   unfold rd_T80
   rw [Int.toNat_natCast,List.getD_eq_getElem?_getD,List.getElem?_eq_getElem hi]
   rfl
  have ih:=fun b=>find_loop t x wr last ht d (i+1) k b (by omega) (by omega)
  rw [warpbeamref08_Find.l0,if_pos (by rw [List.length_map];omega),if_pos (by omega),hr,hw]
  rw [ih,ih,List.drop_eq_getElem_cons hi]
  have hc:((i+1:Nat):Int)=(i:Int)+1:=by omega
  simp only [go80,our80,hc]
  by_cases h0:t[i].f0=x
  ·
   rw [if_pos h0]
   by_cases h1:t[i].f2=wr
   ·
    rw [if_pos (by simpa using h1)]
    by_cases h2:best<0
    ·
     rw [if_pos h2,if_pos ⟨h0,h1,Or.inl h2⟩]
    ·
     rw [if_neg h2]
     by_cases h3:last=true
     ·
      rw [if_pos h3,if_pos ⟨h0,h1,Or.inr h3⟩]
     ·
      rw [if_neg h3,if_neg (fun h=>h.2.2.elim h2 h3)]
   ·
    rw [if_neg (by simpa using h1),if_neg (fun h=>h1 h.2.1)]
  ·
   rw [if_neg h0,if_neg (fun h=>h0 h.1)]
theorem findR_f (t:List S80) (x:Int) (wr last:Bool) (ht:t.length≤1000000) (k:Nat) (hk:t.length<k):warpbeamref08_Find.f k (t.map our80) x wr last=some (go80 x wr last t 0 (-1)):=by
 unfold warpbeamref08_Find.f
 have:=find_loop t x wr last ht t.length 0 k (-1) (by omega) hk
 simpa using this
theorem rz_app (t:List S80) (s:S80):rz (t++[s])=(t.length,s) :: rz t:=by
 unfold rz
 rw [List.length_append,List.length_singleton,List.range_succ_eq_map,List.map_cons,List.map_map]
 congr 1
 ·
  simp [List.getD_eq_getElem?_getD]
 ·
  refine List.map_congr_left fun j hj=>?_
  have hj':j<t.length:=List.mem_range.1 hj
  have e:t.length+1 - 1 - (j+1)=t.length - 1 - j:=by omega
  simp only [Function.comp]
  rw [e,List.getD_eq_getElem?_getD,List.getD_eq_getElem?_getD,List.getElem?_append_left (by omega)]
theorem look_go (x:Int):∀ (n:Nat) (t:List S80),t.length=n→∀ st,lookR x (rz t) st=if 0≤go80 x true true t 0 (-1) then ((rd_T80 t (go80 x true true t 0 (-1))).f1,true) else if 0≤go80 x false false t 0 (-1) then ((rd_T80 t (go80 x false false t 0 (-1))).f1,true) else st
 | 0,t,hn,st=>by
  obtain rfl:=List.eq_nil_of_length_eq_zero hn
  rfl
 | n+1,t,hn,st=>by
  rcases List.eq_nil_or_concat t with rfl|⟨l,s,rfl⟩
  ·
   simp at hn
  rw [List.concat_eq_append] at *
  have hl:l.length=n:=by simp at hn;omega
  have ih:=look_go x n l hl
  have rdl:∀ j:Int,0≤j→j<l.length→rd_T80 (l++[s]) j=rd_T80 l j:=fun j h0 h1=>by
   unfold rd_T80
   rw [List.getD_eq_getElem?_getD,List.getD_eq_getElem?_getD,List.getElem?_append_left (by omega)]
  have rds:rd_T80 (l++[s]) (l.length:Int)=s:=by
   unfold rd_T80
   rw [List.getD_eq_getElem?_getD]
   simp
  have bW:=go80_lt x true true l 0 (-1) (by omega)
  have bR:=go80_lt x false false l 0 (-1) (by omega)
  rw [rz_app,go80_app,go80_app]
  have z0:(0:Int)+l.length=l.length:=by omega
  rw [z0] at bW bR ⊢
  generalize go80 x true true l 0 (-1)=w at *
  generalize go80 x false false l 0 (-1)=r at *
  show (if s.f0=x then (if s.f2=true then (s.f1,true) else lookR x (rz l) (s.f1,true)) else lookR x (rz l) st)=_
  by_cases h0:s.f0=x
  ·
   rw [if_pos h0]
   by_cases h1:s.f2=true
   ·
    rw [if_pos h1,if_pos (show s.f0=x∧s.f2=true∧(w<0∨true=true) from ⟨h0,h1,Or.inr rfl⟩),if_pos (by omega),rds]
   ·
    have h1':s.f2=false:=by simpa using h1
    rw [if_neg h1,ih,if_neg (show ¬ (s.f0=x∧s.f2=true∧(w<0∨true=true)) from fun h=>h1 h.2.1)]
    by_cases hw:0≤w
    ·
     rw [if_pos hw,if_pos hw,rdl w hw bW]
    ·
     rw [if_neg hw,if_neg hw]
     by_cases hr:0≤r
     ·
      rw [if_pos hr,if_neg (show ¬ (s.f0=x∧s.f2=false∧(r<0∨false=true)) from fun h=>h.2.2.elim (fun h=>by omega) (fun h=>by cases h)),if_pos hr,rdl r hr bR]
     ·
      rw [if_neg hr,if_pos (show s.f0=x∧s.f2=false∧(r<0∨false=true) from ⟨h0,h1',Or.inl (by omega)⟩),if_pos (by omega),rds]
  ·
   rw [if_neg h0,ih,if_neg (show ¬ (s.f0=x∧s.f2=true∧(w<0∨true=true)) from fun h=>h0 h.1),if_neg (show ¬ (s.f0=x∧s.f2=false∧(r<0∨false=true)) from fun h=>h0 h.1)]
   by_cases hw:0≤w
   ·
    rw [if_pos hw,if_pos hw,rdl w hw bW]
   ·
    rw [if_neg hw,if_neg hw]
    by_cases hr:0≤r
    ·
     rw [if_pos hr,if_pos hr,rdl r hr bR]
    ·
     rw [if_neg hr,if_neg hr]
theorem look_f (t:List S80) (x:Int) (ht:t.length≤1000000) (k:Nat) (hk:t.length<k):warpbeamref08_Look.f k (t.map our80) x=some ((lookL t x).1.f0,(lookL t x).1.f1,(lookL t x).2):=by
 have bW:=go80_lt x true true t 0 (-1) (by omega)
 have bR:=go80_lt x false false t 0 (-1) (by omega)
 unfold warpbeamref08_Look.f lookL
 rw [look_go x t.length t rfl,findR_f t x true true ht k hk,findR_f t x false false ht k hk]
 simp only [Int.zero_add,Option.bind_some,List.length_map,rd_map80] at *
 generalize go80 x true true t 0 (-1)=w at *
 generalize go80 x false false t 0 (-1)=r at *
 by_cases hw:0≤w
 ·
  rw [if_pos hw,if_neg (by omega),if_pos hw,if_pos bW]
  rfl
 ·
  rw [if_neg hw,if_pos (by omega)]
  by_cases hr:0≤r
  ·
   rw [if_pos hr,if_neg (by omega),if_pos hr,if_pos bR]
   simp only [if_neg hw]
   rfl
  ·
   rw [if_neg hr,if_pos (by omega)]
   simp only [if_neg hw,if_neg hr]
   rfl
theorem back_loop (t:List S80) (ht:t.length≤1000000):∀ (d i k:Nat) (acc:List S114),i+d=t.length→d<k→acc.length+d≤3000000→warpbeamref08_Back.l0 k (t.map our80) acc (i:Int)=some (acc++((t.drop i).filter (fun s=>!s.f2)).map our80,0)
 | 0,i,k,acc,hd,hk,ha=>by
  obtain ⟨k,rfl⟩:∃ m,k=m+1:=⟨k - 1,by omega⟩
  obtain rfl:i=t.length:=by omega
  rw [warpbeamref08_Back.l0,if_neg (by simp),List.drop_length]
  simp
 | d+1,i,k,acc,hd,hk,ha=>by
  obtain ⟨k,rfl⟩:∃ m,k=m+1:=⟨k - 1,by omega⟩
  have hi:i<t.length:=by omega
  have hw:wrap64 ((i:Int)+1)=((i+1:Nat):Int):=by unfold wrap64;omega
  have hr:rd_T114 (t.map our80) (i:Int)=our80 t[i]:=by
   rw [rd_map80]
   unfold rd_T80
   rw [Int.toNat_natCast,List.getD_eq_getElem?_getD,List.getElem?_eq_getElem hi]
   rfl
  rw [warpbeamref08_Back.l0,if_pos (by rw [List.length_map];omega),if_pos (by omega),hr,hw,List.drop_eq_getElem_cons hi,List.filter_cons]
  cases h:t[i].f2 with
  | true =>
   rw [if_pos (show (our80 t[i]).f2=true from h),back_loop t ht d (i+1) k acc (by omega) (by omega) (by omega)]
   simp
  | false =>
   rw [if_neg (show ¬ (our80 t[i]).f2=true from by show ¬ t[i].f2=true;rw [h];decide),if_pos (by omega),back_loop t ht d (i+1) k _ (by omega) (by omega) (by simp;omega)]
   simp [our80]
theorem back_f (t:List S80) (at_:Int) (ht:t.length≤1000000) (k:Nat) (hk:t.length+1<k):warpbeamref08_Back.f k (t.map our80) at_=some ((backL t at_).1.map our80,(backL t at_).2):=by
 obtain ⟨k,rfl⟩:∃ m,k=m+1:=⟨k - 1,by omega⟩
 unfold warpbeamref08_Back.f backL
 have j0t:warpbeamref08_Back.j0 (k+1) (t.map our80) at_ true=some (t.map our80,2):=by rw [warpbeamref08_Back.j0,if_pos rfl]
 by_cases h0:at_<0
 ·
  rw [if_pos h0,if_pos (Or.inl h0),j0t]
 rw [if_neg h0,List.length_map]
 by_cases h1:(t.length:Int)<at_
 ·
  have hd:decide (at_ > (t.length:Int))=true:=by simpa using h1
  rw [hd,if_pos (Or.inr h1),j0t]
 have hd:decide (at_ > (t.length:Int))=false:=by simpa using h1
 rw [hd,if_neg (by omega),warpbeamref08_Back.j0,if_neg (by decide)]
 show (if 0≤at_ then _ else none)=_
 rw [if_pos (by omega),if_pos (by rw [List.length_map];omega)]
 show (if ([]:List S114).length+((t.map our80).take at_.toNat).length<4398046511104 then _ else none)=_
 rw [if_pos (by simp;omega)]
 obtain ⟨n,rfl⟩:∃ n:Nat,at_=n:=⟨at_.toNat,by omega⟩
 rw [back_loop t ht (t.length - n) n k _ (by omega) (by omega) (by simp;omega)]
 simp [List.map_take]
end Go.Proofs.Ytgnjkegnddekeaa.Q
