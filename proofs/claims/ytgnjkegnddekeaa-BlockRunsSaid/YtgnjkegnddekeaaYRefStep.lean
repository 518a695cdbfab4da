/- The document's step, by hand: what each of its functions comes to, told by the program's own step. -/
import Derived.Test.YtgnjkegnddekeaaYRefC
import Derived.Test.YtgnjkegnddekeaaYRefS
import Derived.Test.YtgnjkegnddekeaaYHConv
import Derived.Test.YtgnjkegnddekeaaYStepM
import Derived.Test.YtgnjkegnddekeaaYLoops
import Derived.Test.YtgnjkegnddekeaaYQ3
set_option maxHeartbeats 2000000
set_option maxRecDepth 100000
open Go.Value renaming int → zC
open Go.IntKind renaming i64 → zD
open List renaming setIfInBounds_toArray → zQ, set_cons_zero → zS, set_cons_succ → zT
open Go.Lib renaming hid → zP
open And renaming intro → zU
namespace Go.Proofs.Ytgnjkegnddekeaa.Q
open Go.RowKit Go.Lib Go.Proofs.Ytgnjkegnddekeaa Go.Proofs.YtgnjkegnddekeaaW.PrintWords Go.Proofs.YtgnjkegnddekeaaW.PrintLast Go.Proofs.YtgnjkegnddekeaaW.PrintMore
set_option linter.unusedVariables false
set_option linter.unusedSimpArgs false
def RSt (W:World) (SA:Option Addr) (sc:Nat) (fs0:List FrameD) (r:CpuD × AskD) (x:Ending) (w':World):Prop :=
 r.1.rs.length=8∧∃ A c,x=.returned (.tuple #[.agg (cpuC r.1.pc r.1.used r.1.rs (.slice A r.1.fs.length c)),.agg r.2.c])∧((A=SA∧c=sc∧r.1.fs=fs0)∨Kd.R kF 99 w' W.heap.size (fun _=>True) (.slice A r.1.fs.length c) r.1.fs)∧Below W.heap.size W w'
theorem RSt.reads {W:World} {SA A:Option Addr} {sc c:Nat} {fs0 fs:List FrameD} {w':World} (hC:Kd.C kF W SA fs0.length fs0) (hle:fs0.length≤sc) (h:(A=SA∧c=sc∧fs=fs0)∨Kd.R kF 99 w' W.heap.size (fun _=>True) (.slice A fs.length c) fs) (hB:Below W.heap.size W w'):Kd.C kF w' A fs.length fs∧fs.length≤c:=by
 rcases h with ⟨rfl,rfl,rfl⟩|h
 ·
  exact ⟨Kd.C_below hC hB,hle⟩
 ·
  exact ⟨(Kd.R_reads' h).2.2,(Kd.R_reads' h).2.1⟩
def opP (c:CpuD) (o:S74) (vars:Int):CpuD × AskD:=match doesP ⟨c.pc,wrap64 (c.used+1),c.rs,c.fs⟩ o vars with
 | .inl e=>(⟨c.pc,wrap64 (c.used+1),c.rs,c.fs⟩,over e)
 | .inr r=>r
theorem RSt.of {W:World} {SA:Option Addr} {sc:Nat} {fs:List FrameD} {pc used:Int} {rs:List S32} {k x a d v0 v1 e:Int} {y:Ending} {w':World} (h8:rs.length=8)
  (h:y=.returned (.tuple #[.agg (cpuC pc used rs (.slice SA fs.length sc)),.agg (askC k x a d v0 v1 e)])∧Below W.heap.size W w'):RSt W SA sc fs (⟨pc,used,rs,fs⟩,⟨k,x,a,d,⟨v0,v1⟩,e⟩) y w' :=
 ⟨h8,SA,sc,h.1,Or.inl ⟨rfl,rfl,rfl⟩,h.2⟩
theorem opP_sums {pc used vars:Int} {rs:List S32} {fs:List FrameD} {o:S74} (h4:4≤o.f0) (h8:o.f0<8) :
  opP ⟨pc,used,rs,fs⟩ o vars=if (regA rs o.f2).f0=1∧(regA rs o.f3).f0=1 then (⟨wrap64 (pc+1),wrap64 (used+1),rs.set o.f1.toNat ⟨1,doP o.f0 (regA rs o.f2).f1 (regA rs o.f3).f1⟩,fs⟩,ask0) else (⟨pc,wrap64 (used+1),rs,fs⟩,over 4):=by
 have n0:¬ o.f0=0:=by omega
 have n1:¬ o.f0=1:=by omega
 have n2:¬ o.f0=2:=by omega
 have n3:¬ o.f0=3:=by omega
 by_cases hk:(regA rs o.f2).f0=1∧(regA rs o.f3).f0=1
 ·
  simp only [opP,doesP,worthP,sumsP,if_neg n0,if_neg n1,if_neg n2,if_neg n3,if_pos h8,if_pos hk,Option.map_some]
 ·
  simp only [opP,doesP,worthP,sumsP,if_neg n0,if_neg n1,if_neg n2,if_neg n3,if_pos h8,if_neg hk,Option.map_none]
theorem worth_non {rs:List S32} {o:S74} (h8:8≤o.f0):worthP rs o=some none:=by
 unfold worthP
 rw [if_neg (by omega),if_neg (by omega),if_neg (by omega),if_neg (by omega),if_neg (by omega)]
theorem rsums_all (pc used vars:Int) (rs:List S32) (SA:Option Addr) (sc:Nat) (fs:List FrameD) (o:S97) (W:World) (hC:Kd.C kF W SA fs.length fs) (hle:fs.length≤sc) (hl:rs.length=8) (ho:OpOK (conv74 o)) (h4:4≤o.f0) (h8:o.f0<8) :
  Calls Try.prog 37 #[.agg (cpuC pc used rs (.slice SA fs.length sc)),.agg #[zC zD o.f0,zC zD o.f1,zC zD o.f2,zC zD o.f3,zC zD o.f4]] W (RSt W SA sc fs (opP ⟨pc,used,rs,fs⟩ (conv74 o) vars)):=by
 have hb1:o.f2<8:=ho.b1 (by show ¬ o.f0=2;omega)
 have hd1:o.f3<8:=ho.d1 h8
 have ha0:0≤o.f1:=ho.a0
 have ha1:o.f1<8:=ho.a1
 have hb0:0≤o.f2:=ho.b0
 have hd0:0≤o.f3:=ho.d0
 rw [opP_sums (o:=conv74 o) h4 h8]
 show Calls _ _ _ _ (RSt W SA sc fs (if (regA rs o.f2).f0=1∧(regA rs o.f3).f0=1 then (⟨wrap64 (pc+1),wrap64 (used+1),rs.set o.f1.toNat ⟨1,doP o.f0 (regA rs o.f2).f1 (regA rs o.f3).f1⟩,fs⟩,ask0) else (⟨pc,wrap64 (used+1),rs,fs⟩,over 4)))
 by_cases hk:(regA rs o.f2).f0=1∧(regA rs o.f3).f0=1
 ·
  rw [if_pos hk]
  have h82:∀ v,(rs.set o.f1.toNat v).length=8:=fun v=>by rw [List.length_set];exact hl
  by_cases h7:o.f0=7
  ·
   have e:doP o.f0 (regA rs o.f2).f1 (regA rs o.f3).f1=if (regA rs o.f2).f1<(regA rs o.f3).f1 then 1 else 0:=by rw [h7];simp [doP]
   rw [e]
   exact (rsums_less pc used rs _ o W hl rfl ha0 ha1 hb0 hb1 hd0 hd1 h7 hk.1 hk.2).mono fun x w' h=>RSt.of (h82 _) h
  ·
   have e:o.f0=(o.f0 - 4)+4:=by omega
   have:=rsums_do pc used rs (.slice SA fs.length sc) o W hl rfl ha0 ha1 hb0 hb1 hd0 hd1 (o.f0 - 4) (by omega) (by omega) e hk.1 hk.2
   rw [← e] at this
   exact this.mono fun x w' h=>RSt.of (h82 _) h
 ·
  rw [if_neg hk]
  exact (rsums_bad pc used rs _ o W hl rfl ha0 ha1 hb0 hb1 hd0 hd1 hk).mono fun x w' h=>RSt.of hl h
theorem rmem_all (pc used vars:Int) (rs:List S32) (SA:Option Addr) (sc:Nat) (fs:List FrameD) (o:S97) (W:World) (hC:Kd.C kF W SA fs.length fs) (hle:fs.length≤sc) (hl:rs.length=8) (ho:OpOK (conv74 o)) (h8:8≤o.f0) (h10:o.f0<10) :
  Calls Try.prog 38 #[.agg (cpuC pc used rs (.slice SA fs.length sc)),.agg #[zC zD o.f0,zC zD o.f1,zC zD o.f2,zC zD o.f3,zC zD o.f4],zC zD vars] W (RSt W SA sc fs (opP ⟨pc,used,rs,fs⟩ (conv74 o) vars)):=by
 have hb1:o.f2<8:=ho.b1 (by show ¬ o.f0=2;omega)
 have ha0:0≤o.f1:=ho.a0
 have ha1:o.f1<8:=ho.a1
 have hb0:0≤o.f2:=ho.b0
 have hw:=worth_non (rs:=rs) (o:=conv74 o) h8
 by_cases h9:o.f0=8
 ·
  have n1:(conv74 o).f0=8:=h9
  have e:opP ⟨pc,used,rs,fs⟩ (conv74 o) vars=if isVar (regA rs o.f2) vars then (⟨wrap64 (pc+1),wrap64 (used+1),rs,fs⟩,⟨1,(regA rs o.f2).f1,o.f1,0,⟨0,0⟩,0⟩) else (⟨pc,wrap64 (used+1),rs,fs⟩,over 4):=by
   simp only [opP,doesP,hw,if_pos n1]
   by_cases hq:isVar (regA rs o.f2) vars
   ·
    have hq':isVar (regA rs (conv74 o).f2) vars:=hq
    simp only [if_pos hq,if_pos hq']
    rfl
   ·
    have hq':¬ (isVar (regA rs (conv74 o).f2) vars):=hq
    simp only [if_neg hq,if_neg hq']
  rw [e]
  by_cases h2:(regA rs o.f2).f0=2
  ·
   by_cases h0:(regA rs o.f2).f1<0
   ·
    rw [if_neg (by unfold isVar;omega)]
    exact (rmem8_1 pc used rs _ o W hl rfl ha0 ha1 hb0 hb1 vars h9 h2 h0).mono fun x w' h=>RSt.of hl h
   ·
    by_cases hv:vars≤(regA rs o.f2).f1
    ·
     rw [if_neg (by unfold isVar;omega)]
     exact (rmem8_2 pc used rs _ o W hl rfl ha0 ha1 hb0 hb1 vars h9 h2 h0 hv).mono fun x w' h=>RSt.of hl h
    ·
     rw [if_pos (by unfold isVar;omega)]
     exact (rmem8_3 pc used rs _ o W hl rfl ha0 ha1 hb0 hb1 vars h9 h2 h0 hv).mono fun x w' h=>RSt.of hl h
  ·
   rw [if_neg (by unfold isVar;omega)]
   exact (rmem8_0 pc used rs _ o W hl rfl ha0 ha1 hb0 hb1 vars h9 h2).mono fun x w' h=>RSt.of hl h
 ·
  have h9:o.f0=9:=by omega
  have n0:¬ (conv74 o).f0=8:=by show ¬ o.f0=8;omega
  have n1:(conv74 o).f0=9:=h9
  have e:opP ⟨pc,used,rs,fs⟩ (conv74 o) vars=if isVar (regA rs o.f1) vars then (⟨wrap64 (pc+1),wrap64 (used+1),rs,fs⟩,⟨2,(regA rs o.f1).f1,0,0,regA rs o.f2,0⟩) else (⟨pc,wrap64 (used+1),rs,fs⟩,over 4):=by
   simp only [opP,doesP,hw,if_neg n0,if_pos n1]
   by_cases hq:isVar (regA rs o.f1) vars
   ·
    have hq':isVar (regA rs (conv74 o).f1) vars:=hq
    simp only [if_pos hq,if_pos hq']
    rfl
   ·
    have hq':¬ (isVar (regA rs (conv74 o).f1) vars):=hq
    simp only [if_neg hq,if_neg hq']
  rw [e]
  by_cases h2:(regA rs o.f1).f0=2
  ·
   by_cases h0:(regA rs o.f1).f1<0
   ·
    rw [if_neg (by unfold isVar;omega)]
    exact (rmem9_1 pc used rs _ o W hl rfl ha0 ha1 hb0 hb1 vars h9 h2 h0).mono fun x w' h=>RSt.of hl h
   ·
    by_cases hv:vars≤(regA rs o.f1).f1
    ·
     rw [if_neg (by unfold isVar;omega)]
     exact (rmem9_2 pc used rs _ o W hl rfl ha0 ha1 hb0 hb1 vars h9 h2 h0 hv).mono fun x w' h=>RSt.of hl h
    ·
     rw [if_pos (by unfold isVar;omega)]
     exact (rmem9_3 pc used rs _ o W hl rfl ha0 ha1 hb0 hb1 vars h9 h2 h0 hv).mono fun x w' h=>RSt.of hl h
  ·
   rw [if_neg (by unfold isVar;omega)]
   exact (rmem9_0 pc used rs _ o W hl rfl ha0 ha1 hb0 hb1 vars h9 h2).mono fun x w' h=>RSt.of hl h
theorem rjump_all (pc used vars:Int) (rs:List S32) (SA:Option Addr) (sc:Nat) (fs:List FrameD) (o:S97) (W:World) (hC:Kd.C kF W SA fs.length fs) (hle:fs.length≤sc) (hl:rs.length=8) (ho:OpOK (conv74 o)) (h8:10≤o.f0) (h10:o.f0<12) :
  Calls Try.prog 39 #[.agg (cpuC pc used rs (.slice SA fs.length sc)),.agg #[zC zD o.f0,zC zD o.f1,zC zD o.f2,zC zD o.f3,zC zD o.f4]] W (RSt W SA sc fs (opP ⟨pc,used,rs,fs⟩ (conv74 o) vars)):=by
 have ha0:0≤o.f1:=ho.a0
 have ha1:o.f1<8:=ho.a1
 have hw:=worth_non (rs:=rs) (o:=conv74 o) (by show 8≤o.f0;omega)
 have n8:¬ (conv74 o).f0=8:=by show ¬ o.f0=8;omega
 have n9:¬ (conv74 o).f0=9:=by show ¬ o.f0=9;omega
 by_cases h9:o.f0=10
 ·
  have n1:(conv74 o).f0=10:=h9
  have e:opP ⟨pc,used,rs,fs⟩ (conv74 o) vars=(⟨o.f3,wrap64 (used+1),rs,fs⟩,ask0):=by
   simp only [opP,doesP,hw,if_neg n8,if_neg n9,if_pos n1]
   rfl
  rw [e]
  exact (rjump10_0 pc used rs _ o W hl rfl ha0 ha1 h9).mono fun x w' h=>RSt.of hl h
 ·
  have h9:o.f0=11:=by omega
  have n10:¬ (conv74 o).f0=10:=by show ¬ o.f0=10;omega
  have n1:(conv74 o).f0=11:=h9
  have e:opP ⟨pc,used,rs,fs⟩ (conv74 o) vars=if (regA rs o.f1).f0=1 then (⟨if (regA rs o.f1).f1=0 then wrap64 (pc+1) else o.f3,wrap64 (used+1),rs,fs⟩,ask0) else (⟨pc,wrap64 (used+1),rs,fs⟩,over 4):=by
   simp only [opP,doesP,hw,if_neg n8,if_neg n9,if_neg n10,if_pos n1]
   by_cases hq:(regA rs o.f1).f0=1
   ·
    have hq':(regA rs (conv74 o).f1).f0=1:=hq
    simp only [if_pos hq,if_pos hq']
    rfl
   ·
    have hq':¬ ((regA rs (conv74 o).f1).f0=1):=hq
    simp only [if_neg hq,if_neg hq']
  rw [e]
  by_cases h2:(regA rs o.f1).f0=1
  ·
   rw [if_pos h2]
   by_cases h0:(regA rs o.f1).f1=0
   ·
    rw [if_pos h0]
    exact (rjump11_1 pc used rs _ o W hl rfl ha0 ha1 h9 h2 h0).mono fun x w' h=>RSt.of hl h
   ·
    rw [if_neg h0]
    exact (rjump11_2 pc used rs _ o W hl rfl ha0 ha1 h9 h2 h0).mono fun x w' h=>RSt.of hl h
  ·
   rw [if_neg h2]
   exact (rjump11_0 pc used rs _ o W hl rfl ha0 ha1 h9 h2).mono fun x w' h=>RSt.of hl h
theorem rch_all (pc used vars:Int) (rs:List S32) (SA:Option Addr) (sc:Nat) (fs:List FrameD) (o:S97) (W:World) (hC:Kd.C kF W SA fs.length fs) (hle:fs.length≤sc) (hl:rs.length=8) (hbig:fs.length≤100000) (h8:12≤o.f0) (h10:o.f0<15) :
  Calls Try.prog 40 #[.agg (cpuC pc used rs (.slice SA fs.length sc)),.agg #[zC zD o.f0,zC zD o.f1,zC zD o.f2,zC zD o.f3,zC zD o.f4]] W (RSt W SA sc fs (opP ⟨pc,used,rs,fs⟩ (conv74 o) vars)):=by
 have hw:=worth_non (rs:=rs) (o:=conv74 o) (by show 8≤o.f0;omega)
 have n8:¬ (conv74 o).f0=8:=by show ¬ o.f0=8;omega
 have n9:¬ (conv74 o).f0=9:=by show ¬ o.f0=9;omega
 have n10:¬ (conv74 o).f0=10:=by show ¬ o.f0=10;omega
 have n11:¬ (conv74 o).f0=11:=by show ¬ o.f0=11;omega
 by_cases h12:o.f0=12
 ·
  have n1:(conv74 o).f0=12:=h12
  by_cases hf:16≤fs.length
  ·
   have e : opP ⟨pc, used, rs, fs⟩ (conv74 o) vars = (⟨pc, wrap64 (used + 1), rs, fs⟩, over 5) := by
    simp only [opP,doesP,hw,if_neg n8,if_neg n9,if_neg n10,if_neg n11,if_pos n1,if_pos hf]
   rw [e]
   exact (rch12_full pc used rs o W hl h12 SA sc fs hf).mono fun x w' h=>RSt.of hl h
  ·
   have e : opP ⟨pc, used, rs, fs⟩ (conv74 o) vars = (⟨wrap64 (pc + 1), wrap64 (used + 1), rs, fs ++ [⟨o.f3, 0, rs⟩]⟩, ⟨3, 0, 0, 0, ⟨0, 0⟩, 0⟩) := by
    simp only [opP,doesP,hw,if_neg n8,if_neg n9,if_neg n10,if_neg n11,if_pos n1,if_neg hf]
    rfl
   rw [e]
   exact (rch12_room pc used rs o W hl h12 SA sc fs hf hC).mono fun x w' ⟨A,c,h1,h2,h4⟩=>⟨hl,A,c,h1,Or.inr h2,h4⟩
 ·
  have n12:¬ (conv74 o).f0=12:=h12
  by_cases h13:o.f0=13
  ·
   have n1:(conv74 o).f0=13:=h13
   have e:opP ⟨pc,used,rs,fs⟩ (conv74 o) vars=(⟨wrap64 (pc+1),wrap64 (used+1),rs,fs.dropLast⟩,ask0):=by
    simp only [opP,doesP,hw,if_neg n8,if_neg n9,if_neg n10,if_neg n11,if_neg n12,if_pos n1]
   rw [e]
   rcases List.eq_nil_or_concat fs with rfl|⟨gs,f,rfl⟩
   ·
    exact (rch13_none pc used rs o W hl h13 SA sc hC).mono fun x w' h=>RSt.of hl h
   ·
    rw [List.concat_eq_append] at *
    rw [List.dropLast_concat]
    have hle':gs.length≤100000:=by simp at hbig;omega
    have hn:(gs++[f]).length=gs.length+1:=by simp
    rw [hn] at hC ⊢
    exact (rch13_some pc used rs o W hl h13 SA sc gs f hle' hC).mono fun x w' ⟨A,c,h1,h2,h4⟩=>⟨hl,A,c,h1,Or.inr h2,h4⟩
  ·
   have h14:o.f0=14:=by omega
   have n13:¬ (conv74 o).f0=13:=h13
   have n1:(conv74 o).f0=14:=h14
   rcases List.eq_nil_or_concat fs with rfl|⟨gs,f,rfl⟩
   ·
    have e : opP ⟨pc, used, rs, []⟩ (conv74 o) vars = (⟨pc, wrap64 (used + 1), rs, []⟩, over 1) := by
     simp only [opP,doesP,hw,if_neg n8,if_neg n9,if_neg n10,if_neg n11,if_neg n12,if_neg n13,if_pos n1]
     rfl
    rw [e]
    exact (rch14_none pc used rs o W hl h14 SA sc).mono fun x w' h=>RSt.of hl h
   ·
    rw [List.concat_eq_append] at *
    have e:opP ⟨pc,used,rs,gs++[f]⟩ (conv74 o) vars=(⟨f.dest,wrap64 (used+1),f.rs,gs⟩,⟨4,0,0,f.save,⟨0,0⟩,0⟩):=by
     simp only [opP,doesP,hw,if_neg n8,if_neg n9,if_neg n10,if_neg n11,if_neg n12,if_neg n13,if_pos n1,List.getLast?_concat,List.dropLast_concat]
    rw [e]
    have hle':gs.length≤100000:=by simp at hbig;omega
    have hf8:f.rs.length=8:=by
     obtain ⟨ad,cs,-,-,hK,-⟩:=Kd.C_get hC ⟨0,0,[]⟩ (gs.length:Int) (by omega) (by simp;omega)
     have hx:(gs++[f]).getD ((gs.length:Int)).toNat ⟨0,0,[]⟩=f:=by simp
     rw [hx] at hK
     exact hK.1
    have hn:(gs++[f]).length=gs.length+1:=by simp
    rw [hn] at hC ⊢
    exact (rch14_some pc used rs o W hl h14 SA sc gs f hle' hC).mono fun x w' ⟨A,c,h1,h2,h4⟩=>⟨hf8,A,c,h1,Or.inr h2,h4⟩
def bel (s many:Int):Int:=if s=114 then 8 else if s=118 then 64 else if s=112 then many else 0
def sym (s:Int):Prop:=s=114∨s=118∨s=112∨s=45
instance (s : Int) : Decidable (sym s) := by unfold sym; infer_instance
theorem table (c:Int) (h:0≤c∧c<17):∃ F,warpbeamref16_Fields.f c=some F∧F.size=4∧F.toList≠[]∧(∀ many,bel (bt F 0) many=(sh c).f1)∧(∀ many,bel (bt F 1) many=(sh c).f2)∧(∀ many,bel (bt F 2) many=third (sh c) many)∧((bt F 3=110∧(sh c).f5=true)∨(bt F 3=45∧(sh c).f5=false))∧sym (bt F 0)∧sym (bt F 1)∧sym (bt F 2):=by
 obtain ⟨n,rfl⟩:∃ n:Nat,c=n:=⟨c.toNat,by omega⟩
 have hn:n<17:=by omega
 rcases n with _|_|_|_|_|_|_|_|_|_|_|_|_|_|_|_|_|n
 all_goals first
  | (exfalso;omega)
  | exact ⟨_,rfl,rfl,by rw [ByteArray.toList_eq];decide,fun _=>rfl,fun _=>rfl,fun _=>rfl,.inl ⟨by decide,by decide⟩,by decide,by decide,by decide⟩
  | exact ⟨_,rfl,rfl,by rw [ByteArray.toList_eq];decide,fun _=>rfl,fun _=>rfl,fun _=>rfl,.inr ⟨by decide,by decide⟩,by decide,by decide,by decide⟩
theorem no_table (c:Int) (h:¬ (0≤c∧c<17)):warpbeamref16_Fields.f c=some ⟨#[]⟩∧isCode c=false:=by
 unfold warpbeamref16_Fields.f isCode
 by_cases h0:c<0
 ·
  rw [if_pos h0,decide_eq_false (by omega)]
  exact ⟨rfl,rfl⟩
 ·
  rw [if_neg h0,if_pos (by omega),decide_eq_false (p:=c<17) (by omega),Bool.and_false]
  exact ⟨rfl,rfl⟩
theorem is_code {c:Int} (h:0≤c∧c<17):isCode c=true:=by unfold isCode;simp [h.1,h.2]
theorem field_f {s n many:Int} (hs:sym s) (hm:1≤many):warpbeamref16_field.f s n many=some (fits n (bel s many)):=by
 unfold warpbeamref16_field.f fits bel least1
 rcases hs with rfl|rfl|rfl|rfl
 ·
  by_cases h:n ≥ 0
  ·
   simp [h]
  ·
   simp [h]
 ·
  by_cases h:n ≥ 0
  ·
   simp [h]
  ·
   simp [h]
 ·
  by_cases h:n ≥ 0
  ·
   simp [h,show ¬ many<1 from by omega]
  ·
   simp [h]
 ·
  by_cases h:n ≥ 0
  ·
   simp [h]
  ·
   simp [h]
def lens (n:Nat):Bool:=decide ((1:Int)≤n) && decide ((n:Int)≤200)
theorem right_end (l:List S97) (k:Nat):warpbeamref16_Right.l0 (k+1) l (l.length:Int)=some (lens l.length):=by
 rw [warpbeamref16_Right.l0,if_neg (by omega)]
 unfold lens
 by_cases h:(l.length:Int) ≥ 1
 ·
  rw [if_pos h,decide_eq_true (p:=(1:Int)≤l.length) h,Bool.true_and]
 ·
  rw [if_neg h,decide_eq_false (p:=(1:Int)≤l.length) h,Bool.false_and]
theorem rd97_eq {l:List S97} {i:Nat} (hi:i<l.length):rd_T97 l (i:Int)=l[i]:=by
 unfold rd_T97
 simp [List.getD_eq_getElem?_getD,hi]
theorem j1_true (l:List S97) (k:Nat) (i:Int) (F:ByteArray):warpbeamref16_Right.j1 (k+1) l i F true=some false:=by
 rw [warpbeamref16_Right.j1,if_pos rfl]
theorem right_step (l:List S97) (k i:Nat) (hi:i<l.length) (hl:l.length≤1000000) :
  warpbeamref16_Right.l0 (k+2) l (i:Int)=if opRight (conv74 l[i]) l.length=true then warpbeamref16_Right.l0 k l ((i+1:Nat):Int) else some false:=by
 rw [warpbeamref16_Right.l0,if_pos (by omega),if_pos (by omega)]
 have hrd:=rd97_eq hi
 generalize l[i]=o at *
 rw [hrd]
 by_cases hc:0≤o.f0∧o.f0<17
 ·
  obtain ⟨F,hF,hs,hne,h0,h1,h2,h3,q0,q1,q2⟩:=table o.f0 hc
  have hm:(1:Int)≤l.length:=by omega
  rw [hF,Option.bind_some,if_neg hne,hs,if_pos (by decide),field_f q0 hm,Option.bind_some,h0]
  have hop:opRight (conv74 o) l.length=((o.f4==0 || (sh o.f0).f5) && (fits o.f1 (sh o.f0).f1 && (fits o.f2 (sh o.f0).f2 && fits o.f3 (third (sh o.f0) l.length)))):=by
   unfold opRight
   show (isCode o.f0 && _ && _)=_
   rw [is_code hc,Bool.true_and]
   rfl
  rw [hop]
  cases e1:fits o.f1 (sh o.f0).f1 with
  | false=>rw [if_neg (by decide),j1_true];simp
  | true =>
   rw [if_pos rfl,if_pos (by decide),field_f q1 hm,Option.bind_some,h1]
   cases e2:fits o.f2 (sh o.f0).f2 with
   | false=>rw [if_neg (by decide),j1_true];simp
   | true =>
    rw [if_pos rfl,if_pos (by decide),field_f q2 hm,Option.bind_some,h2]
    cases e3:fits o.f3 (third (sh o.f0) l.length) with
    | false=>show warpbeamref16_Right.j1 (k+1) l i F true=_;rw [j1_true];simp
    | true =>
     show warpbeamref16_Right.j1 (k+1) l i F false=_
     rw [warpbeamref16_Right.j1,if_neg (by decide),hs,if_pos (by decide)]
     rcases h3 with ⟨h3,h5⟩|⟨h3,h5⟩
     ·
      rw [h3,if_neg (by decide),h5,wrap_next (by omega)]
      simp
     ·
      rw [h3,if_pos rfl,if_pos (by omega),if_pos (by omega),hrd,h5,wrap_next (by omega)]
      by_cases h4:o.f4=0
      ·
       rw [if_pos h4,h4];rfl
      ·
       rw [if_neg h4,show (o.f4==0)=false from by simpa using h4];rfl
 ·
  obtain ⟨hF,hi2⟩:=no_table o.f0 hc
  rw [hF,Option.bind_some,if_pos (by rw [ByteArray.toList_eq]),j1_true]
  unfold opRight
  show _=if (isCode o.f0 && _ && _)=true then _ else _
  rw [hi2]
  simp
theorem right_loop (l:List S97) (hl:l.length≤1000000):∀ d i k,i+d=l.length→2 * d<k→warpbeamref16_Right.l0 k l (i:Int)=some ((l.drop i).all (fun o=>opRight (conv74 o) l.length) && lens l.length)
 | 0,i,k,hd,hk=>by
  obtain ⟨k,rfl⟩:∃ m,k=m+1:=⟨k - 1,by omega⟩
  obtain rfl:i=l.length:=by omega
  rw [right_end]
  simp
 | d+1,i,k,hd,hk=>by
  obtain ⟨k,rfl⟩:∃ m,k=m+2:=⟨k - 2,by omega⟩
  have hi:i<l.length:=by omega
  rw [right_step l k i hi hl,List.drop_eq_getElem_cons hi,List.all_cons]
  cases h:opRight (conv74 l[i]) l.length with
  | true=>rw [if_pos rfl,right_loop l hl d (i+1) k (by omega) (by omega),Bool.true_and]
  | false=>rw [if_neg (by decide),Bool.false_and,Bool.false_and]
theorem codeR_map (l:List S97):codeR (l.map conv74)=(l.all (fun o=>opRight (conv74 o) l.length) && lens l.length):=by
 unfold codeR lens
 rw [List.length_map,List.all_map,Bool.and_comm]
 rfl
theorem ref_right (l:List S97) (hl:l.length≤1000000) (k:Nat) (hk:2 * l.length<k):warpbeamref16_Right.f k l=some (codeR (l.map conv74)):=by
 unfold warpbeamref16_Right.f
 have:=right_loop l hl l.length 0 k (by omega) hk
 rw [codeR_map]
 simpa using this
theorem rstep_code (A:Option Addr) (c:Nat) (l:List S97) (pc used:Int) (rs:List S32) (SA:Option Addr) (sc:Nat) (fs:List FrameD) (vars fuel:Int) (W:World) (hL:Kd.C k97 W A l.length l) (hlc:l.length≤c) (hC:Kd.C kF W SA fs.length fs) (hsc:fs.length≤sc) (hl:rs.length=8) (hlen:l.length≤1000000) (hbig:fs.length≤100000) (hR:codeR (l.map conv74)=false)  :
  Calls Try.prog 14 #[.slice A l.length c,.agg (cpuC pc used rs (.slice SA fs.length sc)),zC zD vars,zC zD fuel] W (RSt W SA sc fs (⟨pc,used,rs,fs⟩,over 4)):=by
 have hu29:=Try.underlying29
 have hu46:=Try.underlying46
 have hu26:=Try.underlying26
 have hu24:=Try.underlying24
 have hu97:=Try.underlying97
 have hu22:=Try.underlying22
 obtain ⟨V1,hV1,KV1,hBV1⟩:=alz W (cpuC pc used rs (.slice SA fs.length sc)) 29
 have ltV1:W.heap.size<V1.heap.size:=zL KV1
 have zV:=KV1
 have HB:=hBV1
 clear KV1 hBV1
 obtain ⟨V2,hV2,KV2,hBV2⟩:=alz0 V1
 have ltV2:V1.heap.size<V2.heap.size:=zL KV2
 replace zV:=zI zV hBV2
 have K_o:=KV2
 replace HB:=zE HB hBV2
 clear KV2 hBV2
 obtain ⟨V3,hV3,KV3,hBV3⟩:=alz1 V2
 have ltV3:V2.heap.size<V3.heap.size:=zL KV3
 replace zV:=zI zV hBV3
 replace K_o:=zI K_o hBV3
 have K_a:=KV3
 replace HB:=zE HB hBV3
 clear KV3 hBV3
 have HRt:=zP (warpbeamref16_Right.calls (2 * l.length+1) A c l false V3 (Kd.C_below hL HB) hlc (by rw [ref_right l hlen _ (by omega),hR]))
 have HX1:=zP (zU zV (zU K_o (zU K_a (HB))))
 clear HB K_a K_o zV
 go_enter Try.func14,Try.ntmps14
 go_wp2_with fail
 refine HRt.out.mono ?_
 rintro e w4 ⟨rfl,hB4⟩
 clear HRt
 obtain ⟨zV,K_o,K_a,HB⟩:=HX1.out
 clear HX1
 replace zV:=zI zV hB4
 replace K_o:=zI K_o hB4
 replace K_a:=zI K_a hB4
 have szw4:V3.heap.size≤w4.heap.size:=hB4.size
 replace HB:=zE HB hB4
 have c1:w4.cell? ⟨W.heap.size,0,none⟩=some (zC zD pc):=zJ zV (0)
 have hL2:=ld_whole (P:=Try.prog) (ty:=29) zV Try.underlying29 rfl (by first|rfl|(rw [size29];rfl)|(rw [size29];have:=zM hl;simp [this])|(rw [size29,zM hl]))
 have c3:w4.cell? ⟨W.heap.size,1,none⟩=some (zC zD used):=zJ zV (1)
 have HR:=zP (rover_calls pc used used 4 rs (.slice SA fs.length sc) w4 hl rfl)
 have HX2:=zP (zU zV (zU K_o (zU K_a (HB))))
 clear HB K_a K_o zV
 go_wp2_with (refine wpList_ld rfl rfl hL2 ?_)
 refine HR.out.mono ?_
 rintro e w9 ⟨rfl,hB9⟩
 obtain ⟨zV,K_o,K_a,HB⟩:=HX2.out
 clear HX2
 replace zV:=zI zV hB9
 replace K_o:=zI K_o hB9
 replace K_a:=zI K_a hB9
 have szw9:w4.heap.size≤w9.heap.size:=hB9.size
 replace HB:=zE HB hB9
 have hz:=zM (pc:=pc) (used:=used) (stk:=.slice SA fs.length sc) hl
 obtain ⟨V4,hSV4,KKV4,hOV4⟩:=st_arr (cs:=cpuC pc used rs (.slice SA fs.length sc)) size29 K_o (by first|rfl|simp [hz]) (by first|rfl|simp [hz]) (cpuC_one1 _ _ _ rfl)
 clear hz
 replace K_o:V4.heap[V1.heap.size]?=some (.cells (cpuC pc used rs (.slice SA fs.length sc)) 29 (0,0)):=KKV4
 replace zV:=hOV4.mid zV (by omega) (B:=0)
 replace K_a:=hOV4.mid K_a (by omega) (B:=0)
 have szV4:w9.heap.size≤V4.heap.size:=hOV4.size
 replace HB:=HB.trans (hOV4.below (by omega) HB.size)
 clear hOV4
 clear KKV4
 obtain ⟨V5,hSV5,KKV5,hOV5⟩:=st_arr (cs:=askC 5 0 0 0 0 0 4) size46 K_a (by first|rfl|simp) rfl (by simp [Value.oneCell'])
 replace K_a:V5.heap[V2.heap.size]?=some (.cells (askC 5 0 0 0 0 0 4) 46 (0,0)):=KKV5
 replace zV:=hOV5.mid zV (by omega) (B:=0)
 replace K_o:=hOV5.mid K_o (by omega) (B:=0)
 have szV5:V4.heap.size≤V5.heap.size:=hOV5.size
 replace HB:=HB.trans (hOV5.below (by omega) HB.size)
 clear hOV5
 clear KKV5
 have HX3:=zP (zU zV (zU K_o (zU K_a (HB))))
 clear HB K_a K_o zV
 go_wp2_with (first|refine wpList_st rfl rfl hSV4 ?_|refine wpList_st rfl rfl hSV5 ?_)
 obtain ⟨zV,K_o,K_a,HB⟩:=HX3.out
 exact bodyPost_ret (results_cc rfl _ rfl K_o hu29 rfl (by rw [size29,zM (pc:=pc) (used:=used) (stk:=.slice SA fs.length sc) hl]) rfl K_a hu46 rfl (by rw [size46];rfl)) rfl (RSt.of hl ⟨rfl,HB⟩)
theorem rstep_low (A:Option Addr) (c:Nat) (l:List S97) (pc used:Int) (rs:List S32) (SA:Option Addr) (sc:Nat) (fs:List FrameD) (vars fuel:Int) (W:World) (hL:Kd.C k97 W A l.length l) (hlc:l.length≤c) (hC:Kd.C kF W SA fs.length fs) (hsc:fs.length≤sc) (hl:rs.length=8) (hlen:l.length≤1000000) (hbig:fs.length≤100000) (hR:codeR (l.map conv74)=true) (hp:pc<0) :
  Calls Try.prog 14 #[.slice A l.length c,.agg (cpuC pc used rs (.slice SA fs.length sc)),zC zD vars,zC zD fuel] W (RSt W SA sc fs (⟨pc,used,rs,fs⟩,over 4)):=by
 have hu29:=Try.underlying29
 have hu46:=Try.underlying46
 have hu26:=Try.underlying26
 have hu24:=Try.underlying24
 have hu97:=Try.underlying97
 have hu22:=Try.underlying22
 obtain ⟨V1,hV1,KV1,hBV1⟩:=alz W (cpuC pc used rs (.slice SA fs.length sc)) 29
 have ltV1:W.heap.size<V1.heap.size:=zL KV1
 have zV:=KV1
 have HB:=hBV1
 clear KV1 hBV1
 obtain ⟨V2,hV2,KV2,hBV2⟩:=alz0 V1
 have ltV2:V1.heap.size<V2.heap.size:=zL KV2
 replace zV:=zI zV hBV2
 have K_o:=KV2
 replace HB:=zE HB hBV2
 clear KV2 hBV2
 obtain ⟨V3,hV3,KV3,hBV3⟩:=alz1 V2
 have ltV3:V2.heap.size<V3.heap.size:=zL KV3
 replace zV:=zI zV hBV3
 replace K_o:=zI K_o hBV3
 have K_a:=KV3
 replace HB:=zE HB hBV3
 clear KV3 hBV3
 have HRt:=zP (warpbeamref16_Right.calls (2 * l.length+1) A c l true V3 (Kd.C_below hL HB) hlc (by rw [ref_right l hlen _ (by omega),hR]))
 have HX1:=zP (zU zV (zU K_o (zU K_a (HB))))
 clear HB K_a K_o zV
 go_enter Try.func14,Try.ntmps14
 go_wp2_with fail
 refine HRt.out.mono ?_
 rintro e w4 ⟨rfl,hB4⟩
 clear HRt
 obtain ⟨zV,K_o,K_a,HB⟩:=HX1.out
 clear HX1
 replace zV:=zI zV hB4
 replace K_o:=zI K_o hB4
 replace K_a:=zI K_a hB4
 have szw4:V3.heap.size≤w4.heap.size:=hB4.size
 replace HB:=zE HB hB4
 have c1:w4.cell? ⟨W.heap.size,0,none⟩=some (zC zD pc):=zJ zV (0)
 have hL2:=ld_whole (P:=Try.prog) (ty:=29) zV Try.underlying29 rfl (by first|rfl|(rw [size29];rfl)|(rw [size29];have:=zM hl;simp [this])|(rw [size29,zM hl]))
 have c3:w4.cell? ⟨W.heap.size,1,none⟩=some (zC zD used):=zJ zV (1)
 have HR:=zP (rover_calls pc used used 4 rs (.slice SA fs.length sc) w4 hl rfl)
 have HX2:=zP (zU zV (zU K_o (zU K_a (HB))))
 clear HB K_a K_o zV
 go_wp2_with (refine wpList_ld rfl rfl hL2 ?_)
 refine HR.out.mono ?_
 rintro e w9 ⟨rfl,hB9⟩
 obtain ⟨zV,K_o,K_a,HB⟩:=HX2.out
 clear HX2
 replace zV:=zI zV hB9
 replace K_o:=zI K_o hB9
 replace K_a:=zI K_a hB9
 have szw9:w4.heap.size≤w9.heap.size:=hB9.size
 replace HB:=zE HB hB9
 have hz:=zM (pc:=pc) (used:=used) (stk:=.slice SA fs.length sc) hl
 obtain ⟨V4,hSV4,KKV4,hOV4⟩:=st_arr (cs:=cpuC pc used rs (.slice SA fs.length sc)) size29 K_o (by first|rfl|simp [hz]) (by first|rfl|simp [hz]) (cpuC_one1 _ _ _ rfl)
 clear hz
 replace K_o:V4.heap[V1.heap.size]?=some (.cells (cpuC pc used rs (.slice SA fs.length sc)) 29 (0,0)):=KKV4
 replace zV:=hOV4.mid zV (by omega) (B:=0)
 replace K_a:=hOV4.mid K_a (by omega) (B:=0)
 have szV4:w9.heap.size≤V4.heap.size:=hOV4.size
 replace HB:=HB.trans (hOV4.below (by omega) HB.size)
 clear hOV4
 clear KKV4
 obtain ⟨V5,hSV5,KKV5,hOV5⟩:=st_arr (cs:=askC 5 0 0 0 0 0 4) size46 K_a (by first|rfl|simp) rfl (by simp [Value.oneCell'])
 replace K_a:V5.heap[V2.heap.size]?=some (.cells (askC 5 0 0 0 0 0 4) 46 (0,0)):=KKV5
 replace zV:=hOV5.mid zV (by omega) (B:=0)
 replace K_o:=hOV5.mid K_o (by omega) (B:=0)
 have szV5:V4.heap.size≤V5.heap.size:=hOV5.size
 replace HB:=HB.trans (hOV5.below (by omega) HB.size)
 clear hOV5
 clear KKV5
 have HX3:=zP (zU zV (zU K_o (zU K_a (HB))))
 clear HB K_a K_o zV
 go_wp2_with (first|refine wpList_st rfl rfl hSV4 ?_|refine wpList_st rfl rfl hSV5 ?_)
 obtain ⟨zV,K_o,K_a,HB⟩:=HX3.out
 exact bodyPost_ret (results_cc rfl _ rfl K_o hu29 rfl (by rw [size29,zM (pc:=pc) (used:=used) (stk:=.slice SA fs.length sc) hl]) rfl K_a hu46 rfl (by rw [size46];rfl)) rfl (RSt.of hl ⟨rfl,HB⟩)
theorem rstep_high (A:Option Addr) (c:Nat) (l:List S97) (pc used:Int) (rs:List S32) (SA:Option Addr) (sc:Nat) (fs:List FrameD) (vars fuel:Int) (W:World) (hL:Kd.C k97 W A l.length l) (hlc:l.length≤c) (hC:Kd.C kF W SA fs.length fs) (hsc:fs.length≤sc) (hl:rs.length=8) (hlen:l.length≤1000000) (hbig:fs.length≤100000) (hR:codeR (l.map conv74)=true) (hp0:¬ pc<0) (hp:(l.length:Int)<pc) :
  Calls Try.prog 14 #[.slice A l.length c,.agg (cpuC pc used rs (.slice SA fs.length sc)),zC zD vars,zC zD fuel] W (RSt W SA sc fs (⟨pc,used,rs,fs⟩,over 4)):=by
 have hu29:=Try.underlying29
 have hu46:=Try.underlying46
 have hu26:=Try.underlying26
 have hu24:=Try.underlying24
 have hu97:=Try.underlying97
 have hu22:=Try.underlying22
 obtain ⟨V1,hV1,KV1,hBV1⟩:=alz W (cpuC pc used rs (.slice SA fs.length sc)) 29
 have ltV1:W.heap.size<V1.heap.size:=zL KV1
 have zV:=KV1
 have HB:=hBV1
 clear KV1 hBV1
 obtain ⟨V2,hV2,KV2,hBV2⟩:=alz0 V1
 have ltV2:V1.heap.size<V2.heap.size:=zL KV2
 replace zV:=zI zV hBV2
 have K_o:=KV2
 replace HB:=zE HB hBV2
 clear KV2 hBV2
 obtain ⟨V3,hV3,KV3,hBV3⟩:=alz1 V2
 have ltV3:V2.heap.size<V3.heap.size:=zL KV3
 replace zV:=zI zV hBV3
 replace K_o:=zI K_o hBV3
 have K_a:=KV3
 replace HB:=zE HB hBV3
 clear KV3 hBV3
 have HRt:=zP (warpbeamref16_Right.calls (2 * l.length+1) A c l true V3 (Kd.C_below hL HB) hlc (by rw [ref_right l hlen _ (by omega),hR]))
 have HX1:=zP (zU zV (zU K_o (zU K_a (HB))))
 clear HB K_a K_o zV
 go_enter Try.func14,Try.ntmps14
 go_wp2_with fail
 refine HRt.out.mono ?_
 rintro e w4 ⟨rfl,hB4⟩
 clear HRt
 obtain ⟨zV,K_o,K_a,HB⟩:=HX1.out
 clear HX1
 replace zV:=zI zV hB4
 replace K_o:=zI K_o hB4
 replace K_a:=zI K_a hB4
 have szw4:V3.heap.size≤w4.heap.size:=hB4.size
 replace HB:=zE HB hB4
 have c1:w4.cell? ⟨W.heap.size,0,none⟩=some (zC zD pc):=zJ zV (0)
 have hL2:=ld_whole (P:=Try.prog) (ty:=29) zV Try.underlying29 rfl (by first|rfl|(rw [size29];rfl)|(rw [size29];have:=zM hl;simp [this])|(rw [size29,zM hl]))
 have c3:w4.cell? ⟨W.heap.size,1,none⟩=some (zC zD used):=zJ zV (1)
 have HR:=zP (rover_calls pc used used 4 rs (.slice SA fs.length sc) w4 hl rfl)
 have HX2:=zP (zU zV (zU K_o (zU K_a (HB))))
 clear HB K_a K_o zV
 go_wp2_with (refine wpList_ld rfl rfl hL2 ?_)
 refine HR.out.mono ?_
 rintro e w9 ⟨rfl,hB9⟩
 obtain ⟨zV,K_o,K_a,HB⟩:=HX2.out
 clear HX2
 replace zV:=zI zV hB9
 replace K_o:=zI K_o hB9
 replace K_a:=zI K_a hB9
 have szw9:w4.heap.size≤w9.heap.size:=hB9.size
 replace HB:=zE HB hB9
 have hz:=zM (pc:=pc) (used:=used) (stk:=.slice SA fs.length sc) hl
 obtain ⟨V4,hSV4,KKV4,hOV4⟩:=st_arr (cs:=cpuC pc used rs (.slice SA fs.length sc)) size29 K_o (by first|rfl|simp [hz]) (by first|rfl|simp [hz]) (cpuC_one1 _ _ _ rfl)
 clear hz
 replace K_o:V4.heap[V1.heap.size]?=some (.cells (cpuC pc used rs (.slice SA fs.length sc)) 29 (0,0)):=KKV4
 replace zV:=hOV4.mid zV (by omega) (B:=0)
 replace K_a:=hOV4.mid K_a (by omega) (B:=0)
 have szV4:w9.heap.size≤V4.heap.size:=hOV4.size
 replace HB:=HB.trans (hOV4.below (by omega) HB.size)
 clear hOV4
 clear KKV4
 obtain ⟨V5,hSV5,KKV5,hOV5⟩:=st_arr (cs:=askC 5 0 0 0 0 0 4) size46 K_a (by first|rfl|simp) rfl (by simp [Value.oneCell'])
 replace K_a:V5.heap[V2.heap.size]?=some (.cells (askC 5 0 0 0 0 0 4) 46 (0,0)):=KKV5
 replace zV:=hOV5.mid zV (by omega) (B:=0)
 replace K_o:=hOV5.mid K_o (by omega) (B:=0)
 have szV5:V4.heap.size≤V5.heap.size:=hOV5.size
 replace HB:=HB.trans (hOV5.below (by omega) HB.size)
 clear hOV5
 clear KKV5
 have HX3:=zP (zU zV (zU K_o (zU K_a (HB))))
 clear HB K_a K_o zV
 go_wp2_with (first|refine wpList_st rfl rfl hSV4 ?_|refine wpList_st rfl rfl hSV5 ?_)
 obtain ⟨zV,K_o,K_a,HB⟩:=HX3.out
 exact bodyPost_ret (results_cc rfl _ rfl K_o hu29 rfl (by rw [size29,zM (pc:=pc) (used:=used) (stk:=.slice SA fs.length sc) hl]) rfl K_a hu46 rfl (by rw [size46];rfl)) rfl (RSt.of hl ⟨rfl,HB⟩)
theorem rstep_end (A:Option Addr) (c:Nat) (l:List S97) (pc used:Int) (rs:List S32) (SA:Option Addr) (sc:Nat) (fs:List FrameD) (vars fuel:Int) (W:World) (hL:Kd.C k97 W A l.length l) (hlc:l.length≤c) (hC:Kd.C kF W SA fs.length fs) (hsc:fs.length≤sc) (hl:rs.length=8) (hlen:l.length≤1000000) (hbig:fs.length≤100000) (hR:codeR (l.map conv74)=true) (hp:pc=(l.length:Int)) :
  Calls Try.prog 14 #[.slice A l.length c,.agg (cpuC pc used rs (.slice SA fs.length sc)),zC zD vars,zC zD fuel] W (RSt W SA sc fs (⟨pc,used,rs,fs⟩,over 0)):=by
 have hu29:=Try.underlying29
 have hu46:=Try.underlying46
 have hu26:=Try.underlying26
 have hu24:=Try.underlying24
 have hu97:=Try.underlying97
 have hu22:=Try.underlying22
 have hpH:=zP hp
 have p0:¬ pc<0:=by omega
 have p1:¬ (l.length:Int)<pc:=by omega
 clear hp
 obtain ⟨V1,hV1,KV1,hBV1⟩:=alz W (cpuC pc used rs (.slice SA fs.length sc)) 29
 have ltV1:W.heap.size<V1.heap.size:=zL KV1
 have zV:=KV1
 have HB:=hBV1
 clear KV1 hBV1
 obtain ⟨V2,hV2,KV2,hBV2⟩:=alz0 V1
 have ltV2:V1.heap.size<V2.heap.size:=zL KV2
 replace zV:=zI zV hBV2
 have K_o:=KV2
 replace HB:=zE HB hBV2
 clear KV2 hBV2
 obtain ⟨V3,hV3,KV3,hBV3⟩:=alz1 V2
 have ltV3:V2.heap.size<V3.heap.size:=zL KV3
 replace zV:=zI zV hBV3
 replace K_o:=zI K_o hBV3
 have K_a:=KV3
 replace HB:=zE HB hBV3
 clear KV3 hBV3
 have HRt:=zP (warpbeamref16_Right.calls (2 * l.length+1) A c l true V3 (Kd.C_below hL HB) hlc (by rw [ref_right l hlen _ (by omega),hR]))
 have HX1:=zP (zU zV (zU K_o (zU K_a (HB))))
 clear HB K_a K_o zV
 go_enter Try.func14,Try.ntmps14
 go_wp2_with fail
 refine HRt.out.mono ?_
 rintro e w4 ⟨rfl,hB4⟩
 clear HRt
 obtain ⟨zV,K_o,K_a,HB⟩:=HX1.out
 clear HX1
 replace zV:=zI zV hB4
 replace K_o:=zI K_o hB4
 replace K_a:=zI K_a hB4
 have szw4:V3.heap.size≤w4.heap.size:=hB4.size
 replace HB:=zE HB hB4
 have c1:w4.cell? ⟨W.heap.size,0,none⟩=some (zC zD pc):=zJ zV (0)
 have p2:(pc==(l.length:Int))=true:=by simpa using hpH.out
 have hL2:=ld_whole (P:=Try.prog) (ty:=29) zV Try.underlying29 rfl (by first|rfl|(rw [size29];rfl)|(rw [size29];have:=zM hl;simp [this])|(rw [size29,zM hl]))
 have c3:w4.cell? ⟨W.heap.size,1,none⟩=some (zC zD used):=zJ zV (1)
 have HR:=zP (rover_calls pc used used 0 rs (.slice SA fs.length sc) w4 hl rfl)
 have HX2:=zP (zU zV (zU K_o (zU K_a (HB))))
 clear HB K_a K_o zV
 go_wp2_with (refine wpList_ld rfl rfl hL2 ?_)
 refine HR.out.mono ?_
 rintro e w9 ⟨rfl,hB9⟩
 obtain ⟨zV,K_o,K_a,HB⟩:=HX2.out
 clear HX2
 replace zV:=zI zV hB9
 replace K_o:=zI K_o hB9
 replace K_a:=zI K_a hB9
 have szw9:w4.heap.size≤w9.heap.size:=hB9.size
 replace HB:=zE HB hB9
 have hz:=zM (pc:=pc) (used:=used) (stk:=.slice SA fs.length sc) hl
 obtain ⟨V4,hSV4,KKV4,hOV4⟩:=st_arr (cs:=cpuC pc used rs (.slice SA fs.length sc)) size29 K_o (by first|rfl|simp [hz]) (by first|rfl|simp [hz]) (cpuC_one1 _ _ _ rfl)
 clear hz
 replace K_o:V4.heap[V1.heap.size]?=some (.cells (cpuC pc used rs (.slice SA fs.length sc)) 29 (0,0)):=KKV4
 replace zV:=hOV4.mid zV (by omega) (B:=0)
 replace K_a:=hOV4.mid K_a (by omega) (B:=0)
 have szV4:w9.heap.size≤V4.heap.size:=hOV4.size
 replace HB:=HB.trans (hOV4.below (by omega) HB.size)
 clear hOV4
 clear KKV4
 obtain ⟨V5,hSV5,KKV5,hOV5⟩:=st_arr (cs:=askC 5 0 0 0 0 0 0) size46 K_a (by first|rfl|simp) rfl (by simp [Value.oneCell'])
 replace K_a:V5.heap[V2.heap.size]?=some (.cells (askC 5 0 0 0 0 0 0) 46 (0,0)):=KKV5
 replace zV:=hOV5.mid zV (by omega) (B:=0)
 replace K_o:=hOV5.mid K_o (by omega) (B:=0)
 have szV5:V4.heap.size≤V5.heap.size:=hOV5.size
 replace HB:=HB.trans (hOV5.below (by omega) HB.size)
 clear hOV5
 clear KKV5
 have HX3:=zP (zU zV (zU K_o (zU K_a (HB))))
 clear HB K_a K_o zV
 go_wp2_with (first|refine wpList_st rfl rfl hSV4 ?_|refine wpList_st rfl rfl hSV5 ?_)
 obtain ⟨zV,K_o,K_a,HB⟩:=HX3.out
 exact bodyPost_ret (results_cc rfl _ rfl K_o hu29 rfl (by rw [size29,zM (pc:=pc) (used:=used) (stk:=.slice SA fs.length sc) hl]) rfl K_a hu46 rfl (by rw [size46];rfl)) rfl (RSt.of hl ⟨rfl,HB⟩)
theorem rstep_fuel (A:Option Addr) (c:Nat) (l:List S97) (pc used:Int) (rs:List S32) (SA:Option Addr) (sc:Nat) (fs:List FrameD) (vars fuel:Int) (W:World) (hL:Kd.C k97 W A l.length l) (hlc:l.length≤c) (hC:Kd.C kF W SA fs.length fs) (hsc:fs.length≤sc) (hl:rs.length=8) (hlen:l.length≤1000000) (hbig:fs.length≤100000) (hR:codeR (l.map conv74)=true) (hp0:0≤pc) (hp:pc<(l.length:Int)) (hf:fuel≤used) :
  Calls Try.prog 14 #[.slice A l.length c,.agg (cpuC pc used rs (.slice SA fs.length sc)),zC zD vars,zC zD fuel] W (RSt W SA sc fs (⟨pc,used,rs,fs⟩,over 3)):=by
 have hu29:=Try.underlying29
 have hu46:=Try.underlying46
 have hu26:=Try.underlying26
 have hu24:=Try.underlying24
 have hu97:=Try.underlying97
 have hu22:=Try.underlying22
 obtain ⟨V1,hV1,KV1,hBV1⟩:=alz W (cpuC pc used rs (.slice SA fs.length sc)) 29
 have ltV1:W.heap.size<V1.heap.size:=zL KV1
 have zV:=KV1
 have HB:=hBV1
 clear KV1 hBV1
 obtain ⟨V2,hV2,KV2,hBV2⟩:=alz0 V1
 have ltV2:V1.heap.size<V2.heap.size:=zL KV2
 replace zV:=zI zV hBV2
 have K_o:=KV2
 replace HB:=zE HB hBV2
 clear KV2 hBV2
 obtain ⟨V3,hV3,KV3,hBV3⟩:=alz1 V2
 have ltV3:V2.heap.size<V3.heap.size:=zL KV3
 replace zV:=zI zV hBV3
 replace K_o:=zI K_o hBV3
 have K_a:=KV3
 replace HB:=zE HB hBV3
 clear KV3 hBV3
 have HRt:=zP (warpbeamref16_Right.calls (2 * l.length+1) A c l true V3 (Kd.C_below hL HB) hlc (by rw [ref_right l hlen _ (by omega),hR]))
 have HX1:=zP (zU zV (zU K_o (zU K_a (HB))))
 clear HB K_a K_o zV
 go_enter Try.func14,Try.ntmps14
 go_wp2_with fail
 refine HRt.out.mono ?_
 rintro e w4 ⟨rfl,hB4⟩
 clear HRt
 obtain ⟨zV,K_o,K_a,HB⟩:=HX1.out
 clear HX1
 replace zV:=zI zV hB4
 replace K_o:=zI K_o hB4
 replace K_a:=zI K_a hB4
 have szw4:V3.heap.size≤w4.heap.size:=hB4.size
 replace HB:=zE HB hB4
 have c1:w4.cell? ⟨W.heap.size,0,none⟩=some (zC zD pc):=zJ zV (0)
 have p0:¬ pc<0:=by omega
 have p1:¬ (l.length:Int)<pc:=by omega
 have p2:¬ pc=(l.length:Int):=by omega
 have p2':(pc==(l.length:Int))=false:=by simpa using p2
 have hL2:=ld_whole (P:=Try.prog) (ty:=29) zV Try.underlying29 rfl (by first|rfl|(rw [size29];rfl)|(rw [size29];have:=zM hl;simp [this])|(rw [size29,zM hl]))
 have c3:w4.cell? ⟨W.heap.size,1,none⟩=some (zC zD used):=zJ zV (1)
 have HR:=zP (rover_calls pc used used 3 rs (.slice SA fs.length sc) w4 hl rfl)
 have HX2:=zP (zU zV (zU K_o (zU K_a (HB))))
 clear HB K_a K_o zV
 go_wp2_with (refine wpList_ld rfl rfl hL2 ?_)
 refine HR.out.mono ?_
 rintro e w9 ⟨rfl,hB9⟩
 obtain ⟨zV,K_o,K_a,HB⟩:=HX2.out
 clear HX2
 replace zV:=zI zV hB9
 replace K_o:=zI K_o hB9
 replace K_a:=zI K_a hB9
 have szw9:w4.heap.size≤w9.heap.size:=hB9.size
 replace HB:=zE HB hB9
 have hz:=zM (pc:=pc) (used:=used) (stk:=.slice SA fs.length sc) hl
 obtain ⟨V4,hSV4,KKV4,hOV4⟩:=st_arr (cs:=cpuC pc used rs (.slice SA fs.length sc)) size29 K_o (by first|rfl|simp [hz]) (by first|rfl|simp [hz]) (cpuC_one1 _ _ _ rfl)
 clear hz
 replace K_o:V4.heap[V1.heap.size]?=some (.cells (cpuC pc used rs (.slice SA fs.length sc)) 29 (0,0)):=KKV4
 replace zV:=hOV4.mid zV (by omega) (B:=0)
 replace K_a:=hOV4.mid K_a (by omega) (B:=0)
 have szV4:w9.heap.size≤V4.heap.size:=hOV4.size
 replace HB:=HB.trans (hOV4.below (by omega) HB.size)
 clear hOV4
 clear KKV4
 obtain ⟨V5,hSV5,KKV5,hOV5⟩:=st_arr (cs:=askC 5 0 0 0 0 0 3) size46 K_a (by first|rfl|simp) rfl (by simp [Value.oneCell'])
 replace K_a:V5.heap[V2.heap.size]?=some (.cells (askC 5 0 0 0 0 0 3) 46 (0,0)):=KKV5
 replace zV:=hOV5.mid zV (by omega) (B:=0)
 replace K_o:=hOV5.mid K_o (by omega) (B:=0)
 have szV5:V4.heap.size≤V5.heap.size:=hOV5.size
 replace HB:=HB.trans (hOV5.below (by omega) HB.size)
 clear hOV5
 clear KKV5
 have HX3:=zP (zU zV (zU K_o (zU K_a (HB))))
 clear HB K_a K_o zV
 go_wp2_with (first|refine wpList_st rfl rfl hSV4 ?_|refine wpList_st rfl rfl hSV5 ?_)
 obtain ⟨zV,K_o,K_a,HB⟩:=HX3.out
 exact bodyPost_ret (results_cc rfl _ rfl K_o hu29 rfl (by rw [size29,zM (pc:=pc) (used:=used) (stk:=.slice SA fs.length sc) hl]) rfl K_a hu46 rfl (by rw [size46];rfl)) rfl (RSt.of hl ⟨rfl,HB⟩)
theorem rstep_sums (A:Option Addr) (c:Nat) (l:List S97) (pc used:Int) (rs:List S32) (SA:Option Addr) (sc:Nat) (fs:List FrameD) (vars fuel:Int) (W:World) (hL:Kd.C k97 W A l.length l) (hlc:l.length≤c) (hC:Kd.C kF W SA fs.length fs) (hsc:fs.length≤sc) (hl:rs.length=8) (hlen:l.length≤1000000) (hbig:fs.length≤100000) (hR:codeR (l.map conv74)=true) (hp0:0≤pc) (hp1:pc<l.length) (hfu:¬ fuel≤used) (o:S97) (ho:rd_T97 l pc=o) (hok:OpOK (conv74 o)) (h0:4≤o.f0) (h1:o.f0<8) :
  Calls Try.prog 14 #[.slice A l.length c,.agg (cpuC pc used rs (.slice SA fs.length sc)),zC zD vars,zC zD fuel] W (RSt W SA sc fs (opP ⟨pc,used,rs,fs⟩ (conv74 o) vars)):=by
 have hu29:=Try.underlying29
 have hu46:=Try.underlying46
 have hu26:=Try.underlying26
 have hu24:=Try.underlying24
 have hu97:=Try.underlying97
 have hu22:=Try.underlying22
 obtain ⟨V1,hV1,KV1,hBV1⟩:=alz W (cpuC pc used rs (.slice SA fs.length sc)) 29
 have ltV1:W.heap.size<V1.heap.size:=zL KV1
 have zV:=KV1
 have HB:=hBV1
 clear KV1 hBV1
 obtain ⟨V2,hV2,KV2,hBV2⟩:=alz0 V1
 have ltV2:V1.heap.size<V2.heap.size:=zL KV2
 replace zV:=zI zV hBV2
 have K_o:=KV2
 replace HB:=zE HB hBV2
 clear KV2 hBV2
 obtain ⟨V3,hV3,KV3,hBV3⟩:=alz1 V2
 have ltV3:V2.heap.size<V3.heap.size:=zL KV3
 replace zV:=zI zV hBV3
 replace K_o:=zI K_o hBV3
 have K_a:=KV3
 replace HB:=zE HB hBV3
 clear KV3 hBV3
 have HRt:=zP (warpbeamref16_Right.calls (2 * l.length+1) A c l true V3 (Kd.C_below hL HB) hlc (by rw [ref_right l hlen _ (by omega),hR]))
 have HX1:=zP (zU zV (zU K_o (zU K_a (HB))))
 clear HB K_a K_o zV
 go_enter Try.func14,Try.ntmps14
 go_wp2_with fail
 refine HRt.out.mono ?_
 rintro e w4 ⟨rfl,hB4⟩
 clear HRt
 obtain ⟨zV,K_o,K_a,HB⟩:=HX1.out
 clear HX1
 replace zV:=zI zV hB4
 replace K_o:=zI K_o hB4
 replace K_a:=zI K_a hB4
 have szw4:V3.heap.size≤w4.heap.size:=hB4.size
 replace HB:=zE HB hB4
 have c1:w4.cell? ⟨W.heap.size,0,none⟩=some (zC zD pc):=zJ zV (0)
 have c2:w4.cell? ⟨W.heap.size,1,none⟩=some (zC zD used):=zJ zV (1)
 have p0:¬ pc<0:=by omega
 have p1:¬ (l.length:Int)<pc:=by omega
 have p2:¬ pc=(l.length:Int):=by omega
 have p2':(pc==(l.length:Int))=false:=by simpa using p2
 obtain ⟨ad,rfl,a0,a1,a2,a3,a4⟩:=at_T97 (Kd.C_below hL HB) pc hp0 hp1
 rw [ho] at a0 a1 a2 a3 a4
 obtain ⟨V4,hV4,KV4,hBV4⟩:=alz6 w4
 have ltV4:w4.heap.size<V4.heap.size:=zL KV4
 replace zV:=zI zV hBV4
 replace K_o:=zI K_o hBV4
 replace K_a:=zI K_a hBV4
 have zW:=KV4
 replace HB:=zE HB hBV4
 clear KV4 hBV4
 have c3:V4.cell? ⟨w4.heap.size,0,none⟩=some (zC zD 0):=zJ zW (0)
 have c4:V4.cell? ⟨w4.heap.size,1,none⟩=some (zC zD 0):=zJ zW (1)
 have c5:V4.cell? ⟨w4.heap.size,2,none⟩=some (zC zD 0):=zJ zW (2)
 have c6:V4.cell? ⟨w4.heap.size,3,none⟩=some (zC zD 0):=zJ zW (3)
 have c7:V4.cell? ⟨w4.heap.size,4,none⟩=some (zC zD 0):=zJ zW (4)
 have c8:=zK zW (0)
 have c9:=zK zW (1)
 have c10:=zK zW (2)
 have c11:=zK zW (3)
 have c12:=zK zW (4)
 obtain ⟨V5,hV5⟩:∃ V,((((V4.setCell ⟨w4.heap.size,0,none⟩ (zC zD o.f0)).setCell ⟨w4.heap.size,1,none⟩ (zC zD o.f1)).setCell ⟨w4.heap.size,2,none⟩ (zC zD o.f2)).setCell ⟨w4.heap.size,3,none⟩ (zC zD o.f3)).setCell ⟨w4.heap.size,4,none⟩ (zC zD o.f4)=V:=⟨_,rfl⟩
 have hOV5:Only w4.heap.size V4 V5:=by rw [← hV5];exact ((((Only.set _ _ _).trans (Only.set _ _ _)).trans (Only.set _ _ _)).trans (Only.set _ _ _)).trans (Only.set _ _ _)
 replace zW:V5.heap[w4.heap.size]?=some (.cells (#[zC zD o.f0,zC zD o.f1,zC zD o.f2,zC zD o.f3,zC zD o.f4]) 97 (0,0)):=by rw [← hV5];exact (blk_set (blk_set (blk_set (blk_set (blk_set zW _ _) _ _) _ _) _ _) _ _)
 replace zV:=hOV5.mid zV (by omega) (B:=0)
 replace K_o:=hOV5.mid K_o (by omega) (B:=0)
 replace K_a:=hOV5.mid K_a (by omega) (B:=0)
 have szV5:V4.heap.size≤V5.heap.size:=hOV5.size
 replace HB:=HB.trans (hOV5.below (by omega) HB.size)
 clear hOV5
 have c13:V5.cell? ⟨w4.heap.size,0,none⟩=some (zC zD o.f0):=zJ zW (0)
 have q0:¬ o.f0=0:=by omega
 have q0':(o.f0==0)=false:=by simpa using q0
 have q1:¬ o.f0=1:=by omega
 have q1':(o.f0==1)=false:=by simpa using q1
 have q2:¬ o.f0=2:=by omega
 have q2':(o.f0==2)=false:=by simpa using q2
 have q3:¬ o.f0=3:=by omega
 have q3':(o.f0==3)=false:=by simpa using q3
 have q15:¬ o.f0=15:=by omega
 have q15':(o.f0==15)=false:=by simpa using q15
 have s7:o.f0≤7:=by omega
 have s9:o.f0≤9:=by omega
 have s11:o.f0≤11:=by omega
 have s14:o.f0≤14:=by omega
 have hL14:=ld_whole (P:=Try.prog) (ty:=29) zV Try.underlying29 rfl (by first|rfl|(rw [size29];rfl)|(rw [size29];have:=zM hl;simp [this])|(rw [size29,zM hl]))
 have c15:V5.cell? ⟨w4.heap.size,1,none⟩=some (zC zD o.f1):=zJ zW (1)
 have c16:V5.cell? ⟨w4.heap.size,2,none⟩=some (zC zD o.f2):=zJ zW (2)
 have c17:V5.cell? ⟨w4.heap.size,3,none⟩=some (zC zD o.f3):=zJ zW (3)
 have c18:V5.cell? ⟨w4.heap.size,4,none⟩=some (zC zD o.f4):=zJ zW (4)
 have HF:=zP (rsums_all pc used vars rs SA sc fs o V5 (Kd.C_below hC HB) hsc hl hok h0 h1)
 have HX2:=zP (zU zV (zU K_o (zU K_a (zU zW (HB)))))
 clear HB zW K_a K_o zV
 go_wp2_with (refine wpList_ld rfl rfl hL14 ?_)
 refine HF.out.mono ?_
 rintro e w9 ⟨h8,SB,sd,rfl,hrow,hB9⟩
 obtain ⟨zV,K_o,K_a,zW,HB⟩:=HX2.out
 clear HX2
 replace zV:=zI zV hB9
 replace K_o:=zI K_o hB9
 replace K_a:=zI K_a hB9
 replace zW:=zI zW hB9
 have szw9:V5.heap.size≤w9.heap.size:=hB9.size
 replace HB:=zE HB hB9
 generalize hrr:opP ⟨pc,used,rs,fs⟩ (conv74 o) vars=r at *
 obtain ⟨⟨pc2,used2,rs2,fs2⟩,aq⟩:=r
 dsimp only at *
 have R_st:=hrow
 clear hrow
 have hz:=zM (pc:=pc2) (used:=used2) (stk:=.slice SB fs2.length sd) h8
 obtain ⟨V6,hSV6,KKV6,hOV6⟩:=st_arr (cs:=cpuC pc2 used2 rs2 (.slice SB fs2.length sd)) size29 K_o (by first|rfl|simp [hz]) (by first|rfl|simp [hz]) (cpuC_one1 _ _ _ rfl)
 clear hz
 replace R_st:=R_st.imp id (fun h_=>R_offs h_ K_o (by intro q hq;simp [kF] at hq;subst hq;decide) hOV6)
 replace K_o:V6.heap[V1.heap.size]?=some (.cells (cpuC pc2 used2 rs2 (.slice SB fs2.length sd)) 29 (0,0)):=KKV6
 replace zV:=hOV6.mid zV (by omega) (B:=0)
 replace K_a:=hOV6.mid K_a (by omega) (B:=0)
 replace zW:=hOV6.mid zW (by omega) (B:=0)
 have szV6:w9.heap.size≤V6.heap.size:=hOV6.size
 replace HB:=HB.trans (hOV6.below (by omega) HB.size)
 clear hOV6
 clear KKV6
 obtain ⟨V7,hSV7,KKV7,hOV7⟩:=st_arr (cs:=aq.c) size46 K_a (by first|rfl|simp) rfl (by simp [Value.oneCell'])
 replace R_st:=R_st.imp id (fun h_=>R_offs h_ K_a (by intro q hq;simp [kF] at hq;subst hq;decide) hOV7)
 replace K_a:V7.heap[V2.heap.size]?=some (.cells (aq.c) 46 (0,0)):=KKV7
 replace zV:=hOV7.mid zV (by omega) (B:=0)
 replace K_o:=hOV7.mid K_o (by omega) (B:=0)
 replace zW:=hOV7.mid zW (by omega) (B:=0)
 have szV7:V6.heap.size≤V7.heap.size:=hOV7.size
 replace HB:=HB.trans (hOV7.below (by omega) HB.size)
 clear hOV7
 clear KKV7
 have HX3:=zP (zU zV (zU K_o (zU K_a (zU zW (zU R_st (HB))))))
 clear HB R_st zW K_a K_o zV
 go_wp2_with (first|refine wpList_st rfl rfl hSV6 ?_|refine wpList_st rfl rfl hSV7 ?_)
 obtain ⟨zV,K_o,K_a,zW,R_st,HB⟩:=HX3.out
 exact bodyPost_ret (results_cc rfl _ rfl K_o hu29 rfl (by rw [size29,zM (pc:=pc2) (used:=used2) (stk:=.slice SB fs2.length sd) h8]) rfl K_a hu46 rfl (by rw [size46];rfl)) rfl ⟨h8,SB,sd,rfl,R_st.imp id (fun h_=>Kd.R_lower h_ (by omega)),HB⟩
theorem rstep_mem (A:Option Addr) (c:Nat) (l:List S97) (pc used:Int) (rs:List S32) (SA:Option Addr) (sc:Nat) (fs:List FrameD) (vars fuel:Int) (W:World) (hL:Kd.C k97 W A l.length l) (hlc:l.length≤c) (hC:Kd.C kF W SA fs.length fs) (hsc:fs.length≤sc) (hl:rs.length=8) (hlen:l.length≤1000000) (hbig:fs.length≤100000) (hR:codeR (l.map conv74)=true) (hp0:0≤pc) (hp1:pc<l.length) (hfu:¬ fuel≤used) (o:S97) (ho:rd_T97 l pc=o) (hok:OpOK (conv74 o)) (h0:8≤o.f0) (h1:o.f0<10) :
  Calls Try.prog 14 #[.slice A l.length c,.agg (cpuC pc used rs (.slice SA fs.length sc)),zC zD vars,zC zD fuel] W (RSt W SA sc fs (opP ⟨pc,used,rs,fs⟩ (conv74 o) vars)):=by
 have hu29:=Try.underlying29
 have hu46:=Try.underlying46
 have hu26:=Try.underlying26
 have hu24:=Try.underlying24
 have hu97:=Try.underlying97
 have hu22:=Try.underlying22
 obtain ⟨V1,hV1,KV1,hBV1⟩:=alz W (cpuC pc used rs (.slice SA fs.length sc)) 29
 have ltV1:W.heap.size<V1.heap.size:=zL KV1
 have zV:=KV1
 have HB:=hBV1
 clear KV1 hBV1
 obtain ⟨V2,hV2,KV2,hBV2⟩:=alz0 V1
 have ltV2:V1.heap.size<V2.heap.size:=zL KV2
 replace zV:=zI zV hBV2
 have K_o:=KV2
 replace HB:=zE HB hBV2
 clear KV2 hBV2
 obtain ⟨V3,hV3,KV3,hBV3⟩:=alz1 V2
 have ltV3:V2.heap.size<V3.heap.size:=zL KV3
 replace zV:=zI zV hBV3
 replace K_o:=zI K_o hBV3
 have K_a:=KV3
 replace HB:=zE HB hBV3
 clear KV3 hBV3
 have HRt:=zP (warpbeamref16_Right.calls (2 * l.length+1) A c l true V3 (Kd.C_below hL HB) hlc (by rw [ref_right l hlen _ (by omega),hR]))
 have HX1:=zP (zU zV (zU K_o (zU K_a (HB))))
 clear HB K_a K_o zV
 go_enter Try.func14,Try.ntmps14
 go_wp2_with fail
 refine HRt.out.mono ?_
 rintro e w4 ⟨rfl,hB4⟩
 clear HRt
 obtain ⟨zV,K_o,K_a,HB⟩:=HX1.out
 clear HX1
 replace zV:=zI zV hB4
 replace K_o:=zI K_o hB4
 replace K_a:=zI K_a hB4
 have szw4:V3.heap.size≤w4.heap.size:=hB4.size
 replace HB:=zE HB hB4
 have c1:w4.cell? ⟨W.heap.size,0,none⟩=some (zC zD pc):=zJ zV (0)
 have c2:w4.cell? ⟨W.heap.size,1,none⟩=some (zC zD used):=zJ zV (1)
 have p0:¬ pc<0:=by omega
 have p1:¬ (l.length:Int)<pc:=by omega
 have p2:¬ pc=(l.length:Int):=by omega
 have p2':(pc==(l.length:Int))=false:=by simpa using p2
 obtain ⟨ad,rfl,a0,a1,a2,a3,a4⟩:=at_T97 (Kd.C_below hL HB) pc hp0 hp1
 rw [ho] at a0 a1 a2 a3 a4
 obtain ⟨V4,hV4,KV4,hBV4⟩:=alz6 w4
 have ltV4:w4.heap.size<V4.heap.size:=zL KV4
 replace zV:=zI zV hBV4
 replace K_o:=zI K_o hBV4
 replace K_a:=zI K_a hBV4
 have zW:=KV4
 replace HB:=zE HB hBV4
 clear KV4 hBV4
 have c3:V4.cell? ⟨w4.heap.size,0,none⟩=some (zC zD 0):=zJ zW (0)
 have c4:V4.cell? ⟨w4.heap.size,1,none⟩=some (zC zD 0):=zJ zW (1)
 have c5:V4.cell? ⟨w4.heap.size,2,none⟩=some (zC zD 0):=zJ zW (2)
 have c6:V4.cell? ⟨w4.heap.size,3,none⟩=some (zC zD 0):=zJ zW (3)
 have c7:V4.cell? ⟨w4.heap.size,4,none⟩=some (zC zD 0):=zJ zW (4)
 have c8:=zK zW (0)
 have c9:=zK zW (1)
 have c10:=zK zW (2)
 have c11:=zK zW (3)
 have c12:=zK zW (4)
 obtain ⟨V5,hV5⟩:∃ V,((((V4.setCell ⟨w4.heap.size,0,none⟩ (zC zD o.f0)).setCell ⟨w4.heap.size,1,none⟩ (zC zD o.f1)).setCell ⟨w4.heap.size,2,none⟩ (zC zD o.f2)).setCell ⟨w4.heap.size,3,none⟩ (zC zD o.f3)).setCell ⟨w4.heap.size,4,none⟩ (zC zD o.f4)=V:=⟨_,rfl⟩
 have hOV5:Only w4.heap.size V4 V5:=by rw [← hV5];exact ((((Only.set _ _ _).trans (Only.set _ _ _)).trans (Only.set _ _ _)).trans (Only.set _ _ _)).trans (Only.set _ _ _)
 replace zW:V5.heap[w4.heap.size]?=some (.cells (#[zC zD o.f0,zC zD o.f1,zC zD o.f2,zC zD o.f3,zC zD o.f4]) 97 (0,0)):=by rw [← hV5];exact (blk_set (blk_set (blk_set (blk_set (blk_set zW _ _) _ _) _ _) _ _) _ _)
 replace zV:=hOV5.mid zV (by omega) (B:=0)
 replace K_o:=hOV5.mid K_o (by omega) (B:=0)
 replace K_a:=hOV5.mid K_a (by omega) (B:=0)
 have szV5:V4.heap.size≤V5.heap.size:=hOV5.size
 replace HB:=HB.trans (hOV5.below (by omega) HB.size)
 clear hOV5
 have c13:V5.cell? ⟨w4.heap.size,0,none⟩=some (zC zD o.f0):=zJ zW (0)
 have q0:¬ o.f0=0:=by omega
 have q0':(o.f0==0)=false:=by simpa using q0
 have q1:¬ o.f0=1:=by omega
 have q1':(o.f0==1)=false:=by simpa using q1
 have q2:¬ o.f0=2:=by omega
 have q2':(o.f0==2)=false:=by simpa using q2
 have q3:¬ o.f0=3:=by omega
 have q3':(o.f0==3)=false:=by simpa using q3
 have q15:¬ o.f0=15:=by omega
 have q15':(o.f0==15)=false:=by simpa using q15
 have s7:¬ o.f0≤7:=by omega
 have s9:o.f0≤9:=by omega
 have s11:o.f0≤11:=by omega
 have s14:o.f0≤14:=by omega
 have hL14:=ld_whole (P:=Try.prog) (ty:=29) zV Try.underlying29 rfl (by first|rfl|(rw [size29];rfl)|(rw [size29];have:=zM hl;simp [this])|(rw [size29,zM hl]))
 have c15:V5.cell? ⟨w4.heap.size,1,none⟩=some (zC zD o.f1):=zJ zW (1)
 have c16:V5.cell? ⟨w4.heap.size,2,none⟩=some (zC zD o.f2):=zJ zW (2)
 have c17:V5.cell? ⟨w4.heap.size,3,none⟩=some (zC zD o.f3):=zJ zW (3)
 have c18:V5.cell? ⟨w4.heap.size,4,none⟩=some (zC zD o.f4):=zJ zW (4)
 have HF:=zP (rmem_all pc used vars rs SA sc fs o V5 (Kd.C_below hC HB) hsc hl hok h0 h1)
 have HX2:=zP (zU zV (zU K_o (zU K_a (zU zW (HB)))))
 clear HB zW K_a K_o zV
 go_wp2_with (refine wpList_ld rfl rfl hL14 ?_)
 refine HF.out.mono ?_
 rintro e w9 ⟨h8,SB,sd,rfl,hrow,hB9⟩
 obtain ⟨zV,K_o,K_a,zW,HB⟩:=HX2.out
 clear HX2
 replace zV:=zI zV hB9
 replace K_o:=zI K_o hB9
 replace K_a:=zI K_a hB9
 replace zW:=zI zW hB9
 have szw9:V5.heap.size≤w9.heap.size:=hB9.size
 replace HB:=zE HB hB9
 generalize hrr:opP ⟨pc,used,rs,fs⟩ (conv74 o) vars=r at *
 obtain ⟨⟨pc2,used2,rs2,fs2⟩,aq⟩:=r
 dsimp only at *
 have R_st:=hrow
 clear hrow
 have hz:=zM (pc:=pc2) (used:=used2) (stk:=.slice SB fs2.length sd) h8
 obtain ⟨V6,hSV6,KKV6,hOV6⟩:=st_arr (cs:=cpuC pc2 used2 rs2 (.slice SB fs2.length sd)) size29 K_o (by first|rfl|simp [hz]) (by first|rfl|simp [hz]) (cpuC_one1 _ _ _ rfl)
 clear hz
 replace R_st:=R_st.imp id (fun h_=>R_offs h_ K_o (by intro q hq;simp [kF] at hq;subst hq;decide) hOV6)
 replace K_o:V6.heap[V1.heap.size]?=some (.cells (cpuC pc2 used2 rs2 (.slice SB fs2.length sd)) 29 (0,0)):=KKV6
 replace zV:=hOV6.mid zV (by omega) (B:=0)
 replace K_a:=hOV6.mid K_a (by omega) (B:=0)
 replace zW:=hOV6.mid zW (by omega) (B:=0)
 have szV6:w9.heap.size≤V6.heap.size:=hOV6.size
 replace HB:=HB.trans (hOV6.below (by omega) HB.size)
 clear hOV6
 clear KKV6
 obtain ⟨V7,hSV7,KKV7,hOV7⟩:=st_arr (cs:=aq.c) size46 K_a (by first|rfl|simp) rfl (by simp [Value.oneCell'])
 replace R_st:=R_st.imp id (fun h_=>R_offs h_ K_a (by intro q hq;simp [kF] at hq;subst hq;decide) hOV7)
 replace K_a:V7.heap[V2.heap.size]?=some (.cells (aq.c) 46 (0,0)):=KKV7
 replace zV:=hOV7.mid zV (by omega) (B:=0)
 replace K_o:=hOV7.mid K_o (by omega) (B:=0)
 replace zW:=hOV7.mid zW (by omega) (B:=0)
 have szV7:V6.heap.size≤V7.heap.size:=hOV7.size
 replace HB:=HB.trans (hOV7.below (by omega) HB.size)
 clear hOV7
 clear KKV7
 have HX3:=zP (zU zV (zU K_o (zU K_a (zU zW (zU R_st (HB))))))
 clear HB R_st zW K_a K_o zV
 go_wp2_with (first|refine wpList_st rfl rfl hSV6 ?_|refine wpList_st rfl rfl hSV7 ?_)
 obtain ⟨zV,K_o,K_a,zW,R_st,HB⟩:=HX3.out
 exact bodyPost_ret (results_cc rfl _ rfl K_o hu29 rfl (by rw [size29,zM (pc:=pc2) (used:=used2) (stk:=.slice SB fs2.length sd) h8]) rfl K_a hu46 rfl (by rw [size46];rfl)) rfl ⟨h8,SB,sd,rfl,R_st.imp id (fun h_=>Kd.R_lower h_ (by omega)),HB⟩
theorem rstep_jump (A:Option Addr) (c:Nat) (l:List S97) (pc used:Int) (rs:List S32) (SA:Option Addr) (sc:Nat) (fs:List FrameD) (vars fuel:Int) (W:World) (hL:Kd.C k97 W A l.length l) (hlc:l.length≤c) (hC:Kd.C kF W SA fs.length fs) (hsc:fs.length≤sc) (hl:rs.length=8) (hlen:l.length≤1000000) (hbig:fs.length≤100000) (hR:codeR (l.map conv74)=true) (hp0:0≤pc) (hp1:pc<l.length) (hfu:¬ fuel≤used) (o:S97) (ho:rd_T97 l pc=o) (hok:OpOK (conv74 o)) (h0:10≤o.f0) (h1:o.f0<12) :
  Calls Try.prog 14 #[.slice A l.length c,.agg (cpuC pc used rs (.slice SA fs.length sc)),zC zD vars,zC zD fuel] W (RSt W SA sc fs (opP ⟨pc,used,rs,fs⟩ (conv74 o) vars)):=by
 have hu29:=Try.underlying29
 have hu46:=Try.underlying46
 have hu26:=Try.underlying26
 have hu24:=Try.underlying24
 have hu97:=Try.underlying97
 have hu22:=Try.underlying22
 obtain ⟨V1,hV1,KV1,hBV1⟩:=alz W (cpuC pc used rs (.slice SA fs.length sc)) 29
 have ltV1:W.heap.size<V1.heap.size:=zL KV1
 have zV:=KV1
 have HB:=hBV1
 clear KV1 hBV1
 obtain ⟨V2,hV2,KV2,hBV2⟩:=alz0 V1
 have ltV2:V1.heap.size<V2.heap.size:=zL KV2
 replace zV:=zI zV hBV2
 have K_o:=KV2
 replace HB:=zE HB hBV2
 clear KV2 hBV2
 obtain ⟨V3,hV3,KV3,hBV3⟩:=alz1 V2
 have ltV3:V2.heap.size<V3.heap.size:=zL KV3
 replace zV:=zI zV hBV3
 replace K_o:=zI K_o hBV3
 have K_a:=KV3
 replace HB:=zE HB hBV3
 clear KV3 hBV3
 have HRt:=zP (warpbeamref16_Right.calls (2 * l.length+1) A c l true V3 (Kd.C_below hL HB) hlc (by rw [ref_right l hlen _ (by omega),hR]))
 have HX1:=zP (zU zV (zU K_o (zU K_a (HB))))
 clear HB K_a K_o zV
 go_enter Try.func14,Try.ntmps14
 go_wp2_with fail
 refine HRt.out.mono ?_
 rintro e w4 ⟨rfl,hB4⟩
 clear HRt
 obtain ⟨zV,K_o,K_a,HB⟩:=HX1.out
 clear HX1
 replace zV:=zI zV hB4
 replace K_o:=zI K_o hB4
 replace K_a:=zI K_a hB4
 have szw4:V3.heap.size≤w4.heap.size:=hB4.size
 replace HB:=zE HB hB4
 have c1:w4.cell? ⟨W.heap.size,0,none⟩=some (zC zD pc):=zJ zV (0)
 have c2:w4.cell? ⟨W.heap.size,1,none⟩=some (zC zD used):=zJ zV (1)
 have p0:¬ pc<0:=by omega
 have p1:¬ (l.length:Int)<pc:=by omega
 have p2:¬ pc=(l.length:Int):=by omega
 have p2':(pc==(l.length:Int))=false:=by simpa using p2
 obtain ⟨ad,rfl,a0,a1,a2,a3,a4⟩:=at_T97 (Kd.C_below hL HB) pc hp0 hp1
 rw [ho] at a0 a1 a2 a3 a4
 obtain ⟨V4,hV4,KV4,hBV4⟩:=alz6 w4
 have ltV4:w4.heap.size<V4.heap.size:=zL KV4
 replace zV:=zI zV hBV4
 replace K_o:=zI K_o hBV4
 replace K_a:=zI K_a hBV4
 have zW:=KV4
 replace HB:=zE HB hBV4
 clear KV4 hBV4
 have c3:V4.cell? ⟨w4.heap.size,0,none⟩=some (zC zD 0):=zJ zW (0)
 have c4:V4.cell? ⟨w4.heap.size,1,none⟩=some (zC zD 0):=zJ zW (1)
 have c5:V4.cell? ⟨w4.heap.size,2,none⟩=some (zC zD 0):=zJ zW (2)
 have c6:V4.cell? ⟨w4.heap.size,3,none⟩=some (zC zD 0):=zJ zW (3)
 have c7:V4.cell? ⟨w4.heap.size,4,none⟩=some (zC zD 0):=zJ zW (4)
 have c8:=zK zW (0)
 have c9:=zK zW (1)
 have c10:=zK zW (2)
 have c11:=zK zW (3)
 have c12:=zK zW (4)
 obtain ⟨V5,hV5⟩:∃ V,((((V4.setCell ⟨w4.heap.size,0,none⟩ (zC zD o.f0)).setCell ⟨w4.heap.size,1,none⟩ (zC zD o.f1)).setCell ⟨w4.heap.size,2,none⟩ (zC zD o.f2)).setCell ⟨w4.heap.size,3,none⟩ (zC zD o.f3)).setCell ⟨w4.heap.size,4,none⟩ (zC zD o.f4)=V:=⟨_,rfl⟩
 have hOV5:Only w4.heap.size V4 V5:=by rw [← hV5];exact ((((Only.set _ _ _).trans (Only.set _ _ _)).trans (Only.set _ _ _)).trans (Only.set _ _ _)).trans (Only.set _ _ _)
 replace zW:V5.heap[w4.heap.size]?=some (.cells (#[zC zD o.f0,zC zD o.f1,zC zD o.f2,zC zD o.f3,zC zD o.f4]) 97 (0,0)):=by rw [← hV5];exact (blk_set (blk_set (blk_set (blk_set (blk_set zW _ _) _ _) _ _) _ _) _ _)
 replace zV:=hOV5.mid zV (by omega) (B:=0)
 replace K_o:=hOV5.mid K_o (by omega) (B:=0)
 replace K_a:=hOV5.mid K_a (by omega) (B:=0)
 have szV5:V4.heap.size≤V5.heap.size:=hOV5.size
 replace HB:=HB.trans (hOV5.below (by omega) HB.size)
 clear hOV5
 have c13:V5.cell? ⟨w4.heap.size,0,none⟩=some (zC zD o.f0):=zJ zW (0)
 have q0:¬ o.f0=0:=by omega
 have q0':(o.f0==0)=false:=by simpa using q0
 have q1:¬ o.f0=1:=by omega
 have q1':(o.f0==1)=false:=by simpa using q1
 have q2:¬ o.f0=2:=by omega
 have q2':(o.f0==2)=false:=by simpa using q2
 have q3:¬ o.f0=3:=by omega
 have q3':(o.f0==3)=false:=by simpa using q3
 have q15:¬ o.f0=15:=by omega
 have q15':(o.f0==15)=false:=by simpa using q15
 have s7:¬ o.f0≤7:=by omega
 have s9:¬ o.f0≤9:=by omega
 have s11:o.f0≤11:=by omega
 have s14:o.f0≤14:=by omega
 have hL14:=ld_whole (P:=Try.prog) (ty:=29) zV Try.underlying29 rfl (by first|rfl|(rw [size29];rfl)|(rw [size29];have:=zM hl;simp [this])|(rw [size29,zM hl]))
 have c15:V5.cell? ⟨w4.heap.size,1,none⟩=some (zC zD o.f1):=zJ zW (1)
 have c16:V5.cell? ⟨w4.heap.size,2,none⟩=some (zC zD o.f2):=zJ zW (2)
 have c17:V5.cell? ⟨w4.heap.size,3,none⟩=some (zC zD o.f3):=zJ zW (3)
 have c18:V5.cell? ⟨w4.heap.size,4,none⟩=some (zC zD o.f4):=zJ zW (4)
 have HF:=zP (rjump_all pc used vars rs SA sc fs o V5 (Kd.C_below hC HB) hsc hl hok h0 h1)
 have HX2:=zP (zU zV (zU K_o (zU K_a (zU zW (HB)))))
 clear HB zW K_a K_o zV
 go_wp2_with (refine wpList_ld rfl rfl hL14 ?_)
 refine HF.out.mono ?_
 rintro e w9 ⟨h8,SB,sd,rfl,hrow,hB9⟩
 obtain ⟨zV,K_o,K_a,zW,HB⟩:=HX2.out
 clear HX2
 replace zV:=zI zV hB9
 replace K_o:=zI K_o hB9
 replace K_a:=zI K_a hB9
 replace zW:=zI zW hB9
 have szw9:V5.heap.size≤w9.heap.size:=hB9.size
 replace HB:=zE HB hB9
 generalize hrr:opP ⟨pc,used,rs,fs⟩ (conv74 o) vars=r at *
 obtain ⟨⟨pc2,used2,rs2,fs2⟩,aq⟩:=r
 dsimp only at *
 have R_st:=hrow
 clear hrow
 have hz:=zM (pc:=pc2) (used:=used2) (stk:=.slice SB fs2.length sd) h8
 obtain ⟨V6,hSV6,KKV6,hOV6⟩:=st_arr (cs:=cpuC pc2 used2 rs2 (.slice SB fs2.length sd)) size29 K_o (by first|rfl|simp [hz]) (by first|rfl|simp [hz]) (cpuC_one1 _ _ _ rfl)
 clear hz
 replace R_st:=R_st.imp id (fun h_=>R_offs h_ K_o (by intro q hq;simp [kF] at hq;subst hq;decide) hOV6)
 replace K_o:V6.heap[V1.heap.size]?=some (.cells (cpuC pc2 used2 rs2 (.slice SB fs2.length sd)) 29 (0,0)):=KKV6
 replace zV:=hOV6.mid zV (by omega) (B:=0)
 replace K_a:=hOV6.mid K_a (by omega) (B:=0)
 replace zW:=hOV6.mid zW (by omega) (B:=0)
 have szV6:w9.heap.size≤V6.heap.size:=hOV6.size
 replace HB:=HB.trans (hOV6.below (by omega) HB.size)
 clear hOV6
 clear KKV6
 obtain ⟨V7,hSV7,KKV7,hOV7⟩:=st_arr (cs:=aq.c) size46 K_a (by first|rfl|simp) rfl (by simp [Value.oneCell'])
 replace R_st:=R_st.imp id (fun h_=>R_offs h_ K_a (by intro q hq;simp [kF] at hq;subst hq;decide) hOV7)
 replace K_a:V7.heap[V2.heap.size]?=some (.cells (aq.c) 46 (0,0)):=KKV7
 replace zV:=hOV7.mid zV (by omega) (B:=0)
 replace K_o:=hOV7.mid K_o (by omega) (B:=0)
 replace zW:=hOV7.mid zW (by omega) (B:=0)
 have szV7:V6.heap.size≤V7.heap.size:=hOV7.size
 replace HB:=HB.trans (hOV7.below (by omega) HB.size)
 clear hOV7
 clear KKV7
 have HX3:=zP (zU zV (zU K_o (zU K_a (zU zW (zU R_st (HB))))))
 clear HB R_st zW K_a K_o zV
 go_wp2_with (first|refine wpList_st rfl rfl hSV6 ?_|refine wpList_st rfl rfl hSV7 ?_)
 obtain ⟨zV,K_o,K_a,zW,R_st,HB⟩:=HX3.out
 exact bodyPost_ret (results_cc rfl _ rfl K_o hu29 rfl (by rw [size29,zM (pc:=pc2) (used:=used2) (stk:=.slice SB fs2.length sd) h8]) rfl K_a hu46 rfl (by rw [size46];rfl)) rfl ⟨h8,SB,sd,rfl,R_st.imp id (fun h_=>Kd.R_lower h_ (by omega)),HB⟩
theorem rstep_ch (A:Option Addr) (c:Nat) (l:List S97) (pc used:Int) (rs:List S32) (SA:Option Addr) (sc:Nat) (fs:List FrameD) (vars fuel:Int) (W:World) (hL:Kd.C k97 W A l.length l) (hlc:l.length≤c) (hC:Kd.C kF W SA fs.length fs) (hsc:fs.length≤sc) (hl:rs.length=8) (hlen:l.length≤1000000) (hbig:fs.length≤100000) (hR:codeR (l.map conv74)=true) (hp0:0≤pc) (hp1:pc<l.length) (hfu:¬ fuel≤used) (o:S97) (ho:rd_T97 l pc=o) (hok:OpOK (conv74 o)) (h0:12≤o.f0) (h1:o.f0<15) :
  Calls Try.prog 14 #[.slice A l.length c,.agg (cpuC pc used rs (.slice SA fs.length sc)),zC zD vars,zC zD fuel] W (RSt W SA sc fs (opP ⟨pc,used,rs,fs⟩ (conv74 o) vars)):=by
 have hu29:=Try.underlying29
 have hu46:=Try.underlying46
 have hu26:=Try.underlying26
 have hu24:=Try.underlying24
 have hu97:=Try.underlying97
 have hu22:=Try.underlying22
 obtain ⟨V1,hV1,KV1,hBV1⟩:=alz W (cpuC pc used rs (.slice SA fs.length sc)) 29
 have ltV1:W.heap.size<V1.heap.size:=zL KV1
 have zV:=KV1
 have HB:=hBV1
 clear KV1 hBV1
 obtain ⟨V2,hV2,KV2,hBV2⟩:=alz0 V1
 have ltV2:V1.heap.size<V2.heap.size:=zL KV2
 replace zV:=zI zV hBV2
 have K_o:=KV2
 replace HB:=zE HB hBV2
 clear KV2 hBV2
 obtain ⟨V3,hV3,KV3,hBV3⟩:=alz1 V2
 have ltV3:V2.heap.size<V3.heap.size:=zL KV3
 replace zV:=zI zV hBV3
 replace K_o:=zI K_o hBV3
 have K_a:=KV3
 replace HB:=zE HB hBV3
 clear KV3 hBV3
 have HRt:=zP (warpbeamref16_Right.calls (2 * l.length+1) A c l true V3 (Kd.C_below hL HB) hlc (by rw [ref_right l hlen _ (by omega),hR]))
 have HX1:=zP (zU zV (zU K_o (zU K_a (HB))))
 clear HB K_a K_o zV
 go_enter Try.func14,Try.ntmps14
 go_wp2_with fail
 refine HRt.out.mono ?_
 rintro e w4 ⟨rfl,hB4⟩
 clear HRt
 obtain ⟨zV,K_o,K_a,HB⟩:=HX1.out
 clear HX1
 replace zV:=zI zV hB4
 replace K_o:=zI K_o hB4
 replace K_a:=zI K_a hB4
 have szw4:V3.heap.size≤w4.heap.size:=hB4.size
 replace HB:=zE HB hB4
 have c1:w4.cell? ⟨W.heap.size,0,none⟩=some (zC zD pc):=zJ zV (0)
 have c2:w4.cell? ⟨W.heap.size,1,none⟩=some (zC zD used):=zJ zV (1)
 have p0:¬ pc<0:=by omega
 have p1:¬ (l.length:Int)<pc:=by omega
 have p2:¬ pc=(l.length:Int):=by omega
 have p2':(pc==(l.length:Int))=false:=by simpa using p2
 obtain ⟨ad,rfl,a0,a1,a2,a3,a4⟩:=at_T97 (Kd.C_below hL HB) pc hp0 hp1
 rw [ho] at a0 a1 a2 a3 a4
 obtain ⟨V4,hV4,KV4,hBV4⟩:=alz6 w4
 have ltV4:w4.heap.size<V4.heap.size:=zL KV4
 replace zV:=zI zV hBV4
 replace K_o:=zI K_o hBV4
 replace K_a:=zI K_a hBV4
 have zW:=KV4
 replace HB:=zE HB hBV4
 clear KV4 hBV4
 have c3:V4.cell? ⟨w4.heap.size,0,none⟩=some (zC zD 0):=zJ zW (0)
 have c4:V4.cell? ⟨w4.heap.size,1,none⟩=some (zC zD 0):=zJ zW (1)
 have c5:V4.cell? ⟨w4.heap.size,2,none⟩=some (zC zD 0):=zJ zW (2)
 have c6:V4.cell? ⟨w4.heap.size,3,none⟩=some (zC zD 0):=zJ zW (3)
 have c7:V4.cell? ⟨w4.heap.size,4,none⟩=some (zC zD 0):=zJ zW (4)
 have c8:=zK zW (0)
 have c9:=zK zW (1)
 have c10:=zK zW (2)
 have c11:=zK zW (3)
 have c12:=zK zW (4)
 obtain ⟨V5,hV5⟩:∃ V,((((V4.setCell ⟨w4.heap.size,0,none⟩ (zC zD o.f0)).setCell ⟨w4.heap.size,1,none⟩ (zC zD o.f1)).setCell ⟨w4.heap.size,2,none⟩ (zC zD o.f2)).setCell ⟨w4.heap.size,3,none⟩ (zC zD o.f3)).setCell ⟨w4.heap.size,4,none⟩ (zC zD o.f4)=V:=⟨_,rfl⟩
 have hOV5:Only w4.heap.size V4 V5:=by rw [← hV5];exact ((((Only.set _ _ _).trans (Only.set _ _ _)).trans (Only.set _ _ _)).trans (Only.set _ _ _)).trans (Only.set _ _ _)
 replace zW:V5.heap[w4.heap.size]?=some (.cells (#[zC zD o.f0,zC zD o.f1,zC zD o.f2,zC zD o.f3,zC zD o.f4]) 97 (0,0)):=by rw [← hV5];exact (blk_set (blk_set (blk_set (blk_set (blk_set zW _ _) _ _) _ _) _ _) _ _)
 replace zV:=hOV5.mid zV (by omega) (B:=0)
 replace K_o:=hOV5.mid K_o (by omega) (B:=0)
 replace K_a:=hOV5.mid K_a (by omega) (B:=0)
 have szV5:V4.heap.size≤V5.heap.size:=hOV5.size
 replace HB:=HB.trans (hOV5.below (by omega) HB.size)
 clear hOV5
 have c13:V5.cell? ⟨w4.heap.size,0,none⟩=some (zC zD o.f0):=zJ zW (0)
 have q0:¬ o.f0=0:=by omega
 have q0':(o.f0==0)=false:=by simpa using q0
 have q1:¬ o.f0=1:=by omega
 have q1':(o.f0==1)=false:=by simpa using q1
 have q2:¬ o.f0=2:=by omega
 have q2':(o.f0==2)=false:=by simpa using q2
 have q3:¬ o.f0=3:=by omega
 have q3':(o.f0==3)=false:=by simpa using q3
 have q15:¬ o.f0=15:=by omega
 have q15':(o.f0==15)=false:=by simpa using q15
 have s7:¬ o.f0≤7:=by omega
 have s9:¬ o.f0≤9:=by omega
 have s11:¬ o.f0≤11:=by omega
 have s14:o.f0≤14:=by omega
 have hL14:=ld_whole (P:=Try.prog) (ty:=29) zV Try.underlying29 rfl (by first|rfl|(rw [size29];rfl)|(rw [size29];have:=zM hl;simp [this])|(rw [size29,zM hl]))
 have c15:V5.cell? ⟨w4.heap.size,1,none⟩=some (zC zD o.f1):=zJ zW (1)
 have c16:V5.cell? ⟨w4.heap.size,2,none⟩=some (zC zD o.f2):=zJ zW (2)
 have c17:V5.cell? ⟨w4.heap.size,3,none⟩=some (zC zD o.f3):=zJ zW (3)
 have c18:V5.cell? ⟨w4.heap.size,4,none⟩=some (zC zD o.f4):=zJ zW (4)
 have HF:=zP (rch_all pc used vars rs SA sc fs o V5 (Kd.C_below hC HB) hsc hl hbig h0 h1)
 have HX2:=zP (zU zV (zU K_o (zU K_a (zU zW (HB)))))
 clear HB zW K_a K_o zV
 go_wp2_with (refine wpList_ld rfl rfl hL14 ?_)
 refine HF.out.mono ?_
 rintro e w9 ⟨h8,SB,sd,rfl,hrow,hB9⟩
 obtain ⟨zV,K_o,K_a,zW,HB⟩:=HX2.out
 clear HX2
 replace zV:=zI zV hB9
 replace K_o:=zI K_o hB9
 replace K_a:=zI K_a hB9
 replace zW:=zI zW hB9
 have szw9:V5.heap.size≤w9.heap.size:=hB9.size
 replace HB:=zE HB hB9
 generalize hrr:opP ⟨pc,used,rs,fs⟩ (conv74 o) vars=r at *
 obtain ⟨⟨pc2,used2,rs2,fs2⟩,aq⟩:=r
 dsimp only at *
 have R_st:=hrow
 clear hrow
 have hz:=zM (pc:=pc2) (used:=used2) (stk:=.slice SB fs2.length sd) h8
 obtain ⟨V6,hSV6,KKV6,hOV6⟩:=st_arr (cs:=cpuC pc2 used2 rs2 (.slice SB fs2.length sd)) size29 K_o (by first|rfl|simp [hz]) (by first|rfl|simp [hz]) (cpuC_one1 _ _ _ rfl)
 clear hz
 replace R_st:=R_st.imp id (fun h_=>R_offs h_ K_o (by intro q hq;simp [kF] at hq;subst hq;decide) hOV6)
 replace K_o:V6.heap[V1.heap.size]?=some (.cells (cpuC pc2 used2 rs2 (.slice SB fs2.length sd)) 29 (0,0)):=KKV6
 replace zV:=hOV6.mid zV (by omega) (B:=0)
 replace K_a:=hOV6.mid K_a (by omega) (B:=0)
 replace zW:=hOV6.mid zW (by omega) (B:=0)
 have szV6:w9.heap.size≤V6.heap.size:=hOV6.size
 replace HB:=HB.trans (hOV6.below (by omega) HB.size)
 clear hOV6
 clear KKV6
 obtain ⟨V7,hSV7,KKV7,hOV7⟩:=st_arr (cs:=aq.c) size46 K_a (by first|rfl|simp) rfl (by simp [Value.oneCell'])
 replace R_st:=R_st.imp id (fun h_=>R_offs h_ K_a (by intro q hq;simp [kF] at hq;subst hq;decide) hOV7)
 replace K_a:V7.heap[V2.heap.size]?=some (.cells (aq.c) 46 (0,0)):=KKV7
 replace zV:=hOV7.mid zV (by omega) (B:=0)
 replace K_o:=hOV7.mid K_o (by omega) (B:=0)
 replace zW:=hOV7.mid zW (by omega) (B:=0)
 have szV7:V6.heap.size≤V7.heap.size:=hOV7.size
 replace HB:=HB.trans (hOV7.below (by omega) HB.size)
 clear hOV7
 clear KKV7
 have HX3:=zP (zU zV (zU K_o (zU K_a (zU zW (zU R_st (HB))))))
 clear HB R_st zW K_a K_o zV
 go_wp2_with (first|refine wpList_st rfl rfl hSV6 ?_|refine wpList_st rfl rfl hSV7 ?_)
 obtain ⟨zV,K_o,K_a,zW,R_st,HB⟩:=HX3.out
 exact bodyPost_ret (results_cc rfl _ rfl K_o hu29 rfl (by rw [size29,zM (pc:=pc2) (used:=used2) (stk:=.slice SB fs2.length sd) h8]) rfl K_a hu46 rfl (by rw [size46];rfl)) rfl ⟨h8,SB,sd,rfl,R_st.imp id (fun h_=>Kd.R_lower h_ (by omega)),HB⟩
theorem rstep_15 (A:Option Addr) (c:Nat) (l:List S97) (pc used:Int) (rs:List S32) (SA:Option Addr) (sc:Nat) (fs:List FrameD) (vars fuel:Int) (W:World) (hL:Kd.C k97 W A l.length l) (hlc:l.length≤c) (hC:Kd.C kF W SA fs.length fs) (hsc:fs.length≤sc) (hl:rs.length=8) (hlen:l.length≤1000000) (hbig:fs.length≤100000) (hR:codeR (l.map conv74)=true) (hp0:0≤pc) (hp1:pc<l.length) (hfu:¬ fuel≤used) (o:S97) (ho:rd_T97 l pc=o) (hok:OpOK (conv74 o)) (hk:o.f0=15) :
  Calls Try.prog 14 #[.slice A l.length c,.agg (cpuC pc used rs (.slice SA fs.length sc)),zC zD vars,zC zD fuel] W (RSt W SA sc fs (opP ⟨pc,used,rs,fs⟩ (conv74 o) vars)):=by
 have hu29:=Try.underlying29
 have hu46:=Try.underlying46
 have hu26:=Try.underlying26
 have hu24:=Try.underlying24
 have hu97:=Try.underlying97
 have hu22:=Try.underlying22
 have e0:opP ⟨pc,used,rs,fs⟩ (conv74 o) vars=(⟨pc,wrap64 (used+1),rs,fs⟩,over 2):=by simp only [opP,doesP,worth_non (rs:=rs) (o:=conv74 o) (show 8≤o.f0 by omega),if_neg (show ¬ (conv74 o).f0=8 from by show ¬ o.f0=8;omega),if_neg (show ¬ (conv74 o).f0=9 from by show ¬ o.f0=9;omega),if_neg (show ¬ (conv74 o).f0=10 from by show ¬ o.f0=10;omega),if_neg (show ¬ (conv74 o).f0=11 from by show ¬ o.f0=11;omega),if_neg (show ¬ (conv74 o).f0=12 from by show ¬ o.f0=12;omega),if_neg (show ¬ (conv74 o).f0=13 from by show ¬ o.f0=13;omega),if_neg (show ¬ (conv74 o).f0=14 from by show ¬ o.f0=14;omega),if_pos (show (conv74 o).f0=15 from hk)]
 rw [e0]
 clear e0
 have hkH:=zP hk
 have q0:¬ o.f0=0:=by omega
 have q0':(o.f0==0)=false:=by simpa using q0
 have q1:¬ o.f0=1:=by omega
 have q1':(o.f0==1)=false:=by simpa using q1
 have q2:¬ o.f0=2:=by omega
 have q2':(o.f0==2)=false:=by simpa using q2
 have q3:¬ o.f0=3:=by omega
 have q3':(o.f0==3)=false:=by simpa using q3
 have q15:o.f0=15:=by omega
 have q15':(o.f0==15)=true:=by simpa using q15
 have s7:¬ o.f0≤7:=by omega
 have s9:¬ o.f0≤9:=by omega
 have s11:¬ o.f0≤11:=by omega
 have s14:¬ o.f0≤14:=by omega
 clear hk
 clear q15
 obtain ⟨V1,hV1,KV1,hBV1⟩:=alz W (cpuC pc used rs (.slice SA fs.length sc)) 29
 have ltV1:W.heap.size<V1.heap.size:=zL KV1
 have zV:=KV1
 have HB:=hBV1
 clear KV1 hBV1
 obtain ⟨V2,hV2,KV2,hBV2⟩:=alz0 V1
 have ltV2:V1.heap.size<V2.heap.size:=zL KV2
 replace zV:=zI zV hBV2
 have K_o:=KV2
 replace HB:=zE HB hBV2
 clear KV2 hBV2
 obtain ⟨V3,hV3,KV3,hBV3⟩:=alz1 V2
 have ltV3:V2.heap.size<V3.heap.size:=zL KV3
 replace zV:=zI zV hBV3
 replace K_o:=zI K_o hBV3
 have K_a:=KV3
 replace HB:=zE HB hBV3
 clear KV3 hBV3
 have HRt:=zP (warpbeamref16_Right.calls (2 * l.length+1) A c l true V3 (Kd.C_below hL HB) hlc (by rw [ref_right l hlen _ (by omega),hR]))
 have HX1:=zP (zU zV (zU K_o (zU K_a (HB))))
 clear HB K_a K_o zV
 go_enter Try.func14,Try.ntmps14
 go_wp2_with fail
 refine HRt.out.mono ?_
 rintro e w4 ⟨rfl,hB4⟩
 clear HRt
 obtain ⟨zV,K_o,K_a,HB⟩:=HX1.out
 clear HX1
 replace zV:=zI zV hB4
 replace K_o:=zI K_o hB4
 replace K_a:=zI K_a hB4
 have szw4:V3.heap.size≤w4.heap.size:=hB4.size
 replace HB:=zE HB hB4
 have c1:w4.cell? ⟨W.heap.size,0,none⟩=some (zC zD pc):=zJ zV (0)
 have c2:w4.cell? ⟨W.heap.size,1,none⟩=some (zC zD used):=zJ zV (1)
 have p0:¬ pc<0:=by omega
 have p1:¬ (l.length:Int)<pc:=by omega
 have p2:¬ pc=(l.length:Int):=by omega
 have p2':(pc==(l.length:Int))=false:=by simpa using p2
 obtain ⟨ad,rfl,a0,a1,a2,a3,a4⟩:=at_T97 (Kd.C_below hL HB) pc hp0 hp1
 rw [ho] at a0 a1 a2 a3 a4
 obtain ⟨V4,hV4,KV4,hBV4⟩:=alz6 w4
 have ltV4:w4.heap.size<V4.heap.size:=zL KV4
 replace zV:=zI zV hBV4
 replace K_o:=zI K_o hBV4
 replace K_a:=zI K_a hBV4
 have zW:=KV4
 replace HB:=zE HB hBV4
 clear KV4 hBV4
 have c3:V4.cell? ⟨w4.heap.size,0,none⟩=some (zC zD 0):=zJ zW (0)
 have c4:V4.cell? ⟨w4.heap.size,1,none⟩=some (zC zD 0):=zJ zW (1)
 have c5:V4.cell? ⟨w4.heap.size,2,none⟩=some (zC zD 0):=zJ zW (2)
 have c6:V4.cell? ⟨w4.heap.size,3,none⟩=some (zC zD 0):=zJ zW (3)
 have c7:V4.cell? ⟨w4.heap.size,4,none⟩=some (zC zD 0):=zJ zW (4)
 have c8:=zK zW (0)
 have c9:=zK zW (1)
 have c10:=zK zW (2)
 have c11:=zK zW (3)
 have c12:=zK zW (4)
 obtain ⟨V5,hV5⟩:∃ V,((((V4.setCell ⟨w4.heap.size,0,none⟩ (zC zD o.f0)).setCell ⟨w4.heap.size,1,none⟩ (zC zD o.f1)).setCell ⟨w4.heap.size,2,none⟩ (zC zD o.f2)).setCell ⟨w4.heap.size,3,none⟩ (zC zD o.f3)).setCell ⟨w4.heap.size,4,none⟩ (zC zD o.f4)=V:=⟨_,rfl⟩
 have hOV5:Only w4.heap.size V4 V5:=by rw [← hV5];exact ((((Only.set _ _ _).trans (Only.set _ _ _)).trans (Only.set _ _ _)).trans (Only.set _ _ _)).trans (Only.set _ _ _)
 replace zW:V5.heap[w4.heap.size]?=some (.cells (#[zC zD o.f0,zC zD o.f1,zC zD o.f2,zC zD o.f3,zC zD o.f4]) 97 (0,0)):=by rw [← hV5];exact (blk_set (blk_set (blk_set (blk_set (blk_set zW _ _) _ _) _ _) _ _) _ _)
 replace zV:=hOV5.mid zV (by omega) (B:=0)
 replace K_o:=hOV5.mid K_o (by omega) (B:=0)
 replace K_a:=hOV5.mid K_a (by omega) (B:=0)
 have szV5:V4.heap.size≤V5.heap.size:=hOV5.size
 replace HB:=HB.trans (hOV5.below (by omega) HB.size)
 clear hOV5
 have c13:V5.cell? ⟨w4.heap.size,0,none⟩=some (zC zD o.f0):=zJ zW (0)
 have hL14:=ld_whole (P:=Try.prog) (ty:=29) zV Try.underlying29 rfl (by first|rfl|(rw [size29];rfl)|(rw [size29];have:=zM hl;simp [this])|(rw [size29,zM hl]))
 have c15:V5.cell? ⟨W.heap.size,1,none⟩=some (zC zD used):=zJ zV (1)
 have HR:=zP (rover_calls pc used (wrap64 (used+1)) 2 rs (.slice SA fs.length sc) V5 hl rfl)
 have HX2:=zP (zU zV (zU K_o (zU K_a (zU zW (HB)))))
 clear HB zW K_a K_o zV
 go_wp2_with (refine wpList_ld rfl rfl hL14 ?_)
 refine HR.out.mono ?_
 rintro e w9 ⟨rfl,hB9⟩
 obtain ⟨zV,K_o,K_a,zW,HB⟩:=HX2.out
 clear HX2
 replace zV:=zI zV hB9
 replace K_o:=zI K_o hB9
 replace K_a:=zI K_a hB9
 replace zW:=zI zW hB9
 have szw9:V5.heap.size≤w9.heap.size:=hB9.size
 replace HB:=zE HB hB9
 have hz:=zM (pc:=pc) (used:=(wrap64 (used+1))) (stk:=.slice SA fs.length sc) hl
 obtain ⟨V6,hSV6,KKV6,hOV6⟩:=st_arr (cs:=cpuC pc (wrap64 (used+1)) rs (.slice SA fs.length sc)) size29 K_o (by first|rfl|simp [hz]) (by first|rfl|simp [hz]) (cpuC_one1 _ _ _ rfl)
 clear hz
 replace K_o:V6.heap[V1.heap.size]?=some (.cells (cpuC pc (wrap64 (used+1)) rs (.slice SA fs.length sc)) 29 (0,0)):=KKV6
 replace zV:=hOV6.mid zV (by omega) (B:=0)
 replace K_a:=hOV6.mid K_a (by omega) (B:=0)
 replace zW:=hOV6.mid zW (by omega) (B:=0)
 have szV6:w9.heap.size≤V6.heap.size:=hOV6.size
 replace HB:=HB.trans (hOV6.below (by omega) HB.size)
 clear hOV6
 clear KKV6
 obtain ⟨V7,hSV7,KKV7,hOV7⟩:=st_arr (cs:=askC 5 0 0 0 0 0 2) size46 K_a (by first|rfl|simp) rfl (by simp [Value.oneCell'])
 replace K_a:V7.heap[V2.heap.size]?=some (.cells (askC 5 0 0 0 0 0 2) 46 (0,0)):=KKV7
 replace zV:=hOV7.mid zV (by omega) (B:=0)
 replace K_o:=hOV7.mid K_o (by omega) (B:=0)
 replace zW:=hOV7.mid zW (by omega) (B:=0)
 have szV7:V6.heap.size≤V7.heap.size:=hOV7.size
 replace HB:=HB.trans (hOV7.below (by omega) HB.size)
 clear hOV7
 clear KKV7
 have HX3:=zP (zU zV (zU K_o (zU K_a (zU zW (HB)))))
 clear HB zW K_a K_o zV
 go_wp2_with (first|refine wpList_st rfl rfl hSV6 ?_|refine wpList_st rfl rfl hSV7 ?_)
 obtain ⟨zV,K_o,K_a,zW,HB⟩:=HX3.out
 exact bodyPost_ret (results_cc rfl _ rfl K_o hu29 rfl (by rw [size29,zM (pc:=pc) (used:=(wrap64 (used+1))) (stk:=.slice SA fs.length sc) hl]) rfl K_a hu46 rfl (by rw [size46];rfl)) rfl (RSt.of hl ⟨rfl,HB⟩)
theorem rstep_16 (A:Option Addr) (c:Nat) (l:List S97) (pc used:Int) (rs:List S32) (SA:Option Addr) (sc:Nat) (fs:List FrameD) (vars fuel:Int) (W:World) (hL:Kd.C k97 W A l.length l) (hlc:l.length≤c) (hC:Kd.C kF W SA fs.length fs) (hsc:fs.length≤sc) (hl:rs.length=8) (hlen:l.length≤1000000) (hbig:fs.length≤100000) (hR:codeR (l.map conv74)=true) (hp0:0≤pc) (hp1:pc<l.length) (hfu:¬ fuel≤used) (o:S97) (ho:rd_T97 l pc=o) (hok:OpOK (conv74 o)) (hk:o.f0=16) :
  Calls Try.prog 14 #[.slice A l.length c,.agg (cpuC pc used rs (.slice SA fs.length sc)),zC zD vars,zC zD fuel] W (RSt W SA sc fs (opP ⟨pc,used,rs,fs⟩ (conv74 o) vars)):=by
 have hu29:=Try.underlying29
 have hu46:=Try.underlying46
 have hu26:=Try.underlying26
 have hu24:=Try.underlying24
 have hu97:=Try.underlying97
 have hu22:=Try.underlying22
 have e0:opP ⟨pc,used,rs,fs⟩ (conv74 o) vars=(⟨pc,wrap64 (used+1),rs,fs⟩,over 0):=by simp only [opP,doesP,worth_non (rs:=rs) (o:=conv74 o) (show 8≤o.f0 by omega),if_neg (show ¬ (conv74 o).f0=8 from by show ¬ o.f0=8;omega),if_neg (show ¬ (conv74 o).f0=9 from by show ¬ o.f0=9;omega),if_neg (show ¬ (conv74 o).f0=10 from by show ¬ o.f0=10;omega),if_neg (show ¬ (conv74 o).f0=11 from by show ¬ o.f0=11;omega),if_neg (show ¬ (conv74 o).f0=12 from by show ¬ o.f0=12;omega),if_neg (show ¬ (conv74 o).f0=13 from by show ¬ o.f0=13;omega),if_neg (show ¬ (conv74 o).f0=14 from by show ¬ o.f0=14;omega),if_neg (show ¬ (conv74 o).f0=15 from by show ¬ o.f0=15;omega)]
 rw [e0]
 clear e0
 have hkH:=zP hk
 have q0:¬ o.f0=0:=by omega
 have q0':(o.f0==0)=false:=by simpa using q0
 have q1:¬ o.f0=1:=by omega
 have q1':(o.f0==1)=false:=by simpa using q1
 have q2:¬ o.f0=2:=by omega
 have q2':(o.f0==2)=false:=by simpa using q2
 have q3:¬ o.f0=3:=by omega
 have q3':(o.f0==3)=false:=by simpa using q3
 have q15:¬ o.f0=15:=by omega
 have q15':(o.f0==15)=false:=by simpa using q15
 have s7:¬ o.f0≤7:=by omega
 have s9:¬ o.f0≤9:=by omega
 have s11:¬ o.f0≤11:=by omega
 have s14:¬ o.f0≤14:=by omega
 clear hk
 obtain ⟨V1,hV1,KV1,hBV1⟩:=alz W (cpuC pc used rs (.slice SA fs.length sc)) 29
 have ltV1:W.heap.size<V1.heap.size:=zL KV1
 have zV:=KV1
 have HB:=hBV1
 clear KV1 hBV1
 obtain ⟨V2,hV2,KV2,hBV2⟩:=alz0 V1
 have ltV2:V1.heap.size<V2.heap.size:=zL KV2
 replace zV:=zI zV hBV2
 have K_o:=KV2
 replace HB:=zE HB hBV2
 clear KV2 hBV2
 obtain ⟨V3,hV3,KV3,hBV3⟩:=alz1 V2
 have ltV3:V2.heap.size<V3.heap.size:=zL KV3
 replace zV:=zI zV hBV3
 replace K_o:=zI K_o hBV3
 have K_a:=KV3
 replace HB:=zE HB hBV3
 clear KV3 hBV3
 have HRt:=zP (warpbeamref16_Right.calls (2 * l.length+1) A c l true V3 (Kd.C_below hL HB) hlc (by rw [ref_right l hlen _ (by omega),hR]))
 have HX1:=zP (zU zV (zU K_o (zU K_a (HB))))
 clear HB K_a K_o zV
 go_enter Try.func14,Try.ntmps14
 go_wp2_with fail
 refine HRt.out.mono ?_
 rintro e w4 ⟨rfl,hB4⟩
 clear HRt
 obtain ⟨zV,K_o,K_a,HB⟩:=HX1.out
 clear HX1
 replace zV:=zI zV hB4
 replace K_o:=zI K_o hB4
 replace K_a:=zI K_a hB4
 have szw4:V3.heap.size≤w4.heap.size:=hB4.size
 replace HB:=zE HB hB4
 have c1:w4.cell? ⟨W.heap.size,0,none⟩=some (zC zD pc):=zJ zV (0)
 have c2:w4.cell? ⟨W.heap.size,1,none⟩=some (zC zD used):=zJ zV (1)
 have p0:¬ pc<0:=by omega
 have p1:¬ (l.length:Int)<pc:=by omega
 have p2:¬ pc=(l.length:Int):=by omega
 have p2':(pc==(l.length:Int))=false:=by simpa using p2
 obtain ⟨ad,rfl,a0,a1,a2,a3,a4⟩:=at_T97 (Kd.C_below hL HB) pc hp0 hp1
 rw [ho] at a0 a1 a2 a3 a4
 obtain ⟨V4,hV4,KV4,hBV4⟩:=alz6 w4
 have ltV4:w4.heap.size<V4.heap.size:=zL KV4
 replace zV:=zI zV hBV4
 replace K_o:=zI K_o hBV4
 replace K_a:=zI K_a hBV4
 have zW:=KV4
 replace HB:=zE HB hBV4
 clear KV4 hBV4
 have c3:V4.cell? ⟨w4.heap.size,0,none⟩=some (zC zD 0):=zJ zW (0)
 have c4:V4.cell? ⟨w4.heap.size,1,none⟩=some (zC zD 0):=zJ zW (1)
 have c5:V4.cell? ⟨w4.heap.size,2,none⟩=some (zC zD 0):=zJ zW (2)
 have c6:V4.cell? ⟨w4.heap.size,3,none⟩=some (zC zD 0):=zJ zW (3)
 have c7:V4.cell? ⟨w4.heap.size,4,none⟩=some (zC zD 0):=zJ zW (4)
 have c8:=zK zW (0)
 have c9:=zK zW (1)
 have c10:=zK zW (2)
 have c11:=zK zW (3)
 have c12:=zK zW (4)
 obtain ⟨V5,hV5⟩:∃ V,((((V4.setCell ⟨w4.heap.size,0,none⟩ (zC zD o.f0)).setCell ⟨w4.heap.size,1,none⟩ (zC zD o.f1)).setCell ⟨w4.heap.size,2,none⟩ (zC zD o.f2)).setCell ⟨w4.heap.size,3,none⟩ (zC zD o.f3)).setCell ⟨w4.heap.size,4,none⟩ (zC zD o.f4)=V:=⟨_,rfl⟩
 have hOV5:Only w4.heap.size V4 V5:=by rw [← hV5];exact ((((Only.set _ _ _).trans (Only.set _ _ _)).trans (Only.set _ _ _)).trans (Only.set _ _ _)).trans (Only.set _ _ _)
 replace zW:V5.heap[w4.heap.size]?=some (.cells (#[zC zD o.f0,zC zD o.f1,zC zD o.f2,zC zD o.f3,zC zD o.f4]) 97 (0,0)):=by rw [← hV5];exact (blk_set (blk_set (blk_set (blk_set (blk_set zW _ _) _ _) _ _) _ _) _ _)
 replace zV:=hOV5.mid zV (by omega) (B:=0)
 replace K_o:=hOV5.mid K_o (by omega) (B:=0)
 replace K_a:=hOV5.mid K_a (by omega) (B:=0)
 have szV5:V4.heap.size≤V5.heap.size:=hOV5.size
 replace HB:=HB.trans (hOV5.below (by omega) HB.size)
 clear hOV5
 have c13:V5.cell? ⟨w4.heap.size,0,none⟩=some (zC zD o.f0):=zJ zW (0)
 have hL14:=ld_whole (P:=Try.prog) (ty:=29) zV Try.underlying29 rfl (by first|rfl|(rw [size29];rfl)|(rw [size29];have:=zM hl;simp [this])|(rw [size29,zM hl]))
 have c15:V5.cell? ⟨W.heap.size,1,none⟩=some (zC zD used):=zJ zV (1)
 have HR:=zP (rover_calls pc used (wrap64 (used+1)) 0 rs (.slice SA fs.length sc) V5 hl rfl)
 have HX2:=zP (zU zV (zU K_o (zU K_a (zU zW (HB)))))
 clear HB zW K_a K_o zV
 go_wp2_with (refine wpList_ld rfl rfl hL14 ?_)
 refine HR.out.mono ?_
 rintro e w9 ⟨rfl,hB9⟩
 obtain ⟨zV,K_o,K_a,zW,HB⟩:=HX2.out
 clear HX2
 replace zV:=zI zV hB9
 replace K_o:=zI K_o hB9
 replace K_a:=zI K_a hB9
 replace zW:=zI zW hB9
 have szw9:V5.heap.size≤w9.heap.size:=hB9.size
 replace HB:=zE HB hB9
 have hz:=zM (pc:=pc) (used:=(wrap64 (used+1))) (stk:=.slice SA fs.length sc) hl
 obtain ⟨V6,hSV6,KKV6,hOV6⟩:=st_arr (cs:=cpuC pc (wrap64 (used+1)) rs (.slice SA fs.length sc)) size29 K_o (by first|rfl|simp [hz]) (by first|rfl|simp [hz]) (cpuC_one1 _ _ _ rfl)
 clear hz
 replace K_o:V6.heap[V1.heap.size]?=some (.cells (cpuC pc (wrap64 (used+1)) rs (.slice SA fs.length sc)) 29 (0,0)):=KKV6
 replace zV:=hOV6.mid zV (by omega) (B:=0)
 replace K_a:=hOV6.mid K_a (by omega) (B:=0)
 replace zW:=hOV6.mid zW (by omega) (B:=0)
 have szV6:w9.heap.size≤V6.heap.size:=hOV6.size
 replace HB:=HB.trans (hOV6.below (by omega) HB.size)
 clear hOV6
 clear KKV6
 obtain ⟨V7,hSV7,KKV7,hOV7⟩:=st_arr (cs:=askC 5 0 0 0 0 0 0) size46 K_a (by first|rfl|simp) rfl (by simp [Value.oneCell'])
 replace K_a:V7.heap[V2.heap.size]?=some (.cells (askC 5 0 0 0 0 0 0) 46 (0,0)):=KKV7
 replace zV:=hOV7.mid zV (by omega) (B:=0)
 replace K_o:=hOV7.mid K_o (by omega) (B:=0)
 replace zW:=hOV7.mid zW (by omega) (B:=0)
 have szV7:V6.heap.size≤V7.heap.size:=hOV7.size
 replace HB:=HB.trans (hOV7.below (by omega) HB.size)
 clear hOV7
 clear KKV7
 have HX3:=zP (zU zV (zU K_o (zU K_a (zU zW (HB)))))
 clear HB zW K_a K_o zV
 go_wp2_with (first|refine wpList_st rfl rfl hSV6 ?_|refine wpList_st rfl rfl hSV7 ?_)
 obtain ⟨zV,K_o,K_a,zW,HB⟩:=HX3.out
 exact bodyPost_ret (results_cc rfl _ rfl K_o hu29 rfl (by rw [size29,zM (pc:=pc) (used:=(wrap64 (used+1))) (stk:=.slice SA fs.length sc) hl]) rfl K_a hu46 rfl (by rw [size46];rfl)) rfl (RSt.of hl ⟨rfl,HB⟩)
theorem rstep_0 (A:Option Addr) (c:Nat) (l:List S97) (pc used:Int) (rs:List S32) (SA:Option Addr) (sc:Nat) (fs:List FrameD) (vars fuel:Int) (W:World) (hL:Kd.C k97 W A l.length l) (hlc:l.length≤c) (hC:Kd.C kF W SA fs.length fs) (hsc:fs.length≤sc) (hl:rs.length=8) (hlen:l.length≤1000000) (hbig:fs.length≤100000) (hR:codeR (l.map conv74)=true) (hp0:0≤pc) (hp1:pc<l.length) (hfu:¬ fuel≤used) (o:S97) (ho:rd_T97 l pc=o) (hok:OpOK (conv74 o)) (hk:o.f0=0) :
  Calls Try.prog 14 #[.slice A l.length c,.agg (cpuC pc used rs (.slice SA fs.length sc)),zC zD vars,zC zD fuel] W (RSt W SA sc fs (opP ⟨pc,used,rs,fs⟩ (conv74 o) vars)):=by
 have hu29:=Try.underlying29
 have hu46:=Try.underlying46
 have hu26:=Try.underlying26
 have hu24:=Try.underlying24
 have hu97:=Try.underlying97
 have hu22:=Try.underlying22
 have e0:opP ⟨pc,used,rs,fs⟩ (conv74 o) vars=(⟨wrap64 (pc+1),wrap64 (used+1),rs.set o.f1.toNat ⟨1,o.f4⟩,fs⟩,ask0):=by
  simp only [opP,doesP,worthP,if_pos (show (conv74 o).f0=0 from hk)]
  rfl
 rw [e0]
 clear e0
 obtain ⟨a,ha⟩:∃ a:Nat,o.f1=a:=⟨o.f1.toNat,by have:=hok.a0;have:0≤o.f1:=this;omega⟩
 have ha8:a<8:=by have:o.f1<8:=hok.a1;omega
 have ha':o.f1.toNat=a:=by omega
 rw [ha']
 clear ha'
 have haH:=zP ha
 clear ha
 have h82:∀ v,(rs.set a v).length=8:=fun v=>by rw [List.length_set];exact hl
 have q0:o.f0=0:=by omega
 have q0':(o.f0==0)=true:=by simpa using q0
 have q1:¬ o.f0=1:=by omega
 have q1':(o.f0==1)=false:=by simpa using q1
 have q2:¬ o.f0=2:=by omega
 have q2':(o.f0==2)=false:=by simpa using q2
 have q3:¬ o.f0=3:=by omega
 have q3':(o.f0==3)=false:=by simpa using q3
 have q15:¬ o.f0=15:=by omega
 have q15':(o.f0==15)=false:=by simpa using q15
 have s7:o.f0≤7:=by omega
 have s9:o.f0≤9:=by omega
 have s11:o.f0≤11:=by omega
 have s14:o.f0≤14:=by omega
 clear hk q0
 obtain ⟨V1,hV1,KV1,hBV1⟩:=alz W (cpuC pc used rs (.slice SA fs.length sc)) 29
 have ltV1:W.heap.size<V1.heap.size:=zL KV1
 have zV:=KV1
 have HB:=hBV1
 clear KV1 hBV1
 obtain ⟨V2,hV2,KV2,hBV2⟩:=alz0 V1
 have ltV2:V1.heap.size<V2.heap.size:=zL KV2
 replace zV:=zI zV hBV2
 have K_o:=KV2
 replace HB:=zE HB hBV2
 clear KV2 hBV2
 obtain ⟨V3,hV3,KV3,hBV3⟩:=alz1 V2
 have ltV3:V2.heap.size<V3.heap.size:=zL KV3
 replace zV:=zI zV hBV3
 replace K_o:=zI K_o hBV3
 have K_a:=KV3
 replace HB:=zE HB hBV3
 clear KV3 hBV3
 have HRt:=zP (warpbeamref16_Right.calls (2 * l.length+1) A c l true V3 (Kd.C_below hL HB) hlc (by rw [ref_right l hlen _ (by omega),hR]))
 have HX1:=zP (zU zV (zU K_o (zU K_a (HB))))
 clear HB K_a K_o zV
 go_enter Try.func14,Try.ntmps14
 go_wp2_with fail
 refine HRt.out.mono ?_
 rintro e w4 ⟨rfl,hB4⟩
 clear HRt
 obtain ⟨zV,K_o,K_a,HB⟩:=HX1.out
 clear HX1
 replace zV:=zI zV hB4
 replace K_o:=zI K_o hB4
 replace K_a:=zI K_a hB4
 have szw4:V3.heap.size≤w4.heap.size:=hB4.size
 replace HB:=zE HB hB4
 have c1:w4.cell? ⟨W.heap.size,0,none⟩=some (zC zD pc):=zJ zV (0)
 have c2:w4.cell? ⟨W.heap.size,1,none⟩=some (zC zD used):=zJ zV (1)
 have p0:¬ pc<0:=by omega
 have p1:¬ (l.length:Int)<pc:=by omega
 have p2:¬ pc=(l.length:Int):=by omega
 have p2':(pc==(l.length:Int))=false:=by simpa using p2
 obtain ⟨ad,rfl,a0,a1,a2,a3,a4⟩:=at_T97 (Kd.C_below hL HB) pc hp0 hp1
 rw [ho] at a0 a1 a2 a3 a4
 obtain ⟨V4,hV4,KV4,hBV4⟩:=alz6 w4
 have ltV4:w4.heap.size<V4.heap.size:=zL KV4
 replace zV:=zI zV hBV4
 replace K_o:=zI K_o hBV4
 replace K_a:=zI K_a hBV4
 have zW:=KV4
 replace HB:=zE HB hBV4
 clear KV4 hBV4
 have c3:V4.cell? ⟨w4.heap.size,0,none⟩=some (zC zD 0):=zJ zW (0)
 have c4:V4.cell? ⟨w4.heap.size,1,none⟩=some (zC zD 0):=zJ zW (1)
 have c5:V4.cell? ⟨w4.heap.size,2,none⟩=some (zC zD 0):=zJ zW (2)
 have c6:V4.cell? ⟨w4.heap.size,3,none⟩=some (zC zD 0):=zJ zW (3)
 have c7:V4.cell? ⟨w4.heap.size,4,none⟩=some (zC zD 0):=zJ zW (4)
 have c8:=zK zW (0)
 have c9:=zK zW (1)
 have c10:=zK zW (2)
 have c11:=zK zW (3)
 have c12:=zK zW (4)
 obtain ⟨V5,hV5⟩:∃ V,((((V4.setCell ⟨w4.heap.size,0,none⟩ (zC zD o.f0)).setCell ⟨w4.heap.size,1,none⟩ (zC zD o.f1)).setCell ⟨w4.heap.size,2,none⟩ (zC zD o.f2)).setCell ⟨w4.heap.size,3,none⟩ (zC zD o.f3)).setCell ⟨w4.heap.size,4,none⟩ (zC zD o.f4)=V:=⟨_,rfl⟩
 have hOV5:Only w4.heap.size V4 V5:=by rw [← hV5];exact ((((Only.set _ _ _).trans (Only.set _ _ _)).trans (Only.set _ _ _)).trans (Only.set _ _ _)).trans (Only.set _ _ _)
 replace zW:V5.heap[w4.heap.size]?=some (.cells (#[zC zD o.f0,zC zD o.f1,zC zD o.f2,zC zD o.f3,zC zD o.f4]) 97 (0,0)):=by rw [← hV5];exact (blk_set (blk_set (blk_set (blk_set (blk_set zW _ _) _ _) _ _) _ _) _ _)
 replace zV:=hOV5.mid zV (by omega) (B:=0)
 replace K_o:=hOV5.mid K_o (by omega) (B:=0)
 replace K_a:=hOV5.mid K_a (by omega) (B:=0)
 have szV5:V4.heap.size≤V5.heap.size:=hOV5.size
 replace HB:=HB.trans (hOV5.below (by omega) HB.size)
 clear hOV5
 have c13:V5.cell? ⟨w4.heap.size,0,none⟩=some (zC zD o.f0):=zJ zW (0)
 have HX2:=zP (zU zV (zU K_o (zU K_a (zU zW (HB)))))
 clear HB zW K_a K_o zV
 go_wp2_with fail
 obtain ⟨zV,K_o,K_a,zW,HB⟩:=HX2.out
 clear HX2
 have n3:V1.heap.size≠V2.heap.size:=by omega
 obtain ⟨L,hL⟩:∃ L,L=[(V1.heap.size,[Obj.cells #[zC zD 0,zC zD 0,zC zD 0,zC zD 0,zC zD 0,zC zD 0,zC zD 0,zC zD 0,zC zD 0,zC zD 0,zC zD 0,zC zD 0,zC zD 0,zC zD 0,zC zD 0,zC zD 0,zC zD 0,zC zD 0,.slice none 0 0] 29 (0,0),Obj.cells (cpuC (wrap64 (pc+1)) (wrap64 (used+1)) (rs.set a ⟨1,o.f4⟩) (.slice SA fs.length sc)) 29 (0,0)]),(V2.heap.size,[Obj.cells #[zC zD 0,zC zD 0,zC zD 0,zC zD 0,zC zD 0,zC zD 0,zC zD 0] 46 (0,0),Obj.cells (askC 0 0 0 0 0 0 0) 46 (0,0)])]:=⟨_,rfl⟩
 have m1:(V1.heap.size,[Obj.cells #[zC zD 0,zC zD 0,zC zD 0,zC zD 0,zC zD 0,zC zD 0,zC zD 0,zC zD 0,zC zD 0,zC zD 0,zC zD 0,zC zD 0,zC zD 0,zC zD 0,zC zD 0,zC zD 0,zC zD 0,zC zD 0,.slice none 0 0] 29 (0,0),Obj.cells (cpuC (wrap64 (pc+1)) (wrap64 (used+1)) (rs.set a ⟨1,o.f4⟩) (.slice SA fs.length sc)) 29 (0,0)])∈L:=by subst hL;simp
 have m2:(V2.heap.size,[Obj.cells #[zC zD 0,zC zD 0,zC zD 0,zC zD 0,zC zD 0,zC zD 0,zC zD 0] 46 (0,0),Obj.cells (askC 0 0 0 0 0 0 0) 46 (0,0)])∈L:=by subst hL;simp
 have u1:∀ p∈L,p.1=V1.heap.size→p=(V1.heap.size,[Obj.cells #[zC zD 0,zC zD 0,zC zD 0,zC zD 0,zC zD 0,zC zD 0,zC zD 0,zC zD 0,zC zD 0,zC zD 0,zC zD 0,zC zD 0,zC zD 0,zC zD 0,zC zD 0,zC zD 0,zC zD 0,zC zD 0,.slice none 0 0] 29 (0,0),Obj.cells (cpuC (wrap64 (pc+1)) (wrap64 (used+1)) (rs.set a ⟨1,o.f4⟩) (.slice SA fs.length sc)) 29 (0,0)]):=by subst hL;simp;intro h;exact absurd h.symm n3
 have u2:∀ p∈L,p.1=V2.heap.size→p=(V2.heap.size,[Obj.cells #[zC zD 0,zC zD 0,zC zD 0,zC zD 0,zC zD 0,zC zD 0,zC zD 0] 46 (0,0),Obj.cells (askC 0 0 0 0 0 0 0) 46 (0,0)]):=by subst hL;simp;intro h;exact absurd h n3
 have o1:∀ W',Chain L V5 W'→At (V1.heap.size) [Obj.cells #[zC zD 0,zC zD 0,zC zD 0,zC zD 0,zC zD 0,zC zD 0,zC zD 0,zC zD 0,zC zD 0,zC zD 0,zC zD 0,zC zD 0,zC zD 0,zC zD 0,zC zD 0,zC zD 0,zC zD 0,zC zD 0,.slice none 0 0] 29 (0,0),Obj.cells (cpuC (wrap64 (pc+1)) (wrap64 (used+1)) (rs.set a ⟨1,o.f4⟩) (.slice SA fs.length sc)) 29 (0,0)] 0 W':=fun W' hB=>hB.on _ m1 0 ⟨0,_,Nat.le_refl _,rfl,K_o⟩
 have a1:∀ W',Chain L V5 W'→At (V2.heap.size) [Obj.cells #[zC zD 0,zC zD 0,zC zD 0,zC zD 0,zC zD 0,zC zD 0,zC zD 0] 46 (0,0),Obj.cells (askC 0 0 0 0 0 0 0) 46 (0,0)] 0 W':=fun W' hB=>hB.on _ m2 0 ⟨0,_,Nat.le_refl _,rfl,K_a⟩
 have d1:∀ W',Chain L V5 W'→W'.heap[W.heap.size]?=some (.cells (cpuC pc used rs (.slice SA fs.length sc)) 29 (0,0)):=fun W' hB=>hB.mid zV (by subst hL;simp;omega)
 have d2:∀ W',Chain L V5 W'→W'.heap[w4.heap.size]?=some (.cells (#[zC zD o.f0,zC zD o.f1,zC zD o.f2,zC zD o.f3,zC zD o.f4]) 97 (0,0)):=fun W' hB=>hB.mid zW (by subst hL;simp;omega)
 have d3:∀ W',Chain L V5 W'→W'.cell? ⟨w4.heap.size,1,none⟩=some (zC zD a):=fun W' hB=>(zJ (d2 W' hB) 1).trans (by show some (Value.int .i64 o.f1)=_;rw [haH.out])
 have d4:∀ W',Chain L V5 W'→W'.cell? ⟨w4.heap.size,4,none⟩=some (zC zD o.f4):=fun W' hB=>zJ (d2 W' hB) 4
 apply GR.wp_region_grows (R:=Chain L) (by kernel_rfl) (by kernel_rfl)
 ·
  intro c a d v w h;cases d <;> exact h
 apply GR.gw_val (by rfl)
 ·
  (intro W' hB hD;exact exec_ld rfl (ld_whole (d1 W' hB) hu29 rfl (by rw [size29,zM hl])))
 simp only [Act.put,zQ,zS,zT]
 apply GR.gw_val (by rfl)
 ·
  (intro W' hB hD;have e3:=d3 W' hB;have e4:=d4 W' hB;go_simp;first|done|rfl)
 simp only [Act.put,zQ,zS,zT]
 apply GR.gw_val (by rfl)
 ·
  (intro W' hB hD;have e3:=d3 W' hB;have e4:=d4 W' hB;go_simp;first|done|rfl)
 simp only [Act.put,zQ,zS,zT]
 apply GR.gw_val (by rfl)
 ·
  (intro W' hB hD;have e3:=d3 W' hB;have e4:=d4 W' hB;go_simp;first|done|rfl)
 simp only [Act.put,zQ,zS,zT]
 apply GR.gw_val (by rfl)
 ·
  (intro W' hB hD;have e3:=d3 W' hB;have e4:=d4 W' hB;go_simp;first|done|rfl)
 simp only [Act.put,zQ,zS,zT]
 apply GR.gw_call (by rfl)
 ·
  (intro W' hB hD;go_simp;first|done|rfl|exact ⟨rfl,rfl⟩)
 ·
  (intro W' hB hD;exact (warpbeamref17_number.calls o.f4 1 o.f4 W' rfl).mono fun x w' hh=>⟨hh.1,GR.Rel.ofB hh.2⟩)
 simp only [Act.put,zQ,zS,zT]
 apply GR.gw_call (by rfl)
 ·
  (intro W' hB hD;go_simp;first|done|rfl|exact ⟨rfl,rfl⟩)
 ·
  (intro W' hB hD;exact (rset_calls pc used rs (.slice SA fs.length sc) a ⟨1,o.f4⟩ W' hl rfl ha8).mono fun x w' hh=>⟨hh.1,GR.Rel.ofB hh.2⟩)
 simp only [Act.put,zQ,zS,zT]
 apply GR.gw_val (by rfl)
 ·
  (intro W' hB hD;go_simp;first|done|rfl)
 simp only [Act.put,zQ,zS,zT]
 apply GR.gw_val (by rfl)
 ·
  (intro W' hB hD;go_simp;first|done|rfl)
 simp only [Act.put,zQ,zS,zT]
 apply GR.gw_skp (stable_At m1 1) (by rfl) (by rfl)
 ·
  intro W' hB hD
  obtain ⟨W'',e1,e2,e3⟩:=chain_whole (ty:=29) m1 u1 (o1 W' hB) (by rw [(zM (pc:=wrap64 (pc+1)) (used:=wrap64 (used+1)) (stk:=.slice SA fs.length sc) (rs:=rs.set a ⟨1,o.f4⟩) (h82 _))];rfl) (by rw [size29,(zM (pc:=wrap64 (pc+1)) (used:=wrap64 (used+1)) (stk:=.slice SA fs.length sc) (rs:=rs.set a ⟨1,o.f4⟩) (h82 _))]) (cpuC_one1 _ _ _ rfl)
  exact ⟨W'',exec_st rfl e1,e2,e3⟩
 rintro v -
 apply GR.gw_skp (stable_At m2 1) (by rfl) (by rfl)
 ·
  intro W' hB hD
  obtain ⟨W'',e1,e2,e3⟩:=chain_whole (ty:=46) m2 u2 (a1 W' hB) (by rfl) (by rw [size46];rfl) (by simp [Value.oneCell'])
  exact ⟨W'',exec_st rfl e1,e2,e3⟩
 rintro v' -
 apply GR.gw_nil
 intro Wa hW hF hP
 simp [List.forall_mem_append] at hF
 subst hL
 have hT:=Two.of_chain hW hF.1 hF.2
 have HE:=zP (zU hT.o (zU hT.a ((HB).trans (show Below W.heap.size _ Wa from ⟨hT.os,hT.tape,hT.output,hT.size,fun k hk=>hT.block k (by omega) (by omega) (by omega)⟩))))
 clear hT hW hF hP o1 a1 m1 m2 u1 u2 d4 d3 d2 d1 zV K_o K_a zW HB
 go_wp2_with fail
 exact bodyPost_ret (results_cc rfl _ rfl HE.out.1 hu29 rfl (by rw [size29,(zM (pc:=wrap64 (pc+1)) (used:=wrap64 (used+1)) (stk:=.slice SA fs.length sc) (rs:=rs.set a ⟨1,o.f4⟩) (h82 _))]) rfl HE.out.2.1 hu46 rfl (by rw [size46];rfl)) rfl (RSt.of (h82 _) ⟨rfl,HE.out.2.2⟩)
theorem rstep_1 (A:Option Addr) (c:Nat) (l:List S97) (pc used:Int) (rs:List S32) (SA:Option Addr) (sc:Nat) (fs:List FrameD) (vars fuel:Int) (W:World) (hL:Kd.C k97 W A l.length l) (hlc:l.length≤c) (hC:Kd.C kF W SA fs.length fs) (hsc:fs.length≤sc) (hl:rs.length=8) (hlen:l.length≤1000000) (hbig:fs.length≤100000) (hR:codeR (l.map conv74)=true) (hp0:0≤pc) (hp1:pc<l.length) (hfu:¬ fuel≤used) (o:S97) (ho:rd_T97 l pc=o) (hok:OpOK (conv74 o)) (hk:o.f0=1) :
  Calls Try.prog 14 #[.slice A l.length c,.agg (cpuC pc used rs (.slice SA fs.length sc)),zC zD vars,zC zD fuel] W (RSt W SA sc fs (opP ⟨pc,used,rs,fs⟩ (conv74 o) vars)):=by
 have hu29:=Try.underlying29
 have hu46:=Try.underlying46
 have hu26:=Try.underlying26
 have hu24:=Try.underlying24
 have hu97:=Try.underlying97
 have hu22:=Try.underlying22
 have e0:opP ⟨pc,used,rs,fs⟩ (conv74 o) vars=(⟨wrap64 (pc+1),wrap64 (used+1),rs.set o.f1.toNat ⟨0,0⟩,fs⟩,ask0):=by
  simp only [opP,doesP,worthP,if_neg (show ¬ (conv74 o).f0=0 from by show ¬ o.f0=0;omega),if_pos (show (conv74 o).f0=1 from hk)]
  rfl
 rw [e0]
 clear e0
 obtain ⟨a,ha⟩:∃ a:Nat,o.f1=a:=⟨o.f1.toNat,by have:=hok.a0;have:0≤o.f1:=this;omega⟩
 have ha8:a<8:=by have:o.f1<8:=hok.a1;omega
 have ha':o.f1.toNat=a:=by omega
 rw [ha']
 clear ha'
 have haH:=zP ha
 clear ha
 have h82:∀ v,(rs.set a v).length=8:=fun v=>by rw [List.length_set];exact hl
 have q0:¬ o.f0=0:=by omega
 have q0':(o.f0==0)=false:=by simpa using q0
 have q1:o.f0=1:=by omega
 have q1':(o.f0==1)=true:=by simpa using q1
 have q2:¬ o.f0=2:=by omega
 have q2':(o.f0==2)=false:=by simpa using q2
 have q3:¬ o.f0=3:=by omega
 have q3':(o.f0==3)=false:=by simpa using q3
 have q15:¬ o.f0=15:=by omega
 have q15':(o.f0==15)=false:=by simpa using q15
 have s7:o.f0≤7:=by omega
 have s9:o.f0≤9:=by omega
 have s11:o.f0≤11:=by omega
 have s14:o.f0≤14:=by omega
 clear hk q1
 obtain ⟨V1,hV1,KV1,hBV1⟩:=alz W (cpuC pc used rs (.slice SA fs.length sc)) 29
 have ltV1:W.heap.size<V1.heap.size:=zL KV1
 have zV:=KV1
 have HB:=hBV1
 clear KV1 hBV1
 obtain ⟨V2,hV2,KV2,hBV2⟩:=alz0 V1
 have ltV2:V1.heap.size<V2.heap.size:=zL KV2
 replace zV:=zI zV hBV2
 have K_o:=KV2
 replace HB:=zE HB hBV2
 clear KV2 hBV2
 obtain ⟨V3,hV3,KV3,hBV3⟩:=alz1 V2
 have ltV3:V2.heap.size<V3.heap.size:=zL KV3
 replace zV:=zI zV hBV3
 replace K_o:=zI K_o hBV3
 have K_a:=KV3
 replace HB:=zE HB hBV3
 clear KV3 hBV3
 have HRt:=zP (warpbeamref16_Right.calls (2 * l.length+1) A c l true V3 (Kd.C_below hL HB) hlc (by rw [ref_right l hlen _ (by omega),hR]))
 have HX1:=zP (zU zV (zU K_o (zU K_a (HB))))
 clear HB K_a K_o zV
 go_enter Try.func14,Try.ntmps14
 go_wp2_with fail
 refine HRt.out.mono ?_
 rintro e w4 ⟨rfl,hB4⟩
 clear HRt
 obtain ⟨zV,K_o,K_a,HB⟩:=HX1.out
 clear HX1
 replace zV:=zI zV hB4
 replace K_o:=zI K_o hB4
 replace K_a:=zI K_a hB4
 have szw4:V3.heap.size≤w4.heap.size:=hB4.size
 replace HB:=zE HB hB4
 have c1:w4.cell? ⟨W.heap.size,0,none⟩=some (zC zD pc):=zJ zV (0)
 have c2:w4.cell? ⟨W.heap.size,1,none⟩=some (zC zD used):=zJ zV (1)
 have p0:¬ pc<0:=by omega
 have p1:¬ (l.length:Int)<pc:=by omega
 have p2:¬ pc=(l.length:Int):=by omega
 have p2':(pc==(l.length:Int))=false:=by simpa using p2
 obtain ⟨ad,rfl,a0,a1,a2,a3,a4⟩:=at_T97 (Kd.C_below hL HB) pc hp0 hp1
 rw [ho] at a0 a1 a2 a3 a4
 obtain ⟨V4,hV4,KV4,hBV4⟩:=alz6 w4
 have ltV4:w4.heap.size<V4.heap.size:=zL KV4
 replace zV:=zI zV hBV4
 replace K_o:=zI K_o hBV4
 replace K_a:=zI K_a hBV4
 have zW:=KV4
 replace HB:=zE HB hBV4
 clear KV4 hBV4
 have c3:V4.cell? ⟨w4.heap.size,0,none⟩=some (zC zD 0):=zJ zW (0)
 have c4:V4.cell? ⟨w4.heap.size,1,none⟩=some (zC zD 0):=zJ zW (1)
 have c5:V4.cell? ⟨w4.heap.size,2,none⟩=some (zC zD 0):=zJ zW (2)
 have c6:V4.cell? ⟨w4.heap.size,3,none⟩=some (zC zD 0):=zJ zW (3)
 have c7:V4.cell? ⟨w4.heap.size,4,none⟩=some (zC zD 0):=zJ zW (4)
 have c8:=zK zW (0)
 have c9:=zK zW (1)
 have c10:=zK zW (2)
 have c11:=zK zW (3)
 have c12:=zK zW (4)
 obtain ⟨V5,hV5⟩:∃ V,((((V4.setCell ⟨w4.heap.size,0,none⟩ (zC zD o.f0)).setCell ⟨w4.heap.size,1,none⟩ (zC zD o.f1)).setCell ⟨w4.heap.size,2,none⟩ (zC zD o.f2)).setCell ⟨w4.heap.size,3,none⟩ (zC zD o.f3)).setCell ⟨w4.heap.size,4,none⟩ (zC zD o.f4)=V:=⟨_,rfl⟩
 have hOV5:Only w4.heap.size V4 V5:=by rw [← hV5];exact ((((Only.set _ _ _).trans (Only.set _ _ _)).trans (Only.set _ _ _)).trans (Only.set _ _ _)).trans (Only.set _ _ _)
 replace zW:V5.heap[w4.heap.size]?=some (.cells (#[zC zD o.f0,zC zD o.f1,zC zD o.f2,zC zD o.f3,zC zD o.f4]) 97 (0,0)):=by rw [← hV5];exact (blk_set (blk_set (blk_set (blk_set (blk_set zW _ _) _ _) _ _) _ _) _ _)
 replace zV:=hOV5.mid zV (by omega) (B:=0)
 replace K_o:=hOV5.mid K_o (by omega) (B:=0)
 replace K_a:=hOV5.mid K_a (by omega) (B:=0)
 have szV5:V4.heap.size≤V5.heap.size:=hOV5.size
 replace HB:=HB.trans (hOV5.below (by omega) HB.size)
 clear hOV5
 have c13:V5.cell? ⟨w4.heap.size,0,none⟩=some (zC zD o.f0):=zJ zW (0)
 have hL14:=ld_whole (P:=Try.prog) (ty:=29) zV Try.underlying29 rfl (by first|rfl|(rw [size29];rfl)|(rw [size29];have:=zM hl;simp [this])|(rw [size29,zM hl]))
 have c15:V5.cell? ⟨w4.heap.size,1,none⟩=some (zC zD a):=(zJ zW (1)).trans (by show some (Value.int .i64 o.f1)=_;rw [haH.out])
 have HF:=zP (rset_calls pc used rs (.slice SA fs.length sc) a ⟨0,0⟩ V5 hl rfl ha8)
 have HX2:=zP (zU zV (zU K_o (zU K_a (zU zW (HB)))))
 clear HB zW K_a K_o zV
 go_wp2_with (refine wpList_ld rfl rfl hL14 ?_)
 refine HF.out.mono ?_
 rintro e w9 ⟨rfl,hB9⟩
 obtain ⟨zV,K_o,K_a,zW,HB⟩:=HX2.out
 clear HX2
 replace zV:=zI zV hB9
 replace K_o:=zI K_o hB9
 replace K_a:=zI K_a hB9
 replace zW:=zI zW hB9
 have szw9:V5.heap.size≤w9.heap.size:=hB9.size
 replace HB:=zE HB hB9
 have hz:=zM (pc:=wrap64 (pc+1)) (used:=wrap64 (used+1)) (stk:=.slice SA fs.length sc) (rs:=rs.set a ⟨0,0⟩) (h82 _)
 obtain ⟨V6,hSV6,KKV6,hOV6⟩:=st_arr (cs:=cpuC (wrap64 (pc+1)) (wrap64 (used+1)) (rs.set a ⟨0,0⟩) (.slice SA fs.length sc)) size29 K_o (by first|rfl|simp [hz]) (by first|rfl|simp [hz]) (cpuC_one1 _ _ _ rfl)
 clear hz
 replace K_o:V6.heap[V1.heap.size]?=some (.cells (cpuC (wrap64 (pc+1)) (wrap64 (used+1)) (rs.set a ⟨0,0⟩) (.slice SA fs.length sc)) 29 (0,0)):=KKV6
 replace zV:=hOV6.mid zV (by omega) (B:=0)
 replace K_a:=hOV6.mid K_a (by omega) (B:=0)
 replace zW:=hOV6.mid zW (by omega) (B:=0)
 have szV6:w9.heap.size≤V6.heap.size:=hOV6.size
 replace HB:=HB.trans (hOV6.below (by omega) HB.size)
 clear hOV6
 clear KKV6
 obtain ⟨V7,hSV7,KKV7,hOV7⟩:=st_arr (cs:=askC 0 0 0 0 0 0 0) size46 K_a (by first|rfl|simp) rfl (by simp [Value.oneCell'])
 replace K_a:V7.heap[V2.heap.size]?=some (.cells (askC 0 0 0 0 0 0 0) 46 (0,0)):=KKV7
 replace zV:=hOV7.mid zV (by omega) (B:=0)
 replace K_o:=hOV7.mid K_o (by omega) (B:=0)
 replace zW:=hOV7.mid zW (by omega) (B:=0)
 have szV7:V6.heap.size≤V7.heap.size:=hOV7.size
 replace HB:=HB.trans (hOV7.below (by omega) HB.size)
 clear hOV7
 clear KKV7
 have HX3:=zP (zU zV (zU K_o (zU K_a (zU zW (HB)))))
 clear HB zW K_a K_o zV
 go_wp2_with (first|refine wpList_st rfl rfl hSV6 ?_|refine wpList_st rfl rfl hSV7 ?_)
 obtain ⟨zV,K_o,K_a,zW,HB⟩:=HX3.out
 exact bodyPost_ret (results_cc rfl _ rfl K_o hu29 rfl (by rw [size29,zM (pc:=wrap64 (pc+1)) (used:=wrap64 (used+1)) (stk:=.slice SA fs.length sc) (rs:=rs.set a ⟨0,0⟩) (h82 _)]) rfl K_a hu46 rfl (by rw [size46];rfl)) rfl (RSt.of (h82 _) ⟨rfl,HB⟩)
theorem rstep_2 (A:Option Addr) (c:Nat) (l:List S97) (pc used:Int) (rs:List S32) (SA:Option Addr) (sc:Nat) (fs:List FrameD) (vars fuel:Int) (W:World) (hL:Kd.C k97 W A l.length l) (hlc:l.length≤c) (hC:Kd.C kF W SA fs.length fs) (hsc:fs.length≤sc) (hl:rs.length=8) (hlen:l.length≤1000000) (hbig:fs.length≤100000) (hR:codeR (l.map conv74)=true) (hp0:0≤pc) (hp1:pc<l.length) (hfu:¬ fuel≤used) (o:S97) (ho:rd_T97 l pc=o) (hok:OpOK (conv74 o)) (hk:o.f0=2) :
  Calls Try.prog 14 #[.slice A l.length c,.agg (cpuC pc used rs (.slice SA fs.length sc)),zC zD vars,zC zD fuel] W (RSt W SA sc fs (opP ⟨pc,used,rs,fs⟩ (conv74 o) vars)):=by
 have hu29:=Try.underlying29
 have hu46:=Try.underlying46
 have hu26:=Try.underlying26
 have hu24:=Try.underlying24
 have hu97:=Try.underlying97
 have hu22:=Try.underlying22
 have e0:opP ⟨pc,used,rs,fs⟩ (conv74 o) vars=(⟨wrap64 (pc+1),wrap64 (used+1),rs.set o.f1.toNat ⟨2,o.f2⟩,fs⟩,ask0):=by
  simp only [opP,doesP,worthP,if_neg (show ¬ (conv74 o).f0=0 from by show ¬ o.f0=0;omega),if_neg (show ¬ (conv74 o).f0=1 from by show ¬ o.f0=1;omega),if_pos (show (conv74 o).f0=2 from hk)]
  rfl
 rw [e0]
 clear e0
 obtain ⟨a,ha⟩:∃ a:Nat,o.f1=a:=⟨o.f1.toNat,by have:=hok.a0;have:0≤o.f1:=this;omega⟩
 have ha8:a<8:=by have:o.f1<8:=hok.a1;omega
 have ha':o.f1.toNat=a:=by omega
 rw [ha']
 clear ha'
 have haH:=zP ha
 clear ha
 have h82:∀ v,(rs.set a v).length=8:=fun v=>by rw [List.length_set];exact hl
 have q0:¬ o.f0=0:=by omega
 have q0':(o.f0==0)=false:=by simpa using q0
 have q1:¬ o.f0=1:=by omega
 have q1':(o.f0==1)=false:=by simpa using q1
 have q2:o.f0=2:=by omega
 have q2':(o.f0==2)=true:=by simpa using q2
 have q3:¬ o.f0=3:=by omega
 have q3':(o.f0==3)=false:=by simpa using q3
 have q15:¬ o.f0=15:=by omega
 have q15':(o.f0==15)=false:=by simpa using q15
 have s7:o.f0≤7:=by omega
 have s9:o.f0≤9:=by omega
 have s11:o.f0≤11:=by omega
 have s14:o.f0≤14:=by omega
 clear hk q2
 obtain ⟨V1,hV1,KV1,hBV1⟩:=alz W (cpuC pc used rs (.slice SA fs.length sc)) 29
 have ltV1:W.heap.size<V1.heap.size:=zL KV1
 have zV:=KV1
 have HB:=hBV1
 clear KV1 hBV1
 obtain ⟨V2,hV2,KV2,hBV2⟩:=alz0 V1
 have ltV2:V1.heap.size<V2.heap.size:=zL KV2
 replace zV:=zI zV hBV2
 have K_o:=KV2
 replace HB:=zE HB hBV2
 clear KV2 hBV2
 obtain ⟨V3,hV3,KV3,hBV3⟩:=alz1 V2
 have ltV3:V2.heap.size<V3.heap.size:=zL KV3
 replace zV:=zI zV hBV3
 replace K_o:=zI K_o hBV3
 have K_a:=KV3
 replace HB:=zE HB hBV3
 clear KV3 hBV3
 have HRt:=zP (warpbeamref16_Right.calls (2 * l.length+1) A c l true V3 (Kd.C_below hL HB) hlc (by rw [ref_right l hlen _ (by omega),hR]))
 have HX1:=zP (zU zV (zU K_o (zU K_a (HB))))
 clear HB K_a K_o zV
 go_enter Try.func14,Try.ntmps14
 go_wp2_with fail
 refine HRt.out.mono ?_
 rintro e w4 ⟨rfl,hB4⟩
 clear HRt
 obtain ⟨zV,K_o,K_a,HB⟩:=HX1.out
 clear HX1
 replace zV:=zI zV hB4
 replace K_o:=zI K_o hB4
 replace K_a:=zI K_a hB4
 have szw4:V3.heap.size≤w4.heap.size:=hB4.size
 replace HB:=zE HB hB4
 have c1:w4.cell? ⟨W.heap.size,0,none⟩=some (zC zD pc):=zJ zV (0)
 have c2:w4.cell? ⟨W.heap.size,1,none⟩=some (zC zD used):=zJ zV (1)
 have p0:¬ pc<0:=by omega
 have p1:¬ (l.length:Int)<pc:=by omega
 have p2:¬ pc=(l.length:Int):=by omega
 have p2':(pc==(l.length:Int))=false:=by simpa using p2
 obtain ⟨ad,rfl,a0,a1,a2,a3,a4⟩:=at_T97 (Kd.C_below hL HB) pc hp0 hp1
 rw [ho] at a0 a1 a2 a3 a4
 obtain ⟨V4,hV4,KV4,hBV4⟩:=alz6 w4
 have ltV4:w4.heap.size<V4.heap.size:=zL KV4
 replace zV:=zI zV hBV4
 replace K_o:=zI K_o hBV4
 replace K_a:=zI K_a hBV4
 have zW:=KV4
 replace HB:=zE HB hBV4
 clear KV4 hBV4
 have c3:V4.cell? ⟨w4.heap.size,0,none⟩=some (zC zD 0):=zJ zW (0)
 have c4:V4.cell? ⟨w4.heap.size,1,none⟩=some (zC zD 0):=zJ zW (1)
 have c5:V4.cell? ⟨w4.heap.size,2,none⟩=some (zC zD 0):=zJ zW (2)
 have c6:V4.cell? ⟨w4.heap.size,3,none⟩=some (zC zD 0):=zJ zW (3)
 have c7:V4.cell? ⟨w4.heap.size,4,none⟩=some (zC zD 0):=zJ zW (4)
 have c8:=zK zW (0)
 have c9:=zK zW (1)
 have c10:=zK zW (2)
 have c11:=zK zW (3)
 have c12:=zK zW (4)
 obtain ⟨V5,hV5⟩:∃ V,((((V4.setCell ⟨w4.heap.size,0,none⟩ (zC zD o.f0)).setCell ⟨w4.heap.size,1,none⟩ (zC zD o.f1)).setCell ⟨w4.heap.size,2,none⟩ (zC zD o.f2)).setCell ⟨w4.heap.size,3,none⟩ (zC zD o.f3)).setCell ⟨w4.heap.size,4,none⟩ (zC zD o.f4)=V:=⟨_,rfl⟩
 have hOV5:Only w4.heap.size V4 V5:=by rw [← hV5];exact ((((Only.set _ _ _).trans (Only.set _ _ _)).trans (Only.set _ _ _)).trans (Only.set _ _ _)).trans (Only.set _ _ _)
 replace zW:V5.heap[w4.heap.size]?=some (.cells (#[zC zD o.f0,zC zD o.f1,zC zD o.f2,zC zD o.f3,zC zD o.f4]) 97 (0,0)):=by rw [← hV5];exact (blk_set (blk_set (blk_set (blk_set (blk_set zW _ _) _ _) _ _) _ _) _ _)
 replace zV:=hOV5.mid zV (by omega) (B:=0)
 replace K_o:=hOV5.mid K_o (by omega) (B:=0)
 replace K_a:=hOV5.mid K_a (by omega) (B:=0)
 have szV5:V4.heap.size≤V5.heap.size:=hOV5.size
 replace HB:=HB.trans (hOV5.below (by omega) HB.size)
 clear hOV5
 have c13:V5.cell? ⟨w4.heap.size,0,none⟩=some (zC zD o.f0):=zJ zW (0)
 have hL14:=ld_whole (P:=Try.prog) (ty:=29) zV Try.underlying29 rfl (by first|rfl|(rw [size29];rfl)|(rw [size29];have:=zM hl;simp [this])|(rw [size29,zM hl]))
 have c15:V5.cell? ⟨w4.heap.size,1,none⟩=some (zC zD a):=(zJ zW (1)).trans (by show some (Value.int .i64 o.f1)=_;rw [haH.out])
 have c16:V5.cell? ⟨w4.heap.size,2,none⟩=some (zC zD o.f2):=zJ zW (2)
 have HF:=zP (rset_calls pc used rs (.slice SA fs.length sc) a ⟨2,o.f2⟩ V5 hl rfl ha8)
 have HX2:=zP (zU zV (zU K_o (zU K_a (zU zW (HB)))))
 clear HB zW K_a K_o zV
 go_wp2_with (refine wpList_ld rfl rfl hL14 ?_)
 refine HF.out.mono ?_
 rintro e w9 ⟨rfl,hB9⟩
 obtain ⟨zV,K_o,K_a,zW,HB⟩:=HX2.out
 clear HX2
 replace zV:=zI zV hB9
 replace K_o:=zI K_o hB9
 replace K_a:=zI K_a hB9
 replace zW:=zI zW hB9
 have szw9:V5.heap.size≤w9.heap.size:=hB9.size
 replace HB:=zE HB hB9
 have hz:=zM (pc:=wrap64 (pc+1)) (used:=wrap64 (used+1)) (stk:=.slice SA fs.length sc) (rs:=rs.set a ⟨2,o.f2⟩) (h82 _)
 obtain ⟨V6,hSV6,KKV6,hOV6⟩:=st_arr (cs:=cpuC (wrap64 (pc+1)) (wrap64 (used+1)) (rs.set a ⟨2,o.f2⟩) (.slice SA fs.length sc)) size29 K_o (by first|rfl|simp [hz]) (by first|rfl|simp [hz]) (cpuC_one1 _ _ _ rfl)
 clear hz
 replace K_o:V6.heap[V1.heap.size]?=some (.cells (cpuC (wrap64 (pc+1)) (wrap64 (used+1)) (rs.set a ⟨2,o.f2⟩) (.slice SA fs.length sc)) 29 (0,0)):=KKV6
 replace zV:=hOV6.mid zV (by omega) (B:=0)
 replace K_a:=hOV6.mid K_a (by omega) (B:=0)
 replace zW:=hOV6.mid zW (by omega) (B:=0)
 have szV6:w9.heap.size≤V6.heap.size:=hOV6.size
 replace HB:=HB.trans (hOV6.below (by omega) HB.size)
 clear hOV6
 clear KKV6
 obtain ⟨V7,hSV7,KKV7,hOV7⟩:=st_arr (cs:=askC 0 0 0 0 0 0 0) size46 K_a (by first|rfl|simp) rfl (by simp [Value.oneCell'])
 replace K_a:V7.heap[V2.heap.size]?=some (.cells (askC 0 0 0 0 0 0 0) 46 (0,0)):=KKV7
 replace zV:=hOV7.mid zV (by omega) (B:=0)
 replace K_o:=hOV7.mid K_o (by omega) (B:=0)
 replace zW:=hOV7.mid zW (by omega) (B:=0)
 have szV7:V6.heap.size≤V7.heap.size:=hOV7.size
 replace HB:=HB.trans (hOV7.below (by omega) HB.size)
 clear hOV7
 clear KKV7
 have HX3:=zP (zU zV (zU K_o (zU K_a (zU zW (HB)))))
 clear HB zW K_a K_o zV
 go_wp2_with (first|refine wpList_st rfl rfl hSV6 ?_|refine wpList_st rfl rfl hSV7 ?_)
 obtain ⟨zV,K_o,K_a,zW,HB⟩:=HX3.out
 exact bodyPost_ret (results_cc rfl _ rfl K_o hu29 rfl (by rw [size29,zM (pc:=wrap64 (pc+1)) (used:=wrap64 (used+1)) (stk:=.slice SA fs.length sc) (rs:=rs.set a ⟨2,o.f2⟩) (h82 _)]) rfl K_a hu46 rfl (by rw [size46];rfl)) rfl (RSt.of (h82 _) ⟨rfl,HB⟩)
theorem rstep_3 (A:Option Addr) (c:Nat) (l:List S97) (pc used:Int) (rs:List S32) (SA:Option Addr) (sc:Nat) (fs:List FrameD) (vars fuel:Int) (W:World) (hL:Kd.C k97 W A l.length l) (hlc:l.length≤c) (hC:Kd.C kF W SA fs.length fs) (hsc:fs.length≤sc) (hl:rs.length=8) (hlen:l.length≤1000000) (hbig:fs.length≤100000) (hR:codeR (l.map conv74)=true) (hp0:0≤pc) (hp1:pc<l.length) (hfu:¬ fuel≤used) (o:S97) (ho:rd_T97 l pc=o) (hok:OpOK (conv74 o)) (hk:o.f0=3) :
  Calls Try.prog 14 #[.slice A l.length c,.agg (cpuC pc used rs (.slice SA fs.length sc)),zC zD vars,zC zD fuel] W (RSt W SA sc fs (opP ⟨pc,used,rs,fs⟩ (conv74 o) vars)):=by
 have hu29:=Try.underlying29
 have hu46:=Try.underlying46
 have hu26:=Try.underlying26
 have hu24:=Try.underlying24
 have hu97:=Try.underlying97
 have hu22:=Try.underlying22
 have e0:opP ⟨pc,used,rs,fs⟩ (conv74 o) vars=(⟨wrap64 (pc+1),wrap64 (used+1),rs.set o.f1.toNat (regA rs o.f2),fs⟩,ask0):=by
  simp only [opP,doesP,worthP,if_neg (show ¬ (conv74 o).f0=0 from by show ¬ o.f0=0;omega),if_neg (show ¬ (conv74 o).f0=1 from by show ¬ o.f0=1;omega),if_neg (show ¬ (conv74 o).f0=2 from by show ¬ o.f0=2;omega),if_pos (show (conv74 o).f0=3 from hk)]
  rfl
 rw [e0]
 clear e0
 obtain ⟨a,ha⟩:∃ a:Nat,o.f1=a:=⟨o.f1.toNat,by have:=hok.a0;have:0≤o.f1:=this;omega⟩
 have ha8:a<8:=by have:o.f1<8:=hok.a1;omega
 have ha':o.f1.toNat=a:=by omega
 rw [ha']
 clear ha'
 have haH:=zP ha
 clear ha
 have hb8:o.f2<8:=hok.b1 (by show ¬ o.f0=2;omega)
 have hb0:0≤o.f2:=hok.b0
 obtain ⟨b,hb⟩:∃ b:Nat,o.f2=b:=⟨o.f2.toNat,by omega⟩
 have hb8n:b<8:=by omega
 have hb8i:(b:Int)<8:=by omega
 have xb:rs[b]?=some (regA rs o.f2):=by rw [hb];unfold regA;simp [hl,hb8n]
 generalize regA rs o.f2=vr at *
 have rb:=cpuC_reg (pc:=pc) (used:=used) (stk:=.slice SA fs.length sc) xb
 clear hb8 hb0
 have hbH:=zP hb
 clear hb
 have h82:∀ v,(rs.set a v).length=8:=fun v=>by rw [List.length_set];exact hl
 have q0:¬ o.f0=0:=by omega
 have q0':(o.f0==0)=false:=by simpa using q0
 have q1:¬ o.f0=1:=by omega
 have q1':(o.f0==1)=false:=by simpa using q1
 have q2:¬ o.f0=2:=by omega
 have q2':(o.f0==2)=false:=by simpa using q2
 have q3:o.f0=3:=by omega
 have q3':(o.f0==3)=true:=by simpa using q3
 have q15:¬ o.f0=15:=by omega
 have q15':(o.f0==15)=false:=by simpa using q15
 have s7:o.f0≤7:=by omega
 have s9:o.f0≤9:=by omega
 have s11:o.f0≤11:=by omega
 have s14:o.f0≤14:=by omega
 clear hk q3
 obtain ⟨V1,hV1,KV1,hBV1⟩:=alz W (cpuC pc used rs (.slice SA fs.length sc)) 29
 have ltV1:W.heap.size<V1.heap.size:=zL KV1
 have zV:=KV1
 have HB:=hBV1
 clear KV1 hBV1
 obtain ⟨V2,hV2,KV2,hBV2⟩:=alz0 V1
 have ltV2:V1.heap.size<V2.heap.size:=zL KV2
 replace zV:=zI zV hBV2
 have K_o:=KV2
 replace HB:=zE HB hBV2
 clear KV2 hBV2
 obtain ⟨V3,hV3,KV3,hBV3⟩:=alz1 V2
 have ltV3:V2.heap.size<V3.heap.size:=zL KV3
 replace zV:=zI zV hBV3
 replace K_o:=zI K_o hBV3
 have K_a:=KV3
 replace HB:=zE HB hBV3
 clear KV3 hBV3
 have HRt:=zP (warpbeamref16_Right.calls (2 * l.length+1) A c l true V3 (Kd.C_below hL HB) hlc (by rw [ref_right l hlen _ (by omega),hR]))
 have HX1:=zP (zU zV (zU K_o (zU K_a (HB))))
 clear HB K_a K_o zV
 go_enter Try.func14,Try.ntmps14
 go_wp2_with fail
 refine HRt.out.mono ?_
 rintro e w4 ⟨rfl,hB4⟩
 clear HRt
 obtain ⟨zV,K_o,K_a,HB⟩:=HX1.out
 clear HX1
 replace zV:=zI zV hB4
 replace K_o:=zI K_o hB4
 replace K_a:=zI K_a hB4
 have szw4:V3.heap.size≤w4.heap.size:=hB4.size
 replace HB:=zE HB hB4
 have c1:w4.cell? ⟨W.heap.size,0,none⟩=some (zC zD pc):=zJ zV (0)
 have c2:w4.cell? ⟨W.heap.size,1,none⟩=some (zC zD used):=zJ zV (1)
 have p0:¬ pc<0:=by omega
 have p1:¬ (l.length:Int)<pc:=by omega
 have p2:¬ pc=(l.length:Int):=by omega
 have p2':(pc==(l.length:Int))=false:=by simpa using p2
 obtain ⟨ad,rfl,a0,a1,a2,a3,a4⟩:=at_T97 (Kd.C_below hL HB) pc hp0 hp1
 rw [ho] at a0 a1 a2 a3 a4
 obtain ⟨V4,hV4,KV4,hBV4⟩:=alz6 w4
 have ltV4:w4.heap.size<V4.heap.size:=zL KV4
 replace zV:=zI zV hBV4
 replace K_o:=zI K_o hBV4
 replace K_a:=zI K_a hBV4
 have zW:=KV4
 replace HB:=zE HB hBV4
 clear KV4 hBV4
 have c3:V4.cell? ⟨w4.heap.size,0,none⟩=some (zC zD 0):=zJ zW (0)
 have c4:V4.cell? ⟨w4.heap.size,1,none⟩=some (zC zD 0):=zJ zW (1)
 have c5:V4.cell? ⟨w4.heap.size,2,none⟩=some (zC zD 0):=zJ zW (2)
 have c6:V4.cell? ⟨w4.heap.size,3,none⟩=some (zC zD 0):=zJ zW (3)
 have c7:V4.cell? ⟨w4.heap.size,4,none⟩=some (zC zD 0):=zJ zW (4)
 have c8:=zK zW (0)
 have c9:=zK zW (1)
 have c10:=zK zW (2)
 have c11:=zK zW (3)
 have c12:=zK zW (4)
 obtain ⟨V5,hV5⟩:∃ V,((((V4.setCell ⟨w4.heap.size,0,none⟩ (zC zD o.f0)).setCell ⟨w4.heap.size,1,none⟩ (zC zD o.f1)).setCell ⟨w4.heap.size,2,none⟩ (zC zD o.f2)).setCell ⟨w4.heap.size,3,none⟩ (zC zD o.f3)).setCell ⟨w4.heap.size,4,none⟩ (zC zD o.f4)=V:=⟨_,rfl⟩
 have hOV5:Only w4.heap.size V4 V5:=by rw [← hV5];exact ((((Only.set _ _ _).trans (Only.set _ _ _)).trans (Only.set _ _ _)).trans (Only.set _ _ _)).trans (Only.set _ _ _)
 replace zW:V5.heap[w4.heap.size]?=some (.cells (#[zC zD o.f0,zC zD o.f1,zC zD o.f2,zC zD o.f3,zC zD o.f4]) 97 (0,0)):=by rw [← hV5];exact (blk_set (blk_set (blk_set (blk_set (blk_set zW _ _) _ _) _ _) _ _) _ _)
 replace zV:=hOV5.mid zV (by omega) (B:=0)
 replace K_o:=hOV5.mid K_o (by omega) (B:=0)
 replace K_a:=hOV5.mid K_a (by omega) (B:=0)
 have szV5:V4.heap.size≤V5.heap.size:=hOV5.size
 replace HB:=HB.trans (hOV5.below (by omega) HB.size)
 clear hOV5
 have c13:V5.cell? ⟨w4.heap.size,0,none⟩=some (zC zD o.f0):=zJ zW (0)
 have HX2:=zP (zU zV (zU K_o (zU K_a (zU zW (HB)))))
 clear HB zW K_a K_o zV
 go_wp2_with fail
 obtain ⟨zV,K_o,K_a,zW,HB⟩:=HX2.out
 clear HX2
 have n3:V1.heap.size≠V2.heap.size:=by omega
 obtain ⟨L,hL⟩:∃ L,L=[(V1.heap.size,[Obj.cells #[zC zD 0,zC zD 0,zC zD 0,zC zD 0,zC zD 0,zC zD 0,zC zD 0,zC zD 0,zC zD 0,zC zD 0,zC zD 0,zC zD 0,zC zD 0,zC zD 0,zC zD 0,zC zD 0,zC zD 0,zC zD 0,.slice none 0 0] 29 (0,0),Obj.cells (cpuC (wrap64 (pc+1)) (wrap64 (used+1)) (rs.set a vr) (.slice SA fs.length sc)) 29 (0,0)]),(V2.heap.size,[Obj.cells #[zC zD 0,zC zD 0,zC zD 0,zC zD 0,zC zD 0,zC zD 0,zC zD 0] 46 (0,0),Obj.cells (askC 0 0 0 0 0 0 0) 46 (0,0)])]:=⟨_,rfl⟩
 have m1:(V1.heap.size,[Obj.cells #[zC zD 0,zC zD 0,zC zD 0,zC zD 0,zC zD 0,zC zD 0,zC zD 0,zC zD 0,zC zD 0,zC zD 0,zC zD 0,zC zD 0,zC zD 0,zC zD 0,zC zD 0,zC zD 0,zC zD 0,zC zD 0,.slice none 0 0] 29 (0,0),Obj.cells (cpuC (wrap64 (pc+1)) (wrap64 (used+1)) (rs.set a vr) (.slice SA fs.length sc)) 29 (0,0)])∈L:=by subst hL;simp
 have m2:(V2.heap.size,[Obj.cells #[zC zD 0,zC zD 0,zC zD 0,zC zD 0,zC zD 0,zC zD 0,zC zD 0] 46 (0,0),Obj.cells (askC 0 0 0 0 0 0 0) 46 (0,0)])∈L:=by subst hL;simp
 have u1:∀ p∈L,p.1=V1.heap.size→p=(V1.heap.size,[Obj.cells #[zC zD 0,zC zD 0,zC zD 0,zC zD 0,zC zD 0,zC zD 0,zC zD 0,zC zD 0,zC zD 0,zC zD 0,zC zD 0,zC zD 0,zC zD 0,zC zD 0,zC zD 0,zC zD 0,zC zD 0,zC zD 0,.slice none 0 0] 29 (0,0),Obj.cells (cpuC (wrap64 (pc+1)) (wrap64 (used+1)) (rs.set a vr) (.slice SA fs.length sc)) 29 (0,0)]):=by subst hL;simp;intro h;exact absurd h.symm n3
 have u2:∀ p∈L,p.1=V2.heap.size→p=(V2.heap.size,[Obj.cells #[zC zD 0,zC zD 0,zC zD 0,zC zD 0,zC zD 0,zC zD 0,zC zD 0] 46 (0,0),Obj.cells (askC 0 0 0 0 0 0 0) 46 (0,0)]):=by subst hL;simp;intro h;exact absurd h n3
 have o1:∀ W',Chain L V5 W'→At (V1.heap.size) [Obj.cells #[zC zD 0,zC zD 0,zC zD 0,zC zD 0,zC zD 0,zC zD 0,zC zD 0,zC zD 0,zC zD 0,zC zD 0,zC zD 0,zC zD 0,zC zD 0,zC zD 0,zC zD 0,zC zD 0,zC zD 0,zC zD 0,.slice none 0 0] 29 (0,0),Obj.cells (cpuC (wrap64 (pc+1)) (wrap64 (used+1)) (rs.set a vr) (.slice SA fs.length sc)) 29 (0,0)] 0 W':=fun W' hB=>hB.on _ m1 0 ⟨0,_,Nat.le_refl _,rfl,K_o⟩
 have a1:∀ W',Chain L V5 W'→At (V2.heap.size) [Obj.cells #[zC zD 0,zC zD 0,zC zD 0,zC zD 0,zC zD 0,zC zD 0,zC zD 0] 46 (0,0),Obj.cells (askC 0 0 0 0 0 0 0) 46 (0,0)] 0 W':=fun W' hB=>hB.on _ m2 0 ⟨0,_,Nat.le_refl _,rfl,K_a⟩
 have d1:∀ W',Chain L V5 W'→W'.heap[W.heap.size]?=some (.cells (cpuC pc used rs (.slice SA fs.length sc)) 29 (0,0)):=fun W' hB=>hB.mid zV (by subst hL;simp;omega)
 have d2:∀ W',Chain L V5 W'→W'.heap[w4.heap.size]?=some (.cells (#[zC zD o.f0,zC zD o.f1,zC zD o.f2,zC zD o.f3,zC zD o.f4]) 97 (0,0)):=fun W' hB=>hB.mid zW (by subst hL;simp;omega)
 have d3:∀ W',Chain L V5 W'→W'.cell? ⟨w4.heap.size,1,none⟩=some (zC zD a):=fun W' hB=>(zJ (d2 W' hB) 1).trans (by show some (Value.int .i64 o.f1)=_;rw [haH.out])
 have d4:∀ W',Chain L V5 W'→W'.cell? ⟨w4.heap.size,2,none⟩=some (zC zD b):=fun W' hB=>(zJ (d2 W' hB) 2).trans (by show some (Value.int .i64 o.f2)=_;rw [hbH.out])
 have d5:∀ W',Chain L V5 W'→W'.cell? ⟨W.heap.size,2+b * 2,none⟩=some (zC zD vr.f0):=fun W' hB=>(zJ (d1 W' hB) _).trans rb.1
 have d6:∀ W',Chain L V5 W'→W'.cell? ⟨W.heap.size,2+b * 2+1,none⟩=some (zC zD vr.f1):=fun W' hB=>(zJ (d1 W' hB) _).trans rb.2
 apply GR.wp_region_grows (R:=Chain L) (by kernel_rfl) (by kernel_rfl)
 ·
  intro c a d v w h;cases d <;> exact h
 apply GR.gw_val (by rfl)
 ·
  (intro W' hB hD;exact exec_ld rfl (ld_whole (d1 W' hB) hu29 rfl (by rw [size29,zM hl])))
 simp only [Act.put,zQ,zS,zT]
 apply GR.gw_val (by rfl)
 ·
  (intro W' hB hD;have e3:=d3 W' hB;have e4:=d4 W' hB;go_simp;first|done|rfl)
 simp only [Act.put,zQ,zS,zT]
 apply GR.gw_val (by rfl)
 ·
  (intro W' hB hD;have e3:=d3 W' hB;have e4:=d4 W' hB;go_simp;first|done|rfl)
 simp only [Act.put,zQ,zS,zT]
 apply GR.gw_val (by rfl)
 ·
  (intro W' hB hD;have e3:=d3 W' hB;have e4:=d4 W' hB;go_simp;first|done|rfl)
 simp only [Act.put,zQ,zS,zT]
 apply GR.gw_val (by rfl)
 ·
  (intro W' hB hD;have e3:=d3 W' hB;have e4:=d4 W' hB;go_simp;first|done|rfl)
 simp only [Act.put,zQ,zS,zT]
 apply GR.gw_val (by rfl)
 ·
  (intro W' hB hD;have e3:=d3 W' hB;have e4:=d4 W' hB;go_simp;first|done|rfl)
 simp only [Act.put,zQ,zS,zT]
 apply GR.gw_val (by rfl)
 ·
  (intro W' hB hD;have e3:=d3 W' hB;have e4:=d4 W' hB;go_simp;first|done|rfl)
 simp only [Act.put,zQ,zS,zT]
 apply GR.gw_val (by rfl)
 ·
  (intro W' hB hD;have e5:=d5 W' hB;have e6:=d6 W' hB;go_simp;first|done|rfl)
 simp only [Act.put,zQ,zS,zT]
 apply GR.gw_call (by rfl)
 ·
  (intro W' hB hD;go_simp;first|done|rfl|exact ⟨rfl,rfl⟩)
 ·
  (intro W' hB hD;exact (rset_calls pc used rs (.slice SA fs.length sc) a vr W' hl rfl ha8).mono fun x w' hh=>⟨hh.1,GR.Rel.ofB hh.2⟩)
 simp only [Act.put,zQ,zS,zT]
 apply GR.gw_val (by rfl)
 ·
  (intro W' hB hD;go_simp;first|done|rfl)
 simp only [Act.put,zQ,zS,zT]
 apply GR.gw_val (by rfl)
 ·
  (intro W' hB hD;go_simp;first|done|rfl)
 simp only [Act.put,zQ,zS,zT]
 apply GR.gw_skp (stable_At m1 1) (by rfl) (by rfl)
 ·
  intro W' hB hD
  obtain ⟨W'',e1,e2,e3⟩:=chain_whole (ty:=29) m1 u1 (o1 W' hB) (by rw [(zM (pc:=wrap64 (pc+1)) (used:=wrap64 (used+1)) (stk:=.slice SA fs.length sc) (rs:=rs.set a vr) (h82 _))];rfl) (by rw [size29,(zM (pc:=wrap64 (pc+1)) (used:=wrap64 (used+1)) (stk:=.slice SA fs.length sc) (rs:=rs.set a vr) (h82 _))]) (cpuC_one1 _ _ _ rfl)
  exact ⟨W'',exec_st rfl e1,e2,e3⟩
 rintro v -
 apply GR.gw_skp (stable_At m2 1) (by rfl) (by rfl)
 ·
  intro W' hB hD
  obtain ⟨W'',e1,e2,e3⟩:=chain_whole (ty:=46) m2 u2 (a1 W' hB) (by rfl) (by rw [size46];rfl) (by simp [Value.oneCell'])
  exact ⟨W'',exec_st rfl e1,e2,e3⟩
 rintro v' -
 apply GR.gw_nil
 intro Wa hW hF hP
 simp [List.forall_mem_append] at hF
 subst hL
 have hT:=Two.of_chain hW hF.1 hF.2
 have HE:=zP (zU hT.o (zU hT.a ((HB).trans (show Below W.heap.size _ Wa from ⟨hT.os,hT.tape,hT.output,hT.size,fun k hk=>hT.block k (by omega) (by omega) (by omega)⟩))))
 clear hT hW hF hP o1 a1 m1 m2 u1 u2 d6 d5 d4 d3 d2 d1 zV K_o K_a zW HB
 go_wp2_with fail
 exact bodyPost_ret (results_cc rfl _ rfl HE.out.1 hu29 rfl (by rw [size29,(zM (pc:=wrap64 (pc+1)) (used:=wrap64 (used+1)) (stk:=.slice SA fs.length sc) (rs:=rs.set a vr) (h82 _))]) rfl HE.out.2.1 hu46 rfl (by rw [size46];rfl)) rfl (RSt.of (h82 _) ⟨rfl,HE.out.2.2⟩)
theorem rstep_calls (A:Option Addr) (c:Nat) (l:List S97) (pc used:Int) (rs:List S32) (SA:Option Addr) (sc:Nat) (fs:List FrameD) (vars fuel:Int) (W:World) (hL:Kd.C k97 W A l.length l) (hlc:l.length≤c) (hC:Kd.C kF W SA fs.length fs) (hsc:fs.length≤sc) (hl:rs.length=8) (hlen:l.length≤1000000) (hbig:fs.length≤100000) :
  Calls Try.prog 14 #[.slice A l.length c,.agg (cpuC pc used rs (.slice SA fs.length sc)),zC zD vars,zC zD fuel] W (RSt W SA sc fs (stepP (l.map conv74) ⟨pc,used,rs,fs⟩ vars fuel)):=by
 have hm:(l.map conv74).length=l.length:=List.length_map ..
 unfold stepP
 rw [hm]
 dsimp only
 by_cases hR:codeR (l.map conv74)=true
 case neg =>
  have hR':codeR (l.map conv74)=false:=by simpa using hR
  rw [if_pos (Or.inl hR')]
  exact rstep_code A c l pc used rs SA sc fs vars fuel W hL hlc hC hsc hl hlen hbig hR'
 by_cases hp0:pc<0
 ·
  rw [if_pos (Or.inr (Or.inl hp0))]
  exact rstep_low A c l pc used rs SA sc fs vars fuel W hL hlc hC hsc hl hlen hbig hR hp0
 by_cases hp1:(l.length:Int)<pc
 ·
  rw [if_pos (Or.inr (Or.inr hp1))]
  exact rstep_high A c l pc used rs SA sc fs vars fuel W hL hlc hC hsc hl hlen hbig hR hp0 hp1
 rw [if_neg (by rw [hR];simp;omega)]
 by_cases hp2:pc=l.length
 ·
  rw [if_pos hp2]
  exact rstep_end A c l pc used rs SA sc fs vars fuel W hL hlc hC hsc hl hlen hbig hR hp2
 rw [if_neg hp2]
 by_cases hfu:fuel≤used
 ·
  rw [if_pos hfu]
  exact rstep_fuel A c l pc used rs SA sc fs vars fuel W hL hlc hC hsc hl hlen hbig hR (by omega) (by omega) hfu
 rw [if_neg hfu]
 have hlt:pc.toNat<l.length:=by omega
 obtain ⟨o,ho⟩:∃ o,rd_T97 l pc=o:=⟨_,rfl⟩
 have ho2:l[pc.toNat]?=some o:=by
  rw [← ho]
  unfold rd_T97
  rw [List.getD_eq_getElem?_getD,List.getElem?_eq_getElem hlt]
  rfl
 have ho3:(l.map conv74)[pc.toNat]?=some (conv74 o):=by rw [List.getElem?_map,ho2];rfl
 rw [ho3]
 have hall:opRight (conv74 o) l.length=true:=by
  unfold codeR at hR
  simp only [Bool.and_eq_true,List.all_eq_true] at hR
  have:=hR.2 (conv74 o) (List.mem_of_getElem? ho3)
  rwa [hm] at this
 have hok:OpOK (conv74 o):=opOK_of (by omega) hall
 have h0:0≤o.f0:=hok.c0
 have h17:o.f0<17:=hok.c1
 show Calls _ _ _ _ (RSt W SA sc fs (opP ⟨pc,used,rs,fs⟩ (conv74 o) vars))
 by_cases c0:o.f0=0
 ·
  exact rstep_0 A c l pc used rs SA sc fs vars fuel W hL hlc hC hsc hl hlen hbig hR (by omega) (by omega) hfu o ho hok c0
 by_cases c1:o.f0=1
 ·
  exact rstep_1 A c l pc used rs SA sc fs vars fuel W hL hlc hC hsc hl hlen hbig hR (by omega) (by omega) hfu o ho hok c1
 by_cases c2:o.f0=2
 ·
  exact rstep_2 A c l pc used rs SA sc fs vars fuel W hL hlc hC hsc hl hlen hbig hR (by omega) (by omega) hfu o ho hok c2
 by_cases c3:o.f0=3
 ·
  exact rstep_3 A c l pc used rs SA sc fs vars fuel W hL hlc hC hsc hl hlen hbig hR (by omega) (by omega) hfu o ho hok c3
 by_cases c7:o.f0<8
 ·
  exact rstep_sums A c l pc used rs SA sc fs vars fuel W hL hlc hC hsc hl hlen hbig hR (by omega) (by omega) hfu o ho hok (by omega) (by omega)
 by_cases c9:o.f0<10
 ·
  exact rstep_mem A c l pc used rs SA sc fs vars fuel W hL hlc hC hsc hl hlen hbig hR (by omega) (by omega) hfu o ho hok (by omega) (by omega)
 by_cases c11:o.f0<12
 ·
  exact rstep_jump A c l pc used rs SA sc fs vars fuel W hL hlc hC hsc hl hlen hbig hR (by omega) (by omega) hfu o ho hok (by omega) (by omega)
 by_cases c14:o.f0<15
 ·
  exact rstep_ch A c l pc used rs SA sc fs vars fuel W hL hlc hC hsc hl hlen hbig hR (by omega) (by omega) hfu o ho hok (by omega) (by omega)
 by_cases c15:o.f0=15
 ·
  exact rstep_15 A c l pc used rs SA sc fs vars fuel W hL hlc hC hsc hl hlen hbig hR (by omega) (by omega) hfu o ho hok c15
 ·
  exact rstep_16 A c l pc used rs SA sc fs vars fuel W hL hlc hC hsc hl hlen hbig hR (by omega) (by omega) hfu o ho hok (by omega)
end Go.Proofs.Ytgnjkegnddekeaa.Q
