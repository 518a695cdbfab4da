/- Words of the printer that this claim uses, cut to these by a program of its author (not as they were printed). -/
import Derived.Test.YtgnjkegnddekeaaYQ0
set_option maxHeartbeats 8000000
set_option maxRecDepth 100000
namespace Go.Proofs.Ytgnjkegnddekeaa.Q
open Go.RowKit Go.Proofs.YtgnjkegnddekeaaW.PrintWords Go.Proofs.YtgnjkegnddekeaaW.PrintLast Go.Proofs.YtgnjkegnddekeaaW.PrintMore
attribute [local go_sem] max2_int min2_int max_two min_two max_three min_three max_four min_four   -- for this text's walks alone
set_option linter.unusedVariables false
set_option linter.unusedSimpArgs false
def code_shapes.f :Option ((List (S154))):=some (([(⟨(⟨#[115,101,116]⟩:ByteArray),8,0,0,false,true⟩:S154),(⟨(⟨#[110,105,108]⟩:ByteArray),8,0,0,false,false⟩:S154),(⟨(⟨#[114,101,102]⟩:ByteArray),8,64,0,false,false⟩:S154),(⟨(⟨#[109,111,118,101]⟩:ByteArray),8,8,0,false,false⟩:S154),(⟨(⟨#[97,100,100]⟩:ByteArray),8,8,8,false,false⟩:S154),(⟨(⟨#[115,117,98]⟩:ByteArray),8,8,8,false,false⟩:S154),(⟨(⟨#[109,117,108]⟩:ByteArray),8,8,8,false,false⟩:S154),(⟨(⟨#[108,101,115,115]⟩:ByteArray),8,8,8,false,false⟩:S154),(⟨(⟨#[114,101,97,100]⟩:ByteArray),8,8,0,false,false⟩:S154),(⟨(⟨#[119,114,105,116,101]⟩:ByteArray),8,8,0,false,false⟩:S154),(⟨(⟨#[106,117,109,112]⟩:ByteArray),0,0,0,true,false⟩:S154),(⟨(⟨#[105,102]⟩:ByteArray),8,0,0,true,false⟩:S154),(⟨(⟨#[101,108,115,101]⟩:ByteArray),0,0,0,true,false⟩:S154),(⟨(⟨#[106,111,105,110]⟩:ByteArray),0,0,0,false,false⟩:S154),(⟨(⟨#[114,101,116,114,121]⟩:ByteArray),0,0,0,false,false⟩:S154),(⟨(⟨#[115,116,111,112]⟩:ByteArray),0,0,0,false,false⟩:S154),(⟨(⟨#[101,110,100]⟩:ByteArray),0,0,0,false,false⟩:S154)]:List (S154)))
theorem code_shapes.calls  (r:List (S154)) (w:World) (h:code_shapes.f =some r) :
  Calls Try.prog 91 #[] w fun e w'=>∃ v0_:Value,e=.returned (v0_)∧Kd.R k154 154 w' w.heap.size (fun _=>True) v0_ r∧Below w.heap.size w w':=by
 have hu154:=Try.underlying154
 have HB:=Aside0.mk (Below.refl w.heap.size w)
 have H:(some (([(⟨(⟨#[115,101,116]⟩:ByteArray),8,0,0,false,true⟩:S154),(⟨(⟨#[110,105,108]⟩:ByteArray),8,0,0,false,false⟩:S154),(⟨(⟨#[114,101,102]⟩:ByteArray),8,64,0,false,false⟩:S154),(⟨(⟨#[109,111,118,101]⟩:ByteArray),8,8,0,false,false⟩:S154),(⟨(⟨#[97,100,100]⟩:ByteArray),8,8,8,false,false⟩:S154),(⟨(⟨#[115,117,98]⟩:ByteArray),8,8,8,false,false⟩:S154),(⟨(⟨#[109,117,108]⟩:ByteArray),8,8,8,false,false⟩:S154),(⟨(⟨#[108,101,115,115]⟩:ByteArray),8,8,8,false,false⟩:S154),(⟨(⟨#[114,101,97,100]⟩:ByteArray),8,8,0,false,false⟩:S154),(⟨(⟨#[119,114,105,116,101]⟩:ByteArray),8,8,0,false,false⟩:S154),(⟨(⟨#[106,117,109,112]⟩:ByteArray),0,0,0,true,false⟩:S154),(⟨(⟨#[105,102]⟩:ByteArray),8,0,0,true,false⟩:S154),(⟨(⟨#[101,108,115,101]⟩:ByteArray),0,0,0,true,false⟩:S154),(⟨(⟨#[106,111,105,110]⟩:ByteArray),0,0,0,false,false⟩:S154),(⟨(⟨#[114,101,116,114,121]⟩:ByteArray),0,0,0,false,false⟩:S154),(⟨(⟨#[115,116,111,112]⟩:ByteArray),0,0,0,false,false⟩:S154),(⟨(⟨#[101,110,100]⟩:ByteArray),0,0,0,false,false⟩:S154)]:List (S154))))=some r:=h
 clear h
 obtain ⟨y101,hy101⟩:∃ y_:List (S154),y_=(([(⟨(⟨#[115,101,116]⟩:ByteArray),8,0,0,false,true⟩:S154),(⟨(⟨#[110,105,108]⟩:ByteArray),8,0,0,false,false⟩:S154),(⟨(⟨#[114,101,102]⟩:ByteArray),8,64,0,false,false⟩:S154),(⟨(⟨#[109,111,118,101]⟩:ByteArray),8,8,0,false,false⟩:S154),(⟨(⟨#[97,100,100]⟩:ByteArray),8,8,8,false,false⟩:S154),(⟨(⟨#[115,117,98]⟩:ByteArray),8,8,8,false,false⟩:S154),(⟨(⟨#[109,117,108]⟩:ByteArray),8,8,8,false,false⟩:S154),(⟨(⟨#[108,101,115,115]⟩:ByteArray),8,8,8,false,false⟩:S154),(⟨(⟨#[114,101,97,100]⟩:ByteArray),8,8,0,false,false⟩:S154),(⟨(⟨#[119,114,105,116,101]⟩:ByteArray),8,8,0,false,false⟩:S154),(⟨(⟨#[106,117,109,112]⟩:ByteArray),0,0,0,true,false⟩:S154),(⟨(⟨#[105,102]⟩:ByteArray),8,0,0,true,false⟩:S154),(⟨(⟨#[101,108,115,101]⟩:ByteArray),0,0,0,true,false⟩:S154),(⟨(⟨#[106,111,105,110]⟩:ByteArray),0,0,0,false,false⟩:S154),(⟨(⟨#[114,101,116,114,121]⟩:ByteArray),0,0,0,false,false⟩:S154),(⟨(⟨#[115,116,111,112]⟩:ByteArray),0,0,0,false,false⟩:S154),(⟨(⟨#[101,110,100]⟩:ByteArray),0,0,0,false,false⟩:S154)]:List (S154))):=⟨_,rfl⟩
 replace H:(some y101)=some r:=by first|(rw [hy101];with_reducible exact H)|(have H2_:=(Option.bind_some _ _).symm.trans H;rw [hy101];with_reducible exact H2_)|(have H2_:=(Option.bind_some _ _).symm.trans H;with_reducible exact H2_)|with_reducible exact H|(rw [hy101];exact H)|exact H
 have Ny101:=Aside0.mk hy101
 clear hy101
 obtain rfl:=Option.some.inj H
 go_enter Try.func91,Try.ntmps91
 go_wp2_with (first|((with_reducible refine gate_dst (N:=18) rfl ?_);refine Kd.R_lit k154 _ 154 ?hg (N:=18) ?hd (xs:=([(⟨(⟨#[115,101,116]⟩:ByteArray),8,0,0,false,true⟩:S154),(⟨(⟨#[110,105,108]⟩:ByteArray),8,0,0,false,false⟩:S154),(⟨(⟨#[114,101,102]⟩:ByteArray),8,64,0,false,false⟩:S154),(⟨(⟨#[109,111,118,101]⟩:ByteArray),8,8,0,false,false⟩:S154),(⟨(⟨#[97,100,100]⟩:ByteArray),8,8,8,false,false⟩:S154),(⟨(⟨#[115,117,98]⟩:ByteArray),8,8,8,false,false⟩:S154),(⟨(⟨#[109,117,108]⟩:ByteArray),8,8,8,false,false⟩:S154),(⟨(⟨#[108,101,115,115]⟩:ByteArray),8,8,8,false,false⟩:S154),(⟨(⟨#[114,101,97,100]⟩:ByteArray),8,8,0,false,false⟩:S154),(⟨(⟨#[119,114,105,116,101]⟩:ByteArray),8,8,0,false,false⟩:S154),(⟨(⟨#[106,117,109,112]⟩:ByteArray),0,0,0,true,false⟩:S154),(⟨(⟨#[105,102]⟩:ByteArray),8,0,0,true,false⟩:S154),(⟨(⟨#[101,108,115,101]⟩:ByteArray),0,0,0,true,false⟩:S154),(⟨(⟨#[106,111,105,110]⟩:ByteArray),0,0,0,false,false⟩:S154),(⟨(⟨#[114,101,116,114,121]⟩:ByteArray),0,0,0,false,false⟩:S154),(⟨(⟨#[115,116,111,112]⟩:ByteArray),0,0,0,false,false⟩:S154),(⟨(⟨#[101,110,100]⟩:ByteArray),0,0,0,false,false⟩:S154)]:List (S154))) (inner:=[.string (⟨#[115,101,116]⟩:ByteArray),.int .i64 8,.int .i64 0,.int .i64 0,.bool false,.bool true,.string (⟨#[110,105,108]⟩:ByteArray),.int .i64 8,.int .i64 0,.int .i64 0,.bool false,.bool false,.string (⟨#[114,101,102]⟩:ByteArray),.int .i64 8,.int .i64 64,.int .i64 0,.bool false,.bool false,.string (⟨#[109,111,118,101]⟩:ByteArray),.int .i64 8,.int .i64 8,.int .i64 0,.bool false,.bool false,.string (⟨#[97,100,100]⟩:ByteArray),.int .i64 8,.int .i64 8,.int .i64 8,.bool false,.bool false,.string (⟨#[115,117,98]⟩:ByteArray),.int .i64 8,.int .i64 8,.int .i64 8,.bool false,.bool false,.string (⟨#[109,117,108]⟩:ByteArray),.int .i64 8,.int .i64 8,.int .i64 8,.bool false,.bool false,.string (⟨#[108,101,115,115]⟩:ByteArray),.int .i64 8,.int .i64 8,.int .i64 8,.bool false,.bool false,.string (⟨#[114,101,97,100]⟩:ByteArray),.int .i64 8,.int .i64 8,.int .i64 0,.bool false,.bool false,.string (⟨#[119,114,105,116,101]⟩:ByteArray),.int .i64 8,.int .i64 8,.int .i64 0,.bool false,.bool false,.string (⟨#[106,117,109,112]⟩:ByteArray),.int .i64 0,.int .i64 0,.int .i64 0,.bool true,.bool false,.string (⟨#[105,102]⟩:ByteArray),.int .i64 8,.int .i64 0,.int .i64 0,.bool true,.bool false,.string (⟨#[101,108,115,101]⟩:ByteArray),.int .i64 0,.int .i64 0,.int .i64 0,.bool true,.bool false,.string (⟨#[106,111,105,110]⟩:ByteArray),.int .i64 0,.int .i64 0,.int .i64 0,.bool false,.bool false,.string (⟨#[114,101,116,114,121]⟩:ByteArray),.int .i64 0,.int .i64 0,.int .i64 0,.bool false,.bool false,.string (⟨#[115,116,111,112]⟩:ByteArray),.int .i64 0,.int .i64 0,.int .i64 0,.bool false,.bool false,.string (⟨#[101,110,100]⟩:ByteArray),.int .i64 0,.int .i64 0,.int .i64 0,.bool false,.bool false]) (ok:=fun _=>True) (okp:=fun _=>True) ?hr ?hp (fun _ hk=>hk) trivial (Below.refl _ _) (Nat.le_refl _) (by simp) ?_;(case hd=>rfl);(case hg=>rfl);(case hr=>first|(go_simp;done)|(go_simp;rfl));(case hp=>exact (Reps.c6 (show Kd.M k154 _ _ _ (⟨(⟨#[115,101,116]⟩:ByteArray),8,0,0,false,true⟩:S154) [.string (⟨#[115,101,116]⟩:ByteArray),.int .i64 8,.int .i64 0,.int .i64 0,.bool false,.bool true] from (k154_mkM _ _ _ (⟨(⟨#[115,101,116]⟩:ByteArray),8,0,0,false,true⟩:S154) )) (Reps.c6 (show Kd.M k154 _ _ _ (⟨(⟨#[110,105,108]⟩:ByteArray),8,0,0,false,false⟩:S154) [.string (⟨#[110,105,108]⟩:ByteArray),.int .i64 8,.int .i64 0,.int .i64 0,.bool false,.bool false] from (k154_mkM _ _ _ (⟨(⟨#[110,105,108]⟩:ByteArray),8,0,0,false,false⟩:S154) )) (Reps.c6 (show Kd.M k154 _ _ _ (⟨(⟨#[114,101,102]⟩:ByteArray),8,64,0,false,false⟩:S154) [.string (⟨#[114,101,102]⟩:ByteArray),.int .i64 8,.int .i64 64,.int .i64 0,.bool false,.bool false] from (k154_mkM _ _ _ (⟨(⟨#[114,101,102]⟩:ByteArray),8,64,0,false,false⟩:S154) )) (Reps.c6 (show Kd.M k154 _ _ _ (⟨(⟨#[109,111,118,101]⟩:ByteArray),8,8,0,false,false⟩:S154) [.string (⟨#[109,111,118,101]⟩:ByteArray),.int .i64 8,.int .i64 8,.int .i64 0,.bool false,.bool false] from (k154_mkM _ _ _ (⟨(⟨#[109,111,118,101]⟩:ByteArray),8,8,0,false,false⟩:S154) )) (Reps.c6 (show Kd.M k154 _ _ _ (⟨(⟨#[97,100,100]⟩:ByteArray),8,8,8,false,false⟩:S154) [.string (⟨#[97,100,100]⟩:ByteArray),.int .i64 8,.int .i64 8,.int .i64 8,.bool false,.bool false] from (k154_mkM _ _ _ (⟨(⟨#[97,100,100]⟩:ByteArray),8,8,8,false,false⟩:S154) )) (Reps.c6 (show Kd.M k154 _ _ _ (⟨(⟨#[115,117,98]⟩:ByteArray),8,8,8,false,false⟩:S154) [.string (⟨#[115,117,98]⟩:ByteArray),.int .i64 8,.int .i64 8,.int .i64 8,.bool false,.bool false] from (k154_mkM _ _ _ (⟨(⟨#[115,117,98]⟩:ByteArray),8,8,8,false,false⟩:S154) )) (Reps.c6 (show Kd.M k154 _ _ _ (⟨(⟨#[109,117,108]⟩:ByteArray),8,8,8,false,false⟩:S154) [.string (⟨#[109,117,108]⟩:ByteArray),.int .i64 8,.int .i64 8,.int .i64 8,.bool false,.bool false] from (k154_mkM _ _ _ (⟨(⟨#[109,117,108]⟩:ByteArray),8,8,8,false,false⟩:S154) )) (Reps.c6 (show Kd.M k154 _ _ _ (⟨(⟨#[108,101,115,115]⟩:ByteArray),8,8,8,false,false⟩:S154) [.string (⟨#[108,101,115,115]⟩:ByteArray),.int .i64 8,.int .i64 8,.int .i64 8,.bool false,.bool false] from (k154_mkM _ _ _ (⟨(⟨#[108,101,115,115]⟩:ByteArray),8,8,8,false,false⟩:S154) )) (Reps.c6 (show Kd.M k154 _ _ _ (⟨(⟨#[114,101,97,100]⟩:ByteArray),8,8,0,false,false⟩:S154) [.string (⟨#[114,101,97,100]⟩:ByteArray),.int .i64 8,.int .i64 8,.int .i64 0,.bool false,.bool false] from (k154_mkM _ _ _ (⟨(⟨#[114,101,97,100]⟩:ByteArray),8,8,0,false,false⟩:S154) )) (Reps.c6 (show Kd.M k154 _ _ _ (⟨(⟨#[119,114,105,116,101]⟩:ByteArray),8,8,0,false,false⟩:S154) [.string (⟨#[119,114,105,116,101]⟩:ByteArray),.int .i64 8,.int .i64 8,.int .i64 0,.bool false,.bool false] from (k154_mkM _ _ _ (⟨(⟨#[119,114,105,116,101]⟩:ByteArray),8,8,0,false,false⟩:S154) )) (Reps.c6 (show Kd.M k154 _ _ _ (⟨(⟨#[106,117,109,112]⟩:ByteArray),0,0,0,true,false⟩:S154) [.string (⟨#[106,117,109,112]⟩:ByteArray),.int .i64 0,.int .i64 0,.int .i64 0,.bool true,.bool false] from (k154_mkM _ _ _ (⟨(⟨#[106,117,109,112]⟩:ByteArray),0,0,0,true,false⟩:S154) )) (Reps.c6 (show Kd.M k154 _ _ _ (⟨(⟨#[105,102]⟩:ByteArray),8,0,0,true,false⟩:S154) [.string (⟨#[105,102]⟩:ByteArray),.int .i64 8,.int .i64 0,.int .i64 0,.bool true,.bool false] from (k154_mkM _ _ _ (⟨(⟨#[105,102]⟩:ByteArray),8,0,0,true,false⟩:S154) )) (Reps.c6 (show Kd.M k154 _ _ _ (⟨(⟨#[101,108,115,101]⟩:ByteArray),0,0,0,true,false⟩:S154) [.string (⟨#[101,108,115,101]⟩:ByteArray),.int .i64 0,.int .i64 0,.int .i64 0,.bool true,.bool false] from (k154_mkM _ _ _ (⟨(⟨#[101,108,115,101]⟩:ByteArray),0,0,0,true,false⟩:S154) )) (Reps.c6 (show Kd.M k154 _ _ _ (⟨(⟨#[106,111,105,110]⟩:ByteArray),0,0,0,false,false⟩:S154) [.string (⟨#[106,111,105,110]⟩:ByteArray),.int .i64 0,.int .i64 0,.int .i64 0,.bool false,.bool false] from (k154_mkM _ _ _ (⟨(⟨#[106,111,105,110]⟩:ByteArray),0,0,0,false,false⟩:S154) )) (Reps.c6 (show Kd.M k154 _ _ _ (⟨(⟨#[114,101,116,114,121]⟩:ByteArray),0,0,0,false,false⟩:S154) [.string (⟨#[114,101,116,114,121]⟩:ByteArray),.int .i64 0,.int .i64 0,.int .i64 0,.bool false,.bool false] from (k154_mkM _ _ _ (⟨(⟨#[114,101,116,114,121]⟩:ByteArray),0,0,0,false,false⟩:S154) )) (Reps.c6 (show Kd.M k154 _ _ _ (⟨(⟨#[115,116,111,112]⟩:ByteArray),0,0,0,false,false⟩:S154) [.string (⟨#[115,116,111,112]⟩:ByteArray),.int .i64 0,.int .i64 0,.int .i64 0,.bool false,.bool false] from (k154_mkM _ _ _ (⟨(⟨#[115,116,111,112]⟩:ByteArray),0,0,0,false,false⟩:S154) )) (Reps.c6 (show Kd.M k154 _ _ _ (⟨(⟨#[101,110,100]⟩:ByteArray),0,0,0,false,false⟩:S154) [.string (⟨#[101,110,100]⟩:ByteArray),.int .i64 0,.int .i64 0,.int .i64 0,.bool false,.bool false] from (k154_mkM _ _ _ (⟨(⟨#[101,110,100]⟩:ByteArray),0,0,0,false,false⟩:S154) )) (Reps.none _ _)))))))))))))))))));intro v102 w1 ho2 hb hg_ hnew_;clear hg_ hnew_;(first|rw [← Ny101.out] at ho2|(simp only [Int.reduceToNat] at ho2;rw [← Ny101.out] at ho2));have n0_:=Aside0.mk (Kd.R_lower ho2 (below_size (by repeat (first|(with_reducible first|exact HB.out|apply zG|apply zN|apply zH)|exact HB.out))));have n1_:=Aside0.mk (below_step (by repeat (first|(with_reducible first|exact HB.out|apply zG|apply zN|apply zH)|exact HB.out)) hb);clear HB;have HO103:=n0_;have HB:=n1_;clear n0_ n1_;clear hb ho2))
 go_ret
 exact ⟨_,by first|rfl|(simp [errW_none,errW_some] <;> rfl)|(simp [*,errW_none,errW_some] <;> rfl),by (with_reducible repeat (first|apply Kd.R_alloc|apply Kd.R_drewN|apply Kd.R_drew));exact HO103.out,by repeat (first|(with_reducible first|exact HB.out|apply zG|apply zN|apply zH)|exact HB.out)⟩
def code_find.f (a0:Int):Option (ByteArray × Int × Int × Int × Bool × Bool × Bool):=(code_shapes.f).bind fun t105=>(if a0<0 then (some ((⟨#[]⟩:ByteArray),0,0,0,false,false,false)) else (if a0 ≥ (t105.length:Int) then (some ((⟨#[]⟩:ByteArray),0,0,0,false,false,false)) else (if 0≤a0 then (if a0<(t105.length:Int) then (some ((rd_T154 t105 a0).f0,(rd_T154 t105 a0).f1,(rd_T154 t105 a0).f2,(rd_T154 t105 a0).f3,(rd_T154 t105 a0).f4,(rd_T154 t105 a0).f5,true)) else (none)) else (none))))
theorem code_find.calls (a0:Int) (r1:ByteArray) (r2:Int) (r3:Int) (r4:Int) (r5:Bool) (r6:Bool) (r7:Bool) (w:World) (h:code_find.f a0=some (r1,r2,r3,r4,r5,r6,r7)) :
  Calls Try.prog 72 #[.int .i64 a0] w fun e w'=>e=.returned (.tuple #[.agg #[.string r1,.int .i64 r2,.int .i64 r3,.int .i64 r4,.bool r5,.bool r6],.bool r7])∧Below w.heap.size w w':=by
 have hu154:=Try.underlying154
 have HB:=Aside0.mk (Below.refl w.heap.size w)
 have H:((code_shapes.f).bind fun t105=>(if a0<0 then (some ((⟨#[]⟩:ByteArray),0,0,0,false,false,false)) else (if a0 ≥ (t105.length:Int) then (some ((⟨#[]⟩:ByteArray),0,0,0,false,false,false)) else (if 0≤a0 then (if a0<(t105.length:Int) then (some ((rd_T154 t105 a0).f0,(rd_T154 t105 a0).f1,(rd_T154 t105 a0).f2,(rd_T154 t105 a0).f3,(rd_T154 t105 a0).f4,(rd_T154 t105 a0).f5,true)) else (none)) else (none)))))=some (r1,r2,r3,r4,r5,r6,r7):=h
 clear h
 replace H:=Option.bind_eq_some_iff.mp H
 obtain ⟨t105,A20,H⟩:=H
 replace H:(if a0<0 then (some ((⟨#[]⟩:ByteArray),0,0,0,false,false,false)) else (if a0 ≥ (t105.length:Int) then (some ((⟨#[]⟩:ByteArray),0,0,0,false,false,false)) else (if 0≤a0 then (if a0<(t105.length:Int) then (some ((rd_T154 t105 a0).f0,(rd_T154 t105 a0).f1,(rd_T154 t105 a0).f2,(rd_T154 t105 a0).f3,(rd_T154 t105 a0).f4,(rd_T154 t105 a0).f5,true)) else (none)) else (none))))=some (r1,r2,r3,r4,r5,r6,r7):=H
 have A2:=Aside0.mk A20
 clear A20
 by_cases c3:a0<0
 ·
  rw [if_pos c3] at H
  have c3b0:decide (a0<0)=true:=decide_eq_true c3
  clear c3
  simp only [Option.some.injEq,Prod.mk.injEq] at H
  obtain ⟨rfl,rfl,rfl,rfl,rfl,rfl,rfl⟩:=H
  go_enter Try.func72,Try.ntmps72
  go_wp2_with (first|((with_reducible refine gate_dst (N:=2) rfl ?_);(try (refine gate_guard (by rfl) ?_;dsimp only));refine box_event ?hg (N:=2) ?hd (cs:=#[.string (⟨#[]⟩:ByteArray),.int .i64 0,.int .i64 0,.int .i64 0,.bool false,.bool false]) (t:=154) ?hr ?_;(case hd=>rfl);(case hg=>rfl);(case hr=>first|(go_simp;done)|(go_simp;rfl));intro gb104 hg w4 hbox hb;have n0_:=Aside0.mk (below_step (by repeat (first|(with_reducible first|exact HB.out|apply zG|apply zN|apply zH)|exact HB.out)) hb);have n1_:=Aside0.mk (hbox);have n2_:=Aside0.mk ((by rw [hg];exact (below_size (by repeat (first|(with_reducible first|exact HB.out|apply zG|apply zN|apply zH)|exact HB.out))):w.heap.size≤gb104));have n3_:=Aside0.mk ((by rw [hg];exact (below_size (by repeat (first|(with_reducible first|exact HB.out|apply zG|apply zN|apply zH)|exact HB.out))):w.heap.size≤gb104));clear HB;have HB:=n0_;have BK104:=n1_;have GW104:=n2_;have GE104:=n3_;clear n0_ n1_ n2_ n3_;clear hb hbox hg)|((with_reducible refine gate_callee (f:=91) rfl ?_);refine goesL_ (some 5) rfl rfl Try.func91 (by kernel_rfl) rfl #[] rfl (by (try simp only [List.map_toArray,List.map_cons,List.map_nil]);first|done|rfl|(simp only [List.length_drop,List.length_take];rfl)) ?_;(with_reducible refine (code_shapes.calls  t105 _ A2.out).mono ?_);rintro e w5 ⟨v106,rfl,ho0,hb⟩;refine ⟨_,rfl,?_⟩;have n0_:=Aside0.mk (Kd.R_lower (Kd.R_newB ho0 (g:=gb104) (o:=.cells #[.string (⟨#[]⟩:ByteArray),.int .i64 0,.int .i64 0,.int .i64 0,.bool false,.bool false] 154 (0,0)) (by (with_reducible repeat (first|refine blk_drewN ?_ _|refine blk_drew ?_|refine blk_alloc ?_ _));exact BK104.out)) (below_size (by repeat (first|(with_reducible first|exact HB.out|apply zG|apply zN|apply zH|refine below_set ?_ GE104.out)|exact HB.out))));have n1_:=Aside0.mk (zI (g:=gb104) (o:=.cells #[.string (⟨#[]⟩:ByteArray),.int .i64 0,.int .i64 0,.int .i64 0,.bool false,.bool false] 154 (0,0)) (by (with_reducible repeat (first|refine blk_drewN ?_ _|refine blk_drew ?_|refine blk_alloc ?_ _));exact BK104.out) hb);have n2_:=Aside0.mk (below_step (by repeat (first|(with_reducible first|exact HB.out|apply zG|apply zN|apply zH|refine below_set ?_ GE104.out)|exact HB.out)) hb);clear BK104;clear HB;have HO107:=n0_;have BK104:=n1_;have HB:=n2_;clear n0_ n1_ n2_;(try clear hb);(try clear hb2);(try clear hk);(try clear hi);(try clear ho0);have hcz6_0:w5.cell? ⟨gb104,0,none⟩=some (.string (⟨#[]⟩:ByteArray)):=(zJ BK104.out 0).trans rfl;have hcz6_1:w5.cell? ⟨gb104,1,none⟩=some (.int .i64 0):=(zJ BK104.out 1).trans rfl;have hcz6_2:w5.cell? ⟨gb104,2,none⟩=some (.int .i64 0):=(zJ BK104.out 2).trans rfl;have hcz6_3:w5.cell? ⟨gb104,3,none⟩=some (.int .i64 0):=(zJ BK104.out 3).trans rfl;have hcz6_4:w5.cell? ⟨gb104,4,none⟩=some (.bool false):=(zJ BK104.out 4).trans rfl;have hcz6_5:w5.cell? ⟨gb104,5,none⟩=some (.bool false):=(zJ BK104.out 5).trans rfl;have hfz6_0:=zK BK104.out 0;have hfz6_1:=zK BK104.out 1;have hfz6_2:=zK BK104.out 2;have hfz6_3:=zK BK104.out 3;have hfz6_4:=zK BK104.out 4;have hfz6_5:=zK BK104.out 5))
  refine bodyPost_ret (results_ct rfl _ _ gb104 154 #[.string (⟨#[]⟩:ByteArray),.int .i64 0,.int .i64 0,.int .i64 0,.bool false,.bool false] (0,0) _ rfl (by (with_reducible repeat (first|refine blk_drewN ?_ _|refine blk_drew ?_|refine blk_alloc ?_ _));refine blk_put (cs:=#[.string (⟨#[]⟩:ByteArray),.int .i64 0,.int .i64 0,.int .i64 0,.bool false,.bool false]) ?_ 5 _ rfl;(with_reducible repeat (first|refine blk_drewN ?_ _|refine blk_drew ?_|refine blk_alloc ?_ _));refine blk_put (cs:=#[.string (⟨#[]⟩:ByteArray),.int .i64 0,.int .i64 0,.int .i64 0,.bool false,.bool false]) ?_ 4 _ rfl;(with_reducible repeat (first|refine blk_drewN ?_ _|refine blk_drew ?_|refine blk_alloc ?_ _));refine blk_put (cs:=#[.string (⟨#[]⟩:ByteArray),.int .i64 0,.int .i64 0,.int .i64 0,.bool false,.bool false]) ?_ 3 _ rfl;(with_reducible repeat (first|refine blk_drewN ?_ _|refine blk_drew ?_|refine blk_alloc ?_ _));refine blk_put (cs:=#[.string (⟨#[]⟩:ByteArray),.int .i64 0,.int .i64 0,.int .i64 0,.bool false,.bool false]) ?_ 2 _ rfl;(with_reducible repeat (first|refine blk_drewN ?_ _|refine blk_drew ?_|refine blk_alloc ?_ _));refine blk_put (cs:=#[.string (⟨#[]⟩:ByteArray),.int .i64 0,.int .i64 0,.int .i64 0,.bool false,.bool false]) ?_ 1 _ rfl;(with_reducible repeat (first|refine blk_drewN ?_ _|refine blk_drew ?_|refine blk_alloc ?_ _));refine blk_put (cs:=#[.string (⟨#[]⟩:ByteArray),.int .i64 0,.int .i64 0,.int .i64 0,.bool false,.bool false]) ?_ 0 _ rfl;(with_reducible repeat (first|refine blk_drewN ?_ _|refine blk_drew ?_|refine blk_alloc ?_ _));exact BK104.out) Try.underlying154 rfl (by kernel_rfl)) rfl ?_
  exact ⟨by first|rfl|(simp [errW_none,errW_some] <;> rfl)|(simp [*,errW_none,errW_some] <;> rfl),by repeat (first|(with_reducible first|exact HB.out|apply zG|apply zN|apply zH|refine below_set ?_ GE104.out)|exact HB.out)⟩
 ·
  rw [if_neg c3] at H
  have c3b0:decide (a0<0)=false:=decide_eq_false c3
  clear c3
  by_cases c7:a0 ≥ (t105.length:Int)
  ·
   rw [if_pos c7] at H
   have c7b0:decide ((t105.length:Int)≤a0)=true:=decide_eq_true c7
   clear c7
   simp only [Option.some.injEq,Prod.mk.injEq] at H
   obtain ⟨rfl,rfl,rfl,rfl,rfl,rfl,rfl⟩:=H
   go_enter Try.func72,Try.ntmps72
   go_wp2_with (first|((with_reducible refine gate_dst (N:=2) rfl ?_);(try (refine gate_guard (by rfl) ?_;dsimp only));refine box_event ?hg (N:=2) ?hd (cs:=#[.string (⟨#[]⟩:ByteArray),.int .i64 0,.int .i64 0,.int .i64 0,.bool false,.bool false]) (t:=154) ?hr ?_;(case hd=>rfl);(case hg=>rfl);(case hr=>first|(go_simp;done)|(go_simp;rfl));intro gb104 hg w8 hbox hb;have n0_:=Aside0.mk (below_step (by repeat (first|(with_reducible first|exact HB.out|apply zG|apply zN|apply zH)|exact HB.out)) hb);have n1_:=Aside0.mk (hbox);have n2_:=Aside0.mk ((by rw [hg];exact (below_size (by repeat (first|(with_reducible first|exact HB.out|apply zG|apply zN|apply zH)|exact HB.out))):w.heap.size≤gb104));have n3_:=Aside0.mk ((by rw [hg];exact (below_size (by repeat (first|(with_reducible first|exact HB.out|apply zG|apply zN|apply zH)|exact HB.out))):w.heap.size≤gb104));clear HB;have HB:=n0_;have BK104:=n1_;have GW104:=n2_;have GE104:=n3_;clear n0_ n1_ n2_ n3_;clear hb hbox hg)|((with_reducible refine gate_callee (f:=91) rfl ?_);refine goesL_ (some 5) rfl rfl Try.func91 (by kernel_rfl) rfl #[] rfl (by (try simp only [List.map_toArray,List.map_cons,List.map_nil]);first|done|rfl|(simp only [List.length_drop,List.length_take];rfl)) ?_;(with_reducible refine (code_shapes.calls  t105 _ A2.out).mono ?_);rintro e w9 ⟨v106,rfl,ho0,hb⟩;refine ⟨_,rfl,?_⟩;have n0_:=Aside0.mk (Kd.R_lower (Kd.R_newB ho0 (g:=gb104) (o:=.cells #[.string (⟨#[]⟩:ByteArray),.int .i64 0,.int .i64 0,.int .i64 0,.bool false,.bool false] 154 (0,0)) (by (with_reducible repeat (first|refine blk_drewN ?_ _|refine blk_drew ?_|refine blk_alloc ?_ _));exact BK104.out)) (below_size (by repeat (first|(with_reducible first|exact HB.out|apply zG|apply zN|apply zH|refine below_set ?_ GE104.out)|exact HB.out))));have n1_:=Aside0.mk (zI (g:=gb104) (o:=.cells #[.string (⟨#[]⟩:ByteArray),.int .i64 0,.int .i64 0,.int .i64 0,.bool false,.bool false] 154 (0,0)) (by (with_reducible repeat (first|refine blk_drewN ?_ _|refine blk_drew ?_|refine blk_alloc ?_ _));exact BK104.out) hb);have n2_:=Aside0.mk (below_step (by repeat (first|(with_reducible first|exact HB.out|apply zG|apply zN|apply zH|refine below_set ?_ GE104.out)|exact HB.out)) hb);clear BK104;clear HB;have HO107:=n0_;have BK104:=n1_;have HB:=n2_;clear n0_ n1_ n2_;(try clear hb);(try clear hb2);(try clear hk);(try clear hi);(try clear ho0);obtain ⟨Ao10,co10,eo10⟩:=Kd.R_slice HO107.out;subst eo10;have hcz11_0:w9.cell? ⟨gb104,0,none⟩=some (.string (⟨#[]⟩:ByteArray)):=(zJ BK104.out 0).trans rfl;have hcz11_1:w9.cell? ⟨gb104,1,none⟩=some (.int .i64 0):=(zJ BK104.out 1).trans rfl;have hcz11_2:w9.cell? ⟨gb104,2,none⟩=some (.int .i64 0):=(zJ BK104.out 2).trans rfl;have hcz11_3:w9.cell? ⟨gb104,3,none⟩=some (.int .i64 0):=(zJ BK104.out 3).trans rfl;have hcz11_4:w9.cell? ⟨gb104,4,none⟩=some (.bool false):=(zJ BK104.out 4).trans rfl;have hcz11_5:w9.cell? ⟨gb104,5,none⟩=some (.bool false):=(zJ BK104.out 5).trans rfl;have hfz11_0:=zK BK104.out 0;have hfz11_1:=zK BK104.out 1;have hfz11_2:=zK BK104.out 2;have hfz11_3:=zK BK104.out 3;have hfz11_4:=zK BK104.out 4;have hfz11_5:=zK BK104.out 5))
   refine bodyPost_ret (results_ct rfl _ _ gb104 154 #[.string (⟨#[]⟩:ByteArray),.int .i64 0,.int .i64 0,.int .i64 0,.bool false,.bool false] (0,0) _ rfl (by (with_reducible repeat (first|refine blk_drewN ?_ _|refine blk_drew ?_|refine blk_alloc ?_ _));refine blk_put (cs:=#[.string (⟨#[]⟩:ByteArray),.int .i64 0,.int .i64 0,.int .i64 0,.bool false,.bool false]) ?_ 5 _ rfl;(with_reducible repeat (first|refine blk_drewN ?_ _|refine blk_drew ?_|refine blk_alloc ?_ _));refine blk_put (cs:=#[.string (⟨#[]⟩:ByteArray),.int .i64 0,.int .i64 0,.int .i64 0,.bool false,.bool false]) ?_ 4 _ rfl;(with_reducible repeat (first|refine blk_drewN ?_ _|refine blk_drew ?_|refine blk_alloc ?_ _));refine blk_put (cs:=#[.string (⟨#[]⟩:ByteArray),.int .i64 0,.int .i64 0,.int .i64 0,.bool false,.bool false]) ?_ 3 _ rfl;(with_reducible repeat (first|refine blk_drewN ?_ _|refine blk_drew ?_|refine blk_alloc ?_ _));refine blk_put (cs:=#[.string (⟨#[]⟩:ByteArray),.int .i64 0,.int .i64 0,.int .i64 0,.bool false,.bool false]) ?_ 2 _ rfl;(with_reducible repeat (first|refine blk_drewN ?_ _|refine blk_drew ?_|refine blk_alloc ?_ _));refine blk_put (cs:=#[.string (⟨#[]⟩:ByteArray),.int .i64 0,.int .i64 0,.int .i64 0,.bool false,.bool false]) ?_ 1 _ rfl;(with_reducible repeat (first|refine blk_drewN ?_ _|refine blk_drew ?_|refine blk_alloc ?_ _));refine blk_put (cs:=#[.string (⟨#[]⟩:ByteArray),.int .i64 0,.int .i64 0,.int .i64 0,.bool false,.bool false]) ?_ 0 _ rfl;(with_reducible repeat (first|refine blk_drewN ?_ _|refine blk_drew ?_|refine blk_alloc ?_ _));exact BK104.out) Try.underlying154 rfl (by kernel_rfl)) rfl ?_
   exact ⟨by first|rfl|(simp [errW_none,errW_some] <;> rfl)|(simp [*,errW_none,errW_some] <;> rfl),by repeat (first|(with_reducible first|exact HB.out|apply zG|apply zN|apply zH|refine below_set ?_ GE104.out)|exact HB.out)⟩
  ·
   rw [if_neg c7] at H
   have c7b0:decide ((t105.length:Int)≤a0)=false:=decide_eq_false c7
   clear c7
   by_cases c12:0≤a0
   ·
    rw [if_pos c12] at H
    have c12b0:decide (0≤a0)=true:=decide_eq_true c12
    clear c12
    by_cases c13:a0<(t105.length:Int)
    ·
     rw [if_pos c13] at H
     have c13b0:decide (a0<(t105.length:Int))=true:=decide_eq_true c13
     clear c13
     simp only [Option.some.injEq,Prod.mk.injEq] at H
     obtain ⟨rfl,rfl,rfl,rfl,rfl,rfl,rfl⟩:=H
     go_enter Try.func72,Try.ntmps72
     go_wp2_with (first|((with_reducible refine gate_dst (N:=2) rfl ?_);(try (refine gate_guard (by rfl) ?_;dsimp only));refine box_event ?hg (N:=2) ?hd (cs:=#[.string (⟨#[]⟩:ByteArray),.int .i64 0,.int .i64 0,.int .i64 0,.bool false,.bool false]) (t:=154) ?hr ?_;(case hd=>rfl);(case hg=>rfl);(case hr=>first|(go_simp;done)|(go_simp;rfl));intro gb104 hg w14 hbox hb;have n0_:=Aside0.mk (below_step (by repeat (first|(with_reducible first|exact HB.out|apply zG|apply zN|apply zH)|exact HB.out)) hb);have n1_:=Aside0.mk (hbox);have n2_:=Aside0.mk ((by rw [hg];exact (below_size (by repeat (first|(with_reducible first|exact HB.out|apply zG|apply zN|apply zH)|exact HB.out))):w.heap.size≤gb104));have n3_:=Aside0.mk ((by rw [hg];exact (below_size (by repeat (first|(with_reducible first|exact HB.out|apply zG|apply zN|apply zH)|exact HB.out))):w.heap.size≤gb104));clear HB;have HB:=n0_;have BK104:=n1_;have GW104:=n2_;have GE104:=n3_;clear n0_ n1_ n2_ n3_;clear hb hbox hg)|((with_reducible refine gate_callee (f:=91) rfl ?_);refine goesL_ (some 5) rfl rfl Try.func91 (by kernel_rfl) rfl #[] rfl (by (try simp only [List.map_toArray,List.map_cons,List.map_nil]);first|done|rfl|(simp only [List.length_drop,List.length_take];rfl)) ?_;(with_reducible refine (code_shapes.calls  t105 _ A2.out).mono ?_);rintro e w15 ⟨v106,rfl,ho0,hb⟩;refine ⟨_,rfl,?_⟩;have n0_:=Aside0.mk (Kd.R_lower (Kd.R_newB ho0 (g:=gb104) (o:=.cells #[.string (⟨#[]⟩:ByteArray),.int .i64 0,.int .i64 0,.int .i64 0,.bool false,.bool false] 154 (0,0)) (by (with_reducible repeat (first|refine blk_drewN ?_ _|refine blk_drew ?_|refine blk_alloc ?_ _));exact BK104.out)) (below_size (by repeat (first|(with_reducible first|exact HB.out|apply zG|apply zN|apply zH|refine below_set ?_ GE104.out)|exact HB.out))));have n1_:=Aside0.mk (zI (g:=gb104) (o:=.cells #[.string (⟨#[]⟩:ByteArray),.int .i64 0,.int .i64 0,.int .i64 0,.bool false,.bool false] 154 (0,0)) (by (with_reducible repeat (first|refine blk_drewN ?_ _|refine blk_drew ?_|refine blk_alloc ?_ _));exact BK104.out) hb);have n2_:=Aside0.mk (below_step (by repeat (first|(with_reducible first|exact HB.out|apply zG|apply zN|apply zH|refine below_set ?_ GE104.out)|exact HB.out)) hb);clear BK104;clear HB;have HO107:=n0_;have BK104:=n1_;have HB:=n2_;clear n0_ n1_ n2_;(try clear hb);(try clear hb2);(try clear hk);(try clear hi);(try clear ho0);obtain ⟨Ao16,co16,eo16⟩:=Kd.R_slice HO107.out;subst eo16;have p108:0≤(a0:Int):=of_decide_eq_true (by first|(with_reducible assumption)|assumption);have q108:a0<(t105.length:Int):=of_decide_eq_true (by first|(with_reducible assumption)|assumption);obtain ⟨ad108,e108,hx108_0,hx108_1,hx108_2,hx108_3,hx108_4,hx108_5⟩:=at_T154 (Kd.R_reads' HO107.out).2.2 a0 p108 q108;cases e108;replace p108:=eq_true p108;replace q108:=eq_true q108;have hcz17_0:w15.cell? ⟨gb104,0,none⟩=some (.string (⟨#[]⟩:ByteArray)):=(zJ BK104.out 0).trans rfl;have hcz17_1:w15.cell? ⟨gb104,1,none⟩=some (.int .i64 0):=(zJ BK104.out 1).trans rfl;have hcz17_2:w15.cell? ⟨gb104,2,none⟩=some (.int .i64 0):=(zJ BK104.out 2).trans rfl;have hcz17_3:w15.cell? ⟨gb104,3,none⟩=some (.int .i64 0):=(zJ BK104.out 3).trans rfl;have hcz17_4:w15.cell? ⟨gb104,4,none⟩=some (.bool false):=(zJ BK104.out 4).trans rfl;have hcz17_5:w15.cell? ⟨gb104,5,none⟩=some (.bool false):=(zJ BK104.out 5).trans rfl;have hfz17_0:=zK BK104.out 0;have hfz17_1:=zK BK104.out 1;have hfz17_2:=zK BK104.out 2;have hfz17_3:=zK BK104.out 3;have hfz17_4:=zK BK104.out 4;have hfz17_5:=zK BK104.out 5))
     refine bodyPost_ret (results_ct rfl _ _ gb104 154 #[.string ((rd_T154 t105 a0).f0),.int .i64 ((rd_T154 t105 a0).f1),.int .i64 ((rd_T154 t105 a0).f2),.int .i64 ((rd_T154 t105 a0).f3),.bool ((rd_T154 t105 a0).f4),.bool ((rd_T154 t105 a0).f5)] (0,0) _ rfl (by (with_reducible repeat (first|refine blk_drewN ?_ _|refine blk_drew ?_|refine blk_alloc ?_ _));refine blk_put (cs:=#[.string ((rd_T154 t105 a0).f0),.int .i64 ((rd_T154 t105 a0).f1),.int .i64 ((rd_T154 t105 a0).f2),.int .i64 ((rd_T154 t105 a0).f3),.bool ((rd_T154 t105 a0).f4),.bool false]) ?_ 5 _ rfl;(with_reducible repeat (first|refine blk_drewN ?_ _|refine blk_drew ?_|refine blk_alloc ?_ _));refine blk_put (cs:=#[.string ((rd_T154 t105 a0).f0),.int .i64 ((rd_T154 t105 a0).f1),.int .i64 ((rd_T154 t105 a0).f2),.int .i64 ((rd_T154 t105 a0).f3),.bool false,.bool false]) ?_ 4 _ rfl;(with_reducible repeat (first|refine blk_drewN ?_ _|refine blk_drew ?_|refine blk_alloc ?_ _));refine blk_put (cs:=#[.string ((rd_T154 t105 a0).f0),.int .i64 ((rd_T154 t105 a0).f1),.int .i64 ((rd_T154 t105 a0).f2),.int .i64 0,.bool false,.bool false]) ?_ 3 _ rfl;(with_reducible repeat (first|refine blk_drewN ?_ _|refine blk_drew ?_|refine blk_alloc ?_ _));refine blk_put (cs:=#[.string ((rd_T154 t105 a0).f0),.int .i64 ((rd_T154 t105 a0).f1),.int .i64 0,.int .i64 0,.bool false,.bool false]) ?_ 2 _ rfl;(with_reducible repeat (first|refine blk_drewN ?_ _|refine blk_drew ?_|refine blk_alloc ?_ _));refine blk_put (cs:=#[.string ((rd_T154 t105 a0).f0),.int .i64 0,.int .i64 0,.int .i64 0,.bool false,.bool false]) ?_ 1 _ rfl;(with_reducible repeat (first|refine blk_drewN ?_ _|refine blk_drew ?_|refine blk_alloc ?_ _));refine blk_put (cs:=#[.string (⟨#[]⟩:ByteArray),.int .i64 0,.int .i64 0,.int .i64 0,.bool false,.bool false]) ?_ 0 _ rfl;(with_reducible repeat (first|refine blk_drewN ?_ _|refine blk_drew ?_|refine blk_alloc ?_ _));exact BK104.out) Try.underlying154 rfl (by kernel_rfl)) rfl ?_
     exact ⟨by first|rfl|(simp [errW_none,errW_some] <;> rfl)|(simp [*,errW_none,errW_some] <;> rfl),by repeat (first|(with_reducible first|exact HB.out|apply zG|apply zN|apply zH|refine below_set ?_ GE104.out)|exact HB.out)⟩
    ·
     rw [if_neg c13] at H
     exact absurd H (by simp)
   ·
    rw [if_neg c12] at H
    exact absurd H (by simp)
def block_ended.f (a0:Int):Option (Int × Int × Int × Int × Int × Int × Int):=some (5,0,0,0,0,0,a0)
theorem block_ended.calls (a0:Int) (r1:Int) (r2:Int) (r3:Int) (r4:Int) (r5:Int) (r6:Int) (r7:Int) (w:World) (h:block_ended.f a0=some (r1,r2,r3,r4,r5,r6,r7)) :
  Calls Try.prog 30 #[.int .i64 a0] w fun e w'=>e=.returned (.agg #[.int .i64 r1,.int .i64 r2,.int .i64 r3,.int .i64 r4,.int .i64 r5,.int .i64 r6,.int .i64 r7])∧Below w.heap.size w w':=by
 have hu39:=Try.underlying39
 have HB:=Aside0.mk (Below.refl w.heap.size w)
 have H:(some (5,0,0,0,0,0,a0))=some (r1,r2,r3,r4,r5,r6,r7):=h
 clear h
 simp only [Option.some.injEq,Prod.mk.injEq] at H
 obtain ⟨rfl,rfl,rfl,rfl,rfl,rfl,rfl⟩:=H
 go_enter Try.func30,Try.ntmps30
 go_wp2_with (first|((with_reducible refine gate_dst (N:=2) rfl ?_);refine box_event ?hg (N:=2) ?hd (cs:=#[.int .i64 0,.int .i64 0,.int .i64 0,.int .i64 0,.int .i64 0,.int .i64 0,.int .i64 0]) (t:=39) ?hr ?_;(case hd=>rfl);(case hg=>rfl);(case hr=>first|(go_simp;done)|(go_simp;rfl));intro gb109 hg w2 hbox hb;have n0_:=Aside0.mk (below_step (by repeat (first|(with_reducible first|exact HB.out|apply zG|apply zN|apply zH)|exact HB.out)) hb);have n1_:=Aside0.mk (hbox);have n2_:=Aside0.mk ((by rw [hg];exact (below_size (by repeat (first|(with_reducible first|exact HB.out|apply zG|apply zN|apply zH)|exact HB.out))):w.heap.size≤gb109));have n3_:=Aside0.mk ((by rw [hg];exact (below_size (by repeat (first|(with_reducible first|exact HB.out|apply zG|apply zN|apply zH)|exact HB.out))):w.heap.size≤gb109));clear HB;have HB:=n0_;have BK109:=n1_;have GW109:=n2_;have GE109:=n3_;clear n0_ n1_ n2_ n3_;clear hb hbox hg;have hcz3_0:w2.cell? ⟨gb109,0,none⟩=some (.int .i64 0):=(zJ BK109.out 0).trans rfl;have hcz3_1:w2.cell? ⟨gb109,1,none⟩=some (.int .i64 0):=(zJ BK109.out 1).trans rfl;have hcz3_2:w2.cell? ⟨gb109,2,none⟩=some (.int .i64 0):=(zJ BK109.out 2).trans rfl;have hcz3_3:w2.cell? ⟨gb109,3,none⟩=some (.int .i64 0):=(zJ BK109.out 3).trans rfl;have hcz3_4:w2.cell? ⟨gb109,4,none⟩=some (.int .i64 0):=(zJ BK109.out 4).trans rfl;have hcz3_5:w2.cell? ⟨gb109,5,none⟩=some (.int .i64 0):=(zJ BK109.out 5).trans rfl;have hcz3_6:w2.cell? ⟨gb109,6,none⟩=some (.int .i64 0):=(zJ BK109.out 6).trans rfl;have hfz3_0:=zK BK109.out 0;have hfz3_1:=zK BK109.out 1;have hfz3_2:=zK BK109.out 2;have hfz3_3:=zK BK109.out 3;have hfz3_4:=zK BK109.out 4;have hfz3_5:=zK BK109.out 5;have hfz3_6:=zK BK109.out 6))
 refine bodyPost_ret (results_cell_row rfl _ _ gb109 39 #[.int .i64 5,.int .i64 0,.int .i64 0,.int .i64 0,.int .i64 0,.int .i64 0,.int .i64 a0] (0,0) _ rfl (by (with_reducible repeat (first|refine blk_drewN ?_ _|refine blk_drew ?_|refine blk_alloc ?_ _));refine blk_put (cs:=#[.int .i64 5,.int .i64 0,.int .i64 0,.int .i64 0,.int .i64 0,.int .i64 0,.int .i64 0]) ?_ 6 _ rfl;(with_reducible repeat (first|refine blk_drewN ?_ _|refine blk_drew ?_|refine blk_alloc ?_ _));refine blk_put (cs:=#[.int .i64 5,.int .i64 0,.int .i64 0,.int .i64 0,.int .i64 0,.int .i64 0,.int .i64 0]) ?_ 5 _ rfl;(with_reducible repeat (first|refine blk_drewN ?_ _|refine blk_drew ?_|refine blk_alloc ?_ _));refine blk_put (cs:=#[.int .i64 5,.int .i64 0,.int .i64 0,.int .i64 0,.int .i64 0,.int .i64 0,.int .i64 0]) ?_ 4 _ rfl;(with_reducible repeat (first|refine blk_drewN ?_ _|refine blk_drew ?_|refine blk_alloc ?_ _));refine blk_put (cs:=#[.int .i64 5,.int .i64 0,.int .i64 0,.int .i64 0,.int .i64 0,.int .i64 0,.int .i64 0]) ?_ 3 _ rfl;(with_reducible repeat (first|refine blk_drewN ?_ _|refine blk_drew ?_|refine blk_alloc ?_ _));refine blk_put (cs:=#[.int .i64 5,.int .i64 0,.int .i64 0,.int .i64 0,.int .i64 0,.int .i64 0,.int .i64 0]) ?_ 2 _ rfl;(with_reducible repeat (first|refine blk_drewN ?_ _|refine blk_drew ?_|refine blk_alloc ?_ _));refine blk_put (cs:=#[.int .i64 5,.int .i64 0,.int .i64 0,.int .i64 0,.int .i64 0,.int .i64 0,.int .i64 0]) ?_ 1 _ rfl;(with_reducible repeat (first|refine blk_drewN ?_ _|refine blk_drew ?_|refine blk_alloc ?_ _));refine blk_put (cs:=#[.int .i64 0,.int .i64 0,.int .i64 0,.int .i64 0,.int .i64 0,.int .i64 0,.int .i64 0]) ?_ 0 _ rfl;(with_reducible repeat (first|refine blk_drewN ?_ _|refine blk_drew ?_|refine blk_alloc ?_ _));exact BK109.out) Try.underlying39 rfl (by kernel_rfl)) rfl ?_
 exact ⟨by first|rfl|(simp [errW_none,errW_some] <;> rfl)|(simp [*,errW_none,errW_some] <;> rfl),by repeat (first|(with_reducible first|exact HB.out|apply zG|apply zN|apply zH|refine below_set ?_ GE109.out)|exact HB.out)⟩
def value_Right.f (a0_0:Int) (a0_1:Int):Option (Bool):=if a0_0=0 then (some (a0_1==0)) else (if a0_0=1 then (some true) else (if a0_0=2 then (if a0_1 ≥ 0 then (some (decide (a0_1<64))) else (some false)) else (some false)))
theorem value_Right.calls (a0_0:Int) (a0_1:Int) (r:Bool) (w:World) (h:value_Right.f a0_0 a0_1=some r) :
  Calls Try.prog 97 #[.agg #[.int .i64 a0_0,.int .i64 a0_1]] w fun e w'=>e=.returned (.bool r)∧Below w.heap.size w w':=by
 have hu32:=Try.underlying32
 have HB:=Aside0.mk (Below.refl w.heap.size w)
 have H:(if a0_0=0 then (some (a0_1==0)) else (if a0_0=1 then (some true) else (if a0_0=2 then (if a0_1 ≥ 0 then (some (decide (a0_1<64))) else (some false)) else (some false))))=some r:=h
 clear h
 by_cases c2:a0_0=0
 ·
  rw [if_pos c2] at H
  have c2b0:(a0_0==0)=true:=beq_iff_eq.mpr c2
  have c2b1:(a0_0 != 0)=false:=bne_eq_false_iff_eq.mpr c2
  clear c2
  obtain rfl:=Option.some.inj H
  go_enter Try.func97,Try.ntmps97
  go_wp2_with (first|((with_reducible refine gate_dst (N:=1) rfl ?_);refine box_event ?hg (N:=1) ?hd (cs:=#[.int .i64 a0_0,.int .i64 a0_1]) (t:=32) ?hr ?_;(case hd=>rfl);(case hg=>rfl);(case hr=>first|(go_simp;done)|(go_simp;rfl));intro gb124 hg w3 hbox hb;have n0_:=Aside0.mk (below_step (by repeat (first|(with_reducible first|exact HB.out|apply zG|apply zN|apply zH)|exact HB.out)) hb);have n1_:=Aside0.mk (hbox);have n2_:=Aside0.mk ((by rw [hg];exact (below_size (by repeat (first|(with_reducible first|exact HB.out|apply zG|apply zN|apply zH)|exact HB.out))):w.heap.size≤gb124));have n3_:=Aside0.mk ((by rw [hg];exact (below_size (by repeat (first|(with_reducible first|exact HB.out|apply zG|apply zN|apply zH)|exact HB.out))):w.heap.size≤gb124));clear HB;have HB:=n0_;have BK124:=n1_;have GW124:=n2_;have GE124:=n3_;clear n0_ n1_ n2_ n3_;clear hb hbox hg;have hcz4_0:w3.cell? ⟨gb124,0,none⟩=some (.int .i64 a0_0):=(zJ BK124.out 0).trans rfl;have hcz4_1:w3.cell? ⟨gb124,1,none⟩=some (.int .i64 a0_1):=(zJ BK124.out 1).trans rfl;have hfz4_0:=zK BK124.out 0;have hfz4_1:=zK BK124.out 1))
  go_ret
  exact ⟨by first|rfl|(simp [errW_none,errW_some] <;> rfl)|(simp [*,errW_none,errW_some] <;> rfl),by repeat (first|(with_reducible first|exact HB.out|apply zG|apply zN|apply zH|refine below_set ?_ GE124.out)|exact HB.out)⟩
 ·
  rw [if_neg c2] at H
  have c2b0:(a0_0==0)=false:=beq_eq_false_iff_ne.mpr c2
  have c2b1:(a0_0 != 0)=true:=bne_iff_ne.mpr c2
  by_cases c5:a0_0=1
  ·
   rw [if_pos c5] at H
   have c5b0:(a0_0==1)=true:=beq_iff_eq.mpr c5
   have c5b1:(a0_0 != 1)=false:=bne_eq_false_iff_eq.mpr c5
   clear c5
   obtain rfl:=Option.some.inj H
   go_enter Try.func97,Try.ntmps97
   go_wp2_with (first|((with_reducible refine gate_dst (N:=1) rfl ?_);refine box_event ?hg (N:=1) ?hd (cs:=#[.int .i64 a0_0,.int .i64 a0_1]) (t:=32) ?hr ?_;(case hd=>rfl);(case hg=>rfl);(case hr=>first|(go_simp;done)|(go_simp;rfl));intro gb124 hg w6 hbox hb;have n0_:=Aside0.mk (below_step (by repeat (first|(with_reducible first|exact HB.out|apply zG|apply zN|apply zH)|exact HB.out)) hb);have n1_:=Aside0.mk (hbox);have n2_:=Aside0.mk ((by rw [hg];exact (below_size (by repeat (first|(with_reducible first|exact HB.out|apply zG|apply zN|apply zH)|exact HB.out))):w.heap.size≤gb124));have n3_:=Aside0.mk ((by rw [hg];exact (below_size (by repeat (first|(with_reducible first|exact HB.out|apply zG|apply zN|apply zH)|exact HB.out))):w.heap.size≤gb124));clear HB;have HB:=n0_;have BK124:=n1_;have GW124:=n2_;have GE124:=n3_;clear n0_ n1_ n2_ n3_;clear hb hbox hg;have hcz7_0:w6.cell? ⟨gb124,0,none⟩=some (.int .i64 a0_0):=(zJ BK124.out 0).trans rfl;have hcz7_1:w6.cell? ⟨gb124,1,none⟩=some (.int .i64 a0_1):=(zJ BK124.out 1).trans rfl;have hfz7_0:=zK BK124.out 0;have hfz7_1:=zK BK124.out 1))
   go_ret
   exact ⟨by first|rfl|(simp [errW_none,errW_some] <;> rfl)|(simp [*,errW_none,errW_some] <;> rfl),by repeat (first|(with_reducible first|exact HB.out|apply zG|apply zN|apply zH|refine below_set ?_ GE124.out)|exact HB.out)⟩
  ·
   rw [if_neg c5] at H
   have c5b0:(a0_0==1)=false:=beq_eq_false_iff_ne.mpr c5
   have c5b1:(a0_0 != 1)=true:=bne_iff_ne.mpr c5
   by_cases c8:a0_0=2
   ·
    rw [if_pos c8] at H
    have c8b0:(a0_0==2)=true:=beq_iff_eq.mpr c8
    have c8b1:(a0_0 != 2)=false:=bne_eq_false_iff_eq.mpr c8
    clear c8
    by_cases c9:a0_1 ≥ 0
    ·
     rw [if_pos c9] at H
     have c9b0:decide (0≤a0_1)=true:=decide_eq_true c9
     clear c9
     obtain rfl:=Option.some.inj H
     go_enter Try.func97,Try.ntmps97
     go_wp2_with (first|((with_reducible refine gate_dst (N:=1) rfl ?_);refine box_event ?hg (N:=1) ?hd (cs:=#[.int .i64 a0_0,.int .i64 a0_1]) (t:=32) ?hr ?_;(case hd=>rfl);(case hg=>rfl);(case hr=>first|(go_simp;done)|(go_simp;rfl));intro gb124 hg w10 hbox hb;have n0_:=Aside0.mk (below_step (by repeat (first|(with_reducible first|exact HB.out|apply zG|apply zN|apply zH)|exact HB.out)) hb);have n1_:=Aside0.mk (hbox);have n2_:=Aside0.mk ((by rw [hg];exact (below_size (by repeat (first|(with_reducible first|exact HB.out|apply zG|apply zN|apply zH)|exact HB.out))):w.heap.size≤gb124));have n3_:=Aside0.mk ((by rw [hg];exact (below_size (by repeat (first|(with_reducible first|exact HB.out|apply zG|apply zN|apply zH)|exact HB.out))):w.heap.size≤gb124));clear HB;have HB:=n0_;have BK124:=n1_;have GW124:=n2_;have GE124:=n3_;clear n0_ n1_ n2_ n3_;clear hb hbox hg;have hcz11_0:w10.cell? ⟨gb124,0,none⟩=some (.int .i64 a0_0):=(zJ BK124.out 0).trans rfl;have hcz11_1:w10.cell? ⟨gb124,1,none⟩=some (.int .i64 a0_1):=(zJ BK124.out 1).trans rfl;have hfz11_0:=zK BK124.out 0;have hfz11_1:=zK BK124.out 1))
     go_ret
     exact ⟨by first|rfl|(simp [errW_none,errW_some] <;> rfl)|(simp [*,errW_none,errW_some] <;> rfl),by repeat (first|(with_reducible first|exact HB.out|apply zG|apply zN|apply zH|refine below_set ?_ GE124.out)|exact HB.out)⟩
    ·
     rw [if_neg c9] at H
     have c9b0:decide (0≤a0_1)=false:=decide_eq_false c9
     clear c9
     obtain rfl:=Option.some.inj H
     go_enter Try.func97,Try.ntmps97
     go_wp2_with (first|((with_reducible refine gate_dst (N:=1) rfl ?_);refine box_event ?hg (N:=1) ?hd (cs:=#[.int .i64 a0_0,.int .i64 a0_1]) (t:=32) ?hr ?_;(case hd=>rfl);(case hg=>rfl);(case hr=>first|(go_simp;done)|(go_simp;rfl));intro gb124 hg w12 hbox hb;have n0_:=Aside0.mk (below_step (by repeat (first|(with_reducible first|exact HB.out|apply zG|apply zN|apply zH)|exact HB.out)) hb);have n1_:=Aside0.mk (hbox);have n2_:=Aside0.mk ((by rw [hg];exact (below_size (by repeat (first|(with_reducible first|exact HB.out|apply zG|apply zN|apply zH)|exact HB.out))):w.heap.size≤gb124));have n3_:=Aside0.mk ((by rw [hg];exact (below_size (by repeat (first|(with_reducible first|exact HB.out|apply zG|apply zN|apply zH)|exact HB.out))):w.heap.size≤gb124));clear HB;have HB:=n0_;have BK124:=n1_;have GW124:=n2_;have GE124:=n3_;clear n0_ n1_ n2_ n3_;clear hb hbox hg;have hcz13_0:w12.cell? ⟨gb124,0,none⟩=some (.int .i64 a0_0):=(zJ BK124.out 0).trans rfl;have hcz13_1:w12.cell? ⟨gb124,1,none⟩=some (.int .i64 a0_1):=(zJ BK124.out 1).trans rfl;have hfz13_0:=zK BK124.out 0;have hfz13_1:=zK BK124.out 1))
     go_ret
     exact ⟨by first|rfl|(simp [errW_none,errW_some] <;> rfl)|(simp [*,errW_none,errW_some] <;> rfl),by repeat (first|(with_reducible first|exact HB.out|apply zG|apply zN|apply zH|refine below_set ?_ GE124.out)|exact HB.out)⟩
   ·
    rw [if_neg c8] at H
    have c8b0:(a0_0==2)=false:=beq_eq_false_iff_ne.mpr c8
    have c8b1:(a0_0 != 2)=true:=bne_iff_ne.mpr c8
    obtain rfl:=Option.some.inj H
    go_enter Try.func97,Try.ntmps97
    go_wp2_with (first|((with_reducible refine gate_dst (N:=1) rfl ?_);refine box_event ?hg (N:=1) ?hd (cs:=#[.int .i64 a0_0,.int .i64 a0_1]) (t:=32) ?hr ?_;(case hd=>rfl);(case hg=>rfl);(case hr=>first|(go_simp;done)|(go_simp;rfl));intro gb124 hg w14 hbox hb;have n0_:=Aside0.mk (below_step (by repeat (first|(with_reducible first|exact HB.out|apply zG|apply zN|apply zH)|exact HB.out)) hb);have n1_:=Aside0.mk (hbox);have n2_:=Aside0.mk ((by rw [hg];exact (below_size (by repeat (first|(with_reducible first|exact HB.out|apply zG|apply zN|apply zH)|exact HB.out))):w.heap.size≤gb124));have n3_:=Aside0.mk ((by rw [hg];exact (below_size (by repeat (first|(with_reducible first|exact HB.out|apply zG|apply zN|apply zH)|exact HB.out))):w.heap.size≤gb124));clear HB;have HB:=n0_;have BK124:=n1_;have GW124:=n2_;have GE124:=n3_;clear n0_ n1_ n2_ n3_;clear hb hbox hg;have hcz15_0:w14.cell? ⟨gb124,0,none⟩=some (.int .i64 a0_0):=(zJ BK124.out 0).trans rfl;have hcz15_1:w14.cell? ⟨gb124,1,none⟩=some (.int .i64 a0_1):=(zJ BK124.out 1).trans rfl;have hfz15_0:=zK BK124.out 0;have hfz15_1:=zK BK124.out 1))
    go_ret
    exact ⟨by first|rfl|(simp [errW_none,errW_some] <;> rfl)|(simp [*,errW_none,errW_some] <;> rfl),by repeat (first|(with_reducible first|exact HB.out|apply zG|apply zN|apply zH|refine below_set ?_ GE124.out)|exact HB.out)⟩
def txn_Save.f (l0:List (S80)):Option (Int):=some (l0.length:Int)
theorem txn_Save.calls (A0:Option Addr) (c0:Nat) (l0:List (S80)) (r:Int) (w:World) (hr0:Kd.C k80 w A0 l0.length l0) (hc0:l0.length≤c0) (h:txn_Save.f l0=some r) :
  Calls Try.prog 61 #[.slice A0 l0.length c0] w fun e w'=>e=.returned (.int .i64 r)∧Drawn0 w w':=by
 have HR0:=Aside0.mk hr0
 have HC0:=Aside0.mk hc0
 clear hr0 hc0
 have H:(some (l0.length:Int))=some r:=h
 clear h
 obtain rfl:=Option.some.inj H
 go_enter Try.func61,Try.ntmps61
 go_wp2
 go_ret
 exact ⟨by first|rfl|(simp;done)|(simp [*];done),by repeat (first|exact Drawn0.refl _|apply Drawn0.step)⟩
def warpbeamref16_Fields.f (a0:Int):Option (ByteArray):=if a0<0 then (some (⟨#[]⟩:ByteArray)) else (if a0 ≥ 17 then (some (⟨#[]⟩:ByteArray)) else ((some (([(⟨#[114,45,45,110]⟩:ByteArray),(⟨#[114,45,45,45]⟩:ByteArray),(⟨#[114,118,45,45]⟩:ByteArray),(⟨#[114,114,45,45]⟩:ByteArray),(⟨#[114,114,114,45]⟩:ByteArray),(⟨#[114,114,114,45]⟩:ByteArray),(⟨#[114,114,114,45]⟩:ByteArray),(⟨#[114,114,114,45]⟩:ByteArray),(⟨#[114,114,45,45]⟩:ByteArray),(⟨#[114,114,45,45]⟩:ByteArray),(⟨#[45,45,112,45]⟩:ByteArray),(⟨#[114,45,112,45]⟩:ByteArray),(⟨#[45,45,112,45]⟩:ByteArray),(⟨#[45,45,45,45]⟩:ByteArray),(⟨#[45,45,45,45]⟩:ByteArray),(⟨#[45,45,45,45]⟩:ByteArray),(⟨#[45,45,45,45]⟩:ByteArray)]:List ByteArray):List ByteArray)).bind fun y137=>(if 0≤a0 then (if a0<(y137.length:Int) then (some (rdOf ByteArray.empty y137 a0)) else (none)) else (none))))
theorem warpbeamref16_Fields.calls (a0:Int) (r:ByteArray) (w:World) (h:warpbeamref16_Fields.f a0=some r) :
  Calls Try.prog 55 #[.int .i64 a0] w fun e w'=>e=.returned (.string r)∧Below w.heap.size w w':=by
 have HB:=Aside0.mk (Below.refl w.heap.size w)
 have H:(if a0<0 then (some (⟨#[]⟩:ByteArray)) else (if a0 ≥ 17 then (some (⟨#[]⟩:ByteArray)) else ((some (([(⟨#[114,45,45,110]⟩:ByteArray),(⟨#[114,45,45,45]⟩:ByteArray),(⟨#[114,118,45,45]⟩:ByteArray),(⟨#[114,114,45,45]⟩:ByteArray),(⟨#[114,114,114,45]⟩:ByteArray),(⟨#[114,114,114,45]⟩:ByteArray),(⟨#[114,114,114,45]⟩:ByteArray),(⟨#[114,114,114,45]⟩:ByteArray),(⟨#[114,114,45,45]⟩:ByteArray),(⟨#[114,114,45,45]⟩:ByteArray),(⟨#[45,45,112,45]⟩:ByteArray),(⟨#[114,45,112,45]⟩:ByteArray),(⟨#[45,45,112,45]⟩:ByteArray),(⟨#[45,45,45,45]⟩:ByteArray),(⟨#[45,45,45,45]⟩:ByteArray),(⟨#[45,45,45,45]⟩:ByteArray),(⟨#[45,45,45,45]⟩:ByteArray)]:List ByteArray):List ByteArray)).bind fun y137=>(if 0≤a0 then (if a0<(y137.length:Int) then (some (rdOf ByteArray.empty y137 a0)) else (none)) else (none)))))=some r:=h
 clear h
 by_cases c2:a0<0
 ·
  rw [if_pos c2] at H
  have c2b0:decide (a0<0)=true:=decide_eq_true c2
  clear c2
  obtain rfl:=Option.some.inj H
  go_enter Try.func55,Try.ntmps55
  go_wp2
  go_ret
  exact ⟨by first|rfl|(simp [errW_none,errW_some] <;> rfl)|(simp [*,errW_none,errW_some] <;> rfl),by repeat (first|(with_reducible first|exact HB.out|apply zG|apply zN|apply zH)|exact HB.out)⟩
 ·
  rw [if_neg c2] at H
  have c2b0:decide (a0<0)=false:=decide_eq_false c2
  clear c2
  by_cases c3:a0 ≥ 17
  ·
   rw [if_pos c3] at H
   have c3b0:decide (17≤a0)=true:=decide_eq_true c3
   clear c3
   obtain rfl:=Option.some.inj H
   go_enter Try.func55,Try.ntmps55
   go_wp2
   go_ret
   exact ⟨by first|rfl|(simp [errW_none,errW_some] <;> rfl)|(simp [*,errW_none,errW_some] <;> rfl),by repeat (first|(with_reducible first|exact HB.out|apply zG|apply zN|apply zH)|exact HB.out)⟩
  ·
   rw [if_neg c3] at H
   have c3b0:decide (17≤a0)=false:=decide_eq_false c3
   clear c3
   obtain ⟨y137,hy137⟩:∃ y_:List ByteArray,y_=(([(⟨#[114,45,45,110]⟩:ByteArray),(⟨#[114,45,45,45]⟩:ByteArray),(⟨#[114,118,45,45]⟩:ByteArray),(⟨#[114,114,45,45]⟩:ByteArray),(⟨#[114,114,114,45]⟩:ByteArray),(⟨#[114,114,114,45]⟩:ByteArray),(⟨#[114,114,114,45]⟩:ByteArray),(⟨#[114,114,114,45]⟩:ByteArray),(⟨#[114,114,45,45]⟩:ByteArray),(⟨#[114,114,45,45]⟩:ByteArray),(⟨#[45,45,112,45]⟩:ByteArray),(⟨#[114,45,112,45]⟩:ByteArray),(⟨#[45,45,112,45]⟩:ByteArray),(⟨#[45,45,45,45]⟩:ByteArray),(⟨#[45,45,45,45]⟩:ByteArray),(⟨#[45,45,45,45]⟩:ByteArray),(⟨#[45,45,45,45]⟩:ByteArray)]:List ByteArray)):=⟨_,rfl⟩
   replace H:(if 0≤a0 then (if a0<(y137.length:Int) then (some (rdOf ByteArray.empty y137 a0)) else (none)) else (none))=some r:=by first|(rw [hy137];with_reducible exact H)|(have H2_:=(Option.bind_some _ _).symm.trans H;rw [hy137];with_reducible exact H2_)|(have H2_:=(Option.bind_some _ _).symm.trans H;with_reducible exact H2_)|with_reducible exact H|(rw [hy137];exact H)|exact H
   have Ny137:=Aside0.mk hy137
   clear hy137
   by_cases c4:0≤a0
   ·
    rw [if_pos c4] at H
    have c4b0:decide (0≤a0)=true:=decide_eq_true c4
    clear c4
    by_cases c5:a0<(y137.length:Int)
    ·
     rw [if_pos c5] at H
     have c5b0:decide (a0<(y137.length:Int))=true:=decide_eq_true c5
     clear c5
     obtain rfl:=Option.some.inj H
     go_enter Try.func55,Try.ntmps55
     go_wp2_with (first|((with_reducible refine gate_dst (N:=9) rfl ?_);refine Kd.R_lit Kd.string _ 9 ?hg (N:=9) ?hd (xs:=([(⟨#[114,45,45,110]⟩:ByteArray),(⟨#[114,45,45,45]⟩:ByteArray),(⟨#[114,118,45,45]⟩:ByteArray),(⟨#[114,114,45,45]⟩:ByteArray),(⟨#[114,114,114,45]⟩:ByteArray),(⟨#[114,114,114,45]⟩:ByteArray),(⟨#[114,114,114,45]⟩:ByteArray),(⟨#[114,114,114,45]⟩:ByteArray),(⟨#[114,114,45,45]⟩:ByteArray),(⟨#[114,114,45,45]⟩:ByteArray),(⟨#[45,45,112,45]⟩:ByteArray),(⟨#[114,45,112,45]⟩:ByteArray),(⟨#[45,45,112,45]⟩:ByteArray),(⟨#[45,45,45,45]⟩:ByteArray),(⟨#[45,45,45,45]⟩:ByteArray),(⟨#[45,45,45,45]⟩:ByteArray),(⟨#[45,45,45,45]⟩:ByteArray)]:List ByteArray)) (inner:=[.string (⟨#[114,45,45,110]⟩:ByteArray),.string (⟨#[114,45,45,45]⟩:ByteArray),.string (⟨#[114,118,45,45]⟩:ByteArray),.string (⟨#[114,114,45,45]⟩:ByteArray),.string (⟨#[114,114,114,45]⟩:ByteArray),.string (⟨#[114,114,114,45]⟩:ByteArray),.string (⟨#[114,114,114,45]⟩:ByteArray),.string (⟨#[114,114,114,45]⟩:ByteArray),.string (⟨#[114,114,45,45]⟩:ByteArray),.string (⟨#[114,114,45,45]⟩:ByteArray),.string (⟨#[45,45,112,45]⟩:ByteArray),.string (⟨#[114,45,112,45]⟩:ByteArray),.string (⟨#[45,45,112,45]⟩:ByteArray),.string (⟨#[45,45,45,45]⟩:ByteArray),.string (⟨#[45,45,45,45]⟩:ByteArray),.string (⟨#[45,45,45,45]⟩:ByteArray),.string (⟨#[45,45,45,45]⟩:ByteArray)]) (ok:=fun _=>True) (okp:=fun _=>True) ?hr ?hp (fun _ hk=>hk) trivial (Below.refl _ _) (Nat.le_refl _) (by simp) ?_;(case hd=>rfl);(case hg=>rfl);(case hr=>first|(go_simp;done)|(go_simp;rfl));(case hp=>exact (Reps.one (show Kd.M Kd.string _ _ _ (⟨#[114,45,45,110]⟩:ByteArray) [.string (⟨#[114,45,45,110]⟩:ByteArray)] from rfl) (Reps.one (show Kd.M Kd.string _ _ _ (⟨#[114,45,45,45]⟩:ByteArray) [.string (⟨#[114,45,45,45]⟩:ByteArray)] from rfl) (Reps.one (show Kd.M Kd.string _ _ _ (⟨#[114,118,45,45]⟩:ByteArray) [.string (⟨#[114,118,45,45]⟩:ByteArray)] from rfl) (Reps.one (show Kd.M Kd.string _ _ _ (⟨#[114,114,45,45]⟩:ByteArray) [.string (⟨#[114,114,45,45]⟩:ByteArray)] from rfl) (Reps.one (show Kd.M Kd.string _ _ _ (⟨#[114,114,114,45]⟩:ByteArray) [.string (⟨#[114,114,114,45]⟩:ByteArray)] from rfl) (Reps.one (show Kd.M Kd.string _ _ _ (⟨#[114,114,114,45]⟩:ByteArray) [.string (⟨#[114,114,114,45]⟩:ByteArray)] from rfl) (Reps.one (show Kd.M Kd.string _ _ _ (⟨#[114,114,114,45]⟩:ByteArray) [.string (⟨#[114,114,114,45]⟩:ByteArray)] from rfl) (Reps.one (show Kd.M Kd.string _ _ _ (⟨#[114,114,114,45]⟩:ByteArray) [.string (⟨#[114,114,114,45]⟩:ByteArray)] from rfl) (Reps.one (show Kd.M Kd.string _ _ _ (⟨#[114,114,45,45]⟩:ByteArray) [.string (⟨#[114,114,45,45]⟩:ByteArray)] from rfl) (Reps.one (show Kd.M Kd.string _ _ _ (⟨#[114,114,45,45]⟩:ByteArray) [.string (⟨#[114,114,45,45]⟩:ByteArray)] from rfl) (Reps.one (show Kd.M Kd.string _ _ _ (⟨#[45,45,112,45]⟩:ByteArray) [.string (⟨#[45,45,112,45]⟩:ByteArray)] from rfl) (Reps.one (show Kd.M Kd.string _ _ _ (⟨#[114,45,112,45]⟩:ByteArray) [.string (⟨#[114,45,112,45]⟩:ByteArray)] from rfl) (Reps.one (show Kd.M Kd.string _ _ _ (⟨#[45,45,112,45]⟩:ByteArray) [.string (⟨#[45,45,112,45]⟩:ByteArray)] from rfl) (Reps.one (show Kd.M Kd.string _ _ _ (⟨#[45,45,45,45]⟩:ByteArray) [.string (⟨#[45,45,45,45]⟩:ByteArray)] from rfl) (Reps.one (show Kd.M Kd.string _ _ _ (⟨#[45,45,45,45]⟩:ByteArray) [.string (⟨#[45,45,45,45]⟩:ByteArray)] from rfl) (Reps.one (show Kd.M Kd.string _ _ _ (⟨#[45,45,45,45]⟩:ByteArray) [.string (⟨#[45,45,45,45]⟩:ByteArray)] from rfl) (Reps.one (show Kd.M Kd.string _ _ _ (⟨#[45,45,45,45]⟩:ByteArray) [.string (⟨#[45,45,45,45]⟩:ByteArray)] from rfl) (Reps.none _ _)))))))))))))))))));intro v138 w6 ho7 hb hg_ hnew_;clear hg_ hnew_;(first|rw [← Ny137.out] at ho7|(simp only [Int.reduceToNat] at ho7;rw [← Ny137.out] at ho7));have n0_:=Aside0.mk (Kd.R_lower ho7 (below_size (by repeat (first|(with_reducible first|exact HB.out|apply zG|apply zN|apply zH)|exact HB.out))));have n1_:=Aside0.mk (below_step (by repeat (first|(with_reducible first|exact HB.out|apply zG|apply zN|apply zH)|exact HB.out)) hb);clear HB;have HO139:=n0_;have HB:=n1_;clear n0_ n1_;clear hb ho7;obtain ⟨Ao8,co8,eo8⟩:=Kd.R_slice HO139.out;subst eo8;have p140:0≤(a0:Int):=of_decide_eq_true (by first|(with_reducible assumption)|assumption);have q140:a0<(y137.length:Int):=of_decide_eq_true (by first|(with_reducible assumption)|assumption);obtain ⟨ad140,e140,hx140_0⟩:=Kd.at_string (Kd.R_reads' HO139.out).2.2 a0 p140 q140;cases e140;replace p140:=eq_true p140;replace q140:=eq_true q140))
     go_ret
     exact ⟨by first|rfl|(simp [errW_none,errW_some] <;> rfl)|(simp [*,errW_none,errW_some] <;> rfl),by repeat (first|(with_reducible first|exact HB.out|apply zG|apply zN|apply zH)|exact HB.out)⟩
    ·
     rw [if_neg c5] at H
     exact absurd H (by simp)
   ·
    rw [if_neg c4] at H
    exact absurd H (by simp)
def warpbeamref16_field.f (a0:Int) (a1:Int) (a2:Int):Option (Bool):=if a0=114 then (if a1 ≥ 0 then (some (decide (a1<8))) else (some false)) else (if a0=118 then (if a1 ≥ 0 then (some (decide (a1<64))) else (some false)) else (if a0=112 then (if a1 ≥ 0 then (some (decide (a1<a2))) else (some false)) else (if a1 ≥ 0 then (some (decide (a1<1))) else (some false))))
theorem warpbeamref16_field.calls (a0:Int) (a1:Int) (a2:Int) (r:Bool) (w:World) (h:warpbeamref16_field.f a0 a1 a2=some r) :
  Calls Try.prog 56 #[.int .u8 a0,.int .i64 a1,.int .i64 a2] w fun e w'=>e=.returned (.bool r)∧Drawn0 w w':=by
 have H:(if a0=114 then (if a1 ≥ 0 then (some (decide (a1<8))) else (some false)) else (if a0=118 then (if a1 ≥ 0 then (some (decide (a1<64))) else (some false)) else (if a0=112 then (if a1 ≥ 0 then (some (decide (a1<a2))) else (some false)) else (if a1 ≥ 0 then (some (decide (a1<1))) else (some false)))))=some r:=h
 clear h
 by_cases c4:a0=114
 ·
  rw [if_pos c4] at H
  have c4b0:(a0==114)=true:=beq_iff_eq.mpr c4
  have c4b1:(a0 != 114)=false:=bne_eq_false_iff_eq.mpr c4
  clear c4
  by_cases c5:a1 ≥ 0
  ·
   rw [if_pos c5] at H
   have c5b0:decide (0≤a1)=true:=decide_eq_true c5
   clear c5
   obtain rfl:=Option.some.inj H
   go_enter Try.func56,Try.ntmps56
   go_wp2
   go_ret
   exact ⟨by first|rfl|(simp;done)|(simp [*];done),by repeat (first|exact Drawn0.refl _|apply Drawn0.step)⟩
  ·
   rw [if_neg c5] at H
   have c5b0:decide (0≤a1)=false:=decide_eq_false c5
   clear c5
   obtain rfl:=Option.some.inj H
   go_enter Try.func56,Try.ntmps56
   go_wp2
   go_ret
   exact ⟨by first|rfl|(simp;done)|(simp [*];done),by repeat (first|exact Drawn0.refl _|apply Drawn0.step)⟩
 ·
  rw [if_neg c4] at H
  have c4b0:(a0==114)=false:=beq_eq_false_iff_ne.mpr c4
  have c4b1:(a0 != 114)=true:=bne_iff_ne.mpr c4
  by_cases c6:a0=118
  ·
   rw [if_pos c6] at H
   have c6b0:(a0==118)=true:=beq_iff_eq.mpr c6
   have c6b1:(a0 != 118)=false:=bne_eq_false_iff_eq.mpr c6
   clear c6
   by_cases c7:a1 ≥ 0
   ·
    rw [if_pos c7] at H
    have c7b0:decide (0≤a1)=true:=decide_eq_true c7
    clear c7
    obtain rfl:=Option.some.inj H
    go_enter Try.func56,Try.ntmps56
    go_wp2
    go_ret
    exact ⟨by first|rfl|(simp;done)|(simp [*];done),by repeat (first|exact Drawn0.refl _|apply Drawn0.step)⟩
   ·
    rw [if_neg c7] at H
    have c7b0:decide (0≤a1)=false:=decide_eq_false c7
    clear c7
    obtain rfl:=Option.some.inj H
    go_enter Try.func56,Try.ntmps56
    go_wp2
    go_ret
    exact ⟨by first|rfl|(simp;done)|(simp [*];done),by repeat (first|exact Drawn0.refl _|apply Drawn0.step)⟩
  ·
   rw [if_neg c6] at H
   have c6b0:(a0==118)=false:=beq_eq_false_iff_ne.mpr c6
   have c6b1:(a0 != 118)=true:=bne_iff_ne.mpr c6
   by_cases c8:a0=112
   ·
    rw [if_pos c8] at H
    have c8b0:(a0==112)=true:=beq_iff_eq.mpr c8
    have c8b1:(a0 != 112)=false:=bne_eq_false_iff_eq.mpr c8
    clear c8
    by_cases c9:a1 ≥ 0
    ·
     rw [if_pos c9] at H
     have c9b0:decide (0≤a1)=true:=decide_eq_true c9
     clear c9
     obtain rfl:=Option.some.inj H
     go_enter Try.func56,Try.ntmps56
     go_wp2
     go_ret
     exact ⟨by first|rfl|(simp;done)|(simp [*];done),by repeat (first|exact Drawn0.refl _|apply Drawn0.step)⟩
    ·
     rw [if_neg c9] at H
     have c9b0:decide (0≤a1)=false:=decide_eq_false c9
     clear c9
     obtain rfl:=Option.some.inj H
     go_enter Try.func56,Try.ntmps56
     go_wp2
     go_ret
     exact ⟨by first|rfl|(simp;done)|(simp [*];done),by repeat (first|exact Drawn0.refl _|apply Drawn0.step)⟩
   ·
    rw [if_neg c8] at H
    have c8b0:(a0==112)=false:=beq_eq_false_iff_ne.mpr c8
    have c8b1:(a0 != 112)=true:=bne_iff_ne.mpr c8
    by_cases c10:a1 ≥ 0
    ·
     rw [if_pos c10] at H
     have c10b0:decide (0≤a1)=true:=decide_eq_true c10
     clear c10
     obtain rfl:=Option.some.inj H
     go_enter Try.func56,Try.ntmps56
     go_wp2
     go_ret
     exact ⟨by first|rfl|(simp;done)|(simp [*];done),by repeat (first|exact Drawn0.refl _|apply Drawn0.step)⟩
    ·
     rw [if_neg c10] at H
     have c10b0:decide (0≤a1)=false:=decide_eq_false c10
     clear c10
     obtain rfl:=Option.some.inj H
     go_enter Try.func56,Try.ntmps56
     go_wp2
     go_ret
     exact ⟨by first|rfl|(simp;done)|(simp [*];done),by repeat (first|exact Drawn0.refl _|apply Drawn0.step)⟩
end Go.Proofs.Ytgnjkegnddekeaa.Q
