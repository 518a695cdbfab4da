/- Words of the printer that this claim uses, cut to these by a program of its author (not as they were printed). -/
import Derived.Test.YtgnjkegnddekeaaProg
import Derived.Below
import Derived.Deep.Draws
import Derived.Deep.AppendLies
import Derived.Maps.AppendAt
import Derived.OwnWalk
import Derived.Laws.BytesArg
import Derived.Laws.MakeOwn
import Derived.Laws.OwnMore
import Derived.Deep.OwnRows
import Derived.Tactics
import Derived.Lib.ConvBytes
import Derived.Laws.Slices
import Derived.WalkKit
import Derived.KernelRfl
import Derived.RowKit3
import Derived.Deep.LoopGhost
import Derived.Deep.QuietTactic
import Derived.BigQuiet
import Derived.WideLaws
import Derived.Deep.DeepCutAuto
import Derived.Deep.CutBlock
import Derived.Deep.RegionHeld3
import Derived.Laws.Rows
import Derived.Lib.AppendStr
import Derived.ArgAppend
import Derived.Laws.IdiomCopy
import Derived.OrdersHeld
import Derived.Laws.BitsLemmas
import Derived.RowKit
import Derived.Test.YtgnjkegnddekeaaXWWords
import Derived.Test.YtgnjkegnddekeaaXWLast
import Derived.Test.YtgnjkegnddekeaaXWTab
import Derived.Test.YtgnjkegnddekeaaXWFour
import Derived.Test.YtgnjkegnddekeaaXWQPut
import Derived.Test.YtgnjkegnddekeaaXWApart
import Derived.Test.YtgnjkegnddekeaaXWArr
import Derived.Test.YtgnjkegnddekeaaXWZeros
import Derived.Test.YtgnjkegnddekeaaXWFoot
import Derived.Test.YtgnjkegnddekeaaXWKept
import Derived.Test.YtgnjkegnddekeaaXWShare
import Derived.Test.YtgnjkegnddekeaaXWN
import Derived.Test.YtgnjkegnddekeaaXWFootNe
import Derived.Test.YtgnjkegnddekeaaXWAt
import Derived.Test.YtgnjkegnddekeaaXWEqStruct
import Derived.Test.YtgnjkegnddekeaaXWRepsOne
import Derived.Test.YtgnjkegnddekeaaXWInv
import Derived.Test.YtgnjkegnddekeaaXWInvWords
import Derived.Test.YtgnjkegnddekeaaXWGuard
import Derived.Test.YtgnjkegnddekeaaXWNEv
import Derived.Test.YtgnjkegnddekeaaXWMore
namespace Go.Proofs.Ytgnjkegnddekeaa.Q
open Go.RowKit Go.Proofs.YtgnjkegnddekeaaW.PrintWords Go.Proofs.YtgnjkegnddekeaaW.PrintLast Go.Proofs.YtgnjkegnddekeaaW.PrintMore
attribute [local go_sem] max2_int min2_int max_two min_two max_three min_three max_four min_four   -- for this text's walks alone
set_option linter.unusedVariables false
set_option linter.unusedSimpArgs false
def errW:Option Int → Value
 | none => .nilIface
 | some c => .iface 0 (.int .i64 c)
theorem errW_none:errW none=.nilIface:=rfl
theorem errW_some (c:Int):errW (some c)=.iface 0 (.int .i64 c):=rfl
theorem info32:(Try.prog.info? 32).map (fun i => (i.zero,i.size,i.bytes))=some (some (.agg #[(.int .i64 0),(.int .i64 0)]),2,16):=by kernel_rfl
theorem info74:(Try.prog.info? 74).map (fun i => (i.zero,i.size,i.bytes))=some (some (.agg #[(.int .i64 0),(.int .i64 0),(.int .i64 0),(.int .i64 0),(.int .i64 0)]),5,40):=by kernel_rfl
theorem info114:(Try.prog.info? 114).map (fun i => (i.zero,i.size,i.bytes))=some (some (.agg #[(.int .i64 0),(.int .i64 0),(.int .i64 0),(.bool false)]),4,32):=by kernel_rfl
structure S154 where
 f0:ByteArray
 f1:Int
 f2:Int
 f3:Int
 f4:Bool
 f5:Bool
def z154:S154:=⟨(⟨#[]⟩:ByteArray),(0:Int),(0:Int),(0:Int),false,false⟩
def k154:Kd S154:=Kd.iso (Kd.pair Kd.string (Kd.pair (Kd.int .i64) (Kd.pair (Kd.int .i64) (Kd.pair (Kd.int .i64) (Kd.pair Kd.bool Kd.bool))))) (fun x:S154 => (x.f0,x.f1,x.f2,x.f3,x.f4,x.f5))
theorem k154_open {w:World} {x:S154} {cs:List Value} (h:k154.K w x cs):cs=[.string x.f0,.int .i64 x.f1,.int .i64 x.f2,.int .i64 x.f3,.bool x.f4,.bool x.f5]:=by
 obtain ⟨_,_,rfl,rfl,⟨_,_,rfl,rfl,⟨_,_,rfl,rfl,⟨_,_,rfl,rfl,⟨_,_,rfl,rfl,rfl⟩⟩⟩⟩⟩:=h
 exact rfl
theorem k154_mkM (w:World) (base:Nat) (ok:Nat → Prop) (x:S154) :k154.M w base ok x [.string x.f0,.int .i64 x.f1,.int .i64 x.f2,.int .i64 x.f3,.bool x.f4,.bool x.f5]:=⟨[.string x.f0],[.int .i64 x.f1,.int .i64 x.f2,.int .i64 x.f3,.bool x.f4,.bool x.f5],rfl,rfl,⟨[.int .i64 x.f1],[.int .i64 x.f2,.int .i64 x.f3,.bool x.f4,.bool x.f5],rfl,rfl,⟨[.int .i64 x.f2],[.int .i64 x.f3,.bool x.f4,.bool x.f5],rfl,rfl,⟨[.int .i64 x.f3],[.bool x.f4,.bool x.f5],rfl,rfl,⟨[.bool x.f4],[.bool x.f5],rfl,rfl,rfl⟩⟩⟩⟩⟩
def rd_T154 (xs:List S154) (i:Int):S154:=xs.getD i.toNat z154
theorem at_T154 {w:World} {A:Option Addr} {n:Nat} {xs:List S154} (h:Kd.C k154 w A n xs) (i:Int) (h0:0 ≤ i) (h1:i < n):∃ ad ,A=some ad∧w.cell? (ad.add (i.toNat * 6))=some (.string (rd_T154 xs i).f0)∧w.cell? ⟨(ad.add (i.toNat * 6)).block,(ad.add (i.toNat * 6)).off + 1,none⟩=some (.int .i64 (rd_T154 xs i).f1)∧w.cell? ⟨(ad.add (i.toNat * 6)).block,(ad.add (i.toNat * 6)).off + 2,none⟩=some (.int .i64 (rd_T154 xs i).f2)∧w.cell? ⟨(ad.add (i.toNat * 6)).block,(ad.add (i.toNat * 6)).off + 3,none⟩=some (.int .i64 (rd_T154 xs i).f3)∧w.cell? ⟨(ad.add (i.toNat * 6)).block,(ad.add (i.toNat * 6)).off + 4,none⟩=some (.bool (rd_T154 xs i).f4)∧w.cell? ⟨(ad.add (i.toNat * 6)).block,(ad.add (i.toNat * 6)).off + 5,none⟩=some (.bool (rd_T154 xs i).f5):=by
 obtain ⟨ad,c,e,_,hK,hc0⟩:=Kd.C_get h z154 i h0 h1
 have hc:∀ j u,c[j]?=some u → w.cell? (ad.add (i.toNat * 6 + j))=some u:=hc0
 obtain rfl:=k154_open hK
 exact ⟨ad,e,hc 0 _ rfl,by rw [← add_field _ _ 1 (by omega)];exact hc 1 _ rfl,by rw [← add_field _ _ 2 (by omega)];exact hc 2 _ rfl,by rw [← add_field _ _ 3 (by omega)];exact hc 3 _ rfl,by rw [← add_field _ _ 4 (by omega)];exact hc 4 _ rfl,by rw [← add_field _ _ 5 (by omega)];exact hc 5 _ rfl⟩
structure S32 where
 f0:Int
 f1:Int
def z32:S32:=⟨(0:Int),(0:Int)⟩
def k32:Kd S32:=Kd.iso (Kd.pair (Kd.int .i64) (Kd.int .i64)) (fun x:S32 => (x.f0,x.f1))
theorem k32_open {w:World} {x:S32} {cs:List Value} (h:k32.K w x cs):cs=[.int .i64 x.f0,.int .i64 x.f1]:=by
 obtain ⟨_,_,rfl,rfl,rfl⟩:=h
 exact rfl
theorem k32_openM {w:World} {base:Nat} {ok:Nat → Prop} {x:S32} {cs:List Value} (h:k32.M w base ok x cs):cs=[.int .i64 x.f0,.int .i64 x.f1]:=by
 obtain ⟨_,_,rfl,rfl,rfl⟩:=h
 exact rfl
theorem k32_mk (w:World) (x:S32) :k32.K w x [.int .i64 x.f0,.int .i64 x.f1]:=⟨[.int .i64 x.f0],[.int .i64 x.f1],rfl,rfl,rfl⟩
theorem k32_mkM (w:World) (base:Nat) (ok:Nat → Prop) (x:S32) :k32.M w base ok x [.int .i64 x.f0,.int .i64 x.f1]:=⟨[.int .i64 x.f0],[.int .i64 x.f1],rfl,rfl,rfl⟩
def rd_T32 (xs:List S32) (i:Int):S32:=xs.getD i.toNat z32
theorem at_T32 {w:World} {A:Option Addr} {n:Nat} {xs:List S32} (h:Kd.C k32 w A n xs) (i:Int) (h0:0 ≤ i) (h1:i < n):∃ ad ,A=some ad∧w.cell? (ad.add (i.toNat * 2))=some (.int .i64 (rd_T32 xs i).f0)∧w.cell? ⟨(ad.add (i.toNat * 2)).block,(ad.add (i.toNat * 2)).off + 1,none⟩=some (.int .i64 (rd_T32 xs i).f1):=by
 obtain ⟨ad,c,e,_,hK,hc0⟩:=Kd.C_get h z32 i h0 h1
 have hc:∀ j u,c[j]?=some u → w.cell? (ad.add (i.toNat * 2 + j))=some u:=hc0
 obtain rfl:=k32_open hK
 exact ⟨ad,e,hc 0 _ rfl,by rw [← add_field _ _ 1 (by omega)];exact hc 1 _ rfl⟩
structure S80 where
 f0:Int
 f1:S32
 f2:Bool
def z80:S80:=⟨(0:Int),z32,false⟩
def k80:Kd S80:=Kd.iso (Kd.pair (Kd.int .i64) (Kd.pair k32 Kd.bool)) (fun x:S80 => (x.f0,x.f1,x.f2))
theorem k80_open {w:World} {x:S80} {cs:List Value} (h:k80.K w x cs):cs=[.int .i64 x.f0,.int .i64 x.f1.f0,.int .i64 x.f1.f1,.bool x.f2]:=by
 obtain ⟨_,_,rfl,rfl,⟨_,_,rfl,s1,rfl⟩⟩:=h
 obtain rfl:=k32_open s1
 exact rfl
theorem k80_openM {w:World} {base:Nat} {ok:Nat → Prop} {x:S80} {cs:List Value} (h:k80.M w base ok x cs):cs=[.int .i64 x.f0,.int .i64 x.f1.f0,.int .i64 x.f1.f1,.bool x.f2]:=by
 obtain ⟨_,_,rfl,rfl,⟨_,_,rfl,s1,rfl⟩⟩:=h
 obtain rfl:=k32_openM s1
 exact rfl
theorem k80_mk (w:World) (x:S80) :k80.K w x [.int .i64 x.f0,.int .i64 x.f1.f0,.int .i64 x.f1.f1,.bool x.f2]:=⟨[.int .i64 x.f0],[.int .i64 x.f1.f0,.int .i64 x.f1.f1,.bool x.f2],rfl,rfl,⟨[.int .i64 x.f1.f0,.int .i64 x.f1.f1],[.bool x.f2],rfl,(k32_mk w x.f1 ),rfl⟩⟩
theorem k80_mkM (w:World) (base:Nat) (ok:Nat → Prop) (x:S80) :k80.M w base ok x [.int .i64 x.f0,.int .i64 x.f1.f0,.int .i64 x.f1.f1,.bool x.f2]:=⟨[.int .i64 x.f0],[.int .i64 x.f1.f0,.int .i64 x.f1.f1,.bool x.f2],rfl,rfl,⟨[.int .i64 x.f1.f0,.int .i64 x.f1.f1],[.bool x.f2],rfl,(k32_mkM w base ok x.f1 ),rfl⟩⟩
def rd_T80 (xs:List S80) (i:Int):S80:=xs.getD i.toNat z80
theorem at_T80 {w:World} {A:Option Addr} {n:Nat} {xs:List S80} (h:Kd.C k80 w A n xs) (i:Int) (h0:0 ≤ i) (h1:i < n):∃ ad ,A=some ad∧w.cell? (ad.add (i.toNat * 4))=some (.int .i64 (rd_T80 xs i).f0)∧w.cell? ⟨(ad.add (i.toNat * 4)).block,(ad.add (i.toNat * 4)).off + 1,none⟩=some (.int .i64 (rd_T80 xs i).f1.f0)∧w.cell? ⟨(ad.add (i.toNat * 4)).block,(ad.add (i.toNat * 4)).off + 2,none⟩=some (.int .i64 (rd_T80 xs i).f1.f1)∧w.cell? ⟨(ad.add (i.toNat * 4)).block,(ad.add (i.toNat * 4)).off + 3,none⟩=some (.bool (rd_T80 xs i).f2):=by
 obtain ⟨ad,c,e,_,hK,hc0⟩:=Kd.C_get h z80 i h0 h1
 have hc:∀ j u,c[j]?=some u → w.cell? (ad.add (i.toNat * 4 + j))=some u:=hc0
 obtain rfl:=k80_open hK
 exact ⟨ad,e,hc 0 _ rfl,by rw [← add_field _ _ 1 (by omega)];exact hc 1 _ rfl,by rw [← add_field _ _ 2 (by omega)];exact hc 2 _ rfl,by rw [← add_field _ _ 3 (by omega)];exact hc 3 _ rfl⟩
structure S97 where
 f0:Int
 f1:Int
 f2:Int
 f3:Int
 f4:Int
def z97:S97:=⟨(0:Int),(0:Int),(0:Int),(0:Int),(0:Int)⟩
def k97:Kd S97:=Kd.iso (Kd.pair (Kd.int .i64) (Kd.pair (Kd.int .i64) (Kd.pair (Kd.int .i64) (Kd.pair (Kd.int .i64) (Kd.int .i64))))) (fun x:S97 => (x.f0,x.f1,x.f2,x.f3,x.f4))
theorem k97_open {w:World} {x:S97} {cs:List Value} (h:k97.K w x cs):cs=[.int .i64 x.f0,.int .i64 x.f1,.int .i64 x.f2,.int .i64 x.f3,.int .i64 x.f4]:=by
 obtain ⟨_,_,rfl,rfl,⟨_,_,rfl,rfl,⟨_,_,rfl,rfl,⟨_,_,rfl,rfl,rfl⟩⟩⟩⟩:=h
 exact rfl
theorem k97_mk (w:World) (x:S97) :k97.K w x [.int .i64 x.f0,.int .i64 x.f1,.int .i64 x.f2,.int .i64 x.f3,.int .i64 x.f4]:=⟨[.int .i64 x.f0],[.int .i64 x.f1,.int .i64 x.f2,.int .i64 x.f3,.int .i64 x.f4],rfl,rfl,⟨[.int .i64 x.f1],[.int .i64 x.f2,.int .i64 x.f3,.int .i64 x.f4],rfl,rfl,⟨[.int .i64 x.f2],[.int .i64 x.f3,.int .i64 x.f4],rfl,rfl,⟨[.int .i64 x.f3],[.int .i64 x.f4],rfl,rfl,rfl⟩⟩⟩⟩
def rd_T97 (xs:List S97) (i:Int):S97:=xs.getD i.toNat z97
theorem at_T97 {w:World} {A:Option Addr} {n:Nat} {xs:List S97} (h:Kd.C k97 w A n xs) (i:Int) (h0:0 ≤ i) (h1:i < n):∃ ad ,A=some ad∧w.cell? (ad.add (i.toNat * 5))=some (.int .i64 (rd_T97 xs i).f0)∧w.cell? ⟨(ad.add (i.toNat * 5)).block,(ad.add (i.toNat * 5)).off + 1,none⟩=some (.int .i64 (rd_T97 xs i).f1)∧w.cell? ⟨(ad.add (i.toNat * 5)).block,(ad.add (i.toNat * 5)).off + 2,none⟩=some (.int .i64 (rd_T97 xs i).f2)∧w.cell? ⟨(ad.add (i.toNat * 5)).block,(ad.add (i.toNat * 5)).off + 3,none⟩=some (.int .i64 (rd_T97 xs i).f3)∧w.cell? ⟨(ad.add (i.toNat * 5)).block,(ad.add (i.toNat * 5)).off + 4,none⟩=some (.int .i64 (rd_T97 xs i).f4):=by
 obtain ⟨ad,c,e,_,hK,hc0⟩:=Kd.C_get h z97 i h0 h1
 have hc:∀ j u,c[j]?=some u → w.cell? (ad.add (i.toNat * 5 + j))=some u:=hc0
 obtain rfl:=k97_open hK
 exact ⟨ad,e,hc 0 _ rfl,by rw [← add_field _ _ 1 (by omega)];exact hc 1 _ rfl,by rw [← add_field _ _ 2 (by omega)];exact hc 2 _ rfl,by rw [← add_field _ _ 3 (by omega)];exact hc 3 _ rfl,by rw [← add_field _ _ 4 (by omega)];exact hc 4 _ rfl⟩
structure S24 where
 f0:Int
 f1:Int
def z24:S24:=⟨(0:Int),(0:Int)⟩
def k24:Kd S24:=Kd.iso (Kd.pair (Kd.int .i64) (Kd.int .i64)) (fun x:S24 => (x.f0,x.f1))
theorem k24_open {w:World} {x:S24} {cs:List Value} (h:k24.K w x cs):cs=[.int .i64 x.f0,.int .i64 x.f1]:=by
 obtain ⟨_,_,rfl,rfl,rfl⟩:=h
 exact rfl
theorem k24_mk (w:World) (x:S24) :k24.K w x [.int .i64 x.f0,.int .i64 x.f1]:=⟨[.int .i64 x.f0],[.int .i64 x.f1],rfl,rfl,rfl⟩
theorem k24_mkM (w:World) (base:Nat) (ok:Nat → Prop) (x:S24) :k24.M w base ok x [.int .i64 x.f0,.int .i64 x.f1]:=⟨[.int .i64 x.f0],[.int .i64 x.f1],rfl,rfl,rfl⟩
def rd_T24 (xs:List S24) (i:Int):S24:=xs.getD i.toNat z24
theorem at_T24 {w:World} {A:Option Addr} {n:Nat} {xs:List S24} (h:Kd.C k24 w A n xs) (i:Int) (h0:0 ≤ i) (h1:i < n):∃ ad ,A=some ad∧w.cell? (ad.add (i.toNat * 2))=some (.int .i64 (rd_T24 xs i).f0)∧w.cell? ⟨(ad.add (i.toNat * 2)).block,(ad.add (i.toNat * 2)).off + 1,none⟩=some (.int .i64 (rd_T24 xs i).f1):=by
 obtain ⟨ad,c,e,_,hK,hc0⟩:=Kd.C_get h z24 i h0 h1
 have hc:∀ j u,c[j]?=some u → w.cell? (ad.add (i.toNat * 2 + j))=some u:=hc0
 obtain rfl:=k24_open hK
 exact ⟨ad,e,hc 0 _ rfl,by rw [← add_field _ _ 1 (by omega)];exact hc 1 _ rfl⟩
structure S114 where
 f0:Int
 f1:S24
 f2:Bool
def z114:S114:=⟨(0:Int),z24,false⟩
def k114:Kd S114:=Kd.iso (Kd.pair (Kd.int .i64) (Kd.pair k24 Kd.bool)) (fun x:S114 => (x.f0,x.f1,x.f2))
theorem k114_open {w:World} {x:S114} {cs:List Value} (h:k114.K w x cs):cs=[.int .i64 x.f0,.int .i64 x.f1.f0,.int .i64 x.f1.f1,.bool x.f2]:=by
 obtain ⟨_,_,rfl,rfl,⟨_,_,rfl,s1,rfl⟩⟩:=h
 obtain rfl:=k24_open s1
 exact rfl
theorem k114_mkM (w:World) (base:Nat) (ok:Nat → Prop) (x:S114) :k114.M w base ok x [.int .i64 x.f0,.int .i64 x.f1.f0,.int .i64 x.f1.f1,.bool x.f2]:=⟨[.int .i64 x.f0],[.int .i64 x.f1.f0,.int .i64 x.f1.f1,.bool x.f2],rfl,rfl,⟨[.int .i64 x.f1.f0,.int .i64 x.f1.f1],[.bool x.f2],rfl,(k24_mkM w base ok x.f1 ),rfl⟩⟩
def rd_T114 (xs:List S114) (i:Int):S114:=xs.getD i.toNat z114
theorem at_T114 {w:World} {A:Option Addr} {n:Nat} {xs:List S114} (h:Kd.C k114 w A n xs) (i:Int) (h0:0 ≤ i) (h1:i < n):∃ ad ,A=some ad∧w.cell? (ad.add (i.toNat * 4))=some (.int .i64 (rd_T114 xs i).f0)∧w.cell? ⟨(ad.add (i.toNat * 4)).block,(ad.add (i.toNat * 4)).off + 1,none⟩=some (.int .i64 (rd_T114 xs i).f1.f0)∧w.cell? ⟨(ad.add (i.toNat * 4)).block,(ad.add (i.toNat * 4)).off + 2,none⟩=some (.int .i64 (rd_T114 xs i).f1.f1)∧w.cell? ⟨(ad.add (i.toNat * 4)).block,(ad.add (i.toNat * 4)).off + 3,none⟩=some (.bool (rd_T114 xs i).f2):=by
 obtain ⟨ad,c,e,_,hK,hc0⟩:=Kd.C_get h z114 i h0 h1
 have hc:∀ j u,c[j]?=some u → w.cell? (ad.add (i.toNat * 4 + j))=some u:=hc0
 obtain rfl:=k114_open hK
 exact ⟨ad,e,hc 0 _ rfl,by rw [← add_field _ _ 1 (by omega)];exact hc 1 _ rfl,by rw [← add_field _ _ 2 (by omega)];exact hc 2 _ rfl,by rw [← add_field _ _ 3 (by omega)];exact hc 3 _ rfl⟩
structure S74 where
 f0:Int
 f1:Int
 f2:Int
 f3:Int
 f4:Int
def z74:S74:=⟨(0:Int),(0:Int),(0:Int),(0:Int),(0:Int)⟩
def k74:Kd S74:=Kd.iso (Kd.pair (Kd.int .i64) (Kd.pair (Kd.int .i64) (Kd.pair (Kd.int .i64) (Kd.pair (Kd.int .i64) (Kd.int .i64))))) (fun x:S74 => (x.f0,x.f1,x.f2,x.f3,x.f4))
theorem k74_open {w:World} {x:S74} {cs:List Value} (h:k74.K w x cs):cs=[.int .i64 x.f0,.int .i64 x.f1,.int .i64 x.f2,.int .i64 x.f3,.int .i64 x.f4]:=by
 obtain ⟨_,_,rfl,rfl,⟨_,_,rfl,rfl,⟨_,_,rfl,rfl,⟨_,_,rfl,rfl,rfl⟩⟩⟩⟩:=h
 exact rfl
theorem k74_mk (w:World) (x:S74) :k74.K w x [.int .i64 x.f0,.int .i64 x.f1,.int .i64 x.f2,.int .i64 x.f3,.int .i64 x.f4]:=⟨[.int .i64 x.f0],[.int .i64 x.f1,.int .i64 x.f2,.int .i64 x.f3,.int .i64 x.f4],rfl,rfl,⟨[.int .i64 x.f1],[.int .i64 x.f2,.int .i64 x.f3,.int .i64 x.f4],rfl,rfl,⟨[.int .i64 x.f2],[.int .i64 x.f3,.int .i64 x.f4],rfl,rfl,⟨[.int .i64 x.f3],[.int .i64 x.f4],rfl,rfl,rfl⟩⟩⟩⟩
theorem k74_mkM (w:World) (base:Nat) (ok:Nat → Prop) (x:S74) :k74.M w base ok x [.int .i64 x.f0,.int .i64 x.f1,.int .i64 x.f2,.int .i64 x.f3,.int .i64 x.f4]:=⟨[.int .i64 x.f0],[.int .i64 x.f1,.int .i64 x.f2,.int .i64 x.f3,.int .i64 x.f4],rfl,rfl,⟨[.int .i64 x.f1],[.int .i64 x.f2,.int .i64 x.f3,.int .i64 x.f4],rfl,rfl,⟨[.int .i64 x.f2],[.int .i64 x.f3,.int .i64 x.f4],rfl,rfl,⟨[.int .i64 x.f3],[.int .i64 x.f4],rfl,rfl,rfl⟩⟩⟩⟩
def rd_T74 (xs:List S74) (i:Int):S74:=xs.getD i.toNat z74
theorem at_T74 {w:World} {A:Option Addr} {n:Nat} {xs:List S74} (h:Kd.C k74 w A n xs) (i:Int) (h0:0 ≤ i) (h1:i < n):∃ ad ,A=some ad∧w.cell? (ad.add (i.toNat * 5))=some (.int .i64 (rd_T74 xs i).f0)∧w.cell? ⟨(ad.add (i.toNat * 5)).block,(ad.add (i.toNat * 5)).off + 1,none⟩=some (.int .i64 (rd_T74 xs i).f1)∧w.cell? ⟨(ad.add (i.toNat * 5)).block,(ad.add (i.toNat * 5)).off + 2,none⟩=some (.int .i64 (rd_T74 xs i).f2)∧w.cell? ⟨(ad.add (i.toNat * 5)).block,(ad.add (i.toNat * 5)).off + 3,none⟩=some (.int .i64 (rd_T74 xs i).f3)∧w.cell? ⟨(ad.add (i.toNat * 5)).block,(ad.add (i.toNat * 5)).off + 4,none⟩=some (.int .i64 (rd_T74 xs i).f4):=by
 obtain ⟨ad,c,e,_,hK,hc0⟩:=Kd.C_get h z74 i h0 h1
 have hc:∀ j u,c[j]?=some u → w.cell? (ad.add (i.toNat * 5 + j))=some u:=hc0
 obtain rfl:=k74_open hK
 exact ⟨ad,e,hc 0 _ rfl,by rw [← add_field _ _ 1 (by omega)];exact hc 1 _ rfl,by rw [← add_field _ _ 2 (by omega)];exact hc 2 _ rfl,by rw [← add_field _ _ 3 (by omega)];exact hc 3 _ rfl,by rw [← add_field _ _ 4 (by omega)];exact hc 4 _ rfl⟩
end Go.Proofs.Ytgnjkegnddekeaa.Q
