/- Theirs of the laws, by hand: each operation, each value told as the other package's. -/
import Derived.Test.YtgnjkegnddekeaaXQ0
import Derived.Test.YtgnjkegnddekeaaXMem
import Derived.Test.YtgnjkegnddekeaaXLoops
import Derived.Deep.LoopGhost
import Derived.WalkKit
import Derived.Lib.Hide
open And renaming intro → zM
namespace Go.Proofs.Ytgnjkegnddekeaa.Q
open Go.RowKit Go.Lib Go.Proofs.Ytgnjkegnddekeaa Go.Proofs.YtgnjkegnddekeaaW.PrintWords Go.Proofs.YtgnjkegnddekeaaW.PrintLast Go.Proofs.YtgnjkegnddekeaaW.PrintMore
set_option linter.unusedVariables false
set_option linter.unusedSimpArgs false
theorem take_next1 {α:Type} {l:List α} {i:Nat} {x:α} (h:l[i]?=some x):l.take (i + 1)=l.take i ++ [x]:=by
  rw [List.take_add_one,h]
  rfl
theorem flat74 {w w':World} {x:S74} {cs:List Value} (h:k74.K w x cs) (base:Nat) (ok:Nat → Prop):k74.M w' base ok x cs:=by
  rw [k74_open h]
  exact k74_mkM w' base ok x
theorem flat32 {w w':World} {x:S32} {cs:List Value} (h:k32.K w x cs) (base:Nat) (ok:Nat → Prop):k32.M w' base ok x cs:=by
  rw [k32_open h]
  exact k32_mkM w' base ok x
def conv74 (o:S97):S74:=⟨o.f0,o.f1,o.f2,o.f3,o.f4⟩
def conv32 (o:S24):S32:=⟨o.f0,o.f1⟩
def warpbeamlaw16_Theirs.f (l:List S97):Option (List S74):=if l.length ≤ 1000000 then some (l.map conv74) else none
set_option maxHeartbeats 4000000 in
theorem warpbeamlaw16_Theirs.calls (A0:Option Addr) (c0:Nat) (l:List S97) (r:List S74) (w:World) (hC:Kd.C k97 w A0 l.length l) (hc:l.length ≤ c0) (h:warpbeamlaw16_Theirs.f l=some r) :
    Calls Try.prog 12 #[.slice A0 l.length c0] w fun e w' => ∃ v,e=.returned v∧Kd.R k74 74 w' w.heap.size (fun _ => True) v r∧Below w.heap.size w w':=by
  unfold warpbeamlaw16_Theirs.f at h
  split at h
  case isFalse => cases h
  rename_i hl
  obtain rfl:=Option.some.inj h
  clear h
  have hu:=Try.underlying97
  have hut:=Try.underlying74
  have HC:=Lib.hid hC
  clear hC
  go_enter Try.func12,Try.ntmps12
  go_wp2_with fail
  go_loopg [3,8,5] l.length (fun kq v3 v8 _ W => ∃ (i:Nat) (A:Option Addr) (c:Nat),v3=.slice A i c∧v8=.int .i64 i∧Hid (kq + i=l.length)∧Hid (Kd.R k74 74 W w.heap.size (fun _ => True) (.slice A i c) ((l.take i).map conv74)∧Below w.heap.size w W))
  case atStart => exact ⟨0,none,0,rfl,rfl,by simp [Hid],Lib.hid ⟨Kd.R_nil _ _ _ _ _,Below.refl _ _⟩⟩
  case round =>
    obtain ⟨i,A,c,rfl,rfl,hk,hJ⟩:=hrel
    by_cases hi:i < l.length
    · have hi2:(i:Int) < l.length:=by omega
      have hi0:(0:Int) ≤ i:=by omega
      obtain ⟨ad,rfl,a0,a1,a2,a3,a4⟩:=at_T97 (Kd.C_below HC.out hJ.out.2) (i:Int) hi0 hi2
      have hx:l[i]?=some (rd_T97 l i):=by
        unfold rd_T97
        simp [List.getD_eq_getElem?_getD,hi]
      have HX:=Lib.hid hx
      clear hx
      generalize rd_T97 l i=v at *
      simp only [Int.toNat_natCast] at a0 a1 a2 a3 a4
      have hlo:((l.take i).map conv74).length=i:=by rw [List.length_map,List.length_take];omega
      generalize hout:(l.take i).map conv74=out at *
      have HO:=Lib.hid hout
      have hlo2:out.length=i:=hlo
      subst hlo2
      have HJ:=Lib.hid hJ.out
      clear hJ hlo hout
      obtain ⟨W4,hW4,K4,hB4⟩:=alz wr #[.int .i64 v.f0,.int .i64 v.f1,.int .i64 v.f2,.int .i64 v.f3,.int .i64 v.f4] 97
      have d0:W4.cell? ⟨wr.heap.size,0,none⟩=some (.int .i64 v.f0):=zG K4 0
      have d1:W4.cell? ⟨wr.heap.size,1,none⟩=some (.int .i64 v.f1):=zG K4 1
      have d2:W4.cell? ⟨wr.heap.size,2,none⟩=some (.int .i64 v.f2):=zG K4 2
      have d3:W4.cell? ⟨wr.heap.size,3,none⟩=some (.int .i64 v.f3):=zG K4 3
      have d4:W4.cell? ⟨wr.heap.size,4,none⟩=some (.int .i64 v.f4):=zG K4 4
      have HB4:=Lib.hid hB4
      clear K4 hB4
      go_wp2_with (at_builtin;refine Kd.R_append_rows k74 (w0:=W4.alloc (.cells #[.int .i64 v.f0,.int .i64 v.f1,.int .i64 v.f2,.int .i64 v.f3,.int .i64 v.f4] 74)) (Rr:=k74.K W4) w.heap.size rfl _ _ 42 74 _ _ rfl Try.underlying42 info74 rfl (by decide) (by decide) _ out [(⟨v.f0,v.f1,v.f2,v.f3,v.f4⟩:S74)] (some ⟨W4.heap.size,0,none⟩) 1 1 (fun _ => True) (fun _ => False) rfl rfl ?HO ?HR ?hKM (fun _ h => h.elim) (fun _ _ => trivial) (Below.refl _ _) ?hbase ?hl ?_)
      case HO => exact Kd.R_alloc (Kd.R_below HJ.out.1 HB4.out) _
      case HR => exact ⟨rfl, by decide, fun _ => ⟨_, rfl, fun j p hj => by
          rcases j with _ | j
          · have:(⟨v.f0,v.f1,v.f2,v.f3,v.f4⟩:S74)=p:=by simpa using hj
            subst this
            exact ⟨[.int .i64 v.f0,.int .i64 v.f1,.int .i64 v.f2,.int .i64 v.f3,.int .i64 v.f4],rfl,k74_mk _ (⟨v.f0,v.f1,v.f2,v.f3,v.f4⟩:S74),fun q u hu => by
              rw [Addr.add_lit]
              show (W4.alloc _).cell? ⟨W4.heap.size,0 + (0 * 5 + q),none⟩=_
              rw [Nat.zero_mul,Nat.zero_add,Nat.zero_add]
              exact (zG (blk_new _ _) q).trans (by simpa using hu)⟩
          · simp at hj⟩⟩
      case hKM => exact fun x cs h => flat74 h _ _
      case hbase => have:=HJ.out.2.size;have:=HB4.out.size;simp;omega
      case hl => omega
      intro v2 w2 hR2 hB2' hg2 _
      generalize hl2:out ++ [(⟨v.f0,v.f1,v.f2,v.f3,v.f4⟩:S74)]=l2 at hR2
      have HL2:=Lib.hid hl2
      clear hl2
      have hlen2:l2.length=out.length + 1:=by rw [← HL2.out,List.length_append,List.length_singleton]
      have HLEN:=Lib.hid hlen2
      obtain ⟨A2,c2,rfl⟩:=Kd.R_slice hR2
      have hBF:=(bAfter (bAfter HJ.out.2 HB4.out) (bOne (.cells #[.int .i64 v.f0,.int .i64 v.f1,.int .i64 v.f2,.int .i64 v.f3,.int .i64 v.f4] 74))).grown hg2 (by have:=HJ.out.2.size;have:=HB4.out.size;simp;omega) (fun k hk => Kd.R_base HJ.out.1 k hk)
      have HZ:=Lib.hid (zM hR2 hBF)
      clear hR2 hB2' hg2 hBF d0 d1 d2 d3 d4 hW4 hlen2
      go_wp2_with fail
      obtain ⟨kk,rfl⟩:∃ m,gk=m + 1:=⟨gk - 1,by have:=hk.out;omega⟩
      go_roundg kk
      case measure => omega
      case rel =>
        have h3:(l.take (out.length + 1)).map conv74=l2:=by
          rw [take_next1 HX.out,List.map_append,HO.out,← HL2.out]
          rfl
        refine ⟨out.length + 1,A2,c2,by rw [HLEN.out],by first | rfl | rw [wrap_next (by omega)],Lib.hid (by have:=hk.out;omega),Lib.hid ⟨?_,HZ.out.2⟩⟩
        rw [h3,← HLEN.out]
        exact HZ.out.1
    · have hi2:¬ (i:Int) < l.length:=by omega
      have hk0:i=l.length:=by have:=hk.out;omega
      subst hk0
      go_wp2_with fail
      go_ret
      have h2:=hJ.out
      rw [List.take_length] at h2
      exact ⟨_,rfl,h2.1,h2.2⟩
def warpbeamlaw10_Theirs.f (l:List S24):Option (List S32):=if l.length ≤ 1000000 then some (l.map conv32) else none
set_option maxHeartbeats 4000000 in
theorem warpbeamlaw10_Theirs.calls (A0:Option Addr) (c0:Nat) (l:List S24) (r:List S32) (w:World) (hC:Kd.C k24 w A0 l.length l) (hc:l.length ≤ c0) (h:warpbeamlaw10_Theirs.f l=some r) :
    Calls Try.prog 19 #[.slice A0 l.length c0] w fun e w' => ∃ v,e=.returned v∧Kd.R k32 32 w' w.heap.size (fun _ => True) v r∧Below w.heap.size w w':=by
  unfold warpbeamlaw10_Theirs.f at h
  split at h
  case isFalse => cases h
  rename_i hl
  obtain rfl:=Option.some.inj h
  clear h
  have hu:=Try.underlying24
  have hut:=Try.underlying32
  have HC:=Lib.hid hC
  clear hC
  go_enter Try.func19,Try.ntmps19
  go_wp2_with fail
  go_loopg [3,8,5] l.length (fun kq v3 v8 _ W => ∃ (i:Nat) (A:Option Addr) (c:Nat),v3=.slice A i c∧v8=.int .i64 i∧Hid (kq + i=l.length)∧Hid (Kd.R k32 32 W w.heap.size (fun _ => True) (.slice A i c) ((l.take i).map conv32)∧Below w.heap.size w W))
  case atStart => exact ⟨0,none,0,rfl,rfl,by simp [Hid],Lib.hid ⟨Kd.R_nil _ _ _ _ _,Below.refl _ _⟩⟩
  case round =>
    obtain ⟨i,A,c,rfl,rfl,hk,hJ⟩:=hrel
    by_cases hi:i < l.length
    · have hi2:(i:Int) < l.length:=by omega
      have hi0:(0:Int) ≤ i:=by omega
      obtain ⟨ad,rfl,a0,a1⟩:=at_T24 (Kd.C_below HC.out hJ.out.2) (i:Int) hi0 hi2
      have hx:l[i]?=some (rd_T24 l i):=by
        unfold rd_T24
        simp [List.getD_eq_getElem?_getD,hi]
      have HX:=Lib.hid hx
      clear hx
      generalize rd_T24 l i=v at *
      simp only [Int.toNat_natCast] at a0 a1
      have hlo:((l.take i).map conv32).length=i:=by rw [List.length_map,List.length_take];omega
      generalize hout:(l.take i).map conv32=out at *
      have HO:=Lib.hid hout
      have hlo2:out.length=i:=hlo
      subst hlo2
      have HJ:=Lib.hid hJ.out
      clear hJ hlo hout
      obtain ⟨W4,hW4,K4,hB4⟩:=alz wr #[.int .i64 v.f0,.int .i64 v.f1] 24
      have d0:W4.cell? ⟨wr.heap.size,0,none⟩=some (.int .i64 v.f0):=zG K4 0
      have d1:W4.cell? ⟨wr.heap.size,1,none⟩=some (.int .i64 v.f1):=zG K4 1
      have HB4:=Lib.hid hB4
      clear K4 hB4
      go_wp2_with (at_builtin;refine Kd.R_append_rows k32 (w0:=W4.alloc (.cells #[.int .i64 v.f0,.int .i64 v.f1] 32)) (Rr:=k32.K W4) w.heap.size rfl _ _ 61 32 _ _ rfl Try.underlying61 info32 rfl (by decide) (by decide) _ out [(⟨v.f0,v.f1⟩:S32)] (some ⟨W4.heap.size,0,none⟩) 1 1 (fun _ => True) (fun _ => False) rfl rfl ?HO ?HR ?hKM (fun _ h => h.elim) (fun _ _ => trivial) (Below.refl _ _) ?hbase ?hl ?_)
      case HO => exact Kd.R_alloc (Kd.R_below HJ.out.1 HB4.out) _
      case HR => exact ⟨rfl, by decide, fun _ => ⟨_, rfl, fun j p hj => by
          rcases j with _ | j
          · have:(⟨v.f0,v.f1⟩:S32)=p:=by simpa using hj
            subst this
            exact ⟨[.int .i64 v.f0,.int .i64 v.f1],rfl,k32_mk _ (⟨v.f0,v.f1⟩:S32),fun q u hu => by
              rw [Addr.add_lit]
              show (W4.alloc _).cell? ⟨W4.heap.size,0 + (0 * 2 + q),none⟩=_
              rw [Nat.zero_mul,Nat.zero_add,Nat.zero_add]
              exact (zG (blk_new _ _) q).trans (by simpa using hu)⟩
          · simp at hj⟩⟩
      case hKM => exact fun x cs h => flat32 h _ _
      case hbase => have:=HJ.out.2.size;have:=HB4.out.size;simp;omega
      case hl => omega
      intro v2 w2 hR2 hB2' hg2 _
      generalize hl2:out ++ [(⟨v.f0,v.f1⟩:S32)]=l2 at hR2
      have HL2:=Lib.hid hl2
      clear hl2
      have hlen2:l2.length=out.length + 1:=by rw [← HL2.out,List.length_append,List.length_singleton]
      have HLEN:=Lib.hid hlen2
      obtain ⟨A2,c2,rfl⟩:=Kd.R_slice hR2
      have hBF:=(bAfter (bAfter HJ.out.2 HB4.out) (bOne (.cells #[.int .i64 v.f0,.int .i64 v.f1] 32))).grown hg2 (by have:=HJ.out.2.size;have:=HB4.out.size;simp;omega) (fun k hk => Kd.R_base HJ.out.1 k hk)
      have HZ:=Lib.hid (zM hR2 hBF)
      clear hR2 hB2' hg2 hBF d0 d1 hW4 hlen2
      go_wp2_with fail
      obtain ⟨kk,rfl⟩:∃ m,gk=m + 1:=⟨gk - 1,by have:=hk.out;omega⟩
      go_roundg kk
      case measure => omega
      case rel =>
        have h3:(l.take (out.length + 1)).map conv32=l2:=by
          rw [take_next1 HX.out,List.map_append,HO.out,← HL2.out]
          rfl
        refine ⟨out.length + 1,A2,c2,by rw [HLEN.out],by first | rfl | rw [wrap_next (by omega)],Lib.hid (by have:=hk.out;omega),Lib.hid ⟨?_,HZ.out.2⟩⟩
        rw [h3,← HLEN.out]
        exact HZ.out.1
    · have hi2:¬ (i:Int) < l.length:=by omega
      have hk0:i=l.length:=by have:=hk.out;omega
      subst hk0
      go_wp2_with fail
      go_ret
      have h2:=hJ.out
      rw [List.take_length] at h2
      exact ⟨_,rfl,h2.1,h2.2⟩
end Go.Proofs.Ytgnjkegnddekeaa.Q
