/- An operation is done: all codes. -/
import Derived.Test.YtgnjkegnddekeaaXDoesM
import Derived.Test.YtgnjkegnddekeaaXHDoesD
namespace Go.Proofs.Ytgnjkegnddekeaa.Q
open Go.RowKit Go.Lib Go.Proofs.Ytgnjkegnddekeaa Go.Proofs.YtgnjkegnddekeaaW.PrintWords Go.Proofs.YtgnjkegnddekeaaW.PrintLast Go.Proofs.YtgnjkegnddekeaaW.PrintMore
set_option linter.unusedVariables false
set_option linter.unusedSimpArgs false
/-- How an operation ends, in memory. -/
def Did (w':World) (base cb:Nat) (r:Sum Int (CpuD × AskD)) (x:Ending):Prop:=match r with
  | .inl e => x=gave e
  | .inr (c,a) => x=.returned (.agg a.c)∧CpuAt w' base cb c
theorem does_calls (W:World) (base kb cb:Nat) (o:S74) (vars pc used:Int) (rs:List S32) (stk:Value) (fs:List FrameD) (h:DoesIn W base kb cb o vars pc used rs stk fs) :
    Calls Try.prog 32 #[ptr kb] W fun x w' => Did w' base cb (doesP ⟨pc,used,rs,fs⟩ o vars) x∧Only cb W w':=by
  have c0:=h.ho.c0
  have c1:=h.ho.c1
  unfold doesP
  dsimp only
  have hwn:∀ k,8 ≤ k → o.f0=k → worthP rs o=some none:=fun k hk h0 => by
    unfold worthP
    rw [if_neg (by omega),if_neg (by omega),if_neg (by omega),if_neg (by omega),if_neg (by omega)]
  cases hw:worthP rs o with
  | none => exact (does_bad W base kb cb o vars pc used rs stk fs h hw).mono fun x w' hh => ⟨hh.1,hh.2⟩
  | some q =>
    cases q with
    | some v =>
      refine (does_some W base kb cb o vars pc used rs stk fs h v.f0 v.f1 hw).mono fun x w' hh => ⟨⟨hh.1.1,?_⟩,hh.2⟩
      obtain ⟨stk',h1,h2⟩:=hh.1.2
      exact ⟨by simpa using h.hl,stk',h1,h2⟩
    | none =>
      have h8:8 ≤ o.f0:=by
        by_cases hlt:o.f0 < 8
        · exfalso
          unfold worthP at hw
          by_cases e0:o.f0=0
          · rw [if_pos e0] at hw;cases hw
          by_cases e1:o.f0=1
          · rw [if_neg e0,if_pos e1] at hw;cases hw
          by_cases e2:o.f0=2
          · rw [if_neg e0,if_neg e1,if_pos e2] at hw;cases hw
          by_cases e3:o.f0=3
          · rw [if_neg e0,if_neg e1,if_neg e2,if_pos e3] at hw;cases hw
          rw [if_neg e0,if_neg e1,if_neg e2,if_neg e3,if_pos hlt] at hw
          cases hs:sumsP rs o <;> rw [hs] at hw <;> cases hw
        · omega
      dsimp only
      by_cases k8:o.f0=8
      · rw [if_pos k8]
        by_cases hv:isVar (regA rs o.f2) vars
        · rw [if_pos hv]
          exact (does_8a W base kb cb o vars pc used rs stk fs h k8 hv).mono fun x w' hh => ⟨⟨hh.1.1,h.hl,hh.1.2⟩,hh.2⟩
        · rw [if_neg hv]
          exact (does_8b W base kb cb o vars pc used rs stk fs h k8 hv).mono fun x w' hh => ⟨hh.1,hh.2⟩
      rw [if_neg k8]
      by_cases k9:o.f0=9
      · rw [if_pos k9]
        by_cases hv:isVar (regA rs o.f1) vars
        · rw [if_pos hv]
          exact (does_9a W base kb cb o vars pc used rs stk fs h k9 hv).mono fun x w' hh => ⟨⟨hh.1.1,h.hl,hh.1.2⟩,hh.2⟩
        · rw [if_neg hv]
          exact (does_9b W base kb cb o vars pc used rs stk fs h k9 hv).mono fun x w' hh => ⟨hh.1,hh.2⟩
      rw [if_neg k9]
      by_cases k10:o.f0=10
      · rw [if_pos k10]
        exact (does_10 W base kb cb o vars pc used rs stk fs h k10).mono fun x w' hh => ⟨⟨hh.1.1,h.hl,hh.1.2⟩,hh.2⟩
      rw [if_neg k10]
      by_cases k11:o.f0=11
      · rw [if_pos k11]
        by_cases hn:(regA rs o.f1).f0=1
        · rw [if_pos hn]
          by_cases hz:(regA rs o.f1).f1=0
          · rw [if_pos hz]
            exact (does_11a W base kb cb o vars pc used rs stk fs h k11 hn hz).mono fun x w' hh => ⟨⟨hh.1.1,h.hl,hh.1.2⟩,hh.2⟩
          · rw [if_neg hz]
            exact (does_11b W base kb cb o vars pc used rs stk fs h k11 hn hz).mono fun x w' hh => ⟨⟨hh.1.1,h.hl,hh.1.2⟩,hh.2⟩
        · rw [if_neg hn]
          exact (does_11c W base kb cb o vars pc used rs stk fs h k11 hn).mono fun x w' hh => ⟨hh.1,hh.2⟩
      rw [if_neg k11]
      by_cases k12:o.f0=12
      · rw [if_pos k12]
        by_cases hv:16 ≤ fs.length
        · rw [if_pos hv]
          exact (does_12b W base kb cb o vars pc used rs stk fs h k12 hv).mono fun x w' hh => ⟨hh.1,hh.2⟩
        · rw [if_neg hv]
          exact (does_12a W base kb cb o vars pc used rs stk fs h k12 hv).mono fun x w' hh => ⟨⟨hh.1.1,h.hl,hh.1.2⟩,hh.2⟩
      rw [if_neg k12]
      by_cases k13:o.f0=13
      · rw [if_pos k13]
        exact (does_13 W base kb cb o vars pc used rs stk fs h k13).mono fun x w' hh => ⟨⟨hh.1.1,h.hl,hh.1.2⟩,hh.2⟩
      rw [if_neg k13]
      by_cases k14:o.f0=14
      · rw [if_pos k14]
        cases hf:fs.getLast? with
        | none => exact (does_14b W base kb cb o vars pc used rs stk fs h k14 hf).mono fun x w' hh => ⟨hh.1,hh.2⟩
        | some f =>
          have h8f:f.rs.length=8:=by
            rcases h.hs.open with ⟨h0,-⟩ | ⟨g,c,-,-,-,-,-,-,hF⟩
            · rw [h0] at hf;cases hf
            · obtain ⟨i,hi⟩:=List.mem_iff_getElem?.1 (List.mem_of_getLast? hf)
              exact (hF i f hi).1
          exact (does_14a W base kb cb o vars pc used rs stk fs h f k14 hf).mono fun x w' hh => ⟨⟨hh.1.1,h8f,hh.1.2⟩,hh.2⟩
      rw [if_neg k14]
      by_cases k15:o.f0=15
      · rw [if_pos k15]
        exact (does_15 W base kb cb o vars pc used rs stk fs h k15).mono fun x w' hh => ⟨hh.1,hh.2⟩
      · rw [if_neg k15]
        exact (does_16 W base kb cb o vars pc used rs stk fs h (by omega)).mono fun x w' hh => ⟨hh.1,hh.2⟩
end Go.Proofs.Ytgnjkegnddekeaa.Q
