/- A transaction, back at a place, by hand. -/
import Derived.Test.YtaagbiaddgohkaaHConcat
namespace Go.Proofs.Ytaagbiaddgohkaa.Q
open Go.RowKit Go.Lib Go.Proofs.Ytaagbiaddgohkaa Go.Proofs.YtaagbiaddgohkaaW.PrintWords Go.Proofs.YtaagbiaddgohkaaW.PrintLast Go.Proofs.YtaagbiaddgohkaaW.PrintMore
set_option linter.unusedVariables false
set_option linter.unusedSimpArgs false

theorem back1_calls (x0 x1 x2 : Int) (x3 : Bool) (W : World) : Calls Try.prog 20 #[.agg #[.int .i64 x0, .int .i64 x1, .int .i64 x2, .bool x3]] W fun e w' => e = .returned (.bool x3) ∧ Below W.heap.size W w' := by
  have hu := Try.underlying39
  go_enter Try.func20, Try.ntmps20
  go_wp2
  go_ret
  exact ⟨rfl, bOne _⟩

/-- DeleteFunc of what is written, on a row of one's own. -/
theorem del_writes (l : List S39) (v : Value) (w0 W : World) (hB : Below w0.heap.size w0 W) (hR : Kd.R k39 39 W w0.heap.size (fun _ => True) v l) (hl : l.length ≤ 1000000) :
    Calls Try.prog 18 #[v, .func (.func 20) #[] #[]] W fun e w' => ∃ A c, e = .returned (.slice A (l.filter fun s => !s.f2).length c) ∧ Kd.C k39 w' A (l.filter fun s => !s.f2).length (l.filter fun s => !s.f2) ∧ (l.filter fun s => !s.f2).length ≤ c ∧ Below w0.heap.size w0 w' := by
  by_cases hp : 0 < l.length
  · obtain ⟨g, cap, rfl, hg, hgl, -⟩ := Kd.R_form hR hp
    refine (deleteFunc_step 20 #[] (fun s => s.f2) (fun _ V => Below w0.heap.size w0 V) g cap l W w0.heap.size (fun args W => rfl) hR hB (fun pre V V' h hgr => h.grown hgr h.size (fun k hk => by injection hk with hk; omega)) (fun pre x V V1 _ hS hVV hgV => ?_) (by omega)).mono ?_
    · refine (back1_calls x.f0 x.f1.f0 x.f1.f1 x.f2 V1).mono ?_
      rintro e w' ⟨rfl, hb⟩
      have hz := hVV.size
      exact ⟨rfl, (hS.trans (hVV.mono hS.size)).trans (hb.mono (Nat.le_trans hS.size hz)), hb.block g (by omega), fun k _ h2 => hb.block k h2, hb.size⟩
    · rintro e w' ⟨m, rfl, hm, hmc, hC, hS⟩
      subst hm
      exact ⟨_, _, rfl, hC, hmc, hS⟩
  · have h0 : l = [] := List.eq_nil_of_length_eq_zero (by omega)
    subst h0
    obtain ⟨A, c, rfl⟩ := Kd.R_slice hR
    have hr := Kd.R_reads' hR
    have hI := indexFunc_step 20 #[] (fun s => s.f2) (fun _ V => Below W.heap.size W V) A c [] W (fun args W => rfl) (fun pre V h => Kd.C_below hr.2.2 h) (fun pre x V h _ => by simp at h) (Below.refl _ _) (by decide)
    refine (deleteFunc_nil_step _ (fun s => s.f2) _ A c W hI).mono ?_
    rintro e w' ⟨rfl, hb⟩
    exact ⟨A, c, rfl, Kd.C_below hr.2.2 hb, Nat.zero_le _, hB.trans (hb.mono hB.size)⟩

theorem step_info : ∃ i, Try.prog.info? 39 = some i ∧ i.size = 4 := by
  have h := info39
  revert h
  cases Try.prog.info? 39 with
  | none => intro h; cases h
  | some i => intro h; exact ⟨i, rfl, (Prod.mk.inj (Prod.mk.inj (Option.some.inj h)).2).1⟩

/-- Back at a place. -/
def backL (l : List S39) (at_ : Int) : List S39 × Int := if at_ < 0 ∨ (l.length : Int) < at_ then (l, 2) else (l.take at_.toNat ++ (l.drop at_.toNat).filter (fun s => !s.f2), 0)

set_option maxHeartbeats 2000000 in
theorem back_calls (A : Option Addr) (c : Nat) (l : List S39) (at_ : Int) (w : World) (hC : Kd.C k39 w A l.length l) (hc : l.length ≤ c) (hl : l.length ≤ 400000) :
    Calls Try.prog 10 #[.slice A l.length c, .int .i64 at_] w (Got w (backL l at_).1 (backL l at_).2) := by
  have hu := Try.underlying29
  by_cases h1 : at_ < 0
  · have hf : backL l at_ = (l, 2) := by unfold backL; rw [if_pos (.inl h1)]
    rw [hf]
    have HC := Lib.hid (And.intro hC hc)
    clear hf hC hc
    go_enter Try.func10, Try.ntmps10
    go_wp2_with fail
    go_ret2
    exact ⟨A, c, rfl, HC.out.1, HC.out.2, Below.refl _ _⟩
  · by_cases h2 : (l.length : Int) < at_
    · have hf : backL l at_ = (l, 2) := by unfold backL; rw [if_pos (.inr h2)]
      rw [hf]
      have HC := Lib.hid (And.intro hC hc)
      clear hf hC hc
      go_enter Try.func10, Try.ntmps10
      go_wp2_with fail
      go_ret2
      exact ⟨A, c, rfl, HC.out.1, HC.out.2, Below.refl _ _⟩
    · obtain ⟨m, rfl⟩ : ∃ m : Nat, at_ = m := ⟨at_.toNat, by omega⟩
      have hm : m ≤ l.length := by omega
      have hf : backL l m = (l.take m ++ (l.drop m).filter (fun s => !s.f2), 0) := by unfold backL; rw [if_neg (by omega)]; rfl
      rw [hf]
      obtain ⟨i, hi, hs⟩ := step_info
      have cF := cut_from (P := Try.prog) 29 39 .i64 Try.underlying29 hi 4 hs A l.length c (m : Int) (by omega) (by omega)
      have cT := cut_to (P := Try.prog) 29 39 .i64 Try.underlying29 hi A l.length c (m : Int) (by omega) (by omega) hc
      simp only [Int.toNat_natCast] at cF cT
      have hD : Kd.C k39 w (if c = m then A else A.map (·.add (m * 4))) (l.drop m).length (l.drop m) := Kd.C_drop hC hm hc
      have hT : Kd.C k39 w A (l.take m).length (l.take m) := Kd.C_take hC hm
      have e1 : l.length - m = (l.drop m).length := (List.length_drop).symm
      have e2 : m = (l.take m).length := by rw [List.length_take]; omega
      have hdl : (l.drop m).length ≤ 400000 := by rw [List.length_drop]; omega
      have htl : (l.take m).length ≤ 400000 := by rw [← e2]; omega
      rw [e1] at cF
      have cT2 : ∀ W : World, (Instr.slice 29 (.slice A l.length c) none (some (.int .i64 (m : Int))) none).run Try.prog W = .ok (.slice A (l.take m).length c) W := fun W => by rw [cT W, ← e2]
      generalize (if c = m then A else A.map (·.add (m * 4))) = AD at *
      generalize hdd : l.drop m = d at *
      generalize htt : l.take m = t at *
      generalize hff : d.filter (fun s => !s.f2) = f at *
      have HF := Lib.hid hff
      have C1 := Lib.hid (clone_step AD (c - m) d w hD (by omega))
      have HT := Lib.hid (And.intro hT htl)
      have HD := Lib.hid hdl
      clear hf hi hs hC hD hT e1 e2 cT hdd htt hdl htl hff i
      go_enter Try.func10, Try.ntmps10
      go_wp2_with fail
      refine C1.out.mono ?_
      rintro e w1 ⟨v, rfl, hR, hB⟩
      have C2 := del_writes d v w w1 hB hR (by have := HD.out; omega)
      rw [HF.out] at C2
      replace C2 := Lib.hid C2
      clear hR hB C1 cF
      go_wp2_with fail
      refine C2.out.mono ?_
      rintro e w2 ⟨A2, c2, rfl, hC2, hc2, hB2⟩
      obtain ⟨W3, hW3, K3, hB3⟩ : ∃ W3, w2.alloc (.cells #[.slice A t.length c, .slice A2 f.length c2] 29) = W3 ∧ W3.heap[w2.heap.size]? = some (.cells #[.slice A t.length c, .slice A2 f.length c2] 29 (0, 0)) ∧ Below w2.heap.size w2 W3 := ⟨_, rfl, heap_alloc_new _ _, bOne _⟩
      have C3 := Lib.hid (concat_two w2.heap.size A A2 c c2 t f W3 K3 (Kd.C_below HT.out.1 (bAfter hB2 hB3)) (Kd.C_below hC2 hB3) HT.out.2 (by rw [← HF.out]; have := HD.out; have := List.length_filter_le (fun s : S39 => !s.f2) d; omega))
      have HB := Lib.hid (bAfter hB2 hB3)
      clear hC2 hc2 hB2 K3 hB3 C2
      go_wp2_with fail
      refine C3.out.mono ?_
      rintro e w4 ⟨v4, rfl, hR4, hB4⟩
      obtain ⟨A4, c4, rfl⟩ := Kd.R_slice hR4
      have hr := Kd.R_reads' hR4
      have HR := Lib.hid (And.intro hr.2.2 (And.intro hr.2.1 (bAfter HB.out hB4)))
      clear hR4 hr hB4 C3
      go_wp2_with fail
      go_ret2
      exact ⟨A4, c4, by rw [List.length_append]; rfl, HR.out.1, HR.out.2.1, HR.out.2.2⟩

end Go.Proofs.Ytaagbiaddgohkaa.Q
