/- Commits on a new machine, and picks among them, by hand. -/
import Derived.Test.YtkecbdeekpbbjaaHSteps
import Derived.Test.YtkecbdeekpbbjaaHStart
import Derived.Deep.LoopGhost
namespace Go.Proofs.Ytkecbdeekpbbjaa.Q
open Go.RowKit Go.Lib Go.Proofs.Ytkecbdeekpbbjaa Go.Proofs.YtkecbdeekpbbjaaW.PrintWords Go.Proofs.YtkecbdeekpbbjaaW.PrintLast Go.Proofs.YtkecbdeekpbbjaaW.PrintMore
set_option linter.unusedVariables false
set_option linter.unusedSimpArgs false

/-- So many variables are asked. -/
def varsN (v : Int) : Nat := 1 + v.toNat % 9
def pickN (n : Nat) (k : Int) : Int := 1 + (k.toNat % (n + 1) : Nat)
def startAll (m : Mach) (l : List (List S69)) : Mach := l.foldl (fun m t => (startS m (t.map conv54)).1) m
def stepAll (m : Mach) (n : Nat) (p : List Int) : Mach := p.foldl (fun m k => (stepM m (pickN n k)).1) m
/-- All are as they may be, whatever is done: asked of the plain part. -/
structure RunOk (v : Int) (l : List (List S69)) (p : List Int) : Prop where
  start : ∀ i, i ≤ l.length → MOk (startAll (newS (varsN v)) (l.take i))
  step : ∀ i, i ≤ p.length → MOk (stepAll (startAll (newS (varsN v)) l) l.length (p.take i))
theorem startAll_snoc (m : Mach) (l : List (List S69)) (t : List S69) : startAll m (l ++ [t]) = (startS (startAll m l) (t.map conv54)).1 := by simp [startAll]
theorem stepAll_snoc (m : Mach) (n : Nat) (p : List Int) (k : Int) : stepAll m n (p ++ [k]) = (stepM (stepAll m n p) (pickN n k)).1 := by simp [stepAll]

theorem IsM.up {base : Nat} {ok : Nat → Prop} {W w' : World} {mb : Nat} {m : Mach} (h : IsM base (fun q => ok q ∨ W.heap.size ≤ q) w' mb m) (hb : base ≤ W.heap.size) (hok : ∀ q, ok q → base ≤ q) : IsM base (fun q => base ≤ q) w' mb m := h.mono fun q hq _ => hq.elim (hok q) (fun h => Nat.le_trans hb h)

/-- A number that is read. -/
theorem at_int {ik : IntKind} {W : World} {A : Option Addr} {n : Nat} {xs : List Int} (h : Kd.C (Kd.int ik) W A n xs) (i : Nat) (hi : i < n) : ∃ ad, A = some ad ∧ W.cell? (ad.add i) = some (.int ik (xs.getD i 0)) := by
  obtain ⟨ad, c, e, _, hK, hc⟩ := Kd.C_get h 0 (i : Int) (by omega) (by omega)
  have hK' : c = [.int ik (xs.getD (i : Int).toNat 0)] := hK
  subst hK'
  refine ⟨ad, e, ?_⟩
  have := hc 0 _ rfl
  rwa [Int.toNat_natCast, show i * (Kd.int ik).sz + 0 = i from by show i * 1 + 0 = i; omega] at this

set_option maxHeartbeats 400000 in
set_option maxRecDepth 100000 in
theorem run_calls (v : Int) (A : Option Addr) (c : Nat) (l : List (List S69)) (A2 : Option Addr) (c2 : Nat) (p : List Int) (w : World) (hv : 0 ≤ v ∧ v ≤ 255) (hC : Kd.C (Kd.slice 69 k69) w A l.length l) (hP : Kd.C (Kd.int .u8) w A2 p.length p) (hp : ∀ k ∈ p, 0 ≤ k ∧ k ≤ 255) (hl : l.length ≤ 1000000) (hpl : p.length ≤ 1000000) (htl : ∀ t ∈ l, t.length ≤ 1000000) (hR : RunOk v l p) :
    Calls Try.prog 11 #[.int .u8 v, .slice A l.length c, .slice A2 p.length c2] w fun e w' => ∃ mb, e = .returned (ptr mb) ∧ IsM w.heap.size (fun q => w.heap.size ≤ q) w' mb (stepAll (startAll (newS (varsN v)) l) l.length p) ∧ Below w.heap.size w w' := by
  obtain ⟨vn, rfl⟩ := Int.eq_ofNat_of_zero_le hv.1
  have hvn : varsN vn = 1 + vn % 9 := rfl
  have hn : varsN vn ≤ 64 := by omega
  have hv0 : (0 : Int) ≤ vn := hv.1
  have hv1 : (vn : Int) ≤ 255 := hv.2
  have e1 : ((varsN vn : Nat) : Int) = 1 + (vn : Int) % 9 := by rw [hvn]; omega
  have HN : Hid (∀ W, Calls Try.prog 23 #[.int .i64 (1 + (vn : Int) % 9)] W fun e w' => ∃ mb, e = .returned (ptr mb) ∧ IsM W.heap.size (fun k => W.heap.size ≤ k) w' mb (newS (varsN vn)) ∧ Below W.heap.size W w') := Lib.hid (fun W => by rw [← e1]; exact new_calls (varsN vn) hn W)
  have HX := Lib.hid (And.intro hC (And.intro hP (And.intro hp (And.intro htl (And.intro hR (And.intro hl hpl))))))
  have hl0 : (l.length : Int) ≤ 1000000 := by omega
  have hp0 : (p.length : Int) ≤ 1000000 := by omega
  clear hC hP hp htl hR hv hvn e1
  go_enter Try.func11, Try.ntmps11
  go_wp2_with fail
  refine (HN.out w).mono ?_
  rintro e w1 ⟨mb, rfl, hM, hB⟩
  have H1 := Lib.hid (And.intro hM hB)
  clear hM hB HN
  go_wp2_with fail
  go_loopg [9, 21] l.length (fun kq _ v21 W => ∃ i : Nat, v21 = .int .i64 i ∧ Hid (kq + i = l.length) ∧ Hid (IsM w.heap.size (fun q => w.heap.size ≤ q) W mb (startAll (newS (varsN vn)) (l.take i)) ∧ Below w.heap.size w W))
  case atStart => exact ⟨0, rfl, by simp [Hid], Lib.hid H1.out⟩
  case round =>
    obtain ⟨i, rfl, hk, hJ⟩ := hrel
    by_cases hi : i < l.length
    · have hi2 : (i : Int) < l.length := by omega
      have hi0 : (0 : Int) ≤ i := by omega
      obtain ⟨ad, A0, c0, rfl, a0, hc0, hC0⟩ := at_L6 (Kd.C_below HX.out.1 hJ.out.2) (i : Int) hi0 hi2
      have hx : l[i]? = some (rd_L6 l i) := by
        unfold rd_L6
        simp [List.getD_eq_getElem?_getD, hi]
      have hlt : (rd_L6 l i).length ≤ 1000000 := HX.out.2.2.2.1 _ (List.mem_of_getElem? hx)
      have HT := Lib.hid (And.intro hx (And.intro hlt (And.intro hc0 hC0)))
      clear hx hlt hc0 hC0
      generalize rd_L6 l i = t at *
      simp only [Int.toNat_natCast] at a0
      obtain ⟨u, hu⟩ : ∃ u, u = t.map conv54 := ⟨_, rfl⟩
      have HU := Lib.hid hu
      clear hu
      go_wp2_with fail
      refine (warpbeamlaw08_Theirs.calls A0 c0 t u wr HT.out.2.2.2 HT.out.2.2.1 (by unfold warpbeamlaw08_Theirs.f; rw [if_pos HT.out.2.1, HU.out])).mono ?_
      rintro e w3 ⟨v3, rfl, hR3, hB3⟩
      obtain ⟨A3, c3, rfl⟩ := Kd.R_slice hR3
      have hr3 := Kd.R_reads' hR3
      have hM3 := hJ.out.1.below hB3
      have HB3 := Lib.hid (And.intro hB3 (And.intro hr3.2.2 hM3))
      clear hB3 hr3 hM3 hR3
      go_wp2_with fail
      refine (start_calls w.heap.size _ w3 mb _ A3 c3 u HB3.out.2.2 HB3.out.2.1 (by rw [HU.out, List.length_map]; exact HT.out.2.1) (Nat.le_trans hJ.out.2.size HB3.out.1.size) (HX.out.2.2.2.2.1.start i (by omega)).jobs).mono ?_
      rintro e w4 ⟨rfl, hM4, hT4⟩
      have H4 := Lib.hid (And.intro (hM4.up (Nat.le_trans hJ.out.2.size HB3.out.1.size) (fun q h => h)) (hJ.out.2.trans ((HB3.out.1.mono hJ.out.2.size).trans (hT4.base (Nat.le_trans hJ.out.2.size HB3.out.1.size) (fun q h => h)))))
      clear hM4 hT4 a0
      go_wp2_with fail
      obtain ⟨k1, rfl⟩ : ∃ q, gk = q + 1 := ⟨gk - 1, by have := hk.out; omega⟩
      go_roundg k1
      case measure => omega
      case rel => exact ⟨i + 1, by first | rfl | rw [wrap_next (by omega)] | (congr 1), Lib.hid (by have := hk.out; omega), Lib.hid ⟨by rw [take_next1 HT.out.1, startAll_snoc, ← HU.out]; exact H4.out.1, H4.out.2⟩⟩
    · have hi2 : ¬ (i : Int) < l.length := by omega
      have hk0 : i = l.length := by have := hk.out; omega
      subst hk0
      have H2 : Hid (IsM w.heap.size (fun q => w.heap.size ≤ q) wr mb (startAll (newS (varsN vn)) l) ∧ Below w.heap.size w wr) := Lib.hid (by have := hJ.out; rwa [List.take_length] at this)
      clear hJ
      obtain ⟨wo, rfl⟩ : ∃ wo : World, wo = wr := ⟨_, rfl⟩
      go_wp2_with fail
      go_loopg [11, 32] p.length (fun kq _ v32 W => ∃ i : Nat, v32 = .int .i64 i ∧ Hid (kq + i = p.length) ∧ Hid (IsM w.heap.size (fun q => w.heap.size ≤ q) W mb (stepAll (startAll (newS (varsN vn)) l) l.length (p.take i)) ∧ Below w.heap.size w W))
      case atStart => exact ⟨0, rfl, by simp [Hid], Lib.hid H2.out⟩
      case round =>
        obtain ⟨i, rfl, hk', hJ⟩ := hrel
        by_cases hi : i < p.length
        · have hi2 : (i : Int) < p.length := by omega
          have hi0 : (0 : Int) ≤ i := by omega
          obtain ⟨ad, rfl, a0⟩ := at_int (Kd.C_below HX.out.2.1 hJ.out.2) i hi
          have hx : p[i]? = some (p.getD i 0) := by simp [List.getD_eq_getElem?_getD, hi]
          obtain ⟨hk1, hk2⟩ := HX.out.2.2.1 _ (List.mem_of_getElem? hx)
          have HT := Lib.hid hx
          clear hx
          generalize p.getD i 0 = q at *
          obtain ⟨qn, rfl⟩ := Int.eq_ofNat_of_zero_le hk1
          have e2 : pickN l.length qn = 1 + (qn : Int) % ((l.length : Int) + 1) := by unfold pickN; rw [Int.toNat_natCast, Int.natCast_emod, Int.natCast_add]; rfl
          have HS : Hid (Calls Try.prog 20 #[ptr mb, .int .i64 (1 + (qn : Int) % ((l.length : Int) + 1))] wr (StepDone w.heap.size (fun q => w.heap.size ≤ q) wr mb (stepM (stepAll (startAll (newS (varsN vn)) l) l.length (p.take i)) (pickN l.length qn)))) := Lib.hid (by
            rw [← e2]
            exact step_calls w.heap.size _ wr mb _ _ hJ.out.1 (HX.out.2.2.2.2.1.step i (by omega)) hJ.out.2.size)
          clear e2
          have hb0 : (0 : Int) ≤ (qn : Int) % ((l.length : Int) + 1) := Int.emod_nonneg _ (by omega)
          have hb1 : (qn : Int) % ((l.length : Int) + 1) ≤ 1000000 := by have := Int.emod_lt_of_pos (qn : Int) (show (0 : Int) < (l.length : Int) + 1 by omega); omega
          go_wp2_with fail
          refine HS.out.mono ?_
          rintro e w4 ⟨rfl, hM4, hT4⟩
          have H4 := Lib.hid (And.intro (hM4.up hJ.out.2.size (fun q h => h)) (hJ.out.2.trans (hT4.base hJ.out.2.size (fun q h => h))))
          clear hM4 hT4 a0 HS
          go_wp2_with fail
          obtain ⟨k1, rfl⟩ : ∃ q, gk = q + 1 := ⟨gk - 1, by have := hk'.out; omega⟩
          go_roundg k1
          case measure => omega
          case rel => exact ⟨i + 1, by first | rfl | rw [wrap_next (by omega)] | (congr 1), Lib.hid (by have := hk'.out; omega), Lib.hid ⟨by rw [take_next1 HT.out, stepAll_snoc]; exact H4.out.1, H4.out.2⟩⟩
        · have hi2 : ¬ (i : Int) < p.length := by omega
          have hk0 : i = p.length := by have := hk'.out; omega
          subst hk0
          go_wp2_with fail
          go_ret
          have := hJ.out
          rw [List.take_length] at this
          exact ⟨mb, rfl, this⟩

end Go.Proofs.Ytkecbdeekpbbjaa.Q
