/- The walk of StoreTells, by hand (printed by store-tells.py): what any store is, when anything is put, marked, or dropped, and what any variable has, is the document's. -/
import Derived.Test.YtnamlnlhigdnkaaTellsP
import Derived.Test.YtnamlnlhigdnkaaFlat
import Derived.Test.YtnamlnlhigdnkaaGrow
import Derived.ProofKit
import Derived.OpenShut
import Derived.SizedLaws
import Derived.WideLaws
set_option linter.unusedSimpArgs false
set_option linter.unusedVariables false
namespace Go.Proofs.Ytnamlnlhigdnkaa
open Go.ChangeShapes Go.WideShapes Go.ChangeAt Go.RowKit Go.Proofs.Ytnamlnlhigdnkaa.Q Go.Proofs.YtnamlnlhigdnkaaW.PrintWords Go.Proofs.YtnamlnlhigdnkaaW.PrintLast Go.Proofs.YtnamlnlhigdnkaaW.PrintMore

/-- What holds in every world that grew out of this one. -/
def Kept (W : World) (F : World → Prop) : Prop := ∀ W', Below W.heap.size W W' → F W'
theorem Kept.now {W : World} {F : World → Prop} (h : Kept W F) : F W := h W (Below.refl _ _)
theorem Kept.next {W W' : World} {F : World → Prop} (h : Kept W F) (hb : Below W.heap.size W W') : Kept W' F := fun W2 hb2 => h W2 (bAfter hb hb2)
theorem Kept.add {W : World} {F G : World → Prop} (h : Kept W F) (g : Kept W G) : Kept W (fun v => F v ∧ G v) := fun W' hb => ⟨h W' hb, g W' hb⟩
theorem kept_C {α : Type} {d : Kd α} {W : World} {A : Option Addr} {n : Nat} {xs : List α} (h : d.C W A n xs) : Kept W (fun V => d.C V A n xs) := fun W' hb => Kd.C_below h hb
theorem kept_B {w W : World} (h : Below w.heap.size w W) : Kept W (fun V => Below w.heap.size w V) := fun W' hb => bAfter h hb
theorem kept_K {W : World} {b : Nat} {cs : Array Value} {t : TypeId} {f : Nat × Nat} (h : W.heap[b]? = some (.cells cs t f)) : Kept W (fun V => V.heap[b]? = some (.cells cs t f)) := fun W' hb => blk_below h hb
theorem stays {W0 : World} {p : Addr} {v : Value} (h : W0.cell? p = some v) : ∀ W, Below W0.heap.size W0 W → W.cell? p = some v := fun W hb => (hb.cell (World.block_lt_of_cell? _ _ h)).trans h
theorem callD {P : Program} {f : FuncId} {args : Array Value} {W : World} {c : Value} (h : Calls P f args W fun e w' => e = .returned c ∧ Drawn0 W w') : Calls P f args W fun e w' => e = .returned c ∧ Below W.heap.size W w' :=
  h.mono fun e w' hh => by
    obtain ⟨n, rfl⟩ := hh.2
    exact ⟨hh.1, pw_below_drewN (Below.refl _ _) n⟩

theorem tells_plain (l : List S40) (hl : l.length ≤ 100) (x a b ver wtr s : Int) : ∃ (t cl ml dl nl : List S35) (vl : List S31) (r1 r2 r3 rn : List S40) (e1 e2 : Int) (bn : Bool) (ga gb gc gd ge gf : Int),
    warpbeamlaw07_Theirs.f 200 l = some t ∧ t.length = l.length ∧ store_Get.f t x = some (ga, gb, gc, gd, ge, gf) ∧ warpbeamref07_Get.f l x = some (ga, gb, gc, gd, ge, gf) ∧
    store_Put.f t x a b ver wtr = some (cl, e1) ∧ warpbeamref07_Put.f l x a b ver wtr = some (r1, e1) ∧ warpbeamlaw07_Ours.f 200 cl = some r1 ∧ warpbeamref07_Same.f 200 r1 r1 = some true ∧
    store_Mark.f t x s = some (ml, e2) ∧ rmark l x s = (r2, e2) ∧ r2.length = l.length ∧ warpbeamlaw07_Ours.f 200 ml = some r2 ∧ warpbeamref07_Same.f 200 r2 r2 = some true ∧
    store_Drop.f t s = some dl ∧ l.map (rdropOne s) = r3 ∧ r3.length = l.length ∧ warpbeamlaw07_Ours.f 200 dl = some r3 ∧ warpbeamref07_Same.f 200 r3 r3 = some true ∧
    store_New.f x = some (nl, bn) ∧ warpbeamref07_New.f 200 x = some (rn, bn) ∧ warpbeamlaw07_Ours.f 200 nl = some rn ∧ warpbeamref07_Same.f 200 rn rn = some true ∧
    store_Values.f 200 t = some vl ∧ vl.length = l.length ∧ ∀ i : Nat, i < l.length → rd_T31 vl (i : Int) = ⟨(rd_T40 l (i : Int)).f0.f0, (rd_T40 l (i : Int)).f0.f1⟩ := by
  obtain ⟨ga, gb, gc, gd, ge, gf, g1, g2⟩ := get_th l x
  obtain ⟨rn, bn, n1, n2, n3⟩ := new_th x
  have q1 := rput_len l x a b ver wtr
  have q2 := rmark_len l x s
  refine ⟨l.map th, _, _, _, rn.map th, (l.map th).map va, (rput l x a b ver wtr).1, (rmark l x s).1, l.map (rdropOne s), rn, _, _, bn, ga, gb, gc, gd, ge, gf, theirs_f l (by omega) 200 (by omega), by simp, g1, g2, put_th l (by omega) x a b ver wtr, rput_f l (by omega) x a b ver wtr, ours_th _ (by omega) 200 (by omega), same_f _ (by omega) 200 (by omega), mark_th l (by omega) x s, rfl, q2, ours_th _ (by omega) 200 (by omega), same_f _ (by omega) 200 (by omega), drop_th l (by omega) s, rfl, by simp, ours_th _ (by simp; omega) 200 (by simp; omega), same_f _ (by simp; omega) 200 (by simp; omega), n1, n2, ours_th _ (by omega) 200 (by omega), same_f _ (by omega) 200 (by omega), values_f _ (by simp; omega) 200 (by simp; omega), by simp, ?_⟩
  intro i hi
  unfold rd_T31 rd_T40
  simp [List.getD_eq_getElem?_getD, hi]
  rfl

theorem rmark_calls2 (A0 : Option Addr) (c0 : Nat) (l : List S40) (x s : Int) (w : World) (hC : Kd.C k40 w A0 l.length l) (hc : l.length ≤ c0) (hg : ∀ y ∈ l, word40 y) (hl : l.length ≤ 1000) (r : List S40) (e2 : Int) (hr : rmark l x s = (r, e2)) (hn : r.length = l.length) :
    Calls Try.prog 16 #[.slice A0 l.length c0, .int .i64 x, .int .i64 s] w fun e w' => ∃ A c, e = .returned (.tuple #[.slice A r.length c, .int .i64 e2]) ∧ Kd.C k40 w' A r.length r ∧ r.length ≤ c ∧ Below w.heap.size w w' := by
  have h := rmark_calls A0 c0 l x s w hC hc hg hl
  rw [hr] at h
  rw [hn]
  exact h
theorem rdrop_calls2 (A0 : Option Addr) (c0 : Nat) (l : List S40) (s : Int) (w : World) (hC : Kd.C k40 w A0 l.length l) (hc : l.length ≤ c0) (hg : ∀ y ∈ l, word40 y) (hl : l.length ≤ 1000) (r : List S40) (hr : l.map (rdropOne s) = r) (hn : r.length = l.length) :
    Calls Try.prog 23 #[.slice A0 l.length c0, .int .i64 s] w fun e w' => ∃ A c, e = .returned (.slice A r.length c) ∧ Kd.C k40 w' A r.length r ∧ r.length ≤ c ∧ Below w.heap.size w w' := by
  have h := rdrop_calls A0 c0 l s w hC hc hg hl
  rw [hr] at h
  rw [hn]
  exact h

attribute [local go_sem high] eqA24 eqA40
set_option maxHeartbeats 4000000 in
set_option maxRecDepth 100000 in
theorem tells_walk (A0 : Option Addr) (c0 : Nat) (l : List S40) (x ver wtr a b s : Int) (w : World) (hC : Kd.C k40 w A0 l.length l) (hc0 : l.length ≤ c0) (hg : ∀ y ∈ l, word40 y) :
    Calls Try.prog 3 #[.slice A0 l.length c0, .agg #[.int .i64 x, .int .i64 ver, .int .i64 wtr, .int .i64 a, .int .i64 b], .int .i64 s] w fun e w' => e = .returned (.bool true) ∧ Below w.heap.size w w' := by
  have hu26 := Try.underlying26
  have hu40 := Try.underlying40
  have hu35 := Try.underlying35
  have hu24 := Try.underlying24
  have hu31 := Try.underlying31
  have C1 := Lib.hid (fun W => warpbeamlaw07_alive.calls true W rfl)
  obtain ⟨W0, hW0, K0, HB0⟩ : ∃ W0, w.alloc (.cells #[.int .i64 x, .int .i64 ver, .int .i64 wtr, .int .i64 a, .int .i64 b] 26) = W0 ∧ W0.heap[w.heap.size]? = some (.cells #[.int .i64 x, .int .i64 ver, .int .i64 wtr, .int .i64 a, .int .i64 b] 26 (0, 0)) ∧ Below w.heap.size w W0 := ⟨_, rfl, heap_alloc_new _ _, bOne _⟩
  have HK := Lib.hid (Kept.add (Kept.add (kept_B HB0) (kept_K K0)) (kept_C (Kd.C_below hC HB0)))
  have HG := Lib.hid (And.intro hc0 hg)
  clear hC hc0 hg K0 HB0
  by_cases h1 : (l.length : Int) > 100
  · go_enter Try.func3, Try.ntmps3
    go_wp2_with fail
    refine (C1.out _).mono ?_
    rintro e w1 ⟨rfl, hB1⟩
    have HZ := Lib.hid ((HK.out.next hB1).now.1.1)
    clear hB1 HK C1 hW0 HG
    go_wp2_with fail
    go_ret
    exact ⟨rfl, HZ.out⟩
  obtain ⟨t, cl, ml, dl, nl, vl, r1, r2, r3, rn, e1, e2, bn, ga, gb, gc, gd, ge, gf, pT, pTl, pG, pRG, pP, pRP, pPo, pPs, pM, pRM, pMl, pMo, pMs, pD, pRD, pDl, pDo, pDs, pN, pRN, pNo, pNs, pV, pVl, pVi⟩ := tells_plain l (by omega) x a b ver wtr s
  have hl : l.length ≤ 1000 := by omega
  have HL := Lib.hid hl
  clear hl
  replace pT := Lib.hid pT
  replace pTl := Lib.hid pTl
  replace pG := Lib.hid pG
  replace pRG := Lib.hid pRG
  replace pP := Lib.hid pP
  replace pRP := Lib.hid pRP
  replace pPo := Lib.hid pPo
  replace pPs := Lib.hid pPs
  replace pM := Lib.hid pM
  replace pRM := Lib.hid pRM
  replace pMl := Lib.hid pMl
  replace pMo := Lib.hid pMo
  replace pMs := Lib.hid pMs
  replace pD := Lib.hid pD
  replace pRD := Lib.hid pRD
  replace pDl := Lib.hid pDl
  replace pDo := Lib.hid pDo
  replace pDs := Lib.hid pDs
  replace pN := Lib.hid pN
  replace pRN := Lib.hid pRN
  replace pNo := Lib.hid pNo
  replace pNs := Lib.hid pNs
  replace pV := Lib.hid pV
  replace pVl := Lib.hid pVl
  replace pVi := Lib.hid pVi
  go_enter Try.func3, Try.ntmps3
  go_wp2_with fail
  refine (C1.out _).mono ?_
  rintro e w1 ⟨rfl, hB1⟩
  replace HK := Lib.hid (HK.out.next hB1)
  have C2 := Lib.hid (warpbeamlaw07_Theirs.calls 200 A0 c0 l _ w1 HK.out.now.2 HG.out.1 pT.out)
  clear hB1 C1 hW0
  go_wp2_with fail
  refine C2.out.mono ?_
  rintro e w2 ⟨v2, rfl, hR2, hB2⟩
  obtain ⟨A2, c2, rfl, hc2, hC2⟩ := Kd.R_reads hR2
  replace HK := Lib.hid (Kept.add (HK.out.next hB2) (kept_C hC2))
  have HC2 := Lib.hid hc2
  clear hR2 hB2 hC2 hc2 C2
  have k0 : w2.cell? ⟨w.heap.size, 0, none⟩ = some (.int .i64 x) := blk_cell HK.out.now.1.1.2 0
  have k1 : w2.cell? ⟨w.heap.size, 1, none⟩ = some (.int .i64 ver) := blk_cell HK.out.now.1.1.2 1
  have k2 : w2.cell? ⟨w.heap.size, 2, none⟩ = some (.int .i64 wtr) := blk_cell HK.out.now.1.1.2 2
  have k3 : w2.cell? ⟨w.heap.size, 3, none⟩ = some (.int .i64 a) := blk_cell HK.out.now.1.1.2 3
  have k4 : w2.cell? ⟨w.heap.size, 4, none⟩ = some (.int .i64 b) := blk_cell HK.out.now.1.1.2 4
  have C3 := Lib.hid (store_Get.calls A2 c2 t x _ _ _ _ _ _ w2 HK.out.now.2 HC2.out pG.out)
  go_wp2_with fail
  refine C3.out.mono ?_
  rintro e w3 ⟨rfl, hB3⟩
  obtain ⟨W3, hW3, K3, hB3b⟩ : ∃ W3, w3.alloc (.cells #[.int .i64 ga, .int .i64 gb, .int .i64 gc, .int .i64 gd, .int .u64 ge] 35) = W3 ∧ W3.heap[w3.heap.size]? = some (.cells #[.int .i64 ga, .int .i64 gb, .int .i64 gc, .int .i64 gd, .int .u64 ge] 35 (0, 0)) ∧ Below w3.heap.size w3 W3 := ⟨_, rfl, heap_alloc_new _ _, bOne _⟩
  clear k0 k1 k2 k3 k4
  replace HK := Lib.hid (Kept.add (HK.out.next (bAfter hB3 hB3b)) (kept_K K3))
  clear hB3 hB3b K3 C3
  have k0 : W3.cell? ⟨w.heap.size, 0, none⟩ = some (.int .i64 x) := blk_cell HK.out.now.1.1.1.2 0
  have k1 : W3.cell? ⟨w.heap.size, 1, none⟩ = some (.int .i64 ver) := blk_cell HK.out.now.1.1.1.2 1
  have k2 : W3.cell? ⟨w.heap.size, 2, none⟩ = some (.int .i64 wtr) := blk_cell HK.out.now.1.1.1.2 2
  have k3 : W3.cell? ⟨w.heap.size, 3, none⟩ = some (.int .i64 a) := blk_cell HK.out.now.1.1.1.2 3
  have k4 : W3.cell? ⟨w.heap.size, 4, none⟩ = some (.int .i64 b) := blk_cell HK.out.now.1.1.1.2 4
  have C4 := Lib.hid (warpbeamref07_Get.calls A0 c0 l x _ _ _ _ _ _ W3 HK.out.now.1.1.2 HG.out.1 pRG.out)
  go_wp2_with fail
  refine C4.out.mono ?_
  rintro e w4 ⟨rfl, hB4⟩
  obtain ⟨W4, hW4, K4, hB4b⟩ : ∃ W4, w4.alloc (.cells #[.int .i64 ga, .int .i64 gb, .int .i64 gc, .int .i64 gd, .int .u64 ge] 40) = W4 ∧ W4.heap[w4.heap.size]? = some (.cells #[.int .i64 ga, .int .i64 gb, .int .i64 gc, .int .i64 gd, .int .u64 ge] 40 (0, 0)) ∧ Below w4.heap.size w4 W4 := ⟨_, rfl, heap_alloc_new _ _, bOne _⟩
  clear k0 k1 k2 k3 k4
  replace HK := Lib.hid (Kept.add (HK.out.next (bAfter hB4 hB4b)) (kept_K K4))
  clear hB4 hB4b K4 C4 hW3
  have k0 : W4.cell? ⟨w.heap.size, 0, none⟩ = some (.int .i64 x) := blk_cell HK.out.now.1.1.1.1.2 0
  have k1 : W4.cell? ⟨w.heap.size, 1, none⟩ = some (.int .i64 ver) := blk_cell HK.out.now.1.1.1.1.2 1
  have k2 : W4.cell? ⟨w.heap.size, 2, none⟩ = some (.int .i64 wtr) := blk_cell HK.out.now.1.1.1.1.2 2
  have k3 : W4.cell? ⟨w.heap.size, 3, none⟩ = some (.int .i64 a) := blk_cell HK.out.now.1.1.1.1.2 3
  have k4 : W4.cell? ⟨w.heap.size, 4, none⟩ = some (.int .i64 b) := blk_cell HK.out.now.1.1.1.1.2 4
  have C5 := Lib.hid (store_Put.calls (fun _ => True) A2 c2 t x a b ver wtr cl e1 W4 (V_of_C flatK35 HK.out.now.1.1.2 HC2.out) pP.out)
  go_wp2_with fail
  refine C5.out.mono ?_
  rintro e w5 ⟨v5, rfl, hV5, hB5⟩
  obtain ⟨A5, c5, rfl⟩ := Kd.V_slice hV5
  obtain ⟨-, hc5, hC5⟩ := Kd.V_reads' hV5
  clear hV5
  clear k0 k1 k2 k3 k4
  replace HK := Lib.hid (Kept.add (HK.out.next hB5) (kept_C hC5))
  have HC5 := Lib.hid hc5
  clear hB5 hC5 hc5 C5 hW4
  have k0 : w5.cell? ⟨w.heap.size, 0, none⟩ = some (.int .i64 x) := blk_cell HK.out.now.1.1.1.1.1.2 0
  have k1 : w5.cell? ⟨w.heap.size, 1, none⟩ = some (.int .i64 ver) := blk_cell HK.out.now.1.1.1.1.1.2 1
  have k2 : w5.cell? ⟨w.heap.size, 2, none⟩ = some (.int .i64 wtr) := blk_cell HK.out.now.1.1.1.1.1.2 2
  have k3 : w5.cell? ⟨w.heap.size, 3, none⟩ = some (.int .i64 a) := blk_cell HK.out.now.1.1.1.1.1.2 3
  have k4 : w5.cell? ⟨w.heap.size, 4, none⟩ = some (.int .i64 b) := blk_cell HK.out.now.1.1.1.1.1.2 4
  have C6 := Lib.hid (warpbeamref07_Put.calls (fun _ => True) A0 c0 l x a b ver wtr r1 e1 w5 (V_of_C flatK40 HK.out.now.1.1.1.1.2 HG.out.1) pRP.out)
  go_wp2_with fail
  refine C6.out.mono ?_
  rintro e w6 ⟨v6, rfl, hV6, hB6⟩
  obtain ⟨A6, c6, rfl⟩ := Kd.V_slice hV6
  obtain ⟨-, hc6, hC6⟩ := Kd.V_reads' hV6
  clear hV6
  clear k0 k1 k2 k3 k4
  replace HK := Lib.hid (Kept.add (HK.out.next hB6) (kept_C hC6))
  have HC6 := Lib.hid hc6
  clear hB6 hC6 hc6 C6 
  have k0 : w6.cell? ⟨w.heap.size, 0, none⟩ = some (.int .i64 x) := blk_cell HK.out.now.1.1.1.1.1.1.2 0
  have k1 : w6.cell? ⟨w.heap.size, 1, none⟩ = some (.int .i64 ver) := blk_cell HK.out.now.1.1.1.1.1.1.2 1
  have k2 : w6.cell? ⟨w.heap.size, 2, none⟩ = some (.int .i64 wtr) := blk_cell HK.out.now.1.1.1.1.1.1.2 2
  have k3 : w6.cell? ⟨w.heap.size, 3, none⟩ = some (.int .i64 a) := blk_cell HK.out.now.1.1.1.1.1.1.2 3
  have k4 : w6.cell? ⟨w.heap.size, 4, none⟩ = some (.int .i64 b) := blk_cell HK.out.now.1.1.1.1.1.1.2 4
  have C7 := Lib.hid (store_Mark.calls (fun _ => True) A2 c2 t x s ml e2 w6 (V_of_C flatK35 HK.out.now.1.1.1.1.2 HC2.out) pM.out)
  go_wp2_with fail
  refine C7.out.mono ?_
  rintro e w7 ⟨v7, rfl, hV7, hB7⟩
  obtain ⟨A7, c7, rfl⟩ := Kd.V_slice hV7
  obtain ⟨-, hc7, hC7⟩ := Kd.V_reads' hV7
  clear hV7
  clear k0 k1 k2 k3 k4
  replace HK := Lib.hid (Kept.add (HK.out.next hB7) (kept_C hC7))
  have HC7 := Lib.hid hc7
  clear hB7 hC7 hc7 C7 
  have k0 : w7.cell? ⟨w.heap.size, 0, none⟩ = some (.int .i64 x) := blk_cell HK.out.now.1.1.1.1.1.1.1.2 0
  have k1 : w7.cell? ⟨w.heap.size, 1, none⟩ = some (.int .i64 ver) := blk_cell HK.out.now.1.1.1.1.1.1.1.2 1
  have k2 : w7.cell? ⟨w.heap.size, 2, none⟩ = some (.int .i64 wtr) := blk_cell HK.out.now.1.1.1.1.1.1.1.2 2
  have k3 : w7.cell? ⟨w.heap.size, 3, none⟩ = some (.int .i64 a) := blk_cell HK.out.now.1.1.1.1.1.1.1.2 3
  have k4 : w7.cell? ⟨w.heap.size, 4, none⟩ = some (.int .i64 b) := blk_cell HK.out.now.1.1.1.1.1.1.1.2 4
  have C8 := Lib.hid (rmark_calls2 A0 c0 l x s w7 HK.out.now.1.1.1.1.1.1.2 HG.out.1 HG.out.2 HL.out r2 e2 pRM.out pMl.out)
  go_wp2_with fail
  refine C8.out.mono ?_
  rintro e w8 ⟨A8, c8, rfl, hC8, hc8, hB8⟩
  clear k0 k1 k2 k3 k4
  replace HK := Lib.hid (Kept.add (HK.out.next hB8) (kept_C hC8))
  have HC8 := Lib.hid hc8
  clear hB8 hC8 hc8 C8 
  have k0 : w8.cell? ⟨w.heap.size, 0, none⟩ = some (.int .i64 x) := blk_cell HK.out.now.1.1.1.1.1.1.1.1.2 0
  have k1 : w8.cell? ⟨w.heap.size, 1, none⟩ = some (.int .i64 ver) := blk_cell HK.out.now.1.1.1.1.1.1.1.1.2 1
  have k2 : w8.cell? ⟨w.heap.size, 2, none⟩ = some (.int .i64 wtr) := blk_cell HK.out.now.1.1.1.1.1.1.1.1.2 2
  have k3 : w8.cell? ⟨w.heap.size, 3, none⟩ = some (.int .i64 a) := blk_cell HK.out.now.1.1.1.1.1.1.1.1.2 3
  have k4 : w8.cell? ⟨w.heap.size, 4, none⟩ = some (.int .i64 b) := blk_cell HK.out.now.1.1.1.1.1.1.1.1.2 4
  have C9 := Lib.hid (store_New.calls x nl bn w8 pN.out)
  go_wp2_with fail
  refine C9.out.mono ?_
  rintro e w9 ⟨v9, rfl, hR9, hB9⟩
  obtain ⟨A9, c9, rfl, hc9, hC9⟩ := Kd.R_reads hR9
  clear hR9
  clear k0 k1 k2 k3 k4
  replace HK := Lib.hid (Kept.add (HK.out.next hB9) (kept_C hC9))
  have HC9 := Lib.hid hc9
  clear hB9 hC9 hc9 C9 
  have k0 : w9.cell? ⟨w.heap.size, 0, none⟩ = some (.int .i64 x) := blk_cell HK.out.now.1.1.1.1.1.1.1.1.1.2 0
  have k1 : w9.cell? ⟨w.heap.size, 1, none⟩ = some (.int .i64 ver) := blk_cell HK.out.now.1.1.1.1.1.1.1.1.1.2 1
  have k2 : w9.cell? ⟨w.heap.size, 2, none⟩ = some (.int .i64 wtr) := blk_cell HK.out.now.1.1.1.1.1.1.1.1.1.2 2
  have k3 : w9.cell? ⟨w.heap.size, 3, none⟩ = some (.int .i64 a) := blk_cell HK.out.now.1.1.1.1.1.1.1.1.1.2 3
  have k4 : w9.cell? ⟨w.heap.size, 4, none⟩ = some (.int .i64 b) := blk_cell HK.out.now.1.1.1.1.1.1.1.1.1.2 4
  have C10 := Lib.hid (warpbeamref07_New.calls 200 x rn bn w9 pRN.out)
  go_wp2_with fail
  refine C10.out.mono ?_
  rintro e w10 ⟨v10, rfl, hR10, hB10⟩
  obtain ⟨A10, c10, rfl, hc10, hC10⟩ := Kd.R_reads hR10
  clear hR10
  clear k0 k1 k2 k3 k4
  replace HK := Lib.hid (Kept.add (HK.out.next hB10) (kept_C hC10))
  have HC10 := Lib.hid hc10
  clear hB10 hC10 hc10 C10 
  have C11 := Lib.hid (store_Values.calls 200 A2 c2 t vl w10 HK.out.now.1.1.1.1.1.1.1.1.2 HC2.out pV.out)
  go_wp2_with fail
  refine C11.out.mono ?_
  rintro e w11 ⟨v11, rfl, hR11, hB11⟩
  obtain ⟨A11, c11, rfl, hc11, hC11⟩ := Kd.R_reads hR11
  clear hR11
  rw [pVl.out] at hC11 hc11 ⊢
  replace HK := Lib.hid (Kept.add (HK.out.next hB11) (kept_C hC11))
  have HC11 := Lib.hid hc11
  clear hB11 hC11 hc11 C11
  go_wp2_with fail
  go_loopg [25, 26, 107] l.length (fun kq _ _ v107 W => ∃ i : Nat, v107 = .int .i64 i ∧ Hid (kq + i = l.length) ∧ Hid (Below w11.heap.size w11 W))
  case atStart => exact ⟨0, rfl, by simp [Hid], Lib.hid (Below.refl _ _)⟩
  case round =>
    obtain ⟨i, rfl, hk, hJ⟩ := hrel
    by_cases hi : i < l.length
    · have hi2 : (i : Int) < l.length := by omega
      have hi0 : (0 : Int) ≤ i := by omega
      have HI := Lib.hid (HK.out.next hJ.out)
      obtain ⟨ad, rfl, a0, a1, a2, a3, a4⟩ := at_T40 HI.out.now.1.1.1.1.1.1.1.1.1.1.2 (i : Int) hi0 hi2
      obtain ⟨bd, rfl, b0, b1⟩ := at_T31 HI.out.now.2 (i : Int) hi0 hi2
      rw [pVi.out i hi] at b0 b1
      simp only [Int.toNat_natCast] at a0 a1 a2 a3 a4 b0 b1
      generalize rd_T40 l (i : Int) = v at *
      obtain ⟨W1, hW1, K1, hB1⟩ : ∃ W1, wr.alloc (.cells #[.int .i64 v.f0.f0, .int .i64 v.f0.f1, .int .i64 v.f1, .int .i64 v.f2, .int .u64 v.f3] 40) = W1 ∧ W1.heap[wr.heap.size]? = some (.cells #[.int .i64 v.f0.f0, .int .i64 v.f0.f1, .int .i64 v.f1, .int .i64 v.f2, .int .u64 v.f3] 40 (0, 0)) ∧ Below wr.heap.size wr W1 := ⟨_, rfl, heap_alloc_new _ _, bOne _⟩
      have B0 : W1.cell? _ = _ := (hB1.cell (World.block_lt_of_cell? _ _ b0)).trans b0
      have B1 : W1.cell? _ = _ := (hB1.cell (World.block_lt_of_cell? _ _ b1)).trans b1
      have d0 : W1.cell? ⟨wr.heap.size, 0, none⟩ = some (.int .i64 v.f0.f0) := blk_cell K1 0
      have d1 : W1.cell? ⟨wr.heap.size, 1, none⟩ = some (.int .i64 v.f0.f1) := blk_cell K1 1
      have hBN := Lib.hid (bAfter hJ.out hB1)
      clear K1 hB1 b0 b1
      go_wp2_with fail
      apply wp_region_grows (by kernel_rfl) (by kernel_rfl)
      repeat
        first
          | (apply gw_skip (by rfl); simp only [Act.put, List.setIfInBounds_toArray, List.set_cons_zero, List.set_cons_succ])
          | (apply gw_val (by rfl)
             · (intro W hB hD
                have b0 := stays B0 W hB
                have b1 := stays B1 W hB
                have g0 := stays d0 W hB
                have g1 := stays d1 W hB
                go_simp; try rfl)
             simp only [Act.put, List.setIfInBounds_toArray, List.set_cons_zero, List.set_cons_succ])
      apply gw_nil
      intro W hW _ _
      have HBN := Lib.hid (bAfter hBN.out hW)
      clear B0 B1 d0 d1 hW HI a0 a1 a2 a3 a4 hW1 hBN
      go_wp2_with fail
      obtain ⟨k1, rfl⟩ : ∃ m, gk = m + 1 := ⟨gk - 1, by have := hk.out; omega⟩
      go_roundg k1
      case measure => omega
      case rel => exact ⟨i + 1, by first | rfl | rw [wrap_next (by omega)], Lib.hid (by have := hk.out; omega), HBN⟩
    · have hi2 : ¬ (i : Int) < l.length := by omega
      replace HK := Lib.hid (HK.out.next hJ.out)
      clear hJ hk hi

      have g0 : wr.cell? ⟨w3.heap.size, 0, none⟩ = some (.int .i64 ga) := blk_cell HK.out.now.1.1.1.1.1.1.1.1.2 0
      have g1 : wr.cell? ⟨w3.heap.size, 1, none⟩ = some (.int .i64 gb) := blk_cell HK.out.now.1.1.1.1.1.1.1.1.2 1
      have g2 : wr.cell? ⟨w3.heap.size, 2, none⟩ = some (.int .i64 gc) := blk_cell HK.out.now.1.1.1.1.1.1.1.1.2 2
      have g3 : wr.cell? ⟨w3.heap.size, 3, none⟩ = some (.int .i64 gd) := blk_cell HK.out.now.1.1.1.1.1.1.1.1.2 3
      have g4 : wr.cell? ⟨w3.heap.size, 4, none⟩ = some (.int .u64 ge) := blk_cell HK.out.now.1.1.1.1.1.1.1.1.2 4
      obtain ⟨W5, hW5, K5, hB5⟩ : ∃ W5, wr.alloc (.cells #[.int .i64 ga, .int .i64 gb, .int .i64 gc, .int .i64 gd, .int .u64 ge] 40) = W5 ∧ W5.heap[wr.heap.size]? = some (.cells #[.int .i64 ga, .int .i64 gb, .int .i64 gc, .int .i64 gd, .int .u64 ge] 40 (0, 0)) ∧ Below wr.heap.size wr W5 := ⟨_, rfl, heap_alloc_new _ _, bOne _⟩
      replace HK := Lib.hid (HK.out.next hB5)
      have q0 : W5.cell? ⟨wr.heap.size, 0, none⟩ = some (.int .i64 ga) := blk_cell K5 0
      have q1 : W5.cell? ⟨wr.heap.size, 1, none⟩ = some (.int .i64 gb) := blk_cell K5 1
      have q2 : W5.cell? ⟨wr.heap.size, 2, none⟩ = some (.int .i64 gc) := blk_cell K5 2
      have q3 : W5.cell? ⟨wr.heap.size, 3, none⟩ = some (.int .i64 gd) := blk_cell K5 3
      have q4 : W5.cell? ⟨wr.heap.size, 4, none⟩ = some (.int .u64 ge) := blk_cell K5 4
      have p0 : W5.cell? ⟨w4.heap.size, 0, none⟩ = some (.int .i64 ga) := blk_cell HK.out.now.1.1.1.1.1.1.1.2 0
      have p1 : W5.cell? ⟨w4.heap.size, 1, none⟩ = some (.int .i64 gb) := blk_cell HK.out.now.1.1.1.1.1.1.1.2 1
      have p2 : W5.cell? ⟨w4.heap.size, 2, none⟩ = some (.int .i64 gc) := blk_cell HK.out.now.1.1.1.1.1.1.1.2 2
      have p3 : W5.cell? ⟨w4.heap.size, 3, none⟩ = some (.int .i64 gd) := blk_cell HK.out.now.1.1.1.1.1.1.1.2 3
      have p4 : W5.cell? ⟨w4.heap.size, 4, none⟩ = some (.int .u64 ge) := blk_cell HK.out.now.1.1.1.1.1.1.1.2 4
      clear K5 hB5
      have C20 := Lib.hid (warpbeamlaw07_Ours.calls 200 A5 c5 cl r1 W5 HK.out.now.1.1.1.1.1.1.2 HC5.out pPo.out)
      go_wp2_with fail
      refine C20.out.mono ?_
      rintro e w20 ⟨v20, rfl, hR20, hB20⟩
      obtain ⟨A20, c20, rfl, hc20, hC20⟩ := Kd.R_reads hR20
      replace HK := Lib.hid (Kept.add (HK.out.next hB20) (kept_C hC20))
      have HC20 := Lib.hid hc20
      clear hR20 hB20 hc20 hC20 C20 g0 g1 g2 g3 g4 q0 q1 q2 q3 q4 p0 p1 p2 p3 p4 hW5
      have C21 := Lib.hid (callD (warpbeamref07_Same.calls 200 A20 c20 r1 A6 c6 r1 true w20 HK.out.now.2 HC20.out HK.out.now.1.1.1.1.1.1.2 HC6.out pPs.out))
      go_wp2_with fail
      refine C21.out.mono ?_
      rintro e w21 ⟨rfl, hB21⟩
      replace HK := Lib.hid (HK.out.next hB21)
      clear hB21 C21
      have C22 := Lib.hid (warpbeamlaw07_Ours.calls 200 A7 c7 ml r2 w21 HK.out.now.1.1.1.1.1.2 HC7.out pMo.out)
      go_wp2_with fail
      refine C22.out.mono ?_
      rintro e w22 ⟨v22, rfl, hR22, hB22⟩
      obtain ⟨A22, c22, rfl, hc22, hC22⟩ := Kd.R_reads hR22
      replace HK := Lib.hid (Kept.add (HK.out.next hB22) (kept_C hC22))
      have HC22 := Lib.hid hc22
      clear hR22 hB22 hc22 hC22 C22
      have C23 := Lib.hid (callD (warpbeamref07_Same.calls 200 A22 c22 r2 A8 c8 r2 true w22 HK.out.now.2 HC22.out HK.out.now.1.1.1.1.1.2 HC8.out pMs.out))
      go_wp2_with fail
      refine C23.out.mono ?_
      rintro e w23 ⟨rfl, hB23⟩
      replace HK := Lib.hid (HK.out.next hB23)
      clear hB23 C23
      have C24 := Lib.hid (store_Drop.calls A2 c2 t s dl w23 HK.out.now.1.1.1.1.1.1.1.1.1.1.1.2 HC2.out pD.out)
      go_wp2_with fail
      refine C24.out.mono ?_
      rintro e w24 ⟨v24, rfl, hR24, hB24⟩
      obtain ⟨A24, c24, rfl, hc24, hC24⟩ := Kd.R_reads hR24
      replace HK := Lib.hid (Kept.add (HK.out.next hB24) (kept_C hC24))
      have HC24 := Lib.hid hc24
      clear hR24 hB24 hc24 hC24 C24
      have C25 := Lib.hid (warpbeamlaw07_Ours.calls 200 A24 c24 dl r3 w24 HK.out.now.2 HC24.out pDo.out)
      go_wp2_with fail
      refine C25.out.mono ?_
      rintro e w25 ⟨v25, rfl, hR25, hB25⟩
      obtain ⟨A25, c25, rfl, hc25, hC25⟩ := Kd.R_reads hR25
      replace HK := Lib.hid (Kept.add (HK.out.next hB25) (kept_C hC25))
      have HC25 := Lib.hid hc25
      clear hR25 hB25 hc25 hC25 C25
      have C26 := Lib.hid (rdrop_calls2 A0 c0 l s w25 HK.out.now.1.1.1.1.1.1.1.1.1.1.1.1.1.1.2 HG.out.1 HG.out.2 HL.out r3 pRD.out pDl.out)
      go_wp2_with fail
      refine C26.out.mono ?_
      rintro e w26 ⟨A26, c26, rfl, hC26, hc26, hB26⟩
      replace HK := Lib.hid (Kept.add (HK.out.next hB26) (kept_C hC26))
      have HC26 := Lib.hid hc26
      clear hB26 hc26 hC26 C26
      have C27 := Lib.hid (callD (warpbeamref07_Same.calls 200 A25 c25 r3 A26 c26 r3 true w26 HK.out.now.1.2 HC25.out HK.out.now.2 HC26.out pDs.out))
      go_wp2_with fail
      refine C27.out.mono ?_
      rintro e w27 ⟨rfl, hB27⟩
      replace HK := Lib.hid (HK.out.next hB27)
      clear hB27 C27
      have C28 := Lib.hid (warpbeamlaw07_Ours.calls 200 A9 c9 nl rn w27 HK.out.now.1.1.1.1.1.1.1.2 HC9.out pNo.out)
      go_wp2_with fail
      refine C28.out.mono ?_
      rintro e w28 ⟨v28, rfl, hR28, hB28⟩
      obtain ⟨A28, c28, rfl, hc28, hC28⟩ := Kd.R_reads hR28
      replace HK := Lib.hid (Kept.add (HK.out.next hB28) (kept_C hC28))
      have HC28 := Lib.hid hc28
      clear hR28 hB28 hc28 hC28 C28
      have C29 := Lib.hid (callD (warpbeamref07_Same.calls 200 A28 c28 rn A10 c10 rn true w28 HK.out.now.2 HC28.out HK.out.now.1.1.1.1.1.1.1.2 HC10.out pNs.out))
      go_wp2_with fail
      refine C29.out.mono ?_
      rintro e w29 ⟨rfl, hB29⟩
      replace HK := Lib.hid (HK.out.next hB29)
      clear hB29 C29
      have HZ := Lib.hid (HK.out.now.1.1.1.1.1.1.1.1.1.1.1.1.1.1.1.1.1.1)
      clear HK
      go_wp2_with fail
      go_ret
      exact ⟨rfl, HZ.out⟩

theorem good_word {y : S40} (h : goodVar y) : word40 y := by
  unfold goodVar at h
  simp only [Lit.wf, Bool.and_eq_true, decide_eq_true_eq] at h
  have m1 : IntKind.u64.min = 0 := by decide
  have m2 : IntKind.u64.max = 18446744073709551615 := by decide
  rw [m1, m2] at h
  exact ⟨h.1, by omega⟩

theorem walk_StoreTells {H : Type} {enc : TypeId × Value → H} (W : World) (base : Nat) (v0 : Value) (d0 : DataW H) (p0 : List MemPlace) (o0 : Value.okWide Try.prog W .any base 22 v0) (h0 : DataW.Trod enc Try.prog W 0 (fun _ => true) true 22 v0 d0 p0) (v1 : Value) (d1 : DataW H) (p1 : List MemPlace) (o1 : Value.okWide Try.prog W .any base 26 v1) (h1 : DataW.Trod enc Try.prog W 0 (fun _ => true) true 26 v1 d1 p1) (v2 : Value) (d2 : DataW H) (p2 : List MemPlace) (o2 : Value.okWide Try.prog W .any base 3 v2) (h2 : DataW.Trod enc Try.prog W 0 (fun _ => true) true 3 v2 d2 p2) {P : Prop} (_hsz : P) :
    Calls Try.prog 3 #[v0, v1, v2] W fun e w' => e = .returned (.bool true) ∧ Below W.heap.size W w' := by
  obtain ⟨A, c, l, rfl, hlc, -, hC, hg⟩ := open_rows k40 goodVar z40 Try.underlying22 flat_var (by kernel_rfl) rfl (fun cs h => var_of h) o0 h0
  obtain ⟨cs, rfl, hf⟩ := open_struct Try.underlying26 flat_put o1 h1
  obtain ⟨a, b, x, y, z, rfl⟩ := put_of hf
  obtain ⟨s, rfl, _, _, _⟩ := open_int Try.underlying3 o2 h2
  exact tells_walk A c l a b x y z s W hC hlc (fun y hy => good_word (hg y hy))


end Go.Proofs.Ytnamlnlhigdnkaa
