/- What lies where while a commit is alone in its machine. No walk. -/
import Derived.Test.YtkecbdeekpbbjaaBegun
import Derived.Test.YtkecbdeekpbbjaaHAll
import Derived.Test.YtkecbdeekpbbjaaSolo
import Derived.BigQuiet
attribute [local go_sem high] Go.Proofs.Ytkecbdeekpbbjaa.Q.eqA44
namespace Go.Proofs.Ytkecbdeekpbbjaa
open Go.RowKit Go.Lib Go.ChangeShapes Go.WideShapes Go.Proofs.Ytkecbdeekpbbjaa.Q Go.Proofs.YtkecbdeekpbbjaaW.PrintWords Go.Proofs.YtkecbdeekpbbjaaW.PrintLast Go.Proofs.YtkecbdeekpbbjaaW.PrintMore
set_option linter.unusedVariables false
set_option linter.unusedSimpArgs false

/-! ### What lies where: the machine below b3 and from b6 on, the values at b3, the transactions from b5 to b6 -/
def okA (b2 b3 b6 q : Nat) : Prop := (b2 ≤ q ∧ q < b3) ∨ b6 ≤ q
def okS (b5 b6 q : Nat) : Prop := b5 ≤ q ∧ q < b6
structure Env (b2 b3 b5 b6 : Nat) (w2 : World) (mb n : Nat) (v6 : Value) (S : List (List S54)) (W : World) (m : Mach) (now : List S44) : Prop where
  mach : IsM b2 (okA b2 b3 b6) W mb m
  row : NR W b3 b3 n n now
  txs : Kd.S (Kd.slice 54 k54) 35 W b5 (okS b5 b6) v6 S
  bel : Below b2 w2 W
  siz : b6 ≤ W.heap.size
  ord : b2 ≤ b3 ∧ b3 < b5 ∧ b5 ≤ b6
/-- A transaction among them. -/
abbrev Txn (b5 b6 : Nat) (W : World) (v : Value) (t : List S54) : Prop := k54.R 54 W b5 (okS b5 b6) v t
variable {b2 b3 b5 b6 : Nat} {w2 : World} {mb n : Nat} {v6 : Value} {S : List (List S54)} {W W' : World} {m m' : Mach} {now : List S44}
theorem Env.below (h : Env b2 b3 b5 b6 w2 mb n v6 S W m now) (hB : Below W.heap.size W W') : Env b2 b3 b5 b6 w2 mb n v6 S W' m now :=
  ⟨h.mach.below hB, h.row.below hB, Kd.S_below h.txs hB, h.bel.trans (hB.mono (by have := h.ord; have := h.siz; omega)), Nat.le_trans h.siz hB.size, h.ord⟩
theorem Env.turned (h : Env b2 b3 b5 b6 w2 mb n v6 S W m now) (hT : Turned (okA b2 b3 b6) W W') (hM : IsM b2 (fun q => okA b2 b3 b6 q ∨ W.heap.size ≤ q) W' mb m') : Env b2 b3 b5 b6 w2 mb n v6 S W' m' now := by
  have ho := h.ord
  have hs := h.siz
  refine ⟨hM.mono fun q hq _ => hq.elim id fun e => .inr (by omega), ⟨h.row.1, own_move h.row.2 fun k hk => ?_⟩, Kd.S_step h.txs fun k hk hlt => hT.block k hlt fun e => ?_, h.bel.trans (hT.base (by omega) fun k hk => ?_), Nat.le_trans hs hT.size, ho⟩
  · have e : b3 = k := by simpa [Value.ownBlock] using hk
    subst e
    exact hT.block _ h.row.base.2 fun e => by unfold okA at e; omega
  · unfold okA at e
    unfold okS at hk
    omega
  · unfold okA at hk
    omega
theorem Txn.turned {v : Value} {t : List S54} (h : Txn b5 b6 W v t) (ho : b2 ≤ b3 ∧ b3 < b5 ∧ b5 ≤ b6) (hT : Turned (okA b2 b3 b6) W W') : Txn b5 b6 W' v t :=
  Kd.R_step h fun k hk hlt => hT.block k hlt fun e => by unfold okA at e; unfold okS at hk; omega
theorem NR.turn {base g c : Nat} (h : NR W base g n c now) (x : Nat) (a b : Int) : Turned (fun q => (nrow g n c).ownBlock = some q) W ((W.setCell ⟨g, x * 2, none⟩ (.int .i64 a)).setCell ⟨g, x * 2 + 1, none⟩ (.int .i64 b)) :=
  Turned.weaken ((turned_set W g (x * 2) (.int .i64 a)).trans (turned_set _ g (x * 2 + 1) (.int .i64 b))) fun q e => by subst e; rfl
theorem Env.put (h : Env b2 b3 b5 b6 w2 mb n v6 S W m now) {x : Nat} (hx : x < n) (a b : Int) : Env b2 b3 b5 b6 w2 mb n v6 S ((W.setCell ⟨b3, x * 2, none⟩ (.int .i64 a)).setCell ⟨b3, x * 2 + 1, none⟩ (.int .i64 b)) m (now.set x ⟨a, b⟩) := by
  have ho := h.ord
  have hs := h.siz
  have hT := NR.turn h.row x a b
  have hg : ∀ q, (nrow b3 n n).ownBlock = some q → q = b3 := fun q hq => by
    have : b3 = q := by simpa [Value.ownBlock] using hq
    exact this.symm
  refine ⟨h.mach.calm hT (fun q hq e => ?_) (SpT.row h.row.2 (by decide)), h.row.put hx a b, Kd.S_step h.txs fun k hk hlt => hT.block k hlt fun e => ?_, h.bel.trans (hT.base (by have := h.bel.size; omega) fun k hk => ?_), by simpa using hs, ho⟩
  · have := hg q e
    unfold okA at hq
    omega
  · have := hg k e
    unfold okS at hk
    omega
  · have := hg k hk
    omega
theorem Env.txn {A : Option Addr} {N c : Nat} (h : Env b2 b3 b5 b6 w2 mb n (.slice A N c) S W m now) {q : Nat} (hq : q < S.length) : ∃ ad A7 c7, A = some ad ∧ W.cell? (ad.add q) = some (.slice A7 (S.getD q []).length c7) ∧ Txn b5 b6 W (.slice A7 (S.getD q []).length c7) (S.getD q []) := by
  have hr := Kd.S_reads' h.txs
  obtain ⟨ad, rfl, -⟩ := hr.2.2.2.2 (by omega)
  obtain ⟨c0, hcl, ⟨v, rfl, hR⟩, hc⟩ := Kd.S_get h.txs ([] : List S54) (q : Int) (by omega) (by omega)
  rw [Int.toNat_natCast] at hc hR
  obtain ⟨A7, c7, rfl⟩ := Kd.R_slice hR
  refine ⟨ad, A7, c7, rfl, ?_, Kd.R_mono hR fun k hk => hk.1⟩
  have := hc 0 _ rfl
  simpa [Kd.slice] using this
theorem begunL_far {n : Nat} {l : List (List S69)} {t : List S54} (h : t ∈ begunL n l) : farT n t = false := by
  unfold begunL at h
  simpa using (List.mem_filter.1 h).2

end Go.Proofs.Ytkecbdeekpbbjaa
