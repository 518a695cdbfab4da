/- Plain functions that say what functions of the program compute, and proofs that they do; written by the printer for this claim, beside functions proved by hand. -/
import Derived.Test.YtbnchippfebdkaaQ0
namespace Go.Proofs.Ytbnchippfebdkaa.Q
open Go.RowKit Go.Proofs.YtbnchippfebdkaaW.PrintWords Go.Proofs.YtbnchippfebdkaaW.PrintLast Go.Proofs.YtbnchippfebdkaaW.PrintMore
attribute [local go_sem] max2_int min2_int max_two min_two max_three min_three max_four min_four   -- for this text's walks alone
set_option linter.unusedVariables false
set_option linter.unusedSimpArgs false

-- NOT PRINTED: function 40 (code_Op_40)

-- NOT PRINTED: function 30 (code_Op_30)

/-! ### code_shapes: function 38 -/
def code_shapes.f  : Option ((List (S60))) := some (([(⟨(⟨#[115, 101, 116]⟩ : ByteArray), 8, 0, 0, false, true⟩ : S60), (⟨(⟨#[110, 105, 108]⟩ : ByteArray), 8, 0, 0, false, false⟩ : S60), (⟨(⟨#[114, 101, 102]⟩ : ByteArray), 8, 64, 0, false, false⟩ : S60), (⟨(⟨#[109, 111, 118, 101]⟩ : ByteArray), 8, 8, 0, false, false⟩ : S60), (⟨(⟨#[97, 100, 100]⟩ : ByteArray), 8, 8, 8, false, false⟩ : S60), (⟨(⟨#[115, 117, 98]⟩ : ByteArray), 8, 8, 8, false, false⟩ : S60), (⟨(⟨#[109, 117, 108]⟩ : ByteArray), 8, 8, 8, false, false⟩ : S60), (⟨(⟨#[108, 101, 115, 115]⟩ : ByteArray), 8, 8, 8, false, false⟩ : S60), (⟨(⟨#[114, 101, 97, 100]⟩ : ByteArray), 8, 8, 0, false, false⟩ : S60), (⟨(⟨#[119, 114, 105, 116, 101]⟩ : ByteArray), 8, 8, 0, false, false⟩ : S60), (⟨(⟨#[106, 117, 109, 112]⟩ : ByteArray), 0, 0, 0, true, false⟩ : S60), (⟨(⟨#[105, 102]⟩ : ByteArray), 8, 0, 0, true, false⟩ : S60), (⟨(⟨#[101, 108, 115, 101]⟩ : ByteArray), 0, 0, 0, true, false⟩ : S60), (⟨(⟨#[106, 111, 105, 110]⟩ : ByteArray), 0, 0, 0, false, false⟩ : S60), (⟨(⟨#[114, 101, 116, 114, 121]⟩ : ByteArray), 0, 0, 0, false, false⟩ : S60), (⟨(⟨#[115, 116, 111, 112]⟩ : ByteArray), 0, 0, 0, false, false⟩ : S60), (⟨(⟨#[101, 110, 100]⟩ : ByteArray), 0, 0, 0, false, false⟩ : S60)] : List (S60)))
set_option maxHeartbeats 8000000 in
set_option maxRecDepth 100000 in
theorem code_shapes.calls  (r : List (S60)) (w : World) (h : code_shapes.f  = some r) :
    Calls Try.prog 38 #[] w fun e w' => ∃ v0_ : Value, e = .returned (v0_) ∧ Kd.R k60 60 w' w.heap.size (fun _ => True) v0_ r ∧ Below w.heap.size w w' := by
  have hu60 := Try.underlying60
  have HB := Aside0.mk (Below.refl w.heap.size w)
  have H : (some (([(⟨(⟨#[115, 101, 116]⟩ : ByteArray), 8, 0, 0, false, true⟩ : S60), (⟨(⟨#[110, 105, 108]⟩ : ByteArray), 8, 0, 0, false, false⟩ : S60), (⟨(⟨#[114, 101, 102]⟩ : ByteArray), 8, 64, 0, false, false⟩ : S60), (⟨(⟨#[109, 111, 118, 101]⟩ : ByteArray), 8, 8, 0, false, false⟩ : S60), (⟨(⟨#[97, 100, 100]⟩ : ByteArray), 8, 8, 8, false, false⟩ : S60), (⟨(⟨#[115, 117, 98]⟩ : ByteArray), 8, 8, 8, false, false⟩ : S60), (⟨(⟨#[109, 117, 108]⟩ : ByteArray), 8, 8, 8, false, false⟩ : S60), (⟨(⟨#[108, 101, 115, 115]⟩ : ByteArray), 8, 8, 8, false, false⟩ : S60), (⟨(⟨#[114, 101, 97, 100]⟩ : ByteArray), 8, 8, 0, false, false⟩ : S60), (⟨(⟨#[119, 114, 105, 116, 101]⟩ : ByteArray), 8, 8, 0, false, false⟩ : S60), (⟨(⟨#[106, 117, 109, 112]⟩ : ByteArray), 0, 0, 0, true, false⟩ : S60), (⟨(⟨#[105, 102]⟩ : ByteArray), 8, 0, 0, true, false⟩ : S60), (⟨(⟨#[101, 108, 115, 101]⟩ : ByteArray), 0, 0, 0, true, false⟩ : S60), (⟨(⟨#[106, 111, 105, 110]⟩ : ByteArray), 0, 0, 0, false, false⟩ : S60), (⟨(⟨#[114, 101, 116, 114, 121]⟩ : ByteArray), 0, 0, 0, false, false⟩ : S60), (⟨(⟨#[115, 116, 111, 112]⟩ : ByteArray), 0, 0, 0, false, false⟩ : S60), (⟨(⟨#[101, 110, 100]⟩ : ByteArray), 0, 0, 0, false, false⟩ : S60)] : List (S60)))) = some r := h
  clear h
  obtain ⟨y101, hy101⟩ : ∃ y_ : List (S60), y_ = (([(⟨(⟨#[115, 101, 116]⟩ : ByteArray), 8, 0, 0, false, true⟩ : S60), (⟨(⟨#[110, 105, 108]⟩ : ByteArray), 8, 0, 0, false, false⟩ : S60), (⟨(⟨#[114, 101, 102]⟩ : ByteArray), 8, 64, 0, false, false⟩ : S60), (⟨(⟨#[109, 111, 118, 101]⟩ : ByteArray), 8, 8, 0, false, false⟩ : S60), (⟨(⟨#[97, 100, 100]⟩ : ByteArray), 8, 8, 8, false, false⟩ : S60), (⟨(⟨#[115, 117, 98]⟩ : ByteArray), 8, 8, 8, false, false⟩ : S60), (⟨(⟨#[109, 117, 108]⟩ : ByteArray), 8, 8, 8, false, false⟩ : S60), (⟨(⟨#[108, 101, 115, 115]⟩ : ByteArray), 8, 8, 8, false, false⟩ : S60), (⟨(⟨#[114, 101, 97, 100]⟩ : ByteArray), 8, 8, 0, false, false⟩ : S60), (⟨(⟨#[119, 114, 105, 116, 101]⟩ : ByteArray), 8, 8, 0, false, false⟩ : S60), (⟨(⟨#[106, 117, 109, 112]⟩ : ByteArray), 0, 0, 0, true, false⟩ : S60), (⟨(⟨#[105, 102]⟩ : ByteArray), 8, 0, 0, true, false⟩ : S60), (⟨(⟨#[101, 108, 115, 101]⟩ : ByteArray), 0, 0, 0, true, false⟩ : S60), (⟨(⟨#[106, 111, 105, 110]⟩ : ByteArray), 0, 0, 0, false, false⟩ : S60), (⟨(⟨#[114, 101, 116, 114, 121]⟩ : ByteArray), 0, 0, 0, false, false⟩ : S60), (⟨(⟨#[115, 116, 111, 112]⟩ : ByteArray), 0, 0, 0, false, false⟩ : S60), (⟨(⟨#[101, 110, 100]⟩ : ByteArray), 0, 0, 0, false, false⟩ : S60)] : List (S60))) := ⟨_, rfl⟩
  replace H : (some y101) = some r := by first | (rw [hy101]; with_reducible exact H) | (have H2_ := (Option.bind_some _ _).symm.trans H; rw [hy101]; with_reducible exact H2_) | (have H2_ := (Option.bind_some _ _).symm.trans H; with_reducible exact H2_) | with_reducible exact H | (rw [hy101]; exact H) | exact H
  have Ny101 := Aside0.mk hy101
  clear hy101
  obtain rfl := Option.some.inj H
  go_enter Try.func38, Try.ntmps38
  go_wp2_with (first | ((with_reducible refine gate_dst (N := 18) rfl ?_); refine Kd.R_lit k60 _ 60 ?hg (N := 18) ?hd (xs := ([(⟨(⟨#[115, 101, 116]⟩ : ByteArray), 8, 0, 0, false, true⟩ : S60), (⟨(⟨#[110, 105, 108]⟩ : ByteArray), 8, 0, 0, false, false⟩ : S60), (⟨(⟨#[114, 101, 102]⟩ : ByteArray), 8, 64, 0, false, false⟩ : S60), (⟨(⟨#[109, 111, 118, 101]⟩ : ByteArray), 8, 8, 0, false, false⟩ : S60), (⟨(⟨#[97, 100, 100]⟩ : ByteArray), 8, 8, 8, false, false⟩ : S60), (⟨(⟨#[115, 117, 98]⟩ : ByteArray), 8, 8, 8, false, false⟩ : S60), (⟨(⟨#[109, 117, 108]⟩ : ByteArray), 8, 8, 8, false, false⟩ : S60), (⟨(⟨#[108, 101, 115, 115]⟩ : ByteArray), 8, 8, 8, false, false⟩ : S60), (⟨(⟨#[114, 101, 97, 100]⟩ : ByteArray), 8, 8, 0, false, false⟩ : S60), (⟨(⟨#[119, 114, 105, 116, 101]⟩ : ByteArray), 8, 8, 0, false, false⟩ : S60), (⟨(⟨#[106, 117, 109, 112]⟩ : ByteArray), 0, 0, 0, true, false⟩ : S60), (⟨(⟨#[105, 102]⟩ : ByteArray), 8, 0, 0, true, false⟩ : S60), (⟨(⟨#[101, 108, 115, 101]⟩ : ByteArray), 0, 0, 0, true, false⟩ : S60), (⟨(⟨#[106, 111, 105, 110]⟩ : ByteArray), 0, 0, 0, false, false⟩ : S60), (⟨(⟨#[114, 101, 116, 114, 121]⟩ : ByteArray), 0, 0, 0, false, false⟩ : S60), (⟨(⟨#[115, 116, 111, 112]⟩ : ByteArray), 0, 0, 0, false, false⟩ : S60), (⟨(⟨#[101, 110, 100]⟩ : ByteArray), 0, 0, 0, false, false⟩ : S60)] : List (S60))) (inner := [.string (⟨#[115, 101, 116]⟩ : ByteArray), .int .i64 8, .int .i64 0, .int .i64 0, .bool false, .bool true, .string (⟨#[110, 105, 108]⟩ : ByteArray), .int .i64 8, .int .i64 0, .int .i64 0, .bool false, .bool false, .string (⟨#[114, 101, 102]⟩ : ByteArray), .int .i64 8, .int .i64 64, .int .i64 0, .bool false, .bool false, .string (⟨#[109, 111, 118, 101]⟩ : ByteArray), .int .i64 8, .int .i64 8, .int .i64 0, .bool false, .bool false, .string (⟨#[97, 100, 100]⟩ : ByteArray), .int .i64 8, .int .i64 8, .int .i64 8, .bool false, .bool false, .string (⟨#[115, 117, 98]⟩ : ByteArray), .int .i64 8, .int .i64 8, .int .i64 8, .bool false, .bool false, .string (⟨#[109, 117, 108]⟩ : ByteArray), .int .i64 8, .int .i64 8, .int .i64 8, .bool false, .bool false, .string (⟨#[108, 101, 115, 115]⟩ : ByteArray), .int .i64 8, .int .i64 8, .int .i64 8, .bool false, .bool false, .string (⟨#[114, 101, 97, 100]⟩ : ByteArray), .int .i64 8, .int .i64 8, .int .i64 0, .bool false, .bool false, .string (⟨#[119, 114, 105, 116, 101]⟩ : ByteArray), .int .i64 8, .int .i64 8, .int .i64 0, .bool false, .bool false, .string (⟨#[106, 117, 109, 112]⟩ : ByteArray), .int .i64 0, .int .i64 0, .int .i64 0, .bool true, .bool false, .string (⟨#[105, 102]⟩ : ByteArray), .int .i64 8, .int .i64 0, .int .i64 0, .bool true, .bool false, .string (⟨#[101, 108, 115, 101]⟩ : ByteArray), .int .i64 0, .int .i64 0, .int .i64 0, .bool true, .bool false, .string (⟨#[106, 111, 105, 110]⟩ : ByteArray), .int .i64 0, .int .i64 0, .int .i64 0, .bool false, .bool false, .string (⟨#[114, 101, 116, 114, 121]⟩ : ByteArray), .int .i64 0, .int .i64 0, .int .i64 0, .bool false, .bool false, .string (⟨#[115, 116, 111, 112]⟩ : ByteArray), .int .i64 0, .int .i64 0, .int .i64 0, .bool false, .bool false, .string (⟨#[101, 110, 100]⟩ : ByteArray), .int .i64 0, .int .i64 0, .int .i64 0, .bool false, .bool false]) (ok := fun _ => True) (okp := fun _ => True) ?hr ?hp (fun _ hk => hk) trivial (Below.refl _ _) (Nat.le_refl _) (by simp) ?_; (case hd => rfl); (case hg => rfl); (case hr => first | (go_simp; done) | (go_simp; rfl)); (case hp => exact (Reps.c6 (show Kd.M k60 _ _ _ (⟨(⟨#[115, 101, 116]⟩ : ByteArray), 8, 0, 0, false, true⟩ : S60) [.string (⟨#[115, 101, 116]⟩ : ByteArray), .int .i64 8, .int .i64 0, .int .i64 0, .bool false, .bool true] from (k60_mkM _ _ _ (⟨(⟨#[115, 101, 116]⟩ : ByteArray), 8, 0, 0, false, true⟩ : S60) )) (Reps.c6 (show Kd.M k60 _ _ _ (⟨(⟨#[110, 105, 108]⟩ : ByteArray), 8, 0, 0, false, false⟩ : S60) [.string (⟨#[110, 105, 108]⟩ : ByteArray), .int .i64 8, .int .i64 0, .int .i64 0, .bool false, .bool false] from (k60_mkM _ _ _ (⟨(⟨#[110, 105, 108]⟩ : ByteArray), 8, 0, 0, false, false⟩ : S60) )) (Reps.c6 (show Kd.M k60 _ _ _ (⟨(⟨#[114, 101, 102]⟩ : ByteArray), 8, 64, 0, false, false⟩ : S60) [.string (⟨#[114, 101, 102]⟩ : ByteArray), .int .i64 8, .int .i64 64, .int .i64 0, .bool false, .bool false] from (k60_mkM _ _ _ (⟨(⟨#[114, 101, 102]⟩ : ByteArray), 8, 64, 0, false, false⟩ : S60) )) (Reps.c6 (show Kd.M k60 _ _ _ (⟨(⟨#[109, 111, 118, 101]⟩ : ByteArray), 8, 8, 0, false, false⟩ : S60) [.string (⟨#[109, 111, 118, 101]⟩ : ByteArray), .int .i64 8, .int .i64 8, .int .i64 0, .bool false, .bool false] from (k60_mkM _ _ _ (⟨(⟨#[109, 111, 118, 101]⟩ : ByteArray), 8, 8, 0, false, false⟩ : S60) )) (Reps.c6 (show Kd.M k60 _ _ _ (⟨(⟨#[97, 100, 100]⟩ : ByteArray), 8, 8, 8, false, false⟩ : S60) [.string (⟨#[97, 100, 100]⟩ : ByteArray), .int .i64 8, .int .i64 8, .int .i64 8, .bool false, .bool false] from (k60_mkM _ _ _ (⟨(⟨#[97, 100, 100]⟩ : ByteArray), 8, 8, 8, false, false⟩ : S60) )) (Reps.c6 (show Kd.M k60 _ _ _ (⟨(⟨#[115, 117, 98]⟩ : ByteArray), 8, 8, 8, false, false⟩ : S60) [.string (⟨#[115, 117, 98]⟩ : ByteArray), .int .i64 8, .int .i64 8, .int .i64 8, .bool false, .bool false] from (k60_mkM _ _ _ (⟨(⟨#[115, 117, 98]⟩ : ByteArray), 8, 8, 8, false, false⟩ : S60) )) (Reps.c6 (show Kd.M k60 _ _ _ (⟨(⟨#[109, 117, 108]⟩ : ByteArray), 8, 8, 8, false, false⟩ : S60) [.string (⟨#[109, 117, 108]⟩ : ByteArray), .int .i64 8, .int .i64 8, .int .i64 8, .bool false, .bool false] from (k60_mkM _ _ _ (⟨(⟨#[109, 117, 108]⟩ : ByteArray), 8, 8, 8, false, false⟩ : S60) )) (Reps.c6 (show Kd.M k60 _ _ _ (⟨(⟨#[108, 101, 115, 115]⟩ : ByteArray), 8, 8, 8, false, false⟩ : S60) [.string (⟨#[108, 101, 115, 115]⟩ : ByteArray), .int .i64 8, .int .i64 8, .int .i64 8, .bool false, .bool false] from (k60_mkM _ _ _ (⟨(⟨#[108, 101, 115, 115]⟩ : ByteArray), 8, 8, 8, false, false⟩ : S60) )) (Reps.c6 (show Kd.M k60 _ _ _ (⟨(⟨#[114, 101, 97, 100]⟩ : ByteArray), 8, 8, 0, false, false⟩ : S60) [.string (⟨#[114, 101, 97, 100]⟩ : ByteArray), .int .i64 8, .int .i64 8, .int .i64 0, .bool false, .bool false] from (k60_mkM _ _ _ (⟨(⟨#[114, 101, 97, 100]⟩ : ByteArray), 8, 8, 0, false, false⟩ : S60) )) (Reps.c6 (show Kd.M k60 _ _ _ (⟨(⟨#[119, 114, 105, 116, 101]⟩ : ByteArray), 8, 8, 0, false, false⟩ : S60) [.string (⟨#[119, 114, 105, 116, 101]⟩ : ByteArray), .int .i64 8, .int .i64 8, .int .i64 0, .bool false, .bool false] from (k60_mkM _ _ _ (⟨(⟨#[119, 114, 105, 116, 101]⟩ : ByteArray), 8, 8, 0, false, false⟩ : S60) )) (Reps.c6 (show Kd.M k60 _ _ _ (⟨(⟨#[106, 117, 109, 112]⟩ : ByteArray), 0, 0, 0, true, false⟩ : S60) [.string (⟨#[106, 117, 109, 112]⟩ : ByteArray), .int .i64 0, .int .i64 0, .int .i64 0, .bool true, .bool false] from (k60_mkM _ _ _ (⟨(⟨#[106, 117, 109, 112]⟩ : ByteArray), 0, 0, 0, true, false⟩ : S60) )) (Reps.c6 (show Kd.M k60 _ _ _ (⟨(⟨#[105, 102]⟩ : ByteArray), 8, 0, 0, true, false⟩ : S60) [.string (⟨#[105, 102]⟩ : ByteArray), .int .i64 8, .int .i64 0, .int .i64 0, .bool true, .bool false] from (k60_mkM _ _ _ (⟨(⟨#[105, 102]⟩ : ByteArray), 8, 0, 0, true, false⟩ : S60) )) (Reps.c6 (show Kd.M k60 _ _ _ (⟨(⟨#[101, 108, 115, 101]⟩ : ByteArray), 0, 0, 0, true, false⟩ : S60) [.string (⟨#[101, 108, 115, 101]⟩ : ByteArray), .int .i64 0, .int .i64 0, .int .i64 0, .bool true, .bool false] from (k60_mkM _ _ _ (⟨(⟨#[101, 108, 115, 101]⟩ : ByteArray), 0, 0, 0, true, false⟩ : S60) )) (Reps.c6 (show Kd.M k60 _ _ _ (⟨(⟨#[106, 111, 105, 110]⟩ : ByteArray), 0, 0, 0, false, false⟩ : S60) [.string (⟨#[106, 111, 105, 110]⟩ : ByteArray), .int .i64 0, .int .i64 0, .int .i64 0, .bool false, .bool false] from (k60_mkM _ _ _ (⟨(⟨#[106, 111, 105, 110]⟩ : ByteArray), 0, 0, 0, false, false⟩ : S60) )) (Reps.c6 (show Kd.M k60 _ _ _ (⟨(⟨#[114, 101, 116, 114, 121]⟩ : ByteArray), 0, 0, 0, false, false⟩ : S60) [.string (⟨#[114, 101, 116, 114, 121]⟩ : ByteArray), .int .i64 0, .int .i64 0, .int .i64 0, .bool false, .bool false] from (k60_mkM _ _ _ (⟨(⟨#[114, 101, 116, 114, 121]⟩ : ByteArray), 0, 0, 0, false, false⟩ : S60) )) (Reps.c6 (show Kd.M k60 _ _ _ (⟨(⟨#[115, 116, 111, 112]⟩ : ByteArray), 0, 0, 0, false, false⟩ : S60) [.string (⟨#[115, 116, 111, 112]⟩ : ByteArray), .int .i64 0, .int .i64 0, .int .i64 0, .bool false, .bool false] from (k60_mkM _ _ _ (⟨(⟨#[115, 116, 111, 112]⟩ : ByteArray), 0, 0, 0, false, false⟩ : S60) )) (Reps.c6 (show Kd.M k60 _ _ _ (⟨(⟨#[101, 110, 100]⟩ : ByteArray), 0, 0, 0, false, false⟩ : S60) [.string (⟨#[101, 110, 100]⟩ : ByteArray), .int .i64 0, .int .i64 0, .int .i64 0, .bool false, .bool false] from (k60_mkM _ _ _ (⟨(⟨#[101, 110, 100]⟩ : ByteArray), 0, 0, 0, false, false⟩ : S60) )) (Reps.none _ _))))))))))))))))))); intro v102 w1 ho2 hb hg_ hnew_; clear hg_ hnew_; (first | rw [← Ny101.out] at ho2 | (simp only [Int.reduceToNat] at ho2; rw [← Ny101.out] at ho2)); have n0_ := Aside0.mk (Kd.R_lower ho2 (below_size (by repeat (first | (with_reducible first | exact HB.out | apply below_alloc | apply pw_below_drewN | apply below_drew1) | exact HB.out)))); have n1_ := Aside0.mk (below_step (by repeat (first | (with_reducible first | exact HB.out | apply below_alloc | apply pw_below_drewN | apply below_drew1) | exact HB.out)) hb); clear HB; have HO103 := n0_; have HB := n1_; clear n0_ n1_; clear hb ho2))
  go_ret
  exact ⟨_, by first | rfl | (simp [errW_none, errW_some] <;> rfl) | (simp [*, errW_none, errW_some] <;> rfl), by (with_reducible repeat (first | apply Kd.R_alloc | apply Kd.R_drewN | apply Kd.R_drew)); exact HO103.out, by repeat (first | (with_reducible first | exact HB.out | apply below_alloc | apply pw_below_drewN | apply below_drew1) | exact HB.out)⟩

/-! ### code_find: function 27 -/
def code_find.f (a0 : Int) : Option (ByteArray × Int × Int × Int × Bool × Bool × Bool) := (code_shapes.f).bind fun t105 => (if a0 < 0 then (some ((⟨#[]⟩ : ByteArray), 0, 0, 0, false, false, false)) else (if a0 ≥ (t105.length : Int) then (some ((⟨#[]⟩ : ByteArray), 0, 0, 0, false, false, false)) else (if 0 ≤ a0 then (if a0 < (t105.length : Int) then (some ((rd_T60 t105 a0).f0, (rd_T60 t105 a0).f1, (rd_T60 t105 a0).f2, (rd_T60 t105 a0).f3, (rd_T60 t105 a0).f4, (rd_T60 t105 a0).f5, true)) else (none)) else (none))))
set_option maxHeartbeats 8000000 in
set_option maxRecDepth 100000 in
theorem code_find.calls (a0 : Int) (r1 : ByteArray) (r2 : Int) (r3 : Int) (r4 : Int) (r5 : Bool) (r6 : Bool) (r7 : Bool) (w : World) (h : code_find.f a0 = some (r1, r2, r3, r4, r5, r6, r7)) :
    Calls Try.prog 27 #[.int .i64 a0] w fun e w' => e = .returned (.tuple #[.agg #[.string r1, .int .i64 r2, .int .i64 r3, .int .i64 r4, .bool r5, .bool r6], .bool r7]) ∧ Below w.heap.size w w' := by
  have hu60 := Try.underlying60
  have HB := Aside0.mk (Below.refl w.heap.size w)
  have H : ((code_shapes.f).bind fun t105 => (if a0 < 0 then (some ((⟨#[]⟩ : ByteArray), 0, 0, 0, false, false, false)) else (if a0 ≥ (t105.length : Int) then (some ((⟨#[]⟩ : ByteArray), 0, 0, 0, false, false, false)) else (if 0 ≤ a0 then (if a0 < (t105.length : Int) then (some ((rd_T60 t105 a0).f0, (rd_T60 t105 a0).f1, (rd_T60 t105 a0).f2, (rd_T60 t105 a0).f3, (rd_T60 t105 a0).f4, (rd_T60 t105 a0).f5, true)) else (none)) else (none))))) = some (r1, r2, r3, r4, r5, r6, r7) := h
  clear h
  replace H := Option.bind_eq_some_iff.mp H
  obtain ⟨t105, A20, H⟩ := H
  replace H : (if a0 < 0 then (some ((⟨#[]⟩ : ByteArray), 0, 0, 0, false, false, false)) else (if a0 ≥ (t105.length : Int) then (some ((⟨#[]⟩ : ByteArray), 0, 0, 0, false, false, false)) else (if 0 ≤ a0 then (if a0 < (t105.length : Int) then (some ((rd_T60 t105 a0).f0, (rd_T60 t105 a0).f1, (rd_T60 t105 a0).f2, (rd_T60 t105 a0).f3, (rd_T60 t105 a0).f4, (rd_T60 t105 a0).f5, true)) else (none)) else (none)))) = some (r1, r2, r3, r4, r5, r6, r7) := H
  have A2 := Aside0.mk A20
  clear A20
  by_cases c3 : a0 < 0
  · rw [if_pos c3] at H
    have c3b0 : decide (a0 < 0) = true := decide_eq_true c3
    clear c3
    simp only [Option.some.injEq, Prod.mk.injEq] at H
    obtain ⟨rfl, rfl, rfl, rfl, rfl, rfl, rfl⟩ := H
    go_enter Try.func27, Try.ntmps27
    go_wp2_with (first | ((with_reducible refine gate_dst (N := 2) rfl ?_); (try (refine gate_guard (by rfl) ?_; dsimp only)); refine box_event ?hg (N := 2) ?hd (cs := #[.string (⟨#[]⟩ : ByteArray), .int .i64 0, .int .i64 0, .int .i64 0, .bool false, .bool false]) (t := 60) ?hr ?_; (case hd => rfl); (case hg => rfl); (case hr => first | (go_simp; done) | (go_simp; rfl)); intro gb104 hg w4 hbox hb; have n0_ := Aside0.mk (below_step (by repeat (first | (with_reducible first | exact HB.out | apply below_alloc | apply pw_below_drewN | apply below_drew1) | exact HB.out)) hb); have n1_ := Aside0.mk (hbox); have n2_ := Aside0.mk ((by rw [hg]; exact (below_size (by repeat (first | (with_reducible first | exact HB.out | apply below_alloc | apply pw_below_drewN | apply below_drew1) | exact HB.out))) : w.heap.size ≤ gb104)); have n3_ := Aside0.mk ((by rw [hg]; exact (below_size (by repeat (first | (with_reducible first | exact HB.out | apply below_alloc | apply pw_below_drewN | apply below_drew1) | exact HB.out))) : w.heap.size ≤ gb104)); clear HB; have HB := n0_; have BK104 := n1_; have GW104 := n2_; have GE104 := n3_; clear n0_ n1_ n2_ n3_; clear hb hbox hg) | ((with_reducible refine gate_callee (f := 38) rfl ?_); refine goesL_ (some 5) rfl rfl Try.func38 (by kernel_rfl) rfl #[] rfl (by (try simp only [List.map_toArray, List.map_cons, List.map_nil]); first | done | rfl | (simp only [List.length_drop, List.length_take]; rfl)) ?_; (with_reducible refine (code_shapes.calls  t105 _ A2.out).mono ?_); rintro e w5 ⟨v106, rfl, ho0, hb⟩; refine ⟨_, rfl, ?_⟩; have n0_ := Aside0.mk (Kd.R_lower (Kd.R_newB ho0 (g := gb104) (o := .cells #[.string (⟨#[]⟩ : ByteArray), .int .i64 0, .int .i64 0, .int .i64 0, .bool false, .bool false] 60 (0, 0)) (by (with_reducible repeat (first | refine blk_drewN ?_ _ | refine blk_drew ?_ | refine blk_alloc ?_ _)); exact BK104.out)) (below_size (by repeat (first | (with_reducible first | exact HB.out | apply below_alloc | apply pw_below_drewN | apply below_drew1 | refine below_set ?_ GE104.out) | exact HB.out)))); have n1_ := Aside0.mk (blk_below (g := gb104) (o := .cells #[.string (⟨#[]⟩ : ByteArray), .int .i64 0, .int .i64 0, .int .i64 0, .bool false, .bool false] 60 (0, 0)) (by (with_reducible repeat (first | refine blk_drewN ?_ _ | refine blk_drew ?_ | refine blk_alloc ?_ _)); exact BK104.out) hb); have n2_ := Aside0.mk (below_step (by repeat (first | (with_reducible first | exact HB.out | apply below_alloc | apply pw_below_drewN | apply below_drew1 | refine below_set ?_ GE104.out) | exact HB.out)) hb); clear BK104; clear HB; have HO107 := n0_; have BK104 := n1_; have HB := n2_; clear n0_ n1_ n2_; (try clear hb); (try clear hb2); (try clear hk); (try clear hi); (try clear ho0); have hcz6_0 : w5.cell? ⟨gb104, 0, none⟩ = some (.string (⟨#[]⟩ : ByteArray)) := (blk_cell BK104.out 0).trans rfl; have hcz6_1 : w5.cell? ⟨gb104, 1, none⟩ = some (.int .i64 0) := (blk_cell BK104.out 1).trans rfl; have hcz6_2 : w5.cell? ⟨gb104, 2, none⟩ = some (.int .i64 0) := (blk_cell BK104.out 2).trans rfl; have hcz6_3 : w5.cell? ⟨gb104, 3, none⟩ = some (.int .i64 0) := (blk_cell BK104.out 3).trans rfl; have hcz6_4 : w5.cell? ⟨gb104, 4, none⟩ = some (.bool false) := (blk_cell BK104.out 4).trans rfl; have hcz6_5 : w5.cell? ⟨gb104, 5, none⟩ = some (.bool false) := (blk_cell BK104.out 5).trans rfl; have hfz6_0 := blk_frozen BK104.out 0; have hfz6_1 := blk_frozen BK104.out 1; have hfz6_2 := blk_frozen BK104.out 2; have hfz6_3 := blk_frozen BK104.out 3; have hfz6_4 := blk_frozen BK104.out 4; have hfz6_5 := blk_frozen BK104.out 5))
    refine bodyPost_ret (results_ct rfl _ _ gb104 60 #[.string (⟨#[]⟩ : ByteArray), .int .i64 0, .int .i64 0, .int .i64 0, .bool false, .bool false] (0, 0) _ rfl (by (with_reducible repeat (first | refine blk_drewN ?_ _ | refine blk_drew ?_ | refine blk_alloc ?_ _)); refine blk_put (cs := #[.string (⟨#[]⟩ : ByteArray), .int .i64 0, .int .i64 0, .int .i64 0, .bool false, .bool false]) ?_ 5 _ rfl; (with_reducible repeat (first | refine blk_drewN ?_ _ | refine blk_drew ?_ | refine blk_alloc ?_ _)); refine blk_put (cs := #[.string (⟨#[]⟩ : ByteArray), .int .i64 0, .int .i64 0, .int .i64 0, .bool false, .bool false]) ?_ 4 _ rfl; (with_reducible repeat (first | refine blk_drewN ?_ _ | refine blk_drew ?_ | refine blk_alloc ?_ _)); refine blk_put (cs := #[.string (⟨#[]⟩ : ByteArray), .int .i64 0, .int .i64 0, .int .i64 0, .bool false, .bool false]) ?_ 3 _ rfl; (with_reducible repeat (first | refine blk_drewN ?_ _ | refine blk_drew ?_ | refine blk_alloc ?_ _)); refine blk_put (cs := #[.string (⟨#[]⟩ : ByteArray), .int .i64 0, .int .i64 0, .int .i64 0, .bool false, .bool false]) ?_ 2 _ rfl; (with_reducible repeat (first | refine blk_drewN ?_ _ | refine blk_drew ?_ | refine blk_alloc ?_ _)); refine blk_put (cs := #[.string (⟨#[]⟩ : ByteArray), .int .i64 0, .int .i64 0, .int .i64 0, .bool false, .bool false]) ?_ 1 _ rfl; (with_reducible repeat (first | refine blk_drewN ?_ _ | refine blk_drew ?_ | refine blk_alloc ?_ _)); refine blk_put (cs := #[.string (⟨#[]⟩ : ByteArray), .int .i64 0, .int .i64 0, .int .i64 0, .bool false, .bool false]) ?_ 0 _ rfl; (with_reducible repeat (first | refine blk_drewN ?_ _ | refine blk_drew ?_ | refine blk_alloc ?_ _)); exact BK104.out) Try.underlying60 rfl (by kernel_rfl)) rfl ?_
    exact ⟨by first | rfl | (simp [errW_none, errW_some] <;> rfl) | (simp [*, errW_none, errW_some] <;> rfl), by repeat (first | (with_reducible first | exact HB.out | apply below_alloc | apply pw_below_drewN | apply below_drew1 | refine below_set ?_ GE104.out) | exact HB.out)⟩
  · rw [if_neg c3] at H
    have c3b0 : decide (a0 < 0) = false := decide_eq_false c3
    clear c3
    by_cases c7 : a0 ≥ (t105.length : Int)
    · rw [if_pos c7] at H
      have c7b0 : decide ((t105.length : Int) ≤ a0) = true := decide_eq_true c7
      clear c7
      simp only [Option.some.injEq, Prod.mk.injEq] at H
      obtain ⟨rfl, rfl, rfl, rfl, rfl, rfl, rfl⟩ := H
      go_enter Try.func27, Try.ntmps27
      go_wp2_with (first | ((with_reducible refine gate_dst (N := 2) rfl ?_); (try (refine gate_guard (by rfl) ?_; dsimp only)); refine box_event ?hg (N := 2) ?hd (cs := #[.string (⟨#[]⟩ : ByteArray), .int .i64 0, .int .i64 0, .int .i64 0, .bool false, .bool false]) (t := 60) ?hr ?_; (case hd => rfl); (case hg => rfl); (case hr => first | (go_simp; done) | (go_simp; rfl)); intro gb104 hg w8 hbox hb; have n0_ := Aside0.mk (below_step (by repeat (first | (with_reducible first | exact HB.out | apply below_alloc | apply pw_below_drewN | apply below_drew1) | exact HB.out)) hb); have n1_ := Aside0.mk (hbox); have n2_ := Aside0.mk ((by rw [hg]; exact (below_size (by repeat (first | (with_reducible first | exact HB.out | apply below_alloc | apply pw_below_drewN | apply below_drew1) | exact HB.out))) : w.heap.size ≤ gb104)); have n3_ := Aside0.mk ((by rw [hg]; exact (below_size (by repeat (first | (with_reducible first | exact HB.out | apply below_alloc | apply pw_below_drewN | apply below_drew1) | exact HB.out))) : w.heap.size ≤ gb104)); clear HB; have HB := n0_; have BK104 := n1_; have GW104 := n2_; have GE104 := n3_; clear n0_ n1_ n2_ n3_; clear hb hbox hg) | ((with_reducible refine gate_callee (f := 38) rfl ?_); refine goesL_ (some 5) rfl rfl Try.func38 (by kernel_rfl) rfl #[] rfl (by (try simp only [List.map_toArray, List.map_cons, List.map_nil]); first | done | rfl | (simp only [List.length_drop, List.length_take]; rfl)) ?_; (with_reducible refine (code_shapes.calls  t105 _ A2.out).mono ?_); rintro e w9 ⟨v106, rfl, ho0, hb⟩; refine ⟨_, rfl, ?_⟩; have n0_ := Aside0.mk (Kd.R_lower (Kd.R_newB ho0 (g := gb104) (o := .cells #[.string (⟨#[]⟩ : ByteArray), .int .i64 0, .int .i64 0, .int .i64 0, .bool false, .bool false] 60 (0, 0)) (by (with_reducible repeat (first | refine blk_drewN ?_ _ | refine blk_drew ?_ | refine blk_alloc ?_ _)); exact BK104.out)) (below_size (by repeat (first | (with_reducible first | exact HB.out | apply below_alloc | apply pw_below_drewN | apply below_drew1 | refine below_set ?_ GE104.out) | exact HB.out)))); have n1_ := Aside0.mk (blk_below (g := gb104) (o := .cells #[.string (⟨#[]⟩ : ByteArray), .int .i64 0, .int .i64 0, .int .i64 0, .bool false, .bool false] 60 (0, 0)) (by (with_reducible repeat (first | refine blk_drewN ?_ _ | refine blk_drew ?_ | refine blk_alloc ?_ _)); exact BK104.out) hb); have n2_ := Aside0.mk (below_step (by repeat (first | (with_reducible first | exact HB.out | apply below_alloc | apply pw_below_drewN | apply below_drew1 | refine below_set ?_ GE104.out) | exact HB.out)) hb); clear BK104; clear HB; have HO107 := n0_; have BK104 := n1_; have HB := n2_; clear n0_ n1_ n2_; (try clear hb); (try clear hb2); (try clear hk); (try clear hi); (try clear ho0); obtain ⟨Ao10, co10, eo10⟩ := Kd.R_slice HO107.out; subst eo10; have hcz11_0 : w9.cell? ⟨gb104, 0, none⟩ = some (.string (⟨#[]⟩ : ByteArray)) := (blk_cell BK104.out 0).trans rfl; have hcz11_1 : w9.cell? ⟨gb104, 1, none⟩ = some (.int .i64 0) := (blk_cell BK104.out 1).trans rfl; have hcz11_2 : w9.cell? ⟨gb104, 2, none⟩ = some (.int .i64 0) := (blk_cell BK104.out 2).trans rfl; have hcz11_3 : w9.cell? ⟨gb104, 3, none⟩ = some (.int .i64 0) := (blk_cell BK104.out 3).trans rfl; have hcz11_4 : w9.cell? ⟨gb104, 4, none⟩ = some (.bool false) := (blk_cell BK104.out 4).trans rfl; have hcz11_5 : w9.cell? ⟨gb104, 5, none⟩ = some (.bool false) := (blk_cell BK104.out 5).trans rfl; have hfz11_0 := blk_frozen BK104.out 0; have hfz11_1 := blk_frozen BK104.out 1; have hfz11_2 := blk_frozen BK104.out 2; have hfz11_3 := blk_frozen BK104.out 3; have hfz11_4 := blk_frozen BK104.out 4; have hfz11_5 := blk_frozen BK104.out 5))
      refine bodyPost_ret (results_ct rfl _ _ gb104 60 #[.string (⟨#[]⟩ : ByteArray), .int .i64 0, .int .i64 0, .int .i64 0, .bool false, .bool false] (0, 0) _ rfl (by (with_reducible repeat (first | refine blk_drewN ?_ _ | refine blk_drew ?_ | refine blk_alloc ?_ _)); refine blk_put (cs := #[.string (⟨#[]⟩ : ByteArray), .int .i64 0, .int .i64 0, .int .i64 0, .bool false, .bool false]) ?_ 5 _ rfl; (with_reducible repeat (first | refine blk_drewN ?_ _ | refine blk_drew ?_ | refine blk_alloc ?_ _)); refine blk_put (cs := #[.string (⟨#[]⟩ : ByteArray), .int .i64 0, .int .i64 0, .int .i64 0, .bool false, .bool false]) ?_ 4 _ rfl; (with_reducible repeat (first | refine blk_drewN ?_ _ | refine blk_drew ?_ | refine blk_alloc ?_ _)); refine blk_put (cs := #[.string (⟨#[]⟩ : ByteArray), .int .i64 0, .int .i64 0, .int .i64 0, .bool false, .bool false]) ?_ 3 _ rfl; (with_reducible repeat (first | refine blk_drewN ?_ _ | refine blk_drew ?_ | refine blk_alloc ?_ _)); refine blk_put (cs := #[.string (⟨#[]⟩ : ByteArray), .int .i64 0, .int .i64 0, .int .i64 0, .bool false, .bool false]) ?_ 2 _ rfl; (with_reducible repeat (first | refine blk_drewN ?_ _ | refine blk_drew ?_ | refine blk_alloc ?_ _)); refine blk_put (cs := #[.string (⟨#[]⟩ : ByteArray), .int .i64 0, .int .i64 0, .int .i64 0, .bool false, .bool false]) ?_ 1 _ rfl; (with_reducible repeat (first | refine blk_drewN ?_ _ | refine blk_drew ?_ | refine blk_alloc ?_ _)); refine blk_put (cs := #[.string (⟨#[]⟩ : ByteArray), .int .i64 0, .int .i64 0, .int .i64 0, .bool false, .bool false]) ?_ 0 _ rfl; (with_reducible repeat (first | refine blk_drewN ?_ _ | refine blk_drew ?_ | refine blk_alloc ?_ _)); exact BK104.out) Try.underlying60 rfl (by kernel_rfl)) rfl ?_
      exact ⟨by first | rfl | (simp [errW_none, errW_some] <;> rfl) | (simp [*, errW_none, errW_some] <;> rfl), by repeat (first | (with_reducible first | exact HB.out | apply below_alloc | apply pw_below_drewN | apply below_drew1 | refine below_set ?_ GE104.out) | exact HB.out)⟩
    · rw [if_neg c7] at H
      have c7b0 : decide ((t105.length : Int) ≤ a0) = false := decide_eq_false c7
      clear c7
      by_cases c12 : 0 ≤ a0
      · rw [if_pos c12] at H
        have c12b0 : decide (0 ≤ a0) = true := decide_eq_true c12
        clear c12
        by_cases c13 : a0 < (t105.length : Int)
        · rw [if_pos c13] at H
          have c13b0 : decide (a0 < (t105.length : Int)) = true := decide_eq_true c13
          clear c13
          simp only [Option.some.injEq, Prod.mk.injEq] at H
          obtain ⟨rfl, rfl, rfl, rfl, rfl, rfl, rfl⟩ := H
          go_enter Try.func27, Try.ntmps27
          go_wp2_with (first | ((with_reducible refine gate_dst (N := 2) rfl ?_); (try (refine gate_guard (by rfl) ?_; dsimp only)); refine box_event ?hg (N := 2) ?hd (cs := #[.string (⟨#[]⟩ : ByteArray), .int .i64 0, .int .i64 0, .int .i64 0, .bool false, .bool false]) (t := 60) ?hr ?_; (case hd => rfl); (case hg => rfl); (case hr => first | (go_simp; done) | (go_simp; rfl)); intro gb104 hg w14 hbox hb; have n0_ := Aside0.mk (below_step (by repeat (first | (with_reducible first | exact HB.out | apply below_alloc | apply pw_below_drewN | apply below_drew1) | exact HB.out)) hb); have n1_ := Aside0.mk (hbox); have n2_ := Aside0.mk ((by rw [hg]; exact (below_size (by repeat (first | (with_reducible first | exact HB.out | apply below_alloc | apply pw_below_drewN | apply below_drew1) | exact HB.out))) : w.heap.size ≤ gb104)); have n3_ := Aside0.mk ((by rw [hg]; exact (below_size (by repeat (first | (with_reducible first | exact HB.out | apply below_alloc | apply pw_below_drewN | apply below_drew1) | exact HB.out))) : w.heap.size ≤ gb104)); clear HB; have HB := n0_; have BK104 := n1_; have GW104 := n2_; have GE104 := n3_; clear n0_ n1_ n2_ n3_; clear hb hbox hg) | ((with_reducible refine gate_callee (f := 38) rfl ?_); refine goesL_ (some 5) rfl rfl Try.func38 (by kernel_rfl) rfl #[] rfl (by (try simp only [List.map_toArray, List.map_cons, List.map_nil]); first | done | rfl | (simp only [List.length_drop, List.length_take]; rfl)) ?_; (with_reducible refine (code_shapes.calls  t105 _ A2.out).mono ?_); rintro e w15 ⟨v106, rfl, ho0, hb⟩; refine ⟨_, rfl, ?_⟩; have n0_ := Aside0.mk (Kd.R_lower (Kd.R_newB ho0 (g := gb104) (o := .cells #[.string (⟨#[]⟩ : ByteArray), .int .i64 0, .int .i64 0, .int .i64 0, .bool false, .bool false] 60 (0, 0)) (by (with_reducible repeat (first | refine blk_drewN ?_ _ | refine blk_drew ?_ | refine blk_alloc ?_ _)); exact BK104.out)) (below_size (by repeat (first | (with_reducible first | exact HB.out | apply below_alloc | apply pw_below_drewN | apply below_drew1 | refine below_set ?_ GE104.out) | exact HB.out)))); have n1_ := Aside0.mk (blk_below (g := gb104) (o := .cells #[.string (⟨#[]⟩ : ByteArray), .int .i64 0, .int .i64 0, .int .i64 0, .bool false, .bool false] 60 (0, 0)) (by (with_reducible repeat (first | refine blk_drewN ?_ _ | refine blk_drew ?_ | refine blk_alloc ?_ _)); exact BK104.out) hb); have n2_ := Aside0.mk (below_step (by repeat (first | (with_reducible first | exact HB.out | apply below_alloc | apply pw_below_drewN | apply below_drew1 | refine below_set ?_ GE104.out) | exact HB.out)) hb); clear BK104; clear HB; have HO107 := n0_; have BK104 := n1_; have HB := n2_; clear n0_ n1_ n2_; (try clear hb); (try clear hb2); (try clear hk); (try clear hi); (try clear ho0); obtain ⟨Ao16, co16, eo16⟩ := Kd.R_slice HO107.out; subst eo16; have p108 : 0 ≤ (a0 : Int) := of_decide_eq_true (by first | (with_reducible assumption) | assumption); have q108 : a0 < (t105.length : Int) := of_decide_eq_true (by first | (with_reducible assumption) | assumption); obtain ⟨ad108, e108, hx108_0, hx108_1, hx108_2, hx108_3, hx108_4, hx108_5⟩ := at_T60 (Kd.R_reads' HO107.out).2.2 a0 p108 q108; cases e108; replace p108 := eq_true p108; replace q108 := eq_true q108; have hcz17_0 : w15.cell? ⟨gb104, 0, none⟩ = some (.string (⟨#[]⟩ : ByteArray)) := (blk_cell BK104.out 0).trans rfl; have hcz17_1 : w15.cell? ⟨gb104, 1, none⟩ = some (.int .i64 0) := (blk_cell BK104.out 1).trans rfl; have hcz17_2 : w15.cell? ⟨gb104, 2, none⟩ = some (.int .i64 0) := (blk_cell BK104.out 2).trans rfl; have hcz17_3 : w15.cell? ⟨gb104, 3, none⟩ = some (.int .i64 0) := (blk_cell BK104.out 3).trans rfl; have hcz17_4 : w15.cell? ⟨gb104, 4, none⟩ = some (.bool false) := (blk_cell BK104.out 4).trans rfl; have hcz17_5 : w15.cell? ⟨gb104, 5, none⟩ = some (.bool false) := (blk_cell BK104.out 5).trans rfl; have hfz17_0 := blk_frozen BK104.out 0; have hfz17_1 := blk_frozen BK104.out 1; have hfz17_2 := blk_frozen BK104.out 2; have hfz17_3 := blk_frozen BK104.out 3; have hfz17_4 := blk_frozen BK104.out 4; have hfz17_5 := blk_frozen BK104.out 5))
          refine bodyPost_ret (results_ct rfl _ _ gb104 60 #[.string ((rd_T60 t105 a0).f0), .int .i64 ((rd_T60 t105 a0).f1), .int .i64 ((rd_T60 t105 a0).f2), .int .i64 ((rd_T60 t105 a0).f3), .bool ((rd_T60 t105 a0).f4), .bool ((rd_T60 t105 a0).f5)] (0, 0) _ rfl (by (with_reducible repeat (first | refine blk_drewN ?_ _ | refine blk_drew ?_ | refine blk_alloc ?_ _)); refine blk_put (cs := #[.string ((rd_T60 t105 a0).f0), .int .i64 ((rd_T60 t105 a0).f1), .int .i64 ((rd_T60 t105 a0).f2), .int .i64 ((rd_T60 t105 a0).f3), .bool ((rd_T60 t105 a0).f4), .bool false]) ?_ 5 _ rfl; (with_reducible repeat (first | refine blk_drewN ?_ _ | refine blk_drew ?_ | refine blk_alloc ?_ _)); refine blk_put (cs := #[.string ((rd_T60 t105 a0).f0), .int .i64 ((rd_T60 t105 a0).f1), .int .i64 ((rd_T60 t105 a0).f2), .int .i64 ((rd_T60 t105 a0).f3), .bool false, .bool false]) ?_ 4 _ rfl; (with_reducible repeat (first | refine blk_drewN ?_ _ | refine blk_drew ?_ | refine blk_alloc ?_ _)); refine blk_put (cs := #[.string ((rd_T60 t105 a0).f0), .int .i64 ((rd_T60 t105 a0).f1), .int .i64 ((rd_T60 t105 a0).f2), .int .i64 0, .bool false, .bool false]) ?_ 3 _ rfl; (with_reducible repeat (first | refine blk_drewN ?_ _ | refine blk_drew ?_ | refine blk_alloc ?_ _)); refine blk_put (cs := #[.string ((rd_T60 t105 a0).f0), .int .i64 ((rd_T60 t105 a0).f1), .int .i64 0, .int .i64 0, .bool false, .bool false]) ?_ 2 _ rfl; (with_reducible repeat (first | refine blk_drewN ?_ _ | refine blk_drew ?_ | refine blk_alloc ?_ _)); refine blk_put (cs := #[.string ((rd_T60 t105 a0).f0), .int .i64 0, .int .i64 0, .int .i64 0, .bool false, .bool false]) ?_ 1 _ rfl; (with_reducible repeat (first | refine blk_drewN ?_ _ | refine blk_drew ?_ | refine blk_alloc ?_ _)); refine blk_put (cs := #[.string (⟨#[]⟩ : ByteArray), .int .i64 0, .int .i64 0, .int .i64 0, .bool false, .bool false]) ?_ 0 _ rfl; (with_reducible repeat (first | refine blk_drewN ?_ _ | refine blk_drew ?_ | refine blk_alloc ?_ _)); exact BK104.out) Try.underlying60 rfl (by kernel_rfl)) rfl ?_
          exact ⟨by first | rfl | (simp [errW_none, errW_some] <;> rfl) | (simp [*, errW_none, errW_some] <;> rfl), by repeat (first | (with_reducible first | exact HB.out | apply below_alloc | apply pw_below_drewN | apply below_drew1 | refine below_set ?_ GE104.out) | exact HB.out)⟩
        · rw [if_neg c13] at H
          exact absurd H (by simp)
      · rw [if_neg c12] at H
        exact absurd H (by simp)

-- NOT PRINTED: function 28 (code_Op_fields)

/-! ### slices_Equal_byte_byte: function 16 -/
def slices_Equal_byte_byte.l0 : Nat → List Int → List Int → Int → Int → Option (Bool)
  | 0, _, _, _, _ => none
  | k + 1, x0, x1, x12, x13 => if x13 < x12 then (if 0 ≤ x13 then (if x13 < (x0.length : Int) then (if x13 < (x1.length : Int) then (if (rd x0 x13) = (rd x1 x13) then (slices_Equal_byte_byte.l0 k x0 x1 x12 (wrap64 (x13 + 1))) else (some false)) else (none)) else (none)) else (none)) else (some true)
def slices_Equal_byte_byte.f (k : Nat) (l0 : List Int) (l1 : List Int) : Option (Bool) := if (l0.length : Int) = (l1.length : Int) then (slices_Equal_byte_byte.l0 k l0 l1 (l0.length : Int) 0) else (some false)
theorem slices_Equal_byte_byte.mono_l : ∀ k, (∀ y0 y1 y2 y3, LeO (slices_Equal_byte_byte.l0 k y0 y1 y2 y3) (slices_Equal_byte_byte.l0 (k + 1) y0 y1 y2 y3))
  | 0 => fun _ _ _ _ r h => by simp [slices_Equal_byte_byte.l0] at h
  | k + 1 => by
    have ih0 := slices_Equal_byte_byte.mono_l k
    · intro y0 y1 y2 y3
      unfold slices_Equal_byte_byte.l0
      repeat' first
      | (with_reducible exact ih0 _ _ _ _)
      | (with_reducible exact LeO.refl _)
      | (with_reducible exact LeO.none _)
      | (with_reducible refine LeO.ite ?_ ?_)
      | (with_reducible refine LeO.bind ?_ (fun _ => ?_))
      | exact ih0 _ _ _ _
      | exact LeO.none _
      | refine LeO.ite ?_ ?_
      | refine LeO.bind ?_ (fun _ => ?_)
theorem slices_Equal_byte_byte.mono : ∀ a0 a1 k, LeO (slices_Equal_byte_byte.f k a0 a1) (slices_Equal_byte_byte.f (k + 1) a0 a1) := by
  intro a0 a1 k
  have ih0 := slices_Equal_byte_byte.mono_l k
  unfold slices_Equal_byte_byte.f
  repeat' first
      | (with_reducible exact ih0 _ _ _ _)
      | (with_reducible exact LeO.refl _)
      | (with_reducible exact LeO.none _)
      | (with_reducible refine LeO.ite ?_ ?_)
      | (with_reducible refine LeO.bind ?_ (fun _ => ?_))
      | exact ih0 _ _ _ _
      | exact LeO.none _
      | refine LeO.ite ?_ ?_
      | refine LeO.bind ?_ (fun _ => ?_)
set_option maxHeartbeats 8000000 in
set_option maxRecDepth 100000 in
theorem slices_Equal_byte_byte.calls (k : Nat) (A0 : Option Addr) (c0 : Nat) (l0 : List Int) (A1 : Option Addr) (c1 : Nat) (l1 : List Int) (r : Bool) (w : World) (hr0 : Kd.C (Kd.int .u8) w A0 l0.length l0) (hc0 : l0.length ≤ c0) (hr1 : Kd.C (Kd.int .u8) w A1 l1.length l1) (hc1 : l1.length ≤ c1) (h : slices_Equal_byte_byte.f k l0 l1 = some r) :
    Calls Try.prog 16 #[.slice A0 l0.length c0, .slice A1 l1.length c1] w fun e w' => e = .returned (.bool r) ∧ Drawn0 w w' := by
  have HR0 := Aside0.mk hr0
  have HC0 := Aside0.mk hc0
  clear hr0 hc0
  have HR1 := Aside0.mk hr1
  have HC1 := Aside0.mk hc1
  clear hr1 hc1
  have H : (if (l0.length : Int) = (l1.length : Int) then (slices_Equal_byte_byte.l0 k l0 l1 (l0.length : Int) 0) else (some false)) = some r := h
  clear h
  by_cases c3 : (l0.length : Int) = (l1.length : Int)
  · rw [if_pos c3] at H
    have c3b0 : ((l0.length : Int) == (l1.length : Int)) = true := beq_iff_eq.mpr c3
    have c3b1 : ((l0.length : Int) != (l1.length : Int)) = false := bne_eq_false_iff_eq.mpr c3
    have c3b2 : (l0.length == l1.length) = true := by first | simpa using c3 | (simp at c3 ⊢; omega)
    clear c3
    have H' := Aside0.mk H
    clear H
    go_enter Try.func16, Try.ntmps16
    go_wp2
    repeat (go_quiet (fail); try go_wp2)
    go_loopg [13] k (fun kq v13 w' => ∃ (x13_1 : Int), v13 = .int .i64 x13_1 ∧ Aside0 (slices_Equal_byte_byte.l0 kq l0 l1 (l0.length : Int) x13_1 = some r) ∧ Aside0 (kq ≤ k) ∧ Drawn0 w w')
    case atStart => exact ⟨(0), (by first | rfl | (simp; done) | (simp [*]; done)), H', ⟨Nat.le_refl _⟩, by repeat (first | exact Drawn0.refl _ | apply Drawn0.step)⟩
    case round =>
      clear H'
      try clear c1
      try clear p2
      try clear c3
      try clear c3b0
      try clear c3b1
      try clear c3b2
      obtain ⟨x13_1, rfl, HA, HK1, ⟨m1, rfl⟩⟩ := hrel
      cases gk with
      | zero => exact absurd HA.out (by simp [slices_Equal_byte_byte.l0])
      | succ k1 =>
        have H := HA.out
        clear HA
        simp only [slices_Equal_byte_byte.l0] at H
        by_cases c4 : x13_1 < (l0.length : Int)
        · rw [if_pos c4] at H
          have c4b0 : decide (x13_1 < (l0.length : Int)) = true := decide_eq_true c4
          clear c4
          by_cases c5 : 0 ≤ x13_1
          · rw [if_pos c5] at H
            have c5b0 : decide (0 ≤ x13_1) = true := decide_eq_true c5
            clear c5
            by_cases c6 : x13_1 < (l0.length : Int)
            · rw [if_pos c6] at H
              have c6b0 : decide (x13_1 < (l0.length : Int)) = true := decide_eq_true c6
              clear c6
              by_cases c7 : x13_1 < (l1.length : Int)
              · rw [if_pos c7] at H
                have c7b0 : decide (x13_1 < (l1.length : Int)) = true := decide_eq_true c7
                clear c7
                by_cases c8 : (rd l0 x13_1) = (rd l1 x13_1)
                · rw [if_pos c8] at H
                  have c8b0 : ((rd l0 x13_1) == (rd l1 x13_1)) = true := beq_iff_eq.mpr c8
                  have c8b1 : ((rd l0 x13_1) != (rd l1 x13_1)) = false := bne_eq_false_iff_eq.mpr c8
                  clear c8
                  have H' := Aside0.mk H
                  clear H
                  have p109 : 0 ≤ (x13_1 : Int) := of_decide_eq_true (by first | (with_reducible assumption) | assumption)
                  have q109 : x13_1 < (l0.length : Int) := of_decide_eq_true (by first | (with_reducible assumption) | assumption)
                  obtain ⟨ad109, e109, hx109_0⟩ := Kd.at_int HR0.out x13_1 p109 q109
                  cases e109
                  replace p109 := eq_true p109
                  replace q109 := eq_true q109
                  have p110 : 0 ≤ (x13_1 : Int) := of_decide_eq_true (by first | (with_reducible assumption) | assumption)
                  have q110 : x13_1 < (l1.length : Int) := of_decide_eq_true (by first | (with_reducible assumption) | assumption)
                  obtain ⟨ad110, e110, hx110_0⟩ := Kd.at_int HR1.out x13_1 p110 q110
                  cases e110
                  replace p110 := eq_true p110
                  replace q110 := eq_true q110
                  go_wp2
                  repeat (go_quiet (fail); try go_wp2)
                  go_roundg k1
                  case measure => have := HK1.out; omega
                  case rel => exact ⟨(wrap64 (x13_1 + 1)), (by first | rfl | (simp; done) | (simp [*]; done)), H', ⟨by have := HK1.out; omega⟩, by repeat (first | exact Drawn0.refl _ | apply Drawn0.step)⟩
                · rw [if_neg c8] at H
                  have c8b0 : ((rd l0 x13_1) == (rd l1 x13_1)) = false := beq_eq_false_iff_ne.mpr c8
                  have c8b1 : ((rd l0 x13_1) != (rd l1 x13_1)) = true := bne_iff_ne.mpr c8
                  obtain rfl := Option.some.inj H
                  have p109 : 0 ≤ (x13_1 : Int) := of_decide_eq_true (by first | (with_reducible assumption) | assumption)
                  have q109 : x13_1 < (l0.length : Int) := of_decide_eq_true (by first | (with_reducible assumption) | assumption)
                  obtain ⟨ad109, e109, hx109_0⟩ := Kd.at_int HR0.out x13_1 p109 q109
                  cases e109
                  replace p109 := eq_true p109
                  replace q109 := eq_true q109
                  have p110 : 0 ≤ (x13_1 : Int) := of_decide_eq_true (by first | (with_reducible assumption) | assumption)
                  have q110 : x13_1 < (l1.length : Int) := of_decide_eq_true (by first | (with_reducible assumption) | assumption)
                  obtain ⟨ad110, e110, hx110_0⟩ := Kd.at_int HR1.out x13_1 p110 q110
                  cases e110
                  replace p110 := eq_true p110
                  replace q110 := eq_true q110
                  go_wp2
                  repeat (go_quiet (fail); try go_wp2)
                  go_ret
                  exact ⟨by first | rfl | (simp; done) | (simp [*]; done), by repeat (first | exact Drawn0.refl _ | apply Drawn0.step)⟩
              · rw [if_neg c7] at H
                exact absurd H (by simp)
            · rw [if_neg c6] at H
              exact absurd H (by simp)
          · rw [if_neg c5] at H
            exact absurd H (by simp)
        · rw [if_neg c4] at H
          have c4b0 : decide (x13_1 < (l0.length : Int)) = false := decide_eq_false c4
          clear c4
          obtain rfl := Option.some.inj H
          go_wp2
          repeat (go_quiet (fail); try go_wp2)
          go_ret
          exact ⟨by first | rfl | (simp; done) | (simp [*]; done), by repeat (first | exact Drawn0.refl _ | apply Drawn0.step)⟩
  · rw [if_neg c3] at H
    have c3b0 : ((l0.length : Int) == (l1.length : Int)) = false := beq_eq_false_iff_ne.mpr c3
    have c3b1 : ((l0.length : Int) != (l1.length : Int)) = true := bne_iff_ne.mpr c3
    have c3b2 : (l0.length == l1.length) = false := by first | simpa using c3 | (simp at c3 ⊢; omega)
    obtain rfl := Option.some.inj H
    go_enter Try.func16, Try.ntmps16
    go_wp2
    repeat (go_quiet (fail); try go_wp2)
    go_ret
    exact ⟨by first | rfl | (simp; done) | (simp [*]; done), by repeat (first | exact Drawn0.refl _ | apply Drawn0.step)⟩

-- NOT PRINTED: function 34 (code_take)

-- NOT PRINTED: function 37 (code_shape)

/-! ### code_Name: function 25 -/
def code_Name.f (a0 : Int) : Option (ByteArray) := (code_find.f a0).bind fun bt123 => (some bt123.1)
set_option maxHeartbeats 8000000 in
set_option maxRecDepth 100000 in
theorem code_Name.calls (a0 : Int) (r : ByteArray) (w : World) (h : code_Name.f a0 = some r) :
    Calls Try.prog 25 #[.int .i64 a0] w fun e w' => e = .returned (.string r) ∧ Below w.heap.size w w' := by
  have hu60 := Try.underlying60
  have HB := Aside0.mk (Below.refl w.heap.size w)
  have H : ((code_find.f a0).bind fun bt123 => (some bt123.1)) = some r := h
  clear h
  replace H := Option.bind_eq_some_iff.mp H
  obtain ⟨⟨t123, t124, t125, t126, t127, t128, t129⟩, A20, H⟩ := H
  replace H : (some t123) = some r := H
  have A2 := Aside0.mk A20
  clear A20
  obtain rfl := Option.some.inj H
  go_enter Try.func25, Try.ntmps25
  go_wp2_with (first | ((with_reducible refine gate_callee (f := 27) rfl ?_); refine goesL_ (some 7) rfl rfl Try.func27 (by kernel_rfl) rfl #[.int .i64 a0] rfl (by (try simp only [List.map_toArray, List.map_cons, List.map_nil]); first | done | rfl | (simp only [List.length_drop, List.length_take]; rfl)) ?_; (with_reducible refine (code_find.calls a0 t123 t124 t125 t126 t127 t128 t129 _ A2.out).mono ?_); rintro e w3 ⟨rfl, hb⟩; refine ⟨_, rfl, ?_⟩; have n0_ := Aside0.mk (below_step (by repeat (first | (with_reducible first | exact HB.out | apply below_alloc | apply pw_below_drewN | apply below_drew1) | exact HB.out)) hb); clear HB; have HB := n0_; clear n0_; (try clear hb); (try clear hb2); (try clear hk); (try clear hi)) | ((with_reducible refine gate_dst (N := 3) rfl ?_); refine box_event ?hg (N := 3) ?hd (cs := #[.string (⟨#[]⟩ : ByteArray), .int .i64 0, .int .i64 0, .int .i64 0, .bool false, .bool false]) (t := 60) ?hr ?_; (case hd => rfl); (case hg => rfl); (case hr => first | (go_simp; done) | (go_simp; rfl)); intro gb130 hg w4 hbox hb; have n0_ := Aside0.mk (below_step (by repeat (first | (with_reducible first | exact HB.out | apply below_alloc | apply pw_below_drewN | apply below_drew1) | exact HB.out)) hb); have n1_ := Aside0.mk (hbox); have n2_ := Aside0.mk ((by rw [hg]; exact (below_size (by repeat (first | (with_reducible first | exact HB.out | apply below_alloc | apply pw_below_drewN | apply below_drew1) | exact HB.out))) : w.heap.size ≤ gb130)); have n3_ := Aside0.mk ((by rw [hg]; exact (below_size (by repeat (first | (with_reducible first | exact HB.out | apply below_alloc | apply pw_below_drewN | apply below_drew1) | exact HB.out))) : w.heap.size ≤ gb130)); clear HB; have HB := n0_; have BK130 := n1_; have GW130 := n2_; have GE130 := n3_; clear n0_ n1_ n2_ n3_; clear hb hbox hg; have hcz5_0 : w4.cell? ⟨gb130, 0, none⟩ = some (.string (⟨#[]⟩ : ByteArray)) := (blk_cell BK130.out 0).trans rfl; have hcz5_1 : w4.cell? ⟨gb130, 1, none⟩ = some (.int .i64 0) := (blk_cell BK130.out 1).trans rfl; have hcz5_2 : w4.cell? ⟨gb130, 2, none⟩ = some (.int .i64 0) := (blk_cell BK130.out 2).trans rfl; have hcz5_3 : w4.cell? ⟨gb130, 3, none⟩ = some (.int .i64 0) := (blk_cell BK130.out 3).trans rfl; have hcz5_4 : w4.cell? ⟨gb130, 4, none⟩ = some (.bool false) := (blk_cell BK130.out 4).trans rfl; have hcz5_5 : w4.cell? ⟨gb130, 5, none⟩ = some (.bool false) := (blk_cell BK130.out 5).trans rfl; have hfz5_0 := blk_frozen BK130.out 0; have hfz5_1 := blk_frozen BK130.out 1; have hfz5_2 := blk_frozen BK130.out 2; have hfz5_3 := blk_frozen BK130.out 3; have hfz5_4 := blk_frozen BK130.out 4; have hfz5_5 := blk_frozen BK130.out 5))
  go_ret
  exact ⟨by first | rfl | (simp [errW_none, errW_some] <;> rfl) | (simp [*, errW_none, errW_some] <;> rfl), by repeat (first | (with_reducible first | exact HB.out | apply below_alloc | apply pw_below_drewN | apply below_drew1 | refine below_set ?_ GE130.out) | exact HB.out)⟩

/-! ### warpbeamref16_Fields: function 21 -/
def warpbeamref16_Fields.f (a0 : Int) : Option (ByteArray) := if a0 < 0 then (some (⟨#[]⟩ : ByteArray)) else (if a0 ≥ 17 then (some (⟨#[]⟩ : ByteArray)) else ((some (([(⟨#[114, 45, 45, 110]⟩ : ByteArray), (⟨#[114, 45, 45, 45]⟩ : ByteArray), (⟨#[114, 118, 45, 45]⟩ : ByteArray), (⟨#[114, 114, 45, 45]⟩ : ByteArray), (⟨#[114, 114, 114, 45]⟩ : ByteArray), (⟨#[114, 114, 114, 45]⟩ : ByteArray), (⟨#[114, 114, 114, 45]⟩ : ByteArray), (⟨#[114, 114, 114, 45]⟩ : ByteArray), (⟨#[114, 114, 45, 45]⟩ : ByteArray), (⟨#[114, 114, 45, 45]⟩ : ByteArray), (⟨#[45, 45, 112, 45]⟩ : ByteArray), (⟨#[114, 45, 112, 45]⟩ : ByteArray), (⟨#[45, 45, 112, 45]⟩ : ByteArray), (⟨#[45, 45, 45, 45]⟩ : ByteArray), (⟨#[45, 45, 45, 45]⟩ : ByteArray), (⟨#[45, 45, 45, 45]⟩ : ByteArray), (⟨#[45, 45, 45, 45]⟩ : ByteArray)] : List ByteArray) : List ByteArray)).bind fun y131 => (if 0 ≤ a0 then (if a0 < (y131.length : Int) then (some (rdOf ByteArray.empty y131 a0)) else (none)) else (none))))
set_option maxHeartbeats 8000000 in
set_option maxRecDepth 100000 in
theorem warpbeamref16_Fields.calls (a0 : Int) (r : ByteArray) (w : World) (h : warpbeamref16_Fields.f a0 = some r) :
    Calls Try.prog 21 #[.int .i64 a0] w fun e w' => e = .returned (.string r) ∧ Below w.heap.size w w' := by
  have HB := Aside0.mk (Below.refl w.heap.size w)
  have H : (if a0 < 0 then (some (⟨#[]⟩ : ByteArray)) else (if a0 ≥ 17 then (some (⟨#[]⟩ : ByteArray)) else ((some (([(⟨#[114, 45, 45, 110]⟩ : ByteArray), (⟨#[114, 45, 45, 45]⟩ : ByteArray), (⟨#[114, 118, 45, 45]⟩ : ByteArray), (⟨#[114, 114, 45, 45]⟩ : ByteArray), (⟨#[114, 114, 114, 45]⟩ : ByteArray), (⟨#[114, 114, 114, 45]⟩ : ByteArray), (⟨#[114, 114, 114, 45]⟩ : ByteArray), (⟨#[114, 114, 114, 45]⟩ : ByteArray), (⟨#[114, 114, 45, 45]⟩ : ByteArray), (⟨#[114, 114, 45, 45]⟩ : ByteArray), (⟨#[45, 45, 112, 45]⟩ : ByteArray), (⟨#[114, 45, 112, 45]⟩ : ByteArray), (⟨#[45, 45, 112, 45]⟩ : ByteArray), (⟨#[45, 45, 45, 45]⟩ : ByteArray), (⟨#[45, 45, 45, 45]⟩ : ByteArray), (⟨#[45, 45, 45, 45]⟩ : ByteArray), (⟨#[45, 45, 45, 45]⟩ : ByteArray)] : List ByteArray) : List ByteArray)).bind fun y131 => (if 0 ≤ a0 then (if a0 < (y131.length : Int) then (some (rdOf ByteArray.empty y131 a0)) else (none)) else (none))))) = some r := h
  clear h
  by_cases c2 : a0 < 0
  · rw [if_pos c2] at H
    have c2b0 : decide (a0 < 0) = true := decide_eq_true c2
    clear c2
    obtain rfl := Option.some.inj H
    go_enter Try.func21, Try.ntmps21
    go_wp2
    go_ret
    exact ⟨by first | rfl | (simp [errW_none, errW_some] <;> rfl) | (simp [*, errW_none, errW_some] <;> rfl), by repeat (first | (with_reducible first | exact HB.out | apply below_alloc | apply pw_below_drewN | apply below_drew1) | exact HB.out)⟩
  · rw [if_neg c2] at H
    have c2b0 : decide (a0 < 0) = false := decide_eq_false c2
    clear c2
    by_cases c3 : a0 ≥ 17
    · rw [if_pos c3] at H
      have c3b0 : decide (17 ≤ a0) = true := decide_eq_true c3
      clear c3
      obtain rfl := Option.some.inj H
      go_enter Try.func21, Try.ntmps21
      go_wp2
      go_ret
      exact ⟨by first | rfl | (simp [errW_none, errW_some] <;> rfl) | (simp [*, errW_none, errW_some] <;> rfl), by repeat (first | (with_reducible first | exact HB.out | apply below_alloc | apply pw_below_drewN | apply below_drew1) | exact HB.out)⟩
    · rw [if_neg c3] at H
      have c3b0 : decide (17 ≤ a0) = false := decide_eq_false c3
      clear c3
      obtain ⟨y131, hy131⟩ : ∃ y_ : List ByteArray, y_ = (([(⟨#[114, 45, 45, 110]⟩ : ByteArray), (⟨#[114, 45, 45, 45]⟩ : ByteArray), (⟨#[114, 118, 45, 45]⟩ : ByteArray), (⟨#[114, 114, 45, 45]⟩ : ByteArray), (⟨#[114, 114, 114, 45]⟩ : ByteArray), (⟨#[114, 114, 114, 45]⟩ : ByteArray), (⟨#[114, 114, 114, 45]⟩ : ByteArray), (⟨#[114, 114, 114, 45]⟩ : ByteArray), (⟨#[114, 114, 45, 45]⟩ : ByteArray), (⟨#[114, 114, 45, 45]⟩ : ByteArray), (⟨#[45, 45, 112, 45]⟩ : ByteArray), (⟨#[114, 45, 112, 45]⟩ : ByteArray), (⟨#[45, 45, 112, 45]⟩ : ByteArray), (⟨#[45, 45, 45, 45]⟩ : ByteArray), (⟨#[45, 45, 45, 45]⟩ : ByteArray), (⟨#[45, 45, 45, 45]⟩ : ByteArray), (⟨#[45, 45, 45, 45]⟩ : ByteArray)] : List ByteArray)) := ⟨_, rfl⟩
      replace H : (if 0 ≤ a0 then (if a0 < (y131.length : Int) then (some (rdOf ByteArray.empty y131 a0)) else (none)) else (none)) = some r := by first | (rw [hy131]; with_reducible exact H) | (have H2_ := (Option.bind_some _ _).symm.trans H; rw [hy131]; with_reducible exact H2_) | (have H2_ := (Option.bind_some _ _).symm.trans H; with_reducible exact H2_) | with_reducible exact H | (rw [hy131]; exact H) | exact H
      have Ny131 := Aside0.mk hy131
      clear hy131
      by_cases c4 : 0 ≤ a0
      · rw [if_pos c4] at H
        have c4b0 : decide (0 ≤ a0) = true := decide_eq_true c4
        clear c4
        by_cases c5 : a0 < (y131.length : Int)
        · rw [if_pos c5] at H
          have c5b0 : decide (a0 < (y131.length : Int)) = true := decide_eq_true c5
          clear c5
          obtain rfl := Option.some.inj H
          go_enter Try.func21, Try.ntmps21
          go_wp2_with (first | ((with_reducible refine gate_dst (N := 9) rfl ?_); refine Kd.R_lit Kd.string _ 9 ?hg (N := 9) ?hd (xs := ([(⟨#[114, 45, 45, 110]⟩ : ByteArray), (⟨#[114, 45, 45, 45]⟩ : ByteArray), (⟨#[114, 118, 45, 45]⟩ : ByteArray), (⟨#[114, 114, 45, 45]⟩ : ByteArray), (⟨#[114, 114, 114, 45]⟩ : ByteArray), (⟨#[114, 114, 114, 45]⟩ : ByteArray), (⟨#[114, 114, 114, 45]⟩ : ByteArray), (⟨#[114, 114, 114, 45]⟩ : ByteArray), (⟨#[114, 114, 45, 45]⟩ : ByteArray), (⟨#[114, 114, 45, 45]⟩ : ByteArray), (⟨#[45, 45, 112, 45]⟩ : ByteArray), (⟨#[114, 45, 112, 45]⟩ : ByteArray), (⟨#[45, 45, 112, 45]⟩ : ByteArray), (⟨#[45, 45, 45, 45]⟩ : ByteArray), (⟨#[45, 45, 45, 45]⟩ : ByteArray), (⟨#[45, 45, 45, 45]⟩ : ByteArray), (⟨#[45, 45, 45, 45]⟩ : ByteArray)] : List ByteArray)) (inner := [.string (⟨#[114, 45, 45, 110]⟩ : ByteArray), .string (⟨#[114, 45, 45, 45]⟩ : ByteArray), .string (⟨#[114, 118, 45, 45]⟩ : ByteArray), .string (⟨#[114, 114, 45, 45]⟩ : ByteArray), .string (⟨#[114, 114, 114, 45]⟩ : ByteArray), .string (⟨#[114, 114, 114, 45]⟩ : ByteArray), .string (⟨#[114, 114, 114, 45]⟩ : ByteArray), .string (⟨#[114, 114, 114, 45]⟩ : ByteArray), .string (⟨#[114, 114, 45, 45]⟩ : ByteArray), .string (⟨#[114, 114, 45, 45]⟩ : ByteArray), .string (⟨#[45, 45, 112, 45]⟩ : ByteArray), .string (⟨#[114, 45, 112, 45]⟩ : ByteArray), .string (⟨#[45, 45, 112, 45]⟩ : ByteArray), .string (⟨#[45, 45, 45, 45]⟩ : ByteArray), .string (⟨#[45, 45, 45, 45]⟩ : ByteArray), .string (⟨#[45, 45, 45, 45]⟩ : ByteArray), .string (⟨#[45, 45, 45, 45]⟩ : ByteArray)]) (ok := fun _ => True) (okp := fun _ => True) ?hr ?hp (fun _ hk => hk) trivial (Below.refl _ _) (Nat.le_refl _) (by simp) ?_; (case hd => rfl); (case hg => rfl); (case hr => first | (go_simp; done) | (go_simp; rfl)); (case hp => exact (Reps.one (show Kd.M Kd.string _ _ _ (⟨#[114, 45, 45, 110]⟩ : ByteArray) [.string (⟨#[114, 45, 45, 110]⟩ : ByteArray)] from rfl) (Reps.one (show Kd.M Kd.string _ _ _ (⟨#[114, 45, 45, 45]⟩ : ByteArray) [.string (⟨#[114, 45, 45, 45]⟩ : ByteArray)] from rfl) (Reps.one (show Kd.M Kd.string _ _ _ (⟨#[114, 118, 45, 45]⟩ : ByteArray) [.string (⟨#[114, 118, 45, 45]⟩ : ByteArray)] from rfl) (Reps.one (show Kd.M Kd.string _ _ _ (⟨#[114, 114, 45, 45]⟩ : ByteArray) [.string (⟨#[114, 114, 45, 45]⟩ : ByteArray)] from rfl) (Reps.one (show Kd.M Kd.string _ _ _ (⟨#[114, 114, 114, 45]⟩ : ByteArray) [.string (⟨#[114, 114, 114, 45]⟩ : ByteArray)] from rfl) (Reps.one (show Kd.M Kd.string _ _ _ (⟨#[114, 114, 114, 45]⟩ : ByteArray) [.string (⟨#[114, 114, 114, 45]⟩ : ByteArray)] from rfl) (Reps.one (show Kd.M Kd.string _ _ _ (⟨#[114, 114, 114, 45]⟩ : ByteArray) [.string (⟨#[114, 114, 114, 45]⟩ : ByteArray)] from rfl) (Reps.one (show Kd.M Kd.string _ _ _ (⟨#[114, 114, 114, 45]⟩ : ByteArray) [.string (⟨#[114, 114, 114, 45]⟩ : ByteArray)] from rfl) (Reps.one (show Kd.M Kd.string _ _ _ (⟨#[114, 114, 45, 45]⟩ : ByteArray) [.string (⟨#[114, 114, 45, 45]⟩ : ByteArray)] from rfl) (Reps.one (show Kd.M Kd.string _ _ _ (⟨#[114, 114, 45, 45]⟩ : ByteArray) [.string (⟨#[114, 114, 45, 45]⟩ : ByteArray)] from rfl) (Reps.one (show Kd.M Kd.string _ _ _ (⟨#[45, 45, 112, 45]⟩ : ByteArray) [.string (⟨#[45, 45, 112, 45]⟩ : ByteArray)] from rfl) (Reps.one (show Kd.M Kd.string _ _ _ (⟨#[114, 45, 112, 45]⟩ : ByteArray) [.string (⟨#[114, 45, 112, 45]⟩ : ByteArray)] from rfl) (Reps.one (show Kd.M Kd.string _ _ _ (⟨#[45, 45, 112, 45]⟩ : ByteArray) [.string (⟨#[45, 45, 112, 45]⟩ : ByteArray)] from rfl) (Reps.one (show Kd.M Kd.string _ _ _ (⟨#[45, 45, 45, 45]⟩ : ByteArray) [.string (⟨#[45, 45, 45, 45]⟩ : ByteArray)] from rfl) (Reps.one (show Kd.M Kd.string _ _ _ (⟨#[45, 45, 45, 45]⟩ : ByteArray) [.string (⟨#[45, 45, 45, 45]⟩ : ByteArray)] from rfl) (Reps.one (show Kd.M Kd.string _ _ _ (⟨#[45, 45, 45, 45]⟩ : ByteArray) [.string (⟨#[45, 45, 45, 45]⟩ : ByteArray)] from rfl) (Reps.one (show Kd.M Kd.string _ _ _ (⟨#[45, 45, 45, 45]⟩ : ByteArray) [.string (⟨#[45, 45, 45, 45]⟩ : ByteArray)] from rfl) (Reps.none _ _))))))))))))))))))); intro v132 w6 ho7 hb hg_ hnew_; clear hg_ hnew_; (first | rw [← Ny131.out] at ho7 | (simp only [Int.reduceToNat] at ho7; rw [← Ny131.out] at ho7)); have n0_ := Aside0.mk (Kd.R_lower ho7 (below_size (by repeat (first | (with_reducible first | exact HB.out | apply below_alloc | apply pw_below_drewN | apply below_drew1) | exact HB.out)))); have n1_ := Aside0.mk (below_step (by repeat (first | (with_reducible first | exact HB.out | apply below_alloc | apply pw_below_drewN | apply below_drew1) | exact HB.out)) hb); clear HB; have HO133 := n0_; have HB := n1_; clear n0_ n1_; clear hb ho7; obtain ⟨Ao8, co8, eo8⟩ := Kd.R_slice HO133.out; subst eo8; have p134 : 0 ≤ (a0 : Int) := of_decide_eq_true (by first | (with_reducible assumption) | assumption); have q134 : a0 < (y131.length : Int) := of_decide_eq_true (by first | (with_reducible assumption) | assumption); obtain ⟨ad134, e134, hx134_0⟩ := Kd.at_string (Kd.R_reads' HO133.out).2.2 a0 p134 q134; cases e134; replace p134 := eq_true p134; replace q134 := eq_true q134))
          go_ret
          exact ⟨by first | rfl | (simp [errW_none, errW_some] <;> rfl) | (simp [*, errW_none, errW_some] <;> rfl), by repeat (first | (with_reducible first | exact HB.out | apply below_alloc | apply pw_below_drewN | apply below_drew1) | exact HB.out)⟩
        · rw [if_neg c5] at H
          exact absurd H (by simp)
      · rw [if_neg c4] at H
        exact absurd H (by simp)

/-! ### warpbeamref16_field: function 33 -/
def warpbeamref16_field.f (a0 : Int) (a1 : Int) (a2 : Int) : Option (Bool) := if a0 = 114 then (if a1 ≥ 0 then (some (decide (a1 < 8))) else (some false)) else (if a0 = 118 then (if a1 ≥ 0 then (some (decide (a1 < 64))) else (some false)) else (if a0 = 112 then (if a1 ≥ 0 then (some (decide (a1 < a2))) else (some false)) else (if a1 ≥ 0 then (some (decide (a1 < 1))) else (some false))))
set_option maxHeartbeats 8000000 in
set_option maxRecDepth 100000 in
theorem warpbeamref16_field.calls (a0 : Int) (a1 : Int) (a2 : Int) (r : Bool) (w : World) (h : warpbeamref16_field.f a0 a1 a2 = some r) :
    Calls Try.prog 33 #[.int .u8 a0, .int .i64 a1, .int .i64 a2] w fun e w' => e = .returned (.bool r) ∧ Drawn0 w w' := by
  have H : (if a0 = 114 then (if a1 ≥ 0 then (some (decide (a1 < 8))) else (some false)) else (if a0 = 118 then (if a1 ≥ 0 then (some (decide (a1 < 64))) else (some false)) else (if a0 = 112 then (if a1 ≥ 0 then (some (decide (a1 < a2))) else (some false)) else (if a1 ≥ 0 then (some (decide (a1 < 1))) else (some false))))) = some r := h
  clear h
  by_cases c4 : a0 = 114
  · rw [if_pos c4] at H
    have c4b0 : (a0 == 114) = true := beq_iff_eq.mpr c4
    have c4b1 : (a0 != 114) = false := bne_eq_false_iff_eq.mpr c4
    clear c4
    by_cases c5 : a1 ≥ 0
    · rw [if_pos c5] at H
      have c5b0 : decide (0 ≤ a1) = true := decide_eq_true c5
      clear c5
      obtain rfl := Option.some.inj H
      go_enter Try.func33, Try.ntmps33
      go_wp2
      go_ret
      exact ⟨by first | rfl | (simp; done) | (simp [*]; done), by repeat (first | exact Drawn0.refl _ | apply Drawn0.step)⟩
    · rw [if_neg c5] at H
      have c5b0 : decide (0 ≤ a1) = false := decide_eq_false c5
      clear c5
      obtain rfl := Option.some.inj H
      go_enter Try.func33, Try.ntmps33
      go_wp2
      go_ret
      exact ⟨by first | rfl | (simp; done) | (simp [*]; done), by repeat (first | exact Drawn0.refl _ | apply Drawn0.step)⟩
  · rw [if_neg c4] at H
    have c4b0 : (a0 == 114) = false := beq_eq_false_iff_ne.mpr c4
    have c4b1 : (a0 != 114) = true := bne_iff_ne.mpr c4
    by_cases c6 : a0 = 118
    · rw [if_pos c6] at H
      have c6b0 : (a0 == 118) = true := beq_iff_eq.mpr c6
      have c6b1 : (a0 != 118) = false := bne_eq_false_iff_eq.mpr c6
      clear c6
      by_cases c7 : a1 ≥ 0
      · rw [if_pos c7] at H
        have c7b0 : decide (0 ≤ a1) = true := decide_eq_true c7
        clear c7
        obtain rfl := Option.some.inj H
        go_enter Try.func33, Try.ntmps33
        go_wp2
        go_ret
        exact ⟨by first | rfl | (simp; done) | (simp [*]; done), by repeat (first | exact Drawn0.refl _ | apply Drawn0.step)⟩
      · rw [if_neg c7] at H
        have c7b0 : decide (0 ≤ a1) = false := decide_eq_false c7
        clear c7
        obtain rfl := Option.some.inj H
        go_enter Try.func33, Try.ntmps33
        go_wp2
        go_ret
        exact ⟨by first | rfl | (simp; done) | (simp [*]; done), by repeat (first | exact Drawn0.refl _ | apply Drawn0.step)⟩
    · rw [if_neg c6] at H
      have c6b0 : (a0 == 118) = false := beq_eq_false_iff_ne.mpr c6
      have c6b1 : (a0 != 118) = true := bne_iff_ne.mpr c6
      by_cases c8 : a0 = 112
      · rw [if_pos c8] at H
        have c8b0 : (a0 == 112) = true := beq_iff_eq.mpr c8
        have c8b1 : (a0 != 112) = false := bne_eq_false_iff_eq.mpr c8
        clear c8
        by_cases c9 : a1 ≥ 0
        · rw [if_pos c9] at H
          have c9b0 : decide (0 ≤ a1) = true := decide_eq_true c9
          clear c9
          obtain rfl := Option.some.inj H
          go_enter Try.func33, Try.ntmps33
          go_wp2
          go_ret
          exact ⟨by first | rfl | (simp; done) | (simp [*]; done), by repeat (first | exact Drawn0.refl _ | apply Drawn0.step)⟩
        · rw [if_neg c9] at H
          have c9b0 : decide (0 ≤ a1) = false := decide_eq_false c9
          clear c9
          obtain rfl := Option.some.inj H
          go_enter Try.func33, Try.ntmps33
          go_wp2
          go_ret
          exact ⟨by first | rfl | (simp; done) | (simp [*]; done), by repeat (first | exact Drawn0.refl _ | apply Drawn0.step)⟩
      · rw [if_neg c8] at H
        have c8b0 : (a0 == 112) = false := beq_eq_false_iff_ne.mpr c8
        have c8b1 : (a0 != 112) = true := bne_iff_ne.mpr c8
        by_cases c10 : a1 ≥ 0
        · rw [if_pos c10] at H
          have c10b0 : decide (0 ≤ a1) = true := decide_eq_true c10
          clear c10
          obtain rfl := Option.some.inj H
          go_enter Try.func33, Try.ntmps33
          go_wp2
          go_ret
          exact ⟨by first | rfl | (simp; done) | (simp [*]; done), by repeat (first | exact Drawn0.refl _ | apply Drawn0.step)⟩
        · rw [if_neg c10] at H
          have c10b0 : decide (0 ≤ a1) = false := decide_eq_false c10
          clear c10
          obtain rfl := Option.some.inj H
          go_enter Try.func33, Try.ntmps33
          go_wp2
          go_ret
          exact ⟨by first | rfl | (simp; done) | (simp [*]; done), by repeat (first | exact Drawn0.refl _ | apply Drawn0.step)⟩

end Go.Proofs.Ytbnchippfebdkaa.Q
