/- Functions of the translation as plain Lean functions, each with a proof that the Go code comes to its answers, wherever the function has one; no other condition. Written by this session's own program (wip/myprint.py). -/
import Derived.Test.YtgdefjcjikcofaaQx0
namespace Go.Proofs.Ytgdefjcjikcofaa.Q
open Go.RowKit Go.Proofs.Ytgdefjcjikcofaa.Mine Go.Proofs.YtgdefjcjikcofaaW.PrintWords Go.Proofs.YtgdefjcjikcofaaW.PrintLast Go.Proofs.YtgdefjcjikcofaaW.PrintMore
attribute [local go_sem] max2_int min2_int max_two min_two max_three min_three max_four min_four   -- for this text's walks alone
set_option linter.unusedVariables false
set_option linter.unusedSimpArgs false

/-! ### class_noughts: function 20 -/
def class_noughts.f  : Option (List Int) := some (([48, 1632, 1776, 1984, 2406, 2534, 2662, 2790, 2918, 3046, 3174, 3302, 3430, 3664, 3792, 3872, 6112, 6160, 65296, 120782] : List Int))
set_option maxHeartbeats 8000000 in
set_option maxRecDepth 100000 in
theorem class_noughts.calls  (r : List Int) (w : World) (h : class_noughts.f  = some r) :
    Calls Try.prog 20 #[] w fun e w' => ∃ v0_ : Value, e = .returned (v0_) ∧ Kd.R (Kd.int .i32) 21 w' w.heap.size (fun _ => True) v0_ r ∧ Below w.heap.size w w' := by
  have HB := Aside0.mk (Below.refl w.heap.size w)
  have H : (some (([48, 1632, 1776, 1984, 2406, 2534, 2662, 2790, 2918, 3046, 3174, 3302, 3430, 3664, 3792, 3872, 6112, 6160, 65296, 120782] : List Int))) = some r := h
  clear h
  obtain ⟨y101, hy101⟩ : ∃ y_ : List Int, y_ = (([48, 1632, 1776, 1984, 2406, 2534, 2662, 2790, 2918, 3046, 3174, 3302, 3430, 3664, 3792, 3872, 6112, 6160, 65296, 120782] : List Int)) := ⟨_, rfl⟩
  replace H : (some y101) = some r := by first | (rw [hy101]; with_reducible exact H) | (have H2_ := (Option.bind_some _ _).symm.trans H; rw [hy101]; with_reducible exact H2_) | (have H2_ := (Option.bind_some _ _).symm.trans H; with_reducible exact H2_) | with_reducible exact H | (rw [hy101]; exact H) | exact H
  have Ny101 := Aside0.mk hy101
  clear hy101
  obtain rfl := Option.some.inj H
  go_enter Try.func20, Try.ntmps20
  go_wp2_with (first | ((with_reducible refine gate_dst (N := 1) rfl ?_); refine Kd.R_lit (Kd.int .i32) _ 21 ?hg (N := 1) ?hd (xs := ([48, 1632, 1776, 1984, 2406, 2534, 2662, 2790, 2918, 3046, 3174, 3302, 3430, 3664, 3792, 3872, 6112, 6160, 65296, 120782] : List Int)) (inner := [.int .i32 48, .int .i32 1632, .int .i32 1776, .int .i32 1984, .int .i32 2406, .int .i32 2534, .int .i32 2662, .int .i32 2790, .int .i32 2918, .int .i32 3046, .int .i32 3174, .int .i32 3302, .int .i32 3430, .int .i32 3664, .int .i32 3792, .int .i32 3872, .int .i32 6112, .int .i32 6160, .int .i32 65296, .int .i32 120782]) (ok := fun _ => True) (okp := fun _ => True) ?hr ?hp (fun _ hk => hk) trivial (Below.refl _ _) (Nat.le_refl _) (by simp) ?_; (case hd => rfl); (case hg => rfl); (case hr => first | (go_simp; done) | (go_simp; rfl)); (case hp => exact (Reps.one (show Kd.M (Kd.int .i32) _ _ _ 48 [.int .i32 48] from rfl) (Reps.one (show Kd.M (Kd.int .i32) _ _ _ 1632 [.int .i32 1632] from rfl) (Reps.one (show Kd.M (Kd.int .i32) _ _ _ 1776 [.int .i32 1776] from rfl) (Reps.one (show Kd.M (Kd.int .i32) _ _ _ 1984 [.int .i32 1984] from rfl) (Reps.one (show Kd.M (Kd.int .i32) _ _ _ 2406 [.int .i32 2406] from rfl) (Reps.one (show Kd.M (Kd.int .i32) _ _ _ 2534 [.int .i32 2534] from rfl) (Reps.one (show Kd.M (Kd.int .i32) _ _ _ 2662 [.int .i32 2662] from rfl) (Reps.one (show Kd.M (Kd.int .i32) _ _ _ 2790 [.int .i32 2790] from rfl) (Reps.one (show Kd.M (Kd.int .i32) _ _ _ 2918 [.int .i32 2918] from rfl) (Reps.one (show Kd.M (Kd.int .i32) _ _ _ 3046 [.int .i32 3046] from rfl) (Reps.one (show Kd.M (Kd.int .i32) _ _ _ 3174 [.int .i32 3174] from rfl) (Reps.one (show Kd.M (Kd.int .i32) _ _ _ 3302 [.int .i32 3302] from rfl) (Reps.one (show Kd.M (Kd.int .i32) _ _ _ 3430 [.int .i32 3430] from rfl) (Reps.one (show Kd.M (Kd.int .i32) _ _ _ 3664 [.int .i32 3664] from rfl) (Reps.one (show Kd.M (Kd.int .i32) _ _ _ 3792 [.int .i32 3792] from rfl) (Reps.one (show Kd.M (Kd.int .i32) _ _ _ 3872 [.int .i32 3872] from rfl) (Reps.one (show Kd.M (Kd.int .i32) _ _ _ 6112 [.int .i32 6112] from rfl) (Reps.one (show Kd.M (Kd.int .i32) _ _ _ 6160 [.int .i32 6160] from rfl) (Reps.one (show Kd.M (Kd.int .i32) _ _ _ 65296 [.int .i32 65296] from rfl) (Reps.one (show Kd.M (Kd.int .i32) _ _ _ 120782 [.int .i32 120782] from rfl) (Reps.none _ _)))))))))))))))))))))); intro v102 w1 ho2 hb hg_ hnew_; clear hg_ hnew_; (first | rw [← Ny101.out] at ho2 | (simp only [Int.reduceToNat] at ho2; rw [← Ny101.out] at ho2)); have n0_ := Aside0.mk (Kd.R_lower ho2 (below_size (by repeat (first | (with_reducible first | exact HB.out | apply below_alloc | apply pw_below_drewN | apply below_drew1) | exact HB.out)))); have n1_ := Aside0.mk (below_step (by repeat (first | (with_reducible first | exact HB.out | apply below_alloc | apply pw_below_drewN | apply below_drew1) | exact HB.out)) hb); clear HB; have HO103 := n0_; have HB := n1_; clear n0_ n1_; clear hb ho2))
  go_ret
  exact ⟨_, by first | rfl | (simp [errW_none, errW_some] <;> rfl) | (simp [*, errW_none, errW_some] <;> rfl), by (with_reducible repeat (first | apply Kd.R_alloc | apply Kd.R_drewN | apply Kd.R_drew)); exact HO103.out, by repeat (first | (with_reducible first | exact HB.out | apply below_alloc | apply pw_below_drewN | apply below_drew1) | exact HB.out)⟩

end Go.Proofs.Ytgdefjcjikcofaa.Q
