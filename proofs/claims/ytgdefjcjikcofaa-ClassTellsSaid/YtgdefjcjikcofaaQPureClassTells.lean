/- ClassTells, in plain Lean: a number's class, what a digit is worth, and which are noughts, are as the document says; no condition. -/
import Derived.Test.YtgdefjcjikcofaaQx21
import Derived.Test.YtgdefjcjikcofaaSpecD
namespace Go.Proofs.Ytgdefjcjikcofaa.Pure
open Go.RowKit Go.Proofs.Ytgdefjcjikcofaa.Spec Go.Proofs.Ytgdefjcjikcofaa.Q Go.Proofs.YtgdefjcjikcofaaW.PrintWords Go.Proofs.YtgdefjcjikcofaaW.PrintLast
theorem ClassTells : exerguelaw02_ClassTells.Pure := by
  intro a0 h0
  have hr : -2147483648 ≤ a0 ∧ a0 < 2147483648 := by
    simp [Lit.wf, IntKind.min, IntKind.max, IntKind.signed, IntKind.bits] at h0
    omega
  refine ⟨300, ?_⟩
  unfold exerguelaw02_ClassTells.f
  rw [shown_f (by omega), Option.bind_some, Value_f a0 (by omega), Option.bind_some, rValue_f a0 hr (by omega), Option.bind_some, if_pos rfl, Of_f a0 (by omega), Option.bind_some, rOf_f a0 hr (by omega), Option.bind_some, if_pos rfl, if_pos rfl, if_pos (by simp), Zero_f a0 (by omega), Option.bind_some, rZero_f a0 (by omega), Option.bind_some]
  simp
end Go.Proofs.Ytgdefjcjikcofaa.Pure
