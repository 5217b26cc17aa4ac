/- ClassRows, in plain Lean: which rows have nothing that may not be, and which turn well, are as the document says; no condition. -/
import Derived.Test.YtgdefjcjikcofaaQx24
import Derived.Test.YtgdefjcjikcofaaSpecG
namespace Go.Proofs.Ytgdefjcjikcofaa.Pure
open Go.RowKit Go.Proofs.Ytgdefjcjikcofaa.Spec Go.Proofs.Ytgdefjcjikcofaa.Q Go.Proofs.YtgdefjcjikcofaaW.PrintWords Go.Proofs.YtgdefjcjikcofaaW.PrintLast
set_option linter.unusedVariables false
set_option linter.unusedSimpArgs false
theorem ClassRows : exerguelaw02_ClassRows.Pure := by
  intro l h0 h1 h2
  have hr : ∀ x ∈ l, -2147483648 ≤ x ∧ x < 2147483648 := fun x hx => i32_of (h2 x hx)
  have hl : l.length < 140737488355328 := by omega
  refine ⟨4 * l.length + 400, ?_⟩
  unfold exerguelaw02_ClassRows.f
  rw [shown_f (by omega), Option.bind_some]
  by_cases h : (l.length : Int) > 1000
  · rw [if_pos h]
  · rw [if_neg h, if_pos rfl, Calm_f l hl (by omega), Option.bind_some, rCalm_f l hl hr (by omega), Option.bind_some, if_pos (by simp), Turns_f l hl (by omega), Option.bind_some, rTurns_f l hl hr (by omega), Option.bind_some]
    simp
end Go.Proofs.Ytgdefjcjikcofaa.Pure
