/- ClassWhole, in plain Lean: each number is of one class, from Plain to None; what is no rune is None; what is None or Control or Nonchar lets no row be calm; no condition. -/
import Derived.Test.YtgdefjcjikcofaaQx27
import Derived.Test.YtgdefjcjikcofaaSpecG
namespace Go.Proofs.Ytgdefjcjikcofaa.Pure
open Go.RowKit Go.Proofs.Ytgdefjcjikcofaa.Spec Go.Proofs.Ytgdefjcjikcofaa.Q Go.Proofs.YtgdefjcjikcofaaW.PrintWords Go.Proofs.YtgdefjcjikcofaaW.PrintLast
set_option linter.unusedVariables false
set_option linter.unusedSimpArgs false
theorem ClassWhole : exerguelaw02_ClassWhole.Pure := by
  intro r l i h0 h1 h2 h3 h4
  refine ⟨l.length + 500, ?_⟩
  unfold exerguelaw02_ClassWhole.f
  rw [shown_f (by omega), Option.bind_some]
  by_cases h : (l.length : Int) > 500
  · rw [if_pos h]
  rw [if_neg h, Of_f r (by omega), Option.bind_some]
  have hc := ofc_range r
  have hj : exerguelaw02_ClassWhole.j0 (l.length + 500) r l i true (ofc r) (odd (ofc r)) = some true := by
    show exerguelaw02_ClassWhole.j0 (l.length + 498 + 2) r l i true (ofc r) (odd (ofc r)) = _
    simp only [exerguelaw02_ClassWhole.j0, exerguelaw02_ClassWhole.j1]
    rw [if_neg (by omega), if_neg (by omega), Calm_f [r] (by simp) (by simp), Option.bind_some]
    have e1 : ((!([r].any fun r => odd (ofc r))) == odd (ofc r)) = false := by
      rw [List.any_cons, List.any_nil, Bool.or_false]
      cases odd (ofc r) <;> rfl
    rw [e1, if_neg (by simp)]
    by_cases q0 : i < 0
    · rw [if_pos q0]
    rw [if_neg q0]
    by_cases q1 : i ≥ (l.length : Int)
    · rw [if_pos q1]
    rw [if_neg q1, if_pos (by omega), if_pos (by omega)]
    by_cases q2 : rd l i = r
    · rw [if_pos q2, if_pos trivial]
      cases ho : odd (ofc r) with
      | false => rw [if_neg (by simp)]
      | true =>
        rw [if_pos rfl, Calm_f l (by omega) (by omega), Option.bind_some]
        have hm : (l.any fun r => odd (ofc r)) = true := List.any_eq_true.2 ⟨r, q2 ▸ rd_mem (by omega) (by omega), ho⟩
        rw [hm]
        rfl
    · rw [if_neg q2]
  by_cases c6 : ofc r = 6
  · rw [if_pos c6, show true = odd (ofc r) by rw [c6]; rfl]
    have : odd (ofc r) = true := by rw [c6]; rfl
    rw [this] at hj ⊢
    exact hj
  rw [if_neg c6]
  by_cases c1 : ofc r = 1
  · rw [if_pos c1]
    have : odd (ofc r) = true := by rw [c1]; rfl
    rw [this] at hj
    exact hj
  rw [if_neg c1]
  have : odd (ofc r) = (ofc r == 3) := by
    unfold odd
    rw [show (ofc r == 6) = false from beq_eq_false_iff_ne.2 c6, show (ofc r == 1) = false from beq_eq_false_iff_ne.2 c1]
    rfl
  rw [this] at hj
  exact hj
end Go.Proofs.Ytgdefjcjikcofaa.Pure
