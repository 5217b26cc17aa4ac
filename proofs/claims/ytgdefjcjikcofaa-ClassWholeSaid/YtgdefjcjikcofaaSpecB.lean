/- What the functions of class and of its reference come to, in plain Lean. -/
import Derived.Test.YtgdefjcjikcofaaSpec
import Derived.Test.YtgdefjcjikcofaaQx13
import Derived.Test.YtgdefjcjikcofaaQx16
import Derived.Test.YtgdefjcjikcofaaQx17
import Derived.Test.YtgdefjcjikcofaaQx18
import Derived.Test.YtgdefjcjikcofaaQx19
namespace Go.Proofs.Ytgdefjcjikcofaa.Spec
open Go.RowKit Go.Proofs.Ytgdefjcjikcofaa.Mine Go.Proofs.Ytgdefjcjikcofaa.Q Go.Proofs.YtgdefjcjikcofaaW.PrintWords Go.Proofs.YtgdefjcjikcofaaW.PrintLast Go.Proofs.YtgdefjcjikcofaaW.PrintMore
set_option linter.unusedVariables false
set_option linter.unusedSimpArgs false
set_option maxRecDepth 100000 in
theorem shown_60 : exerguelaw02_shown.f 60 = some true := by decide +kernel
theorem shown_f {k : Nat} (hk : 60 ≤ k) : exerguelaw02_shown.f k = some true := by
  induction k with
  | zero => omega
  | succ k ih =>
    by_cases h : 60 ≤ k
    · exact exerguelaw02_shown.mono k _ (ih h)
    · obtain rfl : k = 59 := by omega
      exact shown_60
def isr (r : Int) : Bool := decide (0 ≤ r ∧ r ≤ 1114111 ∧ (r < 55296 ∨ r > 57343))
theorem is_f (r : Int) : utf_Is.f r = some (isr r) := by
  unfold utf_Is.f isr
  repeat' split
  all_goals first | (congr 1; symm; first | exact decide_eq_true (by omega) | exact decide_eq_false (by omega)) | (congr 1; rw [decide_eq_decide]; omega)
theorem ris_f (r : Int) (hr : -2147483648 ≤ r ∧ r < 2147483648) : exergueref01_Is.f r = some (isr r) := by
  unfold exergueref01_Is.f isr
  rw [wr (by omega) (by omega)]
  repeat' split
  all_goals first | (congr 1; symm; first | exact decide_eq_true (by omega) | exact decide_eq_false (by omega)) | (congr 1; rw [decide_eq_decide]; omega)
/-- a rune's class -/
def ofc (r : Int) : Int := if isr r = true then (match cls r with | some c => c | none => if r % 65536 ≥ 65534 then 3 else if (val r NO).2 = true then 5 else 0) else 6
theorem Of_f {k : Nat} (r : Int) (hk : 20 < k) : class_Of.f k r = some (ofc r) := by
  unfold class_Of.f ofc
  rw [is_f, Option.bind_some]
  by_cases h : isr r = true
  · rw [if_pos h, if_pos h]
    cases cls r with
    | some c => rfl
    | none =>
      dsimp only
      rw [Value_f r hk, Option.bind_some]
      repeat' split
      all_goals first | rfl | omega | simp_all
  · rw [if_neg h, if_neg h]
end Go.Proofs.Ytgdefjcjikcofaa.Spec
