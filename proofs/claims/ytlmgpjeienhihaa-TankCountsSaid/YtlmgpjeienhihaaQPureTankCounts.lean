/- TankCounts, in plain Lean: of what is put without an error as much fuel and room is gone as it is long. -/
import Derived.Test.YtlmgpjeienhihaaSpec
import Derived.Test.YtlmgpjeienhihaaQx12
namespace Go.Proofs.Ytlmgpjeienhihaa.Pure
open Go.RowKit Go.Proofs.Ytlmgpjeienhihaa.Mine Go.Proofs.Ytlmgpjeienhihaa.Spec Go.Proofs.Ytlmgpjeienhihaa.Q Go.Proofs.YtlmgpjeienhihaaW.PrintWords Go.Proofs.YtlmgpjeienhihaaW.PrintLast Go.Proofs.YtlmgpjeienhihaaW.PrintMore
set_option linter.unusedVariables false
set_option linter.unusedSimpArgs false
theorem TankCounts (f r : Int) (out l : List Int) (hf : (Lit.int .i64 f).wf = true) (hr : (Lit.int .i64 r).wf = true) (ho : out.length * 4 ≤ 140737488351232 ∧ ∀ x ∈ out, (Lit.int .i32 x).wf = true) (hl : l.length * 4 ≤ 140737488351232 ∧ ∀ x ∈ l, (Lit.int .i32 x).wf = true) :
    ∃ k, exerguelaw04_TankCounts.f k f r out l = some true := by
  have hf' := wf_i64 hf
  have hr' := wf_i64 hr
  have hl1 := hl.1
  refine ⟨9000, ?_⟩
  unfold exerguelaw04_TankCounts.f
  rw [shown_f (by omega), Option.bind_some, right_f, Option.bind_some]
  have stop : ∀ (f r : Int) (out : List Int), exerguelaw04_TankCounts.j0 9000 l true true f r out = some true := by
    intro f r out
    simp [exerguelaw04_TankCounts.j0]
  by_cases h : 0 ≤ f ∧ 0 ≤ r ∧ (out.length : Int) ≤ 1000
  · rw [if_pos (by simpa using h)]
    by_cases h2 : (l.length : Int) > 1000
    · have : decide ((l.length : Int) > 1000) = true := by simpa using h2
      rw [this]; exact stop _ _ _
    · have : decide ((l.length : Int) > 1000) = false := by simpa using h2
      rw [this]
      simp only [exerguelaw04_TankCounts.j0]
      rw [if_neg (by simp), put_f h.1 (by omega) h.2.1 (by omega) (by omega) (by omega) (by omega), Option.bind_some, putR_eq l f r out h.1 h.2.1]
      by_cases c1 : (l.length : Int) ≤ f ∧ (l.length : Int) ≤ r
      · rw [if_pos c1, if_pos c1.1]
        have : decide (r ≥ (l.length : Int)) = true := by simpa using c1.2
        rw [this]
        simp only [exerguelaw04_TankCounts.j1]
        rw [if_neg (by simp), if_pos trivial, if_pos trivial, wr (by omega) (by omega), if_pos rfl, wr (by omega) (by omega), if_pos rfl, wr (by omega) (by omega)]
        simp
      · rw [if_neg c1]
        by_cases c2 : f ≤ r
        · rw [if_pos c2, if_neg (by omega)]
          simp only [exerguelaw04_TankCounts.j1]
          rw [if_neg (by simp), if_neg (by simp), if_pos trivial, if_pos trivial, if_pos trivial, if_pos c2]
        · rw [if_neg c2]
          have fin : exerguelaw04_TankCounts.j1 8999 true (l.length : Int) 5 false f r out (f - r - 1) 0 (out ++ l.take r.toNat) = some true := by
            simp only [exerguelaw04_TankCounts.j1]
            rw [if_neg (by simp), if_neg (by simp), if_pos trivial, if_neg (by simp), if_pos trivial, if_pos trivial]
            simp
            omega
          by_cases c3 : f ≥ (l.length : Int)
          · rw [if_pos c3]
            have : decide (r ≥ (l.length : Int)) = false := by rw [decide_eq_false_iff_not]; omega
            rw [this]
            exact fin
          · rw [if_neg c3]
            exact fin
  · rw [if_neg (by simpa using h)]
    exact stop _ _ _
end Go.Proofs.Ytlmgpjeienhihaa.Pure
