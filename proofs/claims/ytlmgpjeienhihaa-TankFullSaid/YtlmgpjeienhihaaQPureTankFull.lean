/- TankFull, in plain Lean: with one more of fuel and room a row that could be put still can, and comes out the same. -/
import Derived.Test.YtlmgpjeienhihaaSpec
import Derived.Test.YtlmgpjeienhihaaQx15
namespace Go.Proofs.Ytlmgpjeienhihaa.Pure
open Go.RowKit Go.Proofs.Ytlmgpjeienhihaa.Mine Go.Proofs.Ytlmgpjeienhihaa.Spec Go.Proofs.Ytlmgpjeienhihaa.Q Go.Proofs.YtlmgpjeienhihaaW.PrintWords Go.Proofs.YtlmgpjeienhihaaW.PrintLast Go.Proofs.YtlmgpjeienhihaaW.PrintMore
set_option linter.unusedVariables false
set_option linter.unusedSimpArgs false
theorem TankFull (f r : Int) (out l : List Int) (hf : (Lit.int .i64 f).wf = true) (hr : (Lit.int .i64 r).wf = true) (ho : out.length * 4 ≤ 140737488351232 ∧ ∀ x ∈ out, (Lit.int .i32 x).wf = true) (hl : l.length * 4 ≤ 140737488351232 ∧ ∀ x ∈ l, (Lit.int .i32 x).wf = true) :
    ∃ k, exerguelaw04_TankFull.f k f r out l = some true := by
  have hf' := wf_i64 hf
  have hr' := wf_i64 hr
  have hl1 := hl.1
  refine ⟨9000, ?_⟩
  unfold exerguelaw04_TankFull.f
  rw [shown_f (by omega), Option.bind_some, if_pos rfl, right_f, Option.bind_some]
  by_cases h : 0 ≤ f ∧ 0 ≤ r ∧ (out.length : Int) ≤ 1000
  case neg => rw [if_pos (.inl (by simpa using h))]
  by_cases hE : (l.length : Int) > 1000 ∨ f > 1000000 ∨ r > 1000000
  · rw [if_pos (.inr hE)]
  have h2 : ¬ (l.length : Int) > 1000 := fun q => hE (.inl q)
  have h3 : ¬ f > 1000000 := fun q => hE (.inr (.inl q))
  have h4 : ¬ r > 1000000 := fun q => hE (.inr (.inr q))
  rw [if_neg (fun q => q.elim (fun q => by simp [h] at q) hE), if_pos ⟨h.1, h.2.1⟩, put_f h.1 (by omega) h.2.1 (by omega) (by omega) (by omega) (by omega), Option.bind_some, put_f (by omega) (by omega) (by omega) (by omega) (by omega) (by omega) (by omega), Option.bind_some, putR_eq l f r out h.1 h.2.1, putR_eq l (f + 1) (r + 1) out (by omega) (by omega)]
  by_cases c1 : (l.length : Int) ≤ f ∧ (l.length : Int) ≤ r
  · rw [if_pos c1, if_pos (show (l.length : Int) ≤ f + 1 ∧ (l.length : Int) ≤ r + 1 by omega)]
    dsimp only
    rw [if_pos (.inl (by omega)), if_pos (.inl (by omega)), if_pos rfl, if_pos rfl, if_pos (by omega), tSame_f (by rw [List.length_append]; omega) (by rw [List.length_append]; omega), Option.bind_some, if_pos]
    simp
    omega
  · rw [if_neg c1]
    by_cases c2 : f ≤ r
    · rw [if_pos c2]
      by_cases c3 : (l.length : Int) ≤ f + 1 ∧ (l.length : Int) ≤ r + 1
      · rw [if_pos c3]
        simp
        omega
      · rw [if_neg c3, if_pos (show f + 1 ≤ r + 1 by omega)]
        simp
        omega
    · rw [if_neg c2]
      by_cases c3 : (l.length : Int) ≤ f + 1 ∧ (l.length : Int) ≤ r + 1
      · rw [if_pos c3]
        simp
        omega
      · rw [if_neg c3, if_neg (show ¬ f + 1 ≤ r + 1 by omega)]
        simp
        omega
end Go.Proofs.Ytlmgpjeienhihaa.Pure
