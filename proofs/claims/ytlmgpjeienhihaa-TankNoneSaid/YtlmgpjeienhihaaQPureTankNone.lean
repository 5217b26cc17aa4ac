/- TankNone, in plain Lean: nothing put changes nothing; a tank that is new is empty; below nought there is none. -/
import Derived.Test.YtlmgpjeienhihaaSpec
import Derived.Test.YtlmgpjeienhihaaQx14
namespace Go.Proofs.Ytlmgpjeienhihaa.Pure
open Go.RowKit Go.Proofs.Ytlmgpjeienhihaa.Mine Go.Proofs.Ytlmgpjeienhihaa.Spec Go.Proofs.Ytlmgpjeienhihaa.Q Go.Proofs.YtlmgpjeienhihaaW.PrintWords Go.Proofs.YtlmgpjeienhihaaW.PrintLast Go.Proofs.YtlmgpjeienhihaaW.PrintMore
set_option linter.unusedVariables false
set_option linter.unusedSimpArgs false
theorem TankNone (f r : Int) (out : List Int) (a b : Int) (hf : (Lit.int .i64 f).wf = true) (hr : (Lit.int .i64 r).wf = true) (ho : out.length * 4 ≤ 140737488351232 ∧ ∀ x ∈ out, (Lit.int .i32 x).wf = true) (ha : (Lit.int .i64 a).wf = true) (hb : (Lit.int .i64 b).wf = true) :
    ∃ k, exerguelaw04_TankNone.f k f r out a b = some true := by
  have hf' := wf_i64 hf
  have hr' := wf_i64 hr
  refine ⟨9000, ?_⟩
  unfold exerguelaw04_TankNone.f
  rw [shown_f (by omega), Option.bind_some, right_f, Option.bind_some]
  by_cases h : 0 ≤ f ∧ 0 ≤ r ∧ (out.length : Int) ≤ 1000
  · rw [if_pos (by simpa using h)]
    unfold tank_New.f
    have hput : tank_Put.f 9000 f r out [] = some (f, r, out, 0) := put_f h.1 (by omega) h.2.1 (by omega) (by omega) (by simp) (by simp)
    have hsame : exergueref04_Same.f 9000 f r out f r out = some true := by rw [tSame_f (by omega) (by omega)]; simp
    by_cases ha : a < 0
    · rw [if_pos ha, Option.bind_some, hput, Option.bind_some, if_pos rfl, hsame, Option.bind_some]
      simp only [exerguelaw04_TankNone.j0]
      rw [if_neg (by simp), if_pos ha, if_pos trivial, if_pos trivial, tSame_f (by simp) (by simp)]
      simp
    · rw [if_neg ha]
      by_cases hb : b < 0
      · rw [if_pos hb, Option.bind_some, hput, Option.bind_some, if_pos rfl, hsame, Option.bind_some]
        simp only [exerguelaw04_TankNone.j0]
        rw [if_neg (by simp), if_neg ha, if_pos hb, if_pos trivial, if_pos trivial, tSame_f (by simp) (by simp)]
        simp
      · rw [if_neg hb, Option.bind_some, hput, Option.bind_some, if_pos rfl, hsame, Option.bind_some]
        simp only [exerguelaw04_TankNone.j0]
        rw [if_neg (by simp), if_neg ha, if_neg hb]
        simp
  · rw [if_neg (by simpa using h)]
end Go.Proofs.Ytlmgpjeienhihaa.Pure
