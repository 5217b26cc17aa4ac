/- UtfTells, in plain Lean: the code's Is, Size and Same answer as the reference's at every number and rows. -/
import Derived.Test.YtapjpcpaildccaaFnRef
import Derived.Test.YtapjpcpaildccaaQx15
namespace Go.Proofs.Ytapjpcpaildccaa.Pure
open Go.RowKit Go.Proofs.Ytapjpcpaildccaa.Q Go.Proofs.Ytapjpcpaildccaa.Fn Go.Proofs.Ytapjpcpaildccaa.Spec Go.Proofs.YtapjpcpaildccaaW.PrintWords Go.Proofs.YtapjpcpaildccaaW.PrintLast
set_option linter.unusedVariables false
set_option linter.unusedSimpArgs false
theorem UtfTells : exerguelaw01_UtfTells.Pure := by
  intro r a b hr ha1 ha2 ha3 hb1 hb2 hb3
  have hr' := wf_i32 hr
  refine ⟨2000, ?_⟩
  unfold exerguelaw01_UtfTells.f
  rw [shown_f (by omega), Option.bind_some, wr (by omega) (by omega)]
  by_cases h : (a.length : Int) + (b.length : Int) > 1000
  · rw [if_pos h]
  · rw [if_neg h, if_pos rfl, Is_f, Option.bind_some, rIs_f (by omega) (by omega), Option.bind_some, if_pos (by simp), Size_f, Option.bind_some, rSize_f (by omega) (by omega), Option.bind_some, if_pos rfl, Same_f (by omega) (by omega), Option.bind_some, rSame_f (by omega) (by omega), Option.bind_some]
    simp
end Go.Proofs.Ytapjpcpaildccaa.Pure
