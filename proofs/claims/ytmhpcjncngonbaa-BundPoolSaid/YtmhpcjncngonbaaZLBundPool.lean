/- Texts of this claim, joined; the first one's sentence stands below. -/
import Derived.Test.YtmhpcjncngonbaaZLBundPoolB
import Derived.Test.YtmhpcjncngonbaaZLBundPoolC
/- What the law BundPool comes to: true. -/
namespace Go.Proofs.Ytmhpcjncngonbaa.Q
open Go.RowKit Go.Proofs.Ytmhpcjncngonbaa.Mine Go.Proofs.YtmhpcjncngonbaaW.PrintWords Go.Proofs.YtmhpcjncngonbaaW.PrintLast Go.Proofs.YtmhpcjncngonbaaW.PrintMore
set_option linter.unusedVariables false
set_option linter.unusedSimpArgs false
theorem bundPool.calls (L : Loc) (a : Lat) (at_ : Int) (w : World) (hL : LocC L a w) (hT : LocT L) (hat : (Lit.int .i64 at_).wf = true) :
    Calls Try.prog 9 #[locV L a, .int .i64 at_] w fun e w' => e = .returned (.bool true) ∧ Below w.heap.size w w' := by
  cases hs : smallB L with
  | false => exact pool_s0 L a at_ w hL hT hat hs
  | true =>
    by_cases he : encE L = 0
    · by_cases hK : 0 ≤ at_ ∧ at_ < ((textsL L).length : Int)
      · exact pool_yes1 L a at_ w hL hT hat hs he hK
      · exact pool_yes0 L a at_ w hL hT hat hs he (by omega)
    · exact pool_e1 L a at_ w hL hT hat hs he
end Go.Proofs.Ytmhpcjncngonbaa.Q
