/- Texts of this claim, joined; the first one's sentence stands below. -/
import Derived.Test.YtmhpcjncngonbaaZLBundApartB
import Derived.Test.YtmhpcjncngonbaaZLBundApartC
/- What the law BundApart comes to: true. -/
namespace Go.Proofs.Ytmhpcjncngonbaa.Q
open Go.RowKit Go.Proofs.Ytmhpcjncngonbaa.Mine Go.Proofs.YtmhpcjncngonbaaW.PrintWords Go.Proofs.YtmhpcjncngonbaaW.PrintLast Go.Proofs.YtmhpcjncngonbaaW.PrintMore
set_option linter.unusedVariables false
set_option linter.unusedSimpArgs false
theorem bundApart.calls (L : Loc) (a : Lat) (M : Loc) (b : Lat) (w : World) (hL : LocC L a w) (hT : LocT L) (hM : LocC M b w) (hU : LocT M) :
    Calls Try.prog 8 #[locV L a, locV M b] w fun e w' => e = .returned (.bool true) ∧ Below w.heap.size w w' := by
  cases hs : smallB L with
  | false => exact apart_s0 L a M b w hL hT hM hU hs
  | true =>
    cases hs2 : smallB M with
    | false => exact apart_s1 L a M b w hL hT hM hU hs hs2
    | true =>
      by_cases he : encE L = 0
      · by_cases hf : encE M = 0
        · cases hq : decide (L = M) with
          | true => exact apart_yestrue L a M b w hL hT hM hU hs hs2 he hf hq
          | false => exact apart_yesfalse L a M b w hL hT hM hU hs hs2 he hf hq
        · exact apart_f1 L a M b w hL hT hM hU hs hs2 he hf
      · exact apart_e1 L a M b w hL hT hM hU hs hs2 he
end Go.Proofs.Ytmhpcjncngonbaa.Q
