/- Texts of this claim, joined; the first one's sentence stands below. -/
import Derived.Test.YtmhpcjncngonbaaZLBundBackA
import Derived.Test.YtmhpcjncngonbaaZLBundBackB
import Derived.Test.YtmhpcjncngonbaaZLBundBackC
/- What the law BundBack comes to: true. -/
namespace Go.Proofs.Ytmhpcjncngonbaa.Q
open Go.RowKit Go.Proofs.Ytmhpcjncngonbaa.Mine Go.Proofs.YtmhpcjncngonbaaW.PrintWords Go.Proofs.YtmhpcjncngonbaaW.PrintLast Go.Proofs.YtmhpcjncngonbaaW.PrintMore
set_option linter.unusedVariables false
set_option linter.unusedSimpArgs false
theorem bundBack.calls (L : Loc) (a : Lat) (A : Option Addr) (c : Nat) (b : List Int) (w : World) (hL : LocC L a w) (hT : LocT L) (hr : (Kd.int .u8).C w A b.length b) (hc : b.length ≤ c) (hok : bytesOk b) :
    Calls Try.prog 6 #[locV L a, .slice A b.length c] w fun e w' => e = .returned (.bool true) ∧ Below w.heap.size w w' := by
  cases hs : smallB L with
  | false => exact back_small L a A c b w hL hT hr hc hok hs
  | true =>
    by_cases hbl : b.length > 10000
    · exact back_long L a A c b w hL hT hr hc hok hs hbl
    · by_cases he : encE L = 0
      · by_cases hg : (decR b).2 = 0
        · exact back_B0 L a A c b w hL hT hr hc hok hs (by omega) he hg
        · exact back_B1 L a A c b w hL hT hr hc hok hs (by omega) he hg
      · by_cases hg : (decR b).2 = 0
        · exact back_C0 L a A c b w hL hT hr hc hok hs (by omega) he hg
        · exact back_C1 L a A c b w hL hT hr hc hok hs (by omega) he hg
end Go.Proofs.Ytmhpcjncngonbaa.Q
