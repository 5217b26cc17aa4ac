/- Texts of this claim, joined; the first one's sentence stands below. -/
import Derived.Test.YtmhpcjncngonbaaZLBundFindB
import Derived.Test.YtmhpcjncngonbaaZLBundFindC
/- What the law BundFinds comes to: true. -/
namespace Go.Proofs.Ytmhpcjncngonbaa.Q
open Go.RowKit Go.Proofs.Ytmhpcjncngonbaa.Mine Go.Proofs.YtmhpcjncngonbaaW.PrintWords Go.Proofs.YtmhpcjncngonbaaW.PrintLast Go.Proofs.YtmhpcjncngonbaaW.PrintMore
set_option linter.unusedVariables false
set_option linter.unusedSimpArgs false
theorem bundFinds.calls (L : Loc) (a : Lat) (at_ q0 q1 q2 q3 cut : Int) (w : World) (hL : LocC L a w) (hT : LocT L) (ha : (Lit.int .i64 at_).wf = true) (w0 : (Lit.int .u8 q0).wf = true) (w1 : (Lit.int .u8 q1).wf = true) (w2 : (Lit.int .u8 q2).wf = true) (w3 : (Lit.int .u8 q3).wf = true) (hc : (Lit.int .i64 cut).wf = true) :
    Calls Try.prog 7 #[finV L a at_ q0 q1 q2 q3 cut] w fun e w' => e = .returned (.bool true) ∧ Below w.heap.size w w' := by
  cases hs : smallB L with
  | false => exact finds_s0 L a at_ q0 q1 q2 q3 cut w hL hT ha w0 w1 w2 w3 hc hs
  | true =>
    by_cases he : encE L = 0
    · by_cases hE1 : at_ < 0
      · exact finds_nb L a at_ q0 q1 q2 q3 cut w hL hT ha w0 w1 w2 w3 hc hs he (.inl hE1)
      · by_cases hE2 : at_ > ((encR L).length : Int) - 4
        · exact finds_nb L a at_ q0 q1 q2 q3 cut w hL hT ha w0 w1 w2 w3 hc hs he (.inr (.inl hE2))
        · by_cases hE3 : [q0, q1, q2, q3] = [0, 0, 0, 0]
          · exact finds_nb L a at_ q0 q1 q2 q3 cut w hL hT ha w0 w1 w2 w3 hc hs he (.inr (.inr hE3))
          · by_cases hK : 0 ≤ cut ∧ cut < ((encR L).length : Int)
            · exact finds_yes1 L a at_ q0 q1 q2 q3 cut w hL hT ha w0 w1 w2 w3 hc hs he hE1 hE2 hE3 hK
            · exact finds_yes0 L a at_ q0 q1 q2 q3 cut w hL hT ha w0 w1 w2 w3 hc hs he hE1 hE2 hE3 (by omega)
    · exact finds_e1 L a at_ q0 q1 q2 q3 cut w hL hT ha w0 w1 w2 w3 hc hs he
end Go.Proofs.Ytmhpcjncngonbaa.Q
