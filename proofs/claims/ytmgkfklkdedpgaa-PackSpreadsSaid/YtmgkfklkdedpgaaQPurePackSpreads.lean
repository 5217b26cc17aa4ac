/- PackSpreads, in plain Lean: places that are there are told by their texts, in order; one that isn't lets there be none; no condition. -/
import Derived.Test.YtmgkfklkdedpgaaLPackSpreads
namespace Go.Proofs.Ytmgkfklkdedpgaa.Pure
open Go.RowKit Go.Proofs.Ytmgkfklkdedpgaa.Q Go.Proofs.YtmgkfklkdedpgaaW.PrintWords
theorem wide_of {l : List ByteArray} (h : l.length * 16 ≤ 140737488351232 ∧ ∀ s ∈ l, s.size ≤ 140737488351232) : wideB l = true := by
  unfold wideB
  rw [Bool.and_eq_true, decide_eq_true_eq, List.all_eq_true]
  exact ⟨by omega, fun s hs => decide_eq_true (h.2 s hs)⟩
theorem PackSpreads (l0 : List ByteArray) (l1 : List Int) (h0 : l0.length * 16 ≤ 140737488351232 ∧ ∀ s ∈ l0, s.size ≤ 140737488351232) (_ : l1.length * 8 ≤ 140737488351232 ∧ ∀ x ∈ l1, (Lit.int .i64 x).wf = true) : ∃ k, exerguelaw09_PackSpreads.f k l0 l1 = some true :=
  ⟨0, if_pos (wide_of h0)⟩
end Go.Proofs.Ytmgkfklkdedpgaa.Pure
