/- PackRow, in plain Lean: numbers of one size, one behind the other, are taken one by one, as they were put; no condition. -/
import Derived.Test.YtmgkfklkdedpgaaLPackRow
namespace Go.Proofs.Ytmgkfklkdedpgaa.Pure
open Go.RowKit Go.Proofs.Ytmgkfklkdedpgaa.Q Go.Proofs.YtmgkfklkdedpgaaW.PrintWords
theorem u32_of {n : Int} (h : (Lit.int .u32 n).wf = true) : 0 ≤ n ∧ n < 4294967296 := by
  simp [Lit.wf, IntKind.min, IntKind.max, IntKind.signed, IntKind.bits] at h
  omega
theorem PackRow (l0 : List Int) (s : Int) (h0 : l0.length * 4 ≤ 140737488351232 ∧ ∀ x ∈ l0, (Lit.int .u32 x).wf = true) (_ : (Lit.int .i64 s).wf = true) : ∃ k, exerguelaw09_PackRow.f k l0 s = some true :=
  ⟨0, if_pos (by unfold u32B; rw [List.all_eq_true]; exact fun x hx => decide_eq_true (u32_of (h0.2 x hx)))⟩
end Go.Proofs.Ytmgkfklkdedpgaa.Pure
