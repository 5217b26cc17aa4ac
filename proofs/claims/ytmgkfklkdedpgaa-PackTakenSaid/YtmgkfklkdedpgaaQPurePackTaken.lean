/- PackTaken, in plain Lean: a number that is taken, put again, is the bytes that it was taken of; so is a pool; no condition. -/
import Derived.Test.YtmgkfklkdedpgaaLPackTaken
namespace Go.Proofs.Ytmgkfklkdedpgaa.Pure
open Go.RowKit Go.Proofs.Ytmgkfklkdedpgaa.Q Go.Proofs.YtmgkfklkdedpgaaW.PrintWords
theorem byte_of {l : List Int} (h : ∀ x ∈ l, (Lit.int .u8 x).wf = true) : byteB l = true := by
  unfold byteB
  rw [List.all_eq_true]
  intro x hx
  have := h x hx
  simp [Lit.wf, IntKind.min, IntKind.max, IntKind.signed, IntKind.bits] at this
  rw [decide_eq_true_eq]
  omega
theorem i64_of {n : Int} (h : (Lit.int .i64 n).wf = true) : -9223372036854775808 ≤ n ∧ n < 9223372036854775808 := by
  simp [Lit.wf, IntKind.min, IntKind.max, IntKind.signed, IntKind.bits] at h
  omega
theorem PackTaken (l0 : List Int) (p s : Int) (h0 : l0.length * 1 ≤ 140737488351232 ∧ ∀ x ∈ l0, (Lit.int .u8 x).wf = true) (h1 : (Lit.int .i64 p).wf = true) (_ : (Lit.int .i64 s).wf = true) : ∃ k, exerguelaw09_PackTaken.f k l0 p s = some true :=
  ⟨0, if_pos ⟨byte_of h0.2, i64_of h1⟩⟩
end Go.Proofs.Ytmgkfklkdedpgaa.Pure
