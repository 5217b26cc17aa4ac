/- PackNumbers, in plain Lean: a number laid behind bytes, and one taken off them, are as the document says; no condition. -/
import Derived.Test.YtmgkfklkdedpgaaLPackNumbers
namespace Go.Proofs.Ytmgkfklkdedpgaa.Pure
open Go.RowKit Go.Proofs.Ytmgkfklkdedpgaa.Q Go.Proofs.YtmgkfklkdedpgaaW.PrintWords
theorem byte_of {l : List Int} (h : ∀ x ∈ l, (Lit.int .u8 x).wf = true) : byteB l = true := by
  unfold byteB
  rw [List.all_eq_true]
  intro x hx
  have := h x hx
  simp [Lit.wf, IntKind.min, IntKind.max, IntKind.signed, IntKind.bits] at this
  rw [decide_eq_true_eq]
  omega
theorem u32_of {n : Int} (h : (Lit.int .u32 n).wf = true) : 0 ≤ n ∧ n < 4294967296 := by
  simp [Lit.wf, IntKind.min, IntKind.max, IntKind.signed, IntKind.bits] at h
  omega
theorem i64_of {n : Int} (h : (Lit.int .i64 n).wf = true) : -9223372036854775808 ≤ n ∧ n < 9223372036854775808 := by
  simp [Lit.wf, IntKind.min, IntKind.max, IntKind.signed, IntKind.bits] at h
  omega
theorem PackNumbers (l0 : List Int) (n s p : Int) (h0 : l0.length * 1 ≤ 140737488351232 ∧ ∀ x ∈ l0, (Lit.int .u8 x).wf = true) (h1 : (Lit.int .u32 n).wf = true) (_ : (Lit.int .i64 s).wf = true) (h3 : (Lit.int .i64 p).wf = true) : ∃ k, exerguelaw09_PackNumbers.f k l0 n s p = some true :=
  ⟨0, if_pos ⟨byte_of h0.2, u32_of h1, i64_of h3⟩⟩
end Go.Proofs.Ytmgkfklkdedpgaa.Pure
