/- PackPools, in plain Lean: a pool laid behind bytes, and one taken off them, are as the document says; no condition. -/
import Derived.Test.YtmgkfklkdedpgaaLPackPools
namespace Go.Proofs.Ytmgkfklkdedpgaa.Pure
open Go.RowKit Go.Proofs.Ytmgkfklkdedpgaa.Q Go.Proofs.YtmgkfklkdedpgaaW.PrintWords
theorem byte_of {l : List Int} (h : ∀ x ∈ l, (Lit.int .u8 x).wf = true) : byteB l = true := by
  unfold byteB
  rw [List.all_eq_true]
  intro x hx
  have := h x hx
  simp [Lit.wf, IntKind.min, IntKind.max, IntKind.signed, IntKind.bits] at this
  rw [decide_eq_true_eq]
  omega
theorem i64_of {n : Int} (h : (Lit.int .i64 n).wf = true) : -9223372036854775808 ≤ n ∧ n < 9223372036854775808 := by
  simp [Lit.wf, IntKind.min, IntKind.max, IntKind.signed, IntKind.bits] at h
  omega
theorem wide_of {l : List ByteArray} (h : l.length * 16 ≤ 140737488351232 ∧ ∀ s ∈ l, s.size ≤ 140737488351232) : wideB l = true := by
  unfold wideB
  rw [Bool.and_eq_true, decide_eq_true_eq, List.all_eq_true]
  exact ⟨by omega, fun s hs => decide_eq_true (h.2 s hs)⟩
theorem PackPools (l0 : List Int) (l1 : List ByteArray) (p : Int) (h0 : l0.length * 1 ≤ 140737488351232 ∧ ∀ x ∈ l0, (Lit.int .u8 x).wf = true) (h1 : l1.length * 16 ≤ 140737488351232 ∧ ∀ s ∈ l1, s.size ≤ 140737488351232) (h2 : (Lit.int .i64 p).wf = true) : ∃ k, exerguelaw09_PackPools.f k l0 l1 p = some true :=
  ⟨0, if_pos ⟨wide_of h1, byte_of h0.2, i64_of h2⟩⟩
end Go.Proofs.Ytmgkfklkdedpgaa.Pure
