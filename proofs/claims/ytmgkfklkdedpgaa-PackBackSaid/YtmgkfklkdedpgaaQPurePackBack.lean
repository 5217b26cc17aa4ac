/- PackBack, in plain Lean: what is put is taken, a number as well as a pool; what is gathered is a row without one twice, and spread it is what it was; no condition. -/
import Derived.Test.YtmgkfklkdedpgaaLPackBack
namespace Go.Proofs.Ytmgkfklkdedpgaa.Pure
open Go.RowKit Go.Proofs.Ytmgkfklkdedpgaa.Q Go.Proofs.YtmgkfklkdedpgaaW.PrintWords
theorem byte_of {l : List Int} (h : ∀ x ∈ l, (Lit.int .u8 x).wf = true) : byteB l = true := by
  unfold byteB
  rw [List.all_eq_true]
  intro x hx
  have := h x hx
  simp [Lit.wf, IntKind.min, IntKind.max, IntKind.signed, IntKind.bits] at this
  rw [decide_eq_true_eq]
  omega
theorem u32_of {n : Int} (h : (Lit.int .u32 n).wf = true) : 0 ≤ n ∧ n < 4294967296 := by
  simp [Lit.wf, IntKind.min, IntKind.max, IntKind.signed, IntKind.bits] at h
  omega
theorem wide_of {l : List ByteArray} (h : l.length * 16 ≤ 140737488351232 ∧ ∀ s ∈ l, s.size ≤ 140737488351232) : wideB l = true := by
  unfold wideB
  rw [Bool.and_eq_true, decide_eq_true_eq, List.all_eq_true]
  exact ⟨by omega, fun s hs => decide_eq_true (h.2 s hs)⟩
theorem PackBack (l0 : List Int) (n s : Int) (l1 : List ByteArray) (h0 : l0.length * 1 ≤ 140737488351232 ∧ ∀ x ∈ l0, (Lit.int .u8 x).wf = true) (h1 : (Lit.int .u32 n).wf = true) (_ : (Lit.int .i64 s).wf = true) (h3 : l1.length * 16 ≤ 140737488351232 ∧ ∀ s ∈ l1, s.size ≤ 140737488351232) : ∃ k, exerguelaw09_PackBack.f k l0 n s l1 = some true :=
  ⟨0, if_pos ⟨wide_of h3, byte_of h0.2, u32_of h1⟩⟩
end Go.Proofs.Ytmgkfklkdedpgaa.Pure
