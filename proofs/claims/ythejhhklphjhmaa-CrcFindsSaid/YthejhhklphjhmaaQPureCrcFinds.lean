/- CrcFinds, in plain Lean: one to four bytes that stand together, changed, are found; no condition. -/
import Derived.Test.YthejhhklphjhmaaQx17
import Derived.Test.YthejhhklphjhmaaSpec
namespace Go.Proofs.Ythejhhklphjhmaa.Pure
open Go.RowKit Go.Proofs.Ythejhhklphjhmaa.Spec Go.Proofs.Ythejhhklphjhmaa.Q Go.Proofs.YthejhhklphjhmaaW.PrintWords Go.Proofs.YthejhhklphjhmaaW.PrintLast
theorem CrcFinds (l0 : List Int) (a1 q0 q1 q2 q3 : Int) (h0 : l0.length * 1 ≤ 140737488351232 ∧ ∀ x ∈ l0, (Lit.int .u8 x).wf = true) (_ : (Lit.int .i64 a1).wf = true)
    (w0 : (Lit.int .u8 q0).wf = true) (w1 : (Lit.int .u8 q1).wf = true) (w2 : (Lit.int .u8 q2).wf = true) (w3 : (Lit.int .u8 q3).wf = true) : ∃ k, exerguelaw08_CrcFinds.f k l0 a1 q0 q1 q2 q3 = some true := by
  obtain ⟨l, rfl⟩ := I_of h0.2
  obtain ⟨a, rfl⟩ := Y_of w0
  obtain ⟨b, rfl⟩ := Y_of w1
  obtain ⟨c, rfl⟩ := Y_of w2
  obtain ⟨d, rfl⟩ := Y_of w3
  have hlen := h0.1
  rw [I_len, Nat.mul_one] at hlen
  by_cases hbig : 2000 < l.length
  · refine ⟨l.length + 50, ?_⟩
    unfold exerguelaw08_CrcFinds.f
    rw [shown_f (by omega), Option.bind_some, if_pos rfl, Put_f l (by omega) (by omega), Option.bind_some, if_pos (.inl (by rw [I_len]; omega))]
  refine ⟨5000, ?_⟩
  unfold exerguelaw08_CrcFinds.f
  have hput : (put l).length = l.length + 4 := by simp [put, toldB_len]
  rw [shown_f (by omega), Option.bind_some, if_pos rfl, Put_f l (by omega) (by omega), Option.bind_some, I_len, I_len]
  by_cases hE : (l.length : Int) > 2000 ∨ ((put l).length : Int) < 4 ∨ a1 < 0 ∨ a1 > ((put l).length : Int) - 4 ∨ [(a.toNat : Int), b.toNat, c.toNat, d.toNat] = [0, 0, 0, 0]
  · rw [if_pos hE]
  rw [if_neg hE]
  have h2 : ¬ a1 < 0 := fun h => hE (.inr (.inr (.inl h)))
  have h3 : ¬ a1 > ((put l).length : Int) - 4 := fun h => hE (.inr (.inr (.inr (.inl h))))
  have h4 : [(a.toNat : Int), b.toNat, c.toNat, d.toNat] ≠ [0, 0, 0, 0] := fun h => hE (.inr (.inr (.inr (.inr h))))
  obtain ⟨n, rfl⟩ := Int.eq_ofNat_of_zero_le (show 0 ≤ a1 by omega)
  rw [Int.toNat_natCast]
  obtain ⟨m, hm, hx⟩ := xb_I (put l) n a b c d (by omega)
  have hB := four_ne h4 n m
  have hl : (put l).length = (zeros n ++ [a, b, c, d] ++ zeros m).length := by simp [zeros]; omega
  have hxl := xs_len' hl
  have hc : cut (xs (put l) (zeros n ++ [a, b, c, d] ++ zeros m)) = ([], 6) := by
    refine cut_bad _ (by omega) ?_
    rw [F_xs _ _ _ hl, F_put]
    exact xor_ne hB
  rw [hx, Cut_f _ (by omega) (by omega), Option.bind_some, hc]
  rfl
end Go.Proofs.Ythejhhklphjhmaa.Pure
