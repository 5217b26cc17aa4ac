/- CrcApart, in plain Lean: two rows as long, that differ in one to four bytes that stand together, have two checksums; no condition. -/
import Derived.Test.YthejhhklphjhmaaQx21
import Derived.Test.YthejhhklphjhmaaSpec
namespace Go.Proofs.Ythejhhklphjhmaa.Pure
open Go.RowKit Go.Proofs.Ythejhhklphjhmaa.Spec Go.Proofs.Ythejhhklphjhmaa.Q Go.Proofs.YthejhhklphjhmaaW.PrintWords Go.Proofs.YthejhhklphjhmaaW.PrintLast
theorem CrcApart (l0 : List Int) (a1 q0 q1 q2 q3 : Int) (h0 : l0.length * 1 ≤ 140737488351232 ∧ ∀ x ∈ l0, (Lit.int .u8 x).wf = true) (_ : (Lit.int .i64 a1).wf = true)
    (w0 : (Lit.int .u8 q0).wf = true) (w1 : (Lit.int .u8 q1).wf = true) (w2 : (Lit.int .u8 q2).wf = true) (w3 : (Lit.int .u8 q3).wf = true) : ∃ k, exerguelaw08_CrcApart.f k l0 a1 q0 q1 q2 q3 = some true := by
  obtain ⟨l, rfl⟩ := I_of h0.2
  obtain ⟨a, rfl⟩ := Y_of w0
  obtain ⟨b, rfl⟩ := Y_of w1
  obtain ⟨c, rfl⟩ := Y_of w2
  obtain ⟨d, rfl⟩ := Y_of w3
  refine ⟨5000, ?_⟩
  unfold exerguelaw08_CrcApart.f
  rw [shown_f (by omega), Option.bind_some, if_pos rfl, I_len]
  by_cases hE : (l.length : Int) > 2000 ∨ a1 < 0 ∨ a1 > (l.length : Int) - 4 ∨ [(a.toNat : Int), b.toNat, c.toNat, d.toNat] = [0, 0, 0, 0]
  · rw [if_pos hE]
  rw [if_neg hE]
  have h1 : ¬ (l.length : Int) > 2000 := fun h => hE (.inl h)
  have h2 : ¬ a1 < 0 := fun h => hE (.inr (.inl h))
  have h3 : ¬ a1 > (l.length : Int) - 4 := fun h => hE (.inr (.inr (.inl h)))
  have h4 : [(a.toNat : Int), b.toNat, c.toNat, d.toNat] ≠ [0, 0, 0, 0] := fun h => hE (.inr (.inr (.inr h)))
  obtain ⟨n, rfl⟩ := Int.eq_ofNat_of_zero_le (show 0 ≤ a1 by omega)
  rw [Int.toNat_natCast]
  obtain ⟨m, hm, hx⟩ := xb_I l n a b c d (by omega)
  have hB := four_ne h4 n m
  have hl : l.length = (zeros n ++ [a, b, c, d] ++ zeros m).length := by simp [zeros]; omega
  have hxl := xs_len' hl
  have h7 : (7 : Int) = ((7#32).toNat : Int) := rfl
  rw [hx, Of_f _ (by omega) (by omega), Option.bind_some, Of_f l (by omega) (by omega), Option.bind_some, h7, On_f _ _ (by omega) (by omega), Option.bind_some, On_f _ l (by omega) (by omega), Option.bind_some, if_pos]
  have g : ∀ x y : W, x ≠ y → (x.toNat : Int) ≠ (y.toNat : Int) := fun x y h e => h (BitVec.eq_of_toNat_eq (by omega))
  exact ⟨g _ _ (crc_ne _ _ _ hl hB), g _ _ (crc_ne _ _ _ hl hB)⟩
end Go.Proofs.Ythejhhklphjhmaa.Pure
