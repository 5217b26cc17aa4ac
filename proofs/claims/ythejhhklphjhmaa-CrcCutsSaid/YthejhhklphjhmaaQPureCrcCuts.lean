/- CrcCuts, in plain Lean: what is cut is shorter by four; fewer than four bytes are of no form; another checksum is refused; no condition. -/
import Derived.Test.YthejhhklphjhmaaQx20
import Derived.Test.YthejhhklphjhmaaSpec
namespace Go.Proofs.Ythejhhklphjhmaa.Pure
open Go.RowKit Go.Proofs.Ythejhhklphjhmaa.Spec Go.Proofs.Ythejhhklphjhmaa.Q Go.Proofs.YthejhhklphjhmaaW.PrintWords Go.Proofs.YthejhhklphjhmaaW.PrintLast
theorem CrcCuts (l0 : List Int) (q0 q1 q2 q3 : Int) (h0 : l0.length * 1 ≤ 140737488351232 ∧ ∀ x ∈ l0, (Lit.int .u8 x).wf = true)
    (w0 : (Lit.int .u8 q0).wf = true) (w1 : (Lit.int .u8 q1).wf = true) (w2 : (Lit.int .u8 q2).wf = true) (w3 : (Lit.int .u8 q3).wf = true) : ∃ k, exerguelaw08_CrcCuts.f k l0 q0 q1 q2 q3 = some true := by
  obtain ⟨l, rfl⟩ := I_of h0.2
  obtain ⟨a, rfl⟩ := Y_of w0
  obtain ⟨b, rfl⟩ := Y_of w1
  obtain ⟨c, rfl⟩ := Y_of w2
  obtain ⟨d, rfl⟩ := Y_of w3
  refine ⟨5000, ?_⟩
  unfold exerguelaw08_CrcCuts.f
  rw [shown_f (by omega), Option.bind_some, if_pos rfl, I_len]
  by_cases hbig : (l.length : Int) > 2000
  · rw [if_pos hbig]
  rw [if_neg hbig]
  have hy : I l ++ [(a.toNat : Int), b.toNat, c.toNat, d.toNat] = I (l ++ [a, b, c, d]) := by simp [I]
  have hyl : (l ++ [a, b, c, d]).length = l.length + 4 := by simp
  have hput : (put l).length = l.length + 4 := by simp [put, toldB_len]
  have ht : (I l).take (min l.length 3) = I (l.take (min l.length 3)) := by simp [I, List.map_take]
  have hc3 : cut (l.take (min l.length 3)) = ([], 2) := by
    unfold cut
    rw [if_pos (by rw [List.length_take]; omega)]
  have hcy : cut (l ++ [a, b, c, d]) = if [a, b, c, d] = toldB (crc 0#32 l) then (l, 0) else ([], 6) := by
    unfold cut
    rw [hyl, if_neg (by omega)]
    have e1 : (l ++ [a, b, c, d]).drop (l.length + 4 - 4) = [a, b, c, d] := by simp
    have e2 : (l ++ [a, b, c, d]).take (l.length + 4 - 4) = l := by simp
    rw [e1, e2]
  rw [hy, Cut_f _ (by omega) (by omega), Option.bind_some, Put_f l (by omega) (by omega), Option.bind_some, row_f (by rw [I_len]; omega) (by rw [I_len]; omega), Option.bind_some, ht,
    Cut_f _ (by rw [List.length_take]; omega) (by rw [List.length_take]; omega), Option.bind_some, hc3, if_pos (show (I (([] : List Y), (2 : Int)).1, (([] : List Y), (2 : Int)).2) = ([], 2) from rfl), hcy]
  by_cases h : [a, b, c, d] = toldB (crc 0#32 l)
  · have hp : I (l ++ [a, b, c, d]) = I (put l) := by rw [h]; rfl
    rw [if_pos (by simp [hp]), if_pos h]
    show (if (0 : Int) = 0 then (exergueref01_Row.f 5000 (I l) (I l)).bind fun rw => if rw = true then some true else none else none) = some true
    rw [if_pos rfl, row_f (by rw [I_len]; omega) (by rw [I_len]; omega), Option.bind_some]
    simp
  · have hp : ¬ I (l ++ [a, b, c, d]) = I (put l) := by
      intro e
      apply h
      have := I_inj.1 e
      unfold put at this
      exact List.append_cancel_left this
    rw [if_neg (by simp [hp]), if_neg h]
    rfl
end Go.Proofs.Ythejhhklphjhmaa.Pure
