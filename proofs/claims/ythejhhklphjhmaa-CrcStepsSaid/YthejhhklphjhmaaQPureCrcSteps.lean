/- CrcSteps, in plain Lean: a checksum is steps with each byte, from all bits on, turned at the end; no condition. -/
import Derived.Test.YthejhhklphjhmaaQx19
import Derived.Test.YthejhhklphjhmaaSpec
namespace Go.Proofs.Ythejhhklphjhmaa.Pure
open Go.RowKit Go.Proofs.Ythejhhklphjhmaa.Spec Go.Proofs.Ythejhhklphjhmaa.Q Go.Proofs.YthejhhklphjhmaaW.PrintWords Go.Proofs.YthejhhklphjhmaaW.PrintLast

theorem steps_l (a : List Y) (hl : a.length ≤ 2000) : ∀ (d n k : Nat) (v : W), n + d = a.length → d + 2500 < k → F v (a.drop n) = F (~~~ (0#32)) a → exerguelaw08_CrcSteps.l0 k (I a) true (v.toNat : Int) (n : Int) = some true := by
  intro d
  induction d with
  | zero =>
    intro n k v hn hk hv
    obtain ⟨m, rfl, _⟩ := succ_of hk
    rw [List.drop_eq_nil_of_le (by omega), F_nil] at hv
    simp only [exerguelaw08_CrcSteps.l0]
    have hnil : ([] : List Int) = I [] := rfl
    rw [if_neg (by rw [I_len]; omega), if_pos trivial, Of_f a (by omega) (by omega), Option.bind_some, flip_sub, hv]
    rw [show ((crc 0#32 a).toNat : Int) = ((~~~ F (~~~ (0#32)) a).toNat : Int) from rfl, if_pos rfl]
    rw [show ((~~~ F (~~~ (0#32)) a).toNat : Int) = ((crc 0#32 a).toNat : Int) from rfl, hnil, On_f _ [] (by decide) (by simp; omega), Option.bind_some, crc_nil]
    simp
  | succ d ih =>
    intro n k v hn hk hv
    obtain ⟨m, rfl, hm⟩ := succ_of hk
    have h1 : n < a.length := by omega
    simp only [exerguelaw08_CrcSteps.l0]
    rw [if_pos (by rw [I_len]; omega), if_pos (by omega), rd_I h1, Step_f v _ (by omega), Option.bind_some, wr (by omega) (by omega)]
    rw [List.drop_eq_getElem_cons h1, F_cons] at hv
    exact ih (n + 1) m _ (by omega) (by omega) hv
theorem CrcSteps : exerguelaw08_CrcSteps.Pure := by
  intro l0 hm0 _ h0
  obtain ⟨a, rfl⟩ := I_of h0
  rw [I_len] at hm0
  refine ⟨5000, ?_⟩
  unfold exerguelaw08_CrcSteps.f
  rw [shown_f (by omega), Option.bind_some, I_len]
  by_cases hbig : (a.length : Int) > 2000
  · rw [if_pos hbig]
  rw [if_neg hbig]
  have hones : (4294967295 : Int) = (((~~~ (0#32) : BitVec 32).toNat : Nat) : Int) := by decide
  have hl := steps_l a (by omega) a.length 0 5000 (~~~ (0#32)) (by omega) (by omega)
  rw [hones]
  exact (hl rfl)
end Go.Proofs.Ythejhhklphjhmaa.Pure
