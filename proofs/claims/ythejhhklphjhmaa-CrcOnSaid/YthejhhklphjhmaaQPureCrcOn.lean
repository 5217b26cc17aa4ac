/- CrcOn, in plain Lean: a checksum gone on is that of both; what is put is cut again; no condition. -/
import Derived.Test.YthejhhklphjhmaaQx16
import Derived.Test.YthejhhklphjhmaaSpec
namespace Go.Proofs.Ythejhhklphjhmaa.Pure
open Go.RowKit Go.Proofs.Ythejhhklphjhmaa.Spec Go.Proofs.Ythejhhklphjhmaa.Q Go.Proofs.YthejhhklphjhmaaW.PrintWords Go.Proofs.YthejhhklphjhmaaW.PrintLast

theorem CrcOn : exerguelaw08_CrcOn.Pure := by
  intro l0 l1 _ hm0 h0 _ hm1 h1
  obtain ⟨a, rfl⟩ := I_of h0
  obtain ⟨b, rfl⟩ := I_of h1
  rw [I_len, Nat.mul_one] at hm0 hm1
  refine ⟨5000, ?_⟩
  unfold exerguelaw08_CrcOn.f
  rw [shown_f (by omega), Option.bind_some, I_len, I_len, wr (by omega) (by omega)]
  by_cases hbig : (a.length : Int) + (b.length : Int) > 2000
  · rw [if_pos hbig]
  rw [if_neg hbig, Option.bind_some, if_pos (by rw [List.length_nil]; omega), Option.bind_some, if_pos (by rw [List.nil_append, I_len]; omega), Put_f a (by omega) (by omega), Option.bind_some]
  have hput : (put a).length = a.length + 4 := by simp [put, toldB_len]
  rw [Cut_f (put a) (by omega) (by omega), Option.bind_some, if_pos rfl, Of_f a (by omega) (by omega), Option.bind_some, On_f _ b (by omega) (by omega), Option.bind_some, List.nil_append, ← I_append,
    Of_f (a ++ b) (by rw [List.length_append]; omega) (by rw [List.length_append]; omega), Option.bind_some]
  have hj : crc (crc 0#32 a) b = crc 0#32 (a ++ b) := by
    unfold crc
    rw [BitVec.not_not, F_append]
  have h00 : (0 : Int) = ((0#32).toNat : Int) := rfl
  have hcut : cut (put a) = (a, 0) := cut_put a
  rw [hj, if_pos rfl, h00, On_f _ a (by omega) (by omega), Option.bind_some, On_f _ b (by omega) (by omega), Option.bind_some, hj, if_pos rfl, hcut]
  show (if (0 : Int) = 0 then (exergueref01_Row.f 5000 (I a) (I a)).bind fun t180 => some t180 else some false) = some true
  rw [if_pos rfl, row_f (by rw [I_len]; omega) (by rw [I_len]; omega)]
  simp
end Go.Proofs.Ythejhhklphjhmaa.Pure
