/- CrcTells, in plain Lean: a step, a checksum gone on, put and cut are as the document says; no condition. -/
import Derived.Test.YthejhhklphjhmaaQx15
import Derived.Test.YthejhhklphjhmaaSpec
namespace Go.Proofs.Ythejhhklphjhmaa.Pure
open Go.RowKit Go.Proofs.Ythejhhklphjhmaa.Spec Go.Proofs.Ythejhhklphjhmaa.Q Go.Proofs.YthejhhklphjhmaaW.PrintWords Go.Proofs.YthejhhklphjhmaaW.PrintLast

theorem four_word (q0 q1 q2 q3 : Y) (t : W) : (((((((q0.toNat : Int) % 4294967296) + ((((q1.toNat : Int) % 4294967296) * 256) % 4294967296)) % 4294967296) + ((((q2.toNat : Int) % 4294967296) * 65536) % 4294967296)) % 4294967296) + ((((q3.toNat : Int) % 4294967296) * 16777216) % 4294967296)) % 4294967296 = (t.toNat : Int) ↔ [q0, q1, q2, q3] = toldB t := by
  have h0 := q0.isLt
  have h1 := q1.isLt
  have h2 := q2.isLt
  have h3 := q3.isLt
  have ht := t.isLt
  have e : ([q0, q1, q2, q3] = toldB t) ↔ (q0.toNat = t.toNat % 256 ∧ q1.toNat = t.toNat / 256 % 256 ∧ q2.toNat = t.toNat / 65536 % 256 ∧ q3.toNat = t.toNat / 16777216 % 256) := by
    simp only [toldB, List.cons.injEq, and_true, ← BitVec.toNat_inj, BitVec.toNat_setWidth, BitVec.toNat_ushiftRight, Nat.shiftRight_eq_div_pow, Nat.reducePow]
  rw [e]
  constructor
  · intro h
    omega
  · rintro ⟨h4, h5, h6, h7⟩
    omega
theorem rCut_f {k : Nat} (l : List Y) (hl : l.length < 140737488000000) (hk : l.length + 8 < k) : exergueref08_Cut.f k (I l) = some (I (cut l).1, (cut l).2) := by
  unfold exergueref08_Cut.f cut
  rw [I_len]
  by_cases h4 : l.length < 4
  · rw [wr (by omega) (by omega), if_pos (by omega), if_pos h4]
    rfl
  · obtain ⟨n, hn⟩ : ∃ n, l.length = n + 4 := ⟨l.length - 4, by omega⟩
    have w0 : wrap64 ((l.length : Int) - 4) = (n : Int) := by rw [wr (by omega) (by omega)]; omega
    have w1 : wrap64 ((n : Int) + 1) = ((n + 1 : Nat) : Int) := by rw [wr (by omega) (by omega)]; omega
    have w2 : wrap64 ((n : Int) + 2) = ((n + 2 : Nat) : Int) := by rw [wr (by omega) (by omega)]; omega
    have w3 : wrap64 ((n : Int) + 3) = ((n + 3 : Nat) : Int) := by rw [wr (by omega) (by omega)]; omega
    have hn4 : l.length - 4 = n := by omega
    rw [if_neg h4, w0, if_neg (by omega), if_pos (by omega), if_pos (by omega), w1, if_pos (by omega), if_pos (by omega), w2, if_pos (by omega), if_pos (by omega), w3, if_pos (by omega), if_pos (by omega), if_pos (by omega), hn4, Int.toNat_natCast]
    have e1 : (I l).take n = I (l.take n) := by simp [I, List.map_take]
    have hd : l.drop n = [l[n]'(by omega), l[n + 1]'(by omega), l[n + 2]'(by omega), l[n + 3]'(by omega)] := by
      rw [List.drop_eq_getElem_cons (show n < l.length by omega), List.drop_eq_getElem_cons (show n + 1 < l.length by omega), List.drop_eq_getElem_cons (show n + 1 + 1 < l.length by omega), List.drop_eq_getElem_cons (show n + 1 + 1 + 1 < l.length by omega), List.drop_eq_nil_of_le (by omega)]
    rw [e1, rOf_f (l.take n) (by rw [List.length_take]; omega) (by rw [List.length_take]; omega), Option.bind_some, rd_I (show n < l.length by omega), rd_I (show n + 1 < l.length by omega), rd_I (show n + 2 < l.length by omega), rd_I (show n + 3 < l.length by omega), hd]
    by_cases h : [l[n]'(by omega), l[n + 1]'(by omega), l[n + 2]'(by omega), l[n + 3]'(by omega)] = toldB (crc 0#32 (l.take n))
    · rw [if_pos ((four_word _ _ _ _ _).2 h), if_pos h]
    · rw [if_neg (fun e => h ((four_word _ _ _ _ _).1 e)), if_neg h]
      rfl
theorem CrcTells : exerguelaw08_CrcTells.Pure := by
  intro a0 a1 l2 w0 w1 _ hm h2
  obtain ⟨v, rfl⟩ := W_of w0
  obtain ⟨c, rfl⟩ := Y_of w1
  obtain ⟨l, rfl⟩ := I_of h2
  rw [I_len, Nat.mul_one] at hm
  refine ⟨5000, ?_⟩
  unfold exerguelaw08_CrcTells.f
  rw [shown_f (by omega), Option.bind_some, I_len]
  by_cases hbig : (l.length : Int) > 2000
  · rw [if_pos hbig]
  have hput : (put l).length = l.length + 4 := by simp [put, toldB_len]
  have hcut : (cut l).1.length ≤ l.length := by
    unfold cut
    split
    · simp
    · split
      · simp
      · simp
  rw [if_neg hbig, Cut_f l (by omega) (by omega), Option.bind_some, rCut_f l (by omega) (by omega), Option.bind_some, if_pos rfl, Step_f v c (by omega), Option.bind_some, rStep_f v c (by omega), Option.bind_some, if_pos rfl,
    On_f v l (by omega) (by omega), Option.bind_some, rOn_f v l (by omega) (by omega), Option.bind_some, if_pos rfl, Of_f l (by omega) (by omega), Option.bind_some, rOf_f l (by omega) (by omega), Option.bind_some, if_pos rfl,
    Put_f l (by omega) (by omega), Option.bind_some, rPut_f l (by omega) (by omega), Option.bind_some, row_f (by rw [I_len]; omega) (by rw [I_len]; omega), Option.bind_some, if_pos (by simp)]
  show ((exergueref01_Row.f 5000 (I (cut l).1) (I (cut l).1)).bind fun t => if t = true then some ((cut l).2 == (cut l).2) else some false) = some true
  rw [row_f (by rw [I_len]; omega) (by rw [I_len]; omega), Option.bind_some, if_pos (by simp)]
  simp
end Go.Proofs.Ythejhhklphjhmaa.Pure
