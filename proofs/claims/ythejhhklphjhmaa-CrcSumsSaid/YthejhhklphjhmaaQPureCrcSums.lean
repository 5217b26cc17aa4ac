/- CrcSums, in plain Lean: the checksum of an exclusive-or, with those of both, is that of as many noughts; no condition. -/
import Derived.Test.YthejhhklphjhmaaQx18
import Derived.Test.YthejhhklphjhmaaSpec
namespace Go.Proofs.Ythejhhklphjhmaa.Pure
open Go.RowKit Go.Proofs.Ythejhhklphjhmaa.Spec Go.Proofs.Ythejhhklphjhmaa.Q Go.Proofs.YthejhhklphjhmaaW.PrintWords Go.Proofs.YthejhhklphjhmaaW.PrintLast

theorem sums (a b : List Y) (h : a.length = b.length) : crc 0#32 (xs a b) ^^^ crc 0#32 a ^^^ crc 0#32 b = crc 0#32 (zeros a.length) := by
  have hxl : (xs a b).length = a.length := by simp [xs, h]
  have h1 : F (~~~ (0#32)) (xs a b) = F 0#32 (xs a b) ^^^ F (~~~ (0#32)) (zeros a.length) := by
    have e : xs (xs a b) (zeros a.length) = xs a b := by
      unfold xs zeros
      apply List.ext_getElem
      · simp [h]
      · intro i h1 h2
        simp
    have := F_xor (xs a b) (zeros a.length) 0#32 (~~~ (0#32)) (by rw [hxl]; simp [zeros])
    rw [e, BitVec.zero_xor] at this
    exact this
  have h2 : F 0#32 (xs a b) = F (~~~ (0#32)) a ^^^ F (~~~ (0#32)) b := by
    have := F_xor a b (~~~ (0#32)) (~~~ (0#32)) h
    rw [BitVec.xor_self] at this
    exact this
  have hn : ∀ x : W, ~~~ x = x ^^^ ~~~ (0#32) := fun x => by
    rw [show (~~~ (0#32) : W) = BitVec.allOnes 32 from rfl, BitVec.xor_allOnes]
  unfold crc
  rw [h1, h2]
  generalize F (~~~ (0#32)) a = p
  generalize F (~~~ (0#32)) b = q
  generalize F (~~~ (0#32)) (zeros a.length) = z
  rw [hn (p ^^^ q ^^^ z), hn p, hn q, hn z]
  generalize (~~~ (0#32) : W) = o
  have hx : ∀ x : W, x ^^^ x = 0#32 := fun x => BitVec.xor_self
  calc p ^^^ q ^^^ z ^^^ o ^^^ (p ^^^ o) ^^^ (q ^^^ o) = (p ^^^ p) ^^^ (q ^^^ q) ^^^ (o ^^^ o) ^^^ (z ^^^ o) := by ac_rfl
    _ = z ^^^ o := by rw [hx, hx, hx]; simp
theorem sums_l (a b : List Y) (hab : a.length = b.length) (hl : a.length ≤ 2000) : ∀ (d n k : Nat) (c : List Y), n + d = a.length → d + 2500 < k → c.length = a.length → c.take n = (xs a b).take n → c.drop n = (zeros a.length).drop n →
    exerguelaw08_CrcSums.l0 k (I a) (I b) true (I c) (n : Int) = some true := by
  intro d
  have hxl : (xs a b).length = a.length := by simp [xs, hab]
  induction d with
  | zero =>
    intro n k c hn hk hc ht _
    obtain ⟨m, rfl, _⟩ := succ_of hk
    obtain rfl : n = a.length := by omega
    rw [List.take_of_length_le (by omega), List.take_of_length_le (by omega)] at ht
    subst ht
    simp only [exerguelaw08_CrcSums.l0]
    have hz : List.replicate a.length (0 : Int) = I (zeros a.length) := by simp [I, zeros]
    rw [I_len, if_neg (by omega), if_pos trivial, Of_f (xs a b) (by omega) (by omega), Option.bind_some, Of_f a (by omega) (by omega), Option.bind_some, Of_f b (by omega) (by omega), Option.bind_some,
      if_pos (by omega), if_pos (by omega), Int.toNat_natCast, hz, Of_f _ (by simp [zeros]; omega) (by simp [zeros]; omega), Option.bind_some, bx, bx, sums a b hab]
    simp
  | succ d ih =>
    intro n k c hn hk hc ht hd
    obtain ⟨m, rfl, hm⟩ := succ_of hk
    have h1 : n < a.length := by omega
    have h2 : n < b.length := by omega
    simp only [exerguelaw08_CrcSums.l0]
    rw [I_len, I_len, I_len, if_pos (by omega), if_pos (by omega), if_pos (by omega), if_pos (by omega), rd_I h1, rd_I h2, bx8, Int.toNat_natCast, wr (by omega) (by omega)]
    have hset : (I c).set n ((a[n] ^^^ b[n]).toNat : Int) = I (c.set n (a[n] ^^^ b[n])) := by simp [I, List.map_set]
    rw [hset]
    refine ih (n + 1) m _ (by omega) (by omega) (by simpa using hc) ?_ ?_
    · rw [List.take_succ_eq_append_getElem (by rw [List.length_set]; omega), List.take_succ_eq_append_getElem (by omega), List.take_set_of_le (Nat.le_refl _), ht]
      congr 1
      simp [xs]
    · rw [List.drop_set_of_lt (by omega)]
      have := congrArg (List.drop 1) hd
      simpa [List.drop_drop, Nat.add_comm] using this
theorem CrcSums : exerguelaw08_CrcSums.Pure := by
  intro l0 l1 hm0 _ h0 hm1 _ h1
  obtain ⟨a, rfl⟩ := I_of h0
  obtain ⟨b, rfl⟩ := I_of h1
  refine ⟨8000, ?_⟩
  unfold exerguelaw08_CrcSums.f
  rw [shown_f (by omega), Option.bind_some, I_len, I_len]
  by_cases hbig : (a.length : Int) > 2000
  · rw [if_pos hbig]
    rfl
  rw [if_neg hbig]
  by_cases hab : a.length = b.length
  · have e : ((a.length : Int) != (b.length : Int)) = false := by rw [hab]; simp
    rw [e]
    simp only [exerguelaw08_CrcSums.j0]
    rw [if_neg (by simp), if_pos (by omega), I_len, if_pos (by omega), Int.toNat_natCast]
    have hz : List.replicate a.length (0 : Int) = I (zeros a.length) := by simp [I, zeros]
    rw [hz]
    exact sums_l a b hab (by omega) a.length 0 7999 (zeros a.length) (by omega) (by omega) (by simp [zeros]) (by simp) (by simp)
  · have e : ((a.length : Int) != (b.length : Int)) = true := by rw [bne_iff_ne]; omega
    rw [e]
    rfl
end Go.Proofs.Ythejhhklphjhmaa.Pure
