/- What the functions of class and of its reference come to, in plain Lean. -/
import Derived.Test.YtgdefjcjikcofaaQx1
import Derived.Test.YtgdefjcjikcofaaQx14
import Derived.Test.YtgdefjcjikcofaaQx15
import Derived.Test.YtgdefjcjikcofaaQx2
import Derived.Test.YtgdefjcjikcofaaQx20
import Derived.Test.YtgdefjcjikcofaaQx6
import Derived.Test.YtgdefjcjikcofaaQx7
import Derived.Test.YtgdefjcjikcofaaQx8
namespace Go.Proofs.Ytgdefjcjikcofaa.Spec
open Go.RowKit Go.Proofs.Ytgdefjcjikcofaa.Mine Go.Proofs.Ytgdefjcjikcofaa.Q Go.Proofs.YtgdefjcjikcofaaW.PrintWords Go.Proofs.YtgdefjcjikcofaaW.PrintLast Go.Proofs.YtgdefjcjikcofaaW.PrintMore
set_option linter.unusedVariables false
set_option linter.unusedSimpArgs false
theorem wr {x : Int} (h : -9223372036854775808 ≤ x) (h2 : x < 9223372036854775808) : wrap64 x = x := by unfold wrap64; omega
theorem wr32 {x : Int} (h : -2147483648 ≤ x) (h2 : x < 2147483648) : wrap32 x = x := by unfold wrap32; omega
theorem succ_of {k b : Nat} (h : b < k) : ∃ m, k = m + 1 ∧ b ≤ m := ⟨k - 1, by omega, by omega⟩
theorem rd_at {a : List Int} {n : Nat} (h : n < a.length) : rd a (n : Int) = a[n] := by simp [rd, List.getD_eq_getElem?_getD, h]
def NO : List Int := [48, 1632, 1776, 1984, 2406, 2534, 2662, 2790, 2918, 3046, 3174, 3302, 3430, 3664, 3792, 3872, 6112, 6160, 65296, 120782]
theorem NO_le : ∀ z ∈ NO, 0 ≤ z ∧ z ≤ 200000 := by decide
/-- what a digit is worth, told from a row of noughts -/
def val (r : Int) : List Int → Int × Bool
  | [] => (0, false)
  | z :: l => if z ≤ r ∧ r < z + 10 then (r - z, true) else val r l
theorem Value_l (r : Int) : ∀ (d n k : Nat), n + d = 20 → d < k → class_Value.l0 k r NO 20 (n : Int) = some (val r (NO.drop n)) := by
  intro d
  have hlen : NO.length = 20 := rfl
  induction d with
  | zero =>
    intro n k hn hk
    obtain ⟨m, rfl, _⟩ := succ_of hk
    simp only [class_Value.l0]
    rw [if_neg (by omega), List.drop_eq_nil_of_le (by omega)]
    rfl
  | succ d ih =>
    intro n k hn hk
    obtain ⟨m, rfl, hm⟩ := succ_of hk
    have h1 : n < NO.length := by omega
    have hz := NO_le NO[n] (List.getElem_mem h1)
    simp only [class_Value.l0]
    rw [if_pos (by omega), if_pos (by omega), if_pos (by omega), rd_at h1, List.drop_eq_getElem_cons h1, val]
    have hi := ih (n + 1) m (by omega) (by omega)
    rw [wr (show -9223372036854775808 ≤ (n : Int) + 1 by omega) (by omega)]
    by_cases q1 : r ≥ NO[n]
    · rw [if_pos q1, wr32 (by omega) (by omega)]
      by_cases q2 : r < NO[n] + 10
      · rw [if_pos q2, if_pos ⟨q1, q2⟩, wr32 (by omega) (by omega), wr (by omega) (by omega)]
      · rw [if_neg q2, if_neg (fun h => q2 h.2)]
        exact hi
    · rw [if_neg q1, if_neg (fun h => q1 h.1)]
      exact hi
theorem Value_f {k : Nat} (r : Int) (hk : 20 < k) : class_Value.f k r = some (val r NO) := by
  unfold class_Value.f class_noughts.f
  exact Value_l r 20 0 k (by omega) hk
theorem Index_l (r : Int) : ∀ (d n k : Nat), n + d = 20 → d < k → ∃ i, slices_Index_rune_rune.l0 k NO r 20 (n : Int) = some i ∧ (decide (i ≥ 0) = decide (r ∈ NO.drop n)) := by
  intro d
  have hlen : NO.length = 20 := rfl
  induction d with
  | zero =>
    intro n k hn hk
    obtain ⟨m, rfl, _⟩ := succ_of hk
    simp only [slices_Index_rune_rune.l0]
    rw [if_neg (by omega), List.drop_eq_nil_of_le (by omega)]
    exact ⟨_, rfl, by simp⟩
  | succ d ih =>
    intro n k hn hk
    obtain ⟨m, rfl, hm⟩ := succ_of hk
    have h1 : n < NO.length := by omega
    simp only [slices_Index_rune_rune.l0]
    rw [if_pos (by omega), if_pos (by omega), if_pos (by omega), rd_at h1, List.drop_eq_getElem_cons h1, wr (show -9223372036854775808 ≤ (n : Int) + 1 by omega) (by omega)]
    by_cases q : r = NO[n]
    · rw [if_pos q]
      refine ⟨_, rfl, ?_⟩
      rw [decide_eq_true (show (n : Int) ≥ 0 by omega), decide_eq_true (by rw [q]; exact List.mem_cons_self)]
    · rw [if_neg q]
      obtain ⟨i, hi, he⟩ := ih (n + 1) m (by omega) (by omega)
      refine ⟨i, hi, he.trans ?_⟩
      rw [decide_eq_decide, List.mem_cons]
      exact ⟨.inr, fun h => h.resolve_left q⟩
theorem Zero_f {k : Nat} (r : Int) (hk : 20 < k) : class_Zero.f k r = some (decide (r ∈ NO)) := by
  unfold class_Zero.f class_noughts.f slices_Contains_rune_rune.f slices_Index_rune_rune.f
  obtain ⟨i, hi, he⟩ := Index_l r 20 0 k (by omega) hk
  have h0 : slices_Index_rune_rune.l0 k NO r 20 0 = some i := hi
  show (((slices_Index_rune_rune.l0 k NO r 20 0).bind fun t => some (decide (t ≥ 0))).bind fun t => some t) = _
  rw [h0, Option.bind_some, Option.bind_some, he]
  rfl
theorem rValue_l (r : Int) (hr : -2147483648 ≤ r ∧ r < 2147483648) : ∀ (d n k : Nat), n + d = 20 → 12 * d + 1 < k → exergueref02_Value.l0 k r NO (n : Int) = some (val r (NO.drop n)) := by
  intro d
  have hlen : NO.length = 20 := rfl
  induction d with
  | zero =>
    intro n k hn hk
    obtain ⟨m, rfl, _⟩ := succ_of hk
    simp only [exergueref02_Value.l0]
    rw [if_neg (by omega), List.drop_eq_nil_of_le (by omega)]
    rfl
  | succ d ih =>
    intro n k hn hk
    obtain ⟨m, rfl, hm⟩ := succ_of (b := 12 * d + 13) (k := k) (by omega)
    have h1 : n < NO.length := by omega
    have hz := NO_le NO[n] (List.getElem_mem h1)
    have inner : ∀ (e j k : Nat), j + e = 10 → e + 12 * d + 2 < k → exergueref02_Value.l1 k r NO (n : Int) (j : Int) = some (if NO[n] + j ≤ r ∧ r < NO[n] + 10 then (r - NO[n], true) else val r (NO.drop (n + 1))) := by
      intro e
      induction e with
      | zero =>
        intro j k hj hk
        obtain ⟨m, rfl, hm⟩ := succ_of (b := 12 * d + 2) (k := k) (by omega)
        simp only [exergueref02_Value.l1]
        rw [if_neg (by omega), wr (by omega) (by omega), if_neg (by omega)]
        exact ih (n + 1) m (by omega) (by omega)
      | succ e ih2 =>
        intro j k hj hk
        obtain ⟨m, rfl, hm⟩ := succ_of (b := e + 12 * d + 3) (k := k) (by omega)
        simp only [exergueref02_Value.l1]
        rw [if_pos (by omega), if_pos (by omega), if_pos (by omega), rd_at h1, wr (show -9223372036854775808 ≤ NO[n] by omega) (by omega), wr (show -9223372036854775808 ≤ NO[n] + (j : Int) by omega) (by omega), wr (show -9223372036854775808 ≤ r by omega) (by omega), wr (show -9223372036854775808 ≤ (j : Int) + 1 by omega) (by omega)]
        by_cases q : NO[n] + (j : Int) = r
        · rw [if_pos q, if_pos (by omega)]
          congr 2
          omega
        · rw [if_neg q]
          have h2 := ih2 (j + 1) m (by omega) (by omega)
          have e1 : ((j + 1 : Nat) : Int) = (j : Int) + 1 := by omega
          rw [e1] at h2
          rw [h2]
          by_cases q2 : NO[n] + ((j : Int) + 1) ≤ r ∧ r < NO[n] + 10
          · rw [if_pos q2, if_pos (by omega)]
          · rw [if_neg q2, if_neg (by omega)]
    simp only [exergueref02_Value.l0]
    rw [if_pos (by omega), List.drop_eq_getElem_cons h1, val]
    have h0 := inner 10 0 m (by omega) (by omega)
    have e0 : ((0 : Nat) : Int) = 0 := rfl
    rw [e0] at h0
    rw [h0]
    by_cases q : NO[n] ≤ r ∧ r < NO[n] + 10
    · rw [if_pos q, if_pos (by omega)]
    · rw [if_neg q, if_neg (by omega)]
theorem rValue_f {k : Nat} (r : Int) (hr : -2147483648 ≤ r ∧ r < 2147483648) (hk : 250 < k) : exergueref02_Value.f k r = some (val r NO) := by
  unfold exergueref02_Value.f exergueref02_noughts.f
  exact rValue_l r hr 20 0 k (by omega) (by omega)
theorem rZero_l (r : Int) : ∀ (d n k : Nat), n + d = 20 → d < k → exergueref02_Zero.l0 k r NO (n : Int) = some (decide (r ∈ NO.drop n)) := by
  intro d
  have hlen : NO.length = 20 := rfl
  induction d with
  | zero =>
    intro n k hn hk
    obtain ⟨m, rfl, _⟩ := succ_of hk
    simp only [exergueref02_Zero.l0]
    rw [if_neg (by omega), List.drop_eq_nil_of_le (by omega)]
    rfl
  | succ d ih =>
    intro n k hn hk
    obtain ⟨m, rfl, hm⟩ := succ_of hk
    have h1 : n < NO.length := by omega
    simp only [exergueref02_Zero.l0]
    rw [if_pos (by omega), if_pos (by omega), rd_at h1, List.drop_eq_getElem_cons h1, wr (show -9223372036854775808 ≤ (n : Int) + 1 by omega) (by omega)]
    by_cases q : NO[n] = r
    · rw [if_pos q, decide_eq_true (by rw [q]; exact List.mem_cons_self)]
    · rw [if_neg q]
      refine (ih (n + 1) m (by omega) (by omega)).trans ?_
      congr 1
      rw [decide_eq_decide, List.mem_cons]
      exact ⟨.inr, fun h => h.resolve_left (fun e => q e.symm)⟩
theorem rZero_f {k : Nat} (r : Int) (hk : 20 < k) : exergueref02_Zero.f k r = some (decide (r ∈ NO)) := by
  unfold exergueref02_Zero.f exergueref02_noughts.f
  exact rZero_l r 20 0 k (by omega) hk
end Go.Proofs.Ytgdefjcjikcofaa.Spec
