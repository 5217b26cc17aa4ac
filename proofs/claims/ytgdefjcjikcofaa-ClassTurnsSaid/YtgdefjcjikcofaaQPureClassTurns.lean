/- ClassTurns, in plain Lean: a row without Bidi runes turns well; what opens and closes just one alone doesn't; an override never does; no condition. -/
import Derived.Test.YtgdefjcjikcofaaQx28
import Derived.Test.YtgdefjcjikcofaaSpecG
namespace Go.Proofs.Ytgdefjcjikcofaa.Pure
open Go.RowKit Go.Proofs.Ytgdefjcjikcofaa.Spec Go.Proofs.Ytgdefjcjikcofaa.Q Go.Proofs.YtgdefjcjikcofaaW.PrintWords Go.Proofs.YtgdefjcjikcofaaW.PrintLast
set_option linter.unusedVariables false
set_option linter.unusedSimpArgs false
theorem turns_l (l : List Int) (hl : l.length ≤ 500) (i r : Int) : ∀ (d n k : Nat) (b : Bool), n + d = l.length → d + 3000 < k → exerguelaw02_ClassTurns.l0 k l i r true b (n : Int) = exerguelaw02_ClassTurns.l0 (k - d) l i r true (b && !((l.drop n).any fun x => ofc x == 2)) (l.length : Int) := by
  intro d
  induction d with
  | zero =>
    intro n k b hn hk
    rw [List.drop_eq_nil_of_le (by omega), show n = l.length by omega]
    simp
  | succ d ih =>
    intro n k b hn hk
    obtain ⟨m, rfl, hm⟩ := succ_of hk
    have h1 : n < l.length := by omega
    have e1 : ((n + 1 : Nat) : Int) = (n : Int) + 1 := by omega
    conv => lhs; simp only [exerguelaw02_ClassTurns.l0]
    rw [if_pos (by omega), wr (show -9223372036854775808 ≤ (n : Int) + 1 by omega) (by omega), List.drop_eq_getElem_cons h1, List.any_cons, show m + 1 - (d + 1) = m - d by omega]
    cases b with
    | false =>
      rw [if_neg (by simp)]
      have := ih (n + 1) m false (by omega) (by omega)
      rw [e1] at this
      rw [this]
      rfl
    | true =>
      rw [if_pos rfl, if_pos (by omega), rd_at h1, Of_f _ (by omega), Option.bind_some]
      have := ih (n + 1) m (ofc l[n] != 2) (by omega) (by omega)
      rw [e1] at this
      rw [this]
      congr 1
      cases h : ofc l[n] == 2 <;> simp [bne, h]
theorem ClassTurns : exerguelaw02_ClassTurns.Pure := by
  intro l i r h0 h1 h2 h3 h4
  refine ⟨8000, ?_⟩
  unfold exerguelaw02_ClassTurns.f
  rw [shown_f (by omega), Option.bind_some]
  by_cases h : (l.length : Int) > 500
  · rw [if_pos h]
  rw [if_neg h]
  have hl : l.length ≤ 500 := by omega
  have hs := turns_l l hl i r l.length 0 8000 true (by omega) (by omega)
  have e0 : ((0 : Nat) : Int) = 0 := rfl
  rw [e0] at hs
  rw [hs, List.drop_zero, Bool.true_and]
  obtain ⟨k, hk, hk2⟩ : ∃ k, 8000 - l.length = k + 2 ∧ 7000 ≤ k := ⟨8000 - l.length - 2, by omega, by omega⟩
  rw [hk]
  clear hs hk
  simp only [exerguelaw02_ClassTurns.l0, exerguelaw02_ClassTurns.j1]
  rw [if_neg (by omega)]
  cases hb : (l.any fun x => ofc x == 2) with
  | true =>
    rw [if_neg (by simp), if_neg (by simp), if_neg (by simp)]
  | false =>
    have hno : ∀ x ∈ l, ofc x ≠ 2 := fun x hx he => by
      have := List.any_eq_false.1 hb x hx
      simp [he] at this
    rw [if_pos (by simp), Turns_f l (by omega) (by omega), Option.bind_some, tl_calm hno]
    rw [if_neg (by simp), if_pos (by simp)]
    by_cases q0 : i < 0
    · rw [if_pos q0]
    rw [if_neg q0]
    by_cases q1 : i > (l.length : Int)
    · rw [if_pos q1]
    rw [if_neg q1]
    simp only [Option.bind_some, List.nil_append, List.length_nil, List.length_append, List.length_cons]
    have lt : (l.take i.toNat).length ≤ l.length := List.length_take_le' _ _
    have ld : (l.drop i.toNat).length ≤ l.length := by rw [List.length_drop]; omega
    rw [if_pos (by omega), if_pos (by omega), if_pos (by omega), if_pos (by omega), if_pos (by omega), if_pos trivial]
    have lm : (l.take i.toNat ++ [r] ++ l.drop i.toNat).length ≤ 1001 := by
      rw [List.length_append, List.length_append, List.length_cons, List.length_nil]; omega
    rw [Turns_f _ (by omega) (by omega), tl_one r (fun x hx => hno x (List.mem_of_mem_take hx)) (fun x hx => hno x (List.mem_of_mem_drop hx))]
    simp only [Option.bind_some]
    repeat' split
    all_goals first | (exfalso; rename_i hx_; exact hx_ trivial) | (congr 1; rw [beq_iff_eq]; congr 1; first | exact decide_eq_true (by omega) | exact decide_eq_false (by omega)) | (congr 1; rw [beq_iff_eq]; congr 1; rw [decide_eq_decide]; omega)
end Go.Proofs.Ytgdefjcjikcofaa.Pure
