/- Turns and Calm, both sides, in plain Lean; rows as long as memory has room. -/
import Derived.Test.YtgdefjcjikcofaaSpecE
import Derived.Test.YtgdefjcjikcofaaQx12
import Derived.Test.YtgdefjcjikcofaaQx22
import Derived.Test.YtgdefjcjikcofaaQx23
namespace Go.Proofs.Ytgdefjcjikcofaa.Spec
open Go.RowKit Go.Proofs.Ytgdefjcjikcofaa.Mine Go.Proofs.Ytgdefjcjikcofaa.Q Go.Proofs.YtgdefjcjikcofaaW.PrintWords Go.Proofs.YtgdefjcjikcofaaW.PrintLast Go.Proofs.YtgdefjcjikcofaaW.PrintMore
set_option linter.unusedVariables false
set_option linter.unusedSimpArgs false
/-- does a row turn well, when so many are open? -/
def tl : Int → List Int → Bool
  | o, [] => o == 0
  | o, r :: l => if 8234 ≤ r ∧ r ≤ 8238 then false else if 8294 ≤ r ∧ r ≤ 8296 then tl (o + 1) l else if r = 8297 then (if o ≤ 0 then false else tl (o - 1) l) else tl o l
theorem Turns_l (l : List Int) (hl : l.length < 140737488355328) : ∀ (d n k : Nat) (o : Int), n + d = l.length → 0 ≤ o → o ≤ n → 3 * d < k → class_Turns.l0 k o l (l.length : Int) (n : Int) = some (tl o (l.drop n)) := by
  intro d
  induction d with
  | zero =>
    intro n k o hn h0 h1 hk
    obtain ⟨m, rfl, _⟩ := succ_of hk
    simp only [class_Turns.l0]
    rw [if_neg (by omega), List.drop_eq_nil_of_le (by omega)]
    rfl
  | succ d ih =>
    intro n k o hn h0 h1 hk
    obtain ⟨m, rfl⟩ : ∃ m, k = m + 3 := ⟨k - 3, by omega⟩
    have hlt : n < l.length := by omega
    simp only [class_Turns.l0, class_Turns.j1, class_Turns.j2]
    rw [if_pos (by omega), if_pos (by omega), if_pos (by omega), rd_at hlt, List.drop_eq_getElem_cons hlt, tl, wr (show -9223372036854775808 ≤ (n : Int) + 1 by omega) (by omega), wr (show -9223372036854775808 ≤ o + 1 by omega) (by omega), wr (show -9223372036854775808 ≤ o - 1 by omega) (by omega)]
    have i0 := ih (n + 1) m o (by omega) h0 (by omega) (by omega)
    have i1 := ih (n + 1) m (o + 1) (by omega) (by omega) (by omega) (by omega)
    have i2 := fun h => ih (n + 1) m (o - 1) (by omega) h (by omega) (by omega)
    have e1 : ((n + 1 : Nat) : Int) = (n : Int) + 1 := by omega
    rw [e1] at i0 i1
    simp only [e1] at i2
    generalize l[n] = r at *
    by_cases c1 : 8234 ≤ r ∧ r ≤ 8238
    · rw [if_pos (show r ≥ 8234 from c1.1), if_pos c1, decide_eq_true c1.2, if_pos rfl]
    · rw [if_neg c1]
      by_cases c2 : 8294 ≤ r ∧ r ≤ 8296
      · rw [if_pos (show r ≥ 8234 by omega), if_neg (by simp; omega), if_pos (show r ≥ 8294 by omega), if_pos (by simp; omega), if_neg (by omega), i1, if_pos c2]
      · rw [if_neg c2]
        by_cases c3 : r = 8297
        · subst c3
          rw [if_pos (by omega), if_neg (by simp), if_pos (by omega), if_neg (by simp), if_pos rfl, if_pos rfl]
          by_cases c4 : o ≤ 0
          · rw [if_pos (by omega), if_pos c4]
          · rw [if_neg (by omega), if_neg c4, i2 (by omega)]
        · rw [if_neg c3, if_neg (show ¬ o < 0 by omega), if_neg (show ¬ o + 1 < 0 by omega)]
          rw [i0]
          have e3 : ¬ ((decide (r ≤ 8296)) = true) ∨ ¬ r ≥ 8294 := by
            by_cases q : r ≥ 8294
            · left; simp; omega
            · exact .inr q
          by_cases q1 : r ≥ 8234
          · rw [if_pos q1, if_neg (by simp; omega)]
            by_cases q2 : r ≥ 8294
            · rw [if_pos q2, if_neg (by simp; omega), if_neg c3]
            · rw [if_neg q2, if_neg (by simp), if_neg c3]
          · rw [if_neg q1, if_neg (by simp), if_neg (show ¬ r ≥ 8294 by omega), if_neg (by simp), if_neg c3]
theorem Turns_f {k : Nat} (l : List Int) (hl : l.length < 140737488355328) (hk : 3 * l.length < k) : class_Turns.f k l = some (tl 0 l) := Turns_l l hl l.length 0 k 0 (by omega) (by omega) (by omega) hk
theorem rTurns_l (l : List Int) (hl : l.length < 140737488355328) (hr : ∀ x ∈ l, -2147483648 ≤ x ∧ x < 2147483648) : ∀ (d n k : Nat) (o : Int), n + d = l.length → 0 ≤ o → o ≤ n → 4 * d < k → exergueref02_Turns.l0 k l o (n : Int) = some (tl o (l.drop n)) := by
  intro d
  induction d with
  | zero =>
    intro n k o hn h0 h1 hk
    obtain ⟨m, rfl, _⟩ := succ_of hk
    simp only [exergueref02_Turns.l0]
    rw [if_neg (by omega), List.drop_eq_nil_of_le (by omega)]
    rfl
  | succ d ih =>
    intro n k o hn h0 h1 hk
    obtain ⟨m, rfl⟩ : ∃ m, k = m + 4 := ⟨k - 4, by omega⟩
    have hlt : n < l.length := by omega
    have hx := hr l[n] (List.getElem_mem hlt)
    simp only [exergueref02_Turns.l0, exergueref02_Turns.j1, exergueref02_Turns.j2, exergueref02_Turns.j3]
    rw [if_pos (by omega), if_pos (by omega), rd_at hlt, List.drop_eq_getElem_cons hlt, tl, wr (show -9223372036854775808 ≤ (n : Int) + 1 by omega) (by omega), wr (show -9223372036854775808 ≤ o + 1 by omega) (by omega), wr (show -9223372036854775808 ≤ o - 1 by omega) (by omega), wr (show -9223372036854775808 ≤ l[n] by omega) (by omega), wr (show -9223372036854775808 ≤ o + 1 - 1 by omega) (by omega)]
    have i0 := ih (n + 1) m o (by omega) h0 (by omega) (by omega)
    have i1 := ih (n + 1) m (o + 1) (by omega) (by omega) (by omega) (by omega)
    have i2 := fun h => ih (n + 1) m (o - 1) (by omega) h (by omega) (by omega)
    have e1 : ((n + 1 : Nat) : Int) = (n : Int) + 1 := by omega
    rw [e1] at i0 i1
    simp only [e1] at i2
    generalize l[n] = r at *
    by_cases c1 : 8234 ≤ r ∧ r ≤ 8238
    · rw [if_pos (show r ≥ 8234 from c1.1), if_pos c1, decide_eq_true c1.2, if_pos rfl]
    · rw [if_neg c1]
      by_cases c2 : 8294 ≤ r ∧ r ≤ 8296
      · rw [if_pos (show r ≥ 8234 by omega), if_neg (by simp; omega), if_pos (show r ≥ 8294 by omega), if_pos (by simp; omega), if_neg (by omega), i1, if_pos c2]
      · rw [if_neg c2]
        by_cases c3 : r = 8297
        · subst c3
          rw [if_pos (by omega), if_neg (by simp), if_pos (by omega), if_neg (by simp), if_pos rfl, if_pos rfl]
          by_cases c4 : o ≤ 0
          · rw [if_pos (by omega), if_pos c4]
          · rw [if_neg (by omega), if_neg c4, i2 (by omega)]
        · rw [if_neg c3]
          by_cases q1 : r ≥ 8234
          · rw [if_pos q1, if_neg (by simp; omega)]
            by_cases q2 : r ≥ 8294
            · rw [if_pos q2, if_neg (by simp; omega), if_neg c3, i0]; try rw [if_neg c3]
            · rw [if_neg q2, if_neg (by simp), if_neg c3, i0]; try rw [if_neg c3]
          · rw [if_neg q1, if_neg (by simp), if_neg (show ¬ r ≥ 8294 by omega), if_neg (by simp), if_neg c3, i0]; try rw [if_neg c3]
theorem rTurns_f {k : Nat} (l : List Int) (hl : l.length < 140737488355328) (hr : ∀ x ∈ l, -2147483648 ≤ x ∧ x < 2147483648) (hk : 4 * l.length < k) : exergueref02_Turns.f k l = some (tl 0 l) := rTurns_l l hl hr l.length 0 k 0 (by omega) (by omega) (by omega) hk
theorem rCalm_l (l : List Int) (hl : l.length < 140737488355328) (hr : ∀ x ∈ l, -2147483648 ≤ x ∧ x < 2147483648) : ∀ (d n k : Nat), n + d = l.length → d + 261 < k → exergueref02_Calm.l0 k l (n : Int) = some (!((l.drop n).any fun r => odd (ofc r))) := by
  intro d
  induction d with
  | zero =>
    intro n k hn hk
    obtain ⟨m, rfl, _⟩ := succ_of hk
    simp only [exergueref02_Calm.l0]
    rw [if_neg (by omega), List.drop_eq_nil_of_le (by omega)]
    rfl
  | succ d ih =>
    intro n k hn hk
    obtain ⟨m, rfl, hm⟩ := succ_of hk
    have h1 : n < l.length := by omega
    have hx := hr l[n] (List.getElem_mem h1)
    simp only [exergueref02_Calm.l0]
    rw [if_pos (by omega), if_pos (by omega), rd_at h1, rOf_f _ hx (by omega), Option.bind_some, List.drop_eq_getElem_cons h1, List.any_cons, wr (by omega) (by omega)]
    have hi := ih (n + 1) m (by omega) (by omega)
    have e1 : ((n + 1 : Nat) : Int) = (n : Int) + 1 := by omega
    rw [e1] at hi
    rw [hi]
    generalize ofc l[n] = c
    by_cases c1 : c = 1
    · subst c1; rfl
    by_cases c3 : c = 3
    · subst c3; rfl
    by_cases c6 : c = 6
    · subst c6; rfl
    rw [if_neg c1, if_neg c3, if_neg c6, show odd c = false by simp [odd, c1, c3, c6], Bool.false_or]
theorem rCalm_f {k : Nat} (l : List Int) (hl : l.length < 140737488355328) (hr : ∀ x ∈ l, -2147483648 ≤ x ∧ x < 2147483648) (hk : l.length + 261 < k) : exergueref02_Calm.f k l = some (!(l.any fun r => odd (ofc r))) := rCalm_l l hl hr l.length 0 k (by omega) hk
theorem i32_of {x : Int} (h : (Lit.int .i32 x).wf = true) : -2147483648 ≤ x ∧ x < 2147483648 := by
  simp [Lit.wf, IntKind.min, IntKind.max, IntKind.signed, IntKind.bits] at h
  omega
end Go.Proofs.Ytgdefjcjikcofaa.Spec
