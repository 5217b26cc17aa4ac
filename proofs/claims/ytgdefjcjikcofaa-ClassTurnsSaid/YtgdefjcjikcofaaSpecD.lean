/- The reference tells the same class, in plain Lean; no condition but that the number is one of 32 bits. -/
import Derived.Test.YtgdefjcjikcofaaSpecC
namespace Go.Proofs.Ytgdefjcjikcofaa.Spec
open Go.RowKit Go.Proofs.Ytgdefjcjikcofaa.Mine Go.Proofs.Ytgdefjcjikcofaa.Q Go.Proofs.YtgdefjcjikcofaaW.PrintWords Go.Proofs.YtgdefjcjikcofaaW.PrintLast Go.Proofs.YtgdefjcjikcofaaW.PrintMore
set_option linter.unusedVariables false
set_option linter.unusedSimpArgs false
set_option maxHeartbeats 2000000 in
theorem rOf_f {k : Nat} (r : Int) (hr : -2147483648 ≤ r ∧ r < 2147483648) (hk : 260 < k) : exergueref02_Of.f k r = some (ofc r) := by
  obtain ⟨m, rfl⟩ : ∃ m, k = m + 2 := ⟨k - 2, by omega⟩
  unfold exergueref02_Of.f ofc
  rw [ris_f r hr, Option.bind_some, wr (by omega) (by omega), turn_f, Option.bind_some, blank_f, Option.bind_some, rValue_f r hr (by omega), Option.bind_some, cls_is]
  by_cases h : isr r = true
  · rw [if_pos h, if_pos h]
    have hi : 0 ≤ r ∧ r ≤ 1114111 := by simp [isr] at h; omega
    have ht : Int.tmod r 65536 = r % 65536 := Int.tmod_eq_emod_of_nonneg (by omega)
    simp only [exergueref02_Of.j0, exergueref02_Of.j1, ht, decide_eq_true_eq]
    clear h ht
    by_cases c1 : (0 ≤ r ∧ r ≤ 31) ∨ (127 ≤ r ∧ r ≤ 159)
    · rw [if_pos c1]
      by_cases d1 : r < 32
      · rw [if_pos d1, if_pos trivial]
      · rw [if_neg d1, if_pos (show r ≥ 127 by omega), if_pos (show r ≤ 159 by omega)]
    · rw [if_neg c1, if_neg (show ¬ r < 32 by omega)]
      by_cases d1 : r ≥ 127
      · rw [if_pos d1, if_neg (show ¬ r ≤ 159 by omega)]
        by_cases c2 : (1564 ≤ r ∧ r ≤ 1564) ∨ (8206 ≤ r ∧ r ≤ 8207) ∨ (8234 ≤ r ∧ r ≤ 8238) ∨ (8294 ≤ r ∧ r ≤ 8297)
        · rw [if_pos c2, if_pos c2]
        · rw [if_neg c2, if_neg c2]
          by_cases c3 : 64976 ≤ r ∧ r ≤ 65007
          · rw [if_pos (show r ≥ 64976 from c3.1), if_pos c3.2, if_pos trivial, if_pos c3]
          · rw [if_neg c3]
            by_cases e1 : r ≥ 64976
            · rw [if_pos e1, if_neg (show ¬ r ≤ 65007 by omega)]
              by_cases c4 : (32 ≤ r ∧ r ≤ 32) ∨ (160 ≤ r ∧ r ≤ 160) ∨ (5760 ≤ r ∧ r ≤ 5760) ∨ (8192 ≤ r ∧ r ≤ 8202) ∨ (8232 ≤ r ∧ r ≤ 8233) ∨ (8239 ≤ r ∧ r ≤ 8239) ∨ (8287 ≤ r ∧ r ≤ 8287) ∨ (12288 ≤ r ∧ r ≤ 12288)
              · rw [if_pos c4, if_pos c4, if_neg (show ¬ r % 65536 ≥ 65534 by omega)]
              · rw [if_neg c4, if_neg c4]
                dsimp only
                by_cases c5 : r % 65536 ≥ 65534
                · rw [if_pos c5, if_pos c5]
                · rw [if_neg c5, if_neg c5]
                  split <;> rfl
            · rw [if_neg e1]
              by_cases c4 : (32 ≤ r ∧ r ≤ 32) ∨ (160 ≤ r ∧ r ≤ 160) ∨ (5760 ≤ r ∧ r ≤ 5760) ∨ (8192 ≤ r ∧ r ≤ 8202) ∨ (8232 ≤ r ∧ r ≤ 8233) ∨ (8239 ≤ r ∧ r ≤ 8239) ∨ (8287 ≤ r ∧ r ≤ 8287) ∨ (12288 ≤ r ∧ r ≤ 12288)
              · rw [if_pos c4, if_pos c4, if_neg (show ¬ r % 65536 ≥ 65534 by omega)]
              · rw [if_neg c4, if_neg c4]
                dsimp only
                by_cases c5 : r % 65536 ≥ 65534
                · rw [if_pos c5, if_pos c5]
                · rw [if_neg c5, if_neg c5]
                  split <;> rfl
      · rw [if_neg d1, if_neg (by simp)]
        by_cases c2 : (1564 ≤ r ∧ r ≤ 1564) ∨ (8206 ≤ r ∧ r ≤ 8207) ∨ (8234 ≤ r ∧ r ≤ 8238) ∨ (8294 ≤ r ∧ r ≤ 8297)
        · rw [if_pos c2, if_pos c2]
        · rw [if_neg c2, if_neg c2]
          by_cases c3 : 64976 ≤ r ∧ r ≤ 65007
          · rw [if_pos (show r ≥ 64976 from c3.1), if_pos c3.2, if_pos trivial, if_pos c3]
          · rw [if_neg c3]
            by_cases e1 : r ≥ 64976
            · rw [if_pos e1, if_neg (show ¬ r ≤ 65007 by omega)]
              by_cases c4 : (32 ≤ r ∧ r ≤ 32) ∨ (160 ≤ r ∧ r ≤ 160) ∨ (5760 ≤ r ∧ r ≤ 5760) ∨ (8192 ≤ r ∧ r ≤ 8202) ∨ (8232 ≤ r ∧ r ≤ 8233) ∨ (8239 ≤ r ∧ r ≤ 8239) ∨ (8287 ≤ r ∧ r ≤ 8287) ∨ (12288 ≤ r ∧ r ≤ 12288)
              · rw [if_pos c4, if_pos c4, if_neg (show ¬ r % 65536 ≥ 65534 by omega)]
              · rw [if_neg c4, if_neg c4]
                dsimp only
                by_cases c5 : r % 65536 ≥ 65534
                · rw [if_pos c5, if_pos c5]
                · rw [if_neg c5, if_neg c5]
                  split <;> rfl
            · rw [if_neg e1]
              by_cases c4 : (32 ≤ r ∧ r ≤ 32) ∨ (160 ≤ r ∧ r ≤ 160) ∨ (5760 ≤ r ∧ r ≤ 5760) ∨ (8192 ≤ r ∧ r ≤ 8202) ∨ (8232 ≤ r ∧ r ≤ 8233) ∨ (8239 ≤ r ∧ r ≤ 8239) ∨ (8287 ≤ r ∧ r ≤ 8287) ∨ (12288 ≤ r ∧ r ≤ 12288)
              · rw [if_pos c4, if_pos c4, if_neg (show ¬ r % 65536 ≥ 65534 by omega)]
              · rw [if_neg c4, if_neg c4]
                dsimp only
                by_cases c5 : r % 65536 ≥ 65534
                · rw [if_pos c5, if_pos c5]
                · rw [if_neg c5, if_neg c5]
                  split <;> rfl
  · rw [if_neg h, if_neg h]
end Go.Proofs.Ytgdefjcjikcofaa.Spec
