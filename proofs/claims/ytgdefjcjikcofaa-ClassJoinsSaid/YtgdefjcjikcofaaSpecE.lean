/- Calm, in plain Lean. -/
import Derived.Test.YtgdefjcjikcofaaSpecD
import Derived.Test.YtgdefjcjikcofaaQx11
namespace Go.Proofs.Ytgdefjcjikcofaa.Spec
open Go.RowKit Go.Proofs.Ytgdefjcjikcofaa.Mine Go.Proofs.Ytgdefjcjikcofaa.Q Go.Proofs.YtgdefjcjikcofaaW.PrintWords Go.Proofs.YtgdefjcjikcofaaW.PrintLast Go.Proofs.YtgdefjcjikcofaaW.PrintMore
set_option linter.unusedVariables false
set_option linter.unusedSimpArgs false
theorem Calm_l (l : List Int) (hl : l.length < 140737488355328) : ∀ (d n k : Nat), n + d = l.length → d + 21 < k → ∃ i, class_Calm.l0 k l (n : Int) = some i ∧ decide (i ≥ 0) = (l.drop n).any (fun r => odd (ofc r)) := by
  intro d
  induction d with
  | zero =>
    intro n k hn hk
    obtain ⟨m, rfl, _⟩ := succ_of hk
    simp only [class_Calm.l0]
    rw [if_neg (by omega), List.drop_eq_nil_of_le (by omega)]
    exact ⟨_, rfl, by simp⟩
  | succ d ih =>
    intro n k hn hk
    obtain ⟨m, rfl, hm⟩ := succ_of hk
    have h1 : n < l.length := by omega
    simp only [class_Calm.l0]
    rw [if_pos (by omega), if_pos (by omega), rd_at h1, Of_f _ (by omega), Option.bind_some, List.drop_eq_getElem_cons h1, List.any_cons, wr (by omega) (by omega)]
    cases h : odd (ofc l[n]) with
    | true =>
      rw [if_pos rfl]
      exact ⟨_, rfl, by simp⟩
    | false =>
      rw [if_neg (by simp)]
      obtain ⟨i, hi, he⟩ := ih (n + 1) m (by omega) (by omega)
      exact ⟨i, hi, by rw [he]; simp⟩
theorem Calm_f {k : Nat} (l : List Int) (hl : l.length < 140737488355328) (hk : l.length + 21 < k) : class_Calm.f k l = some (!(l.any fun r => odd (ofc r))) := by
  unfold class_Calm.f
  obtain ⟨i, hi, he⟩ := Calm_l l hl l.length 0 k (by omega) hk
  have h0 : class_Calm.l0 k l 0 = some i := hi
  rw [h0, Option.bind_some, he]
  rfl
end Go.Proofs.Ytgdefjcjikcofaa.Spec
