/- ClassJoins, in plain Lean: two rows, one behind the other, have nothing that may not be, if neither has; they turn well, if both do; an isolate around what turns well turns well; no condition. -/
import Derived.Test.YtgdefjcjikcofaaQx26
import Derived.Test.YtgdefjcjikcofaaSpecG
namespace Go.Proofs.Ytgdefjcjikcofaa.Pure
open Go.RowKit Go.Proofs.Ytgdefjcjikcofaa.Spec Go.Proofs.Ytgdefjcjikcofaa.Q Go.Proofs.YtgdefjcjikcofaaW.PrintWords Go.Proofs.YtgdefjcjikcofaaW.PrintLast
set_option linter.unusedVariables false
set_option linter.unusedSimpArgs false
theorem calm_app (a b : List Int) : (!((a ++ b).any fun r => odd (ofc r))) = ((!(a.any fun r => odd (ofc r))) && !(b.any fun r => odd (ofc r))) := by
  rw [List.any_append, Bool.not_or]
theorem ClassJoins : exerguelaw02_ClassJoins.Pure := by
  intro a b q ha0 ha1 ha2 hb0 hb1 hb2 hq
  have hq' : 0 ≤ q ∧ q < 256 := by
    simp [Lit.wf, IntKind.min, IntKind.max, IntKind.signed, IntKind.bits] at hq
    omega
  refine ⟨4 * (a.length + b.length) + 500, ?_⟩
  unfold exerguelaw02_ClassJoins.f
  rw [shown_f (by omega), Option.bind_some, wr (by omega) (by omega)]
  by_cases h : (a.length : Int) + (b.length : Int) > 1000
  · rw [if_pos h]
  rw [if_neg h]
  have hm : Int.tmod q 3 = q % 3 := Int.tmod_eq_emod_of_nonneg hq'.1
  obtain ⟨z, hz⟩ : ∃ z, z = 8294 + q % 3 := ⟨_, rfl⟩
  have hz1 : 8294 ≤ z ∧ z ≤ 8296 := by omega
  rw [hm, wr32 (show -2147483648 ≤ q % 3 by omega) (by omega), wr32 (show -2147483648 ≤ 8294 + q % 3 by omega) (by omega), ← hz]
  clear hz hm
  simp only [Option.bind_some, List.nil_append, List.length_nil, List.length_append, List.length_cons]
  rw [if_pos (by omega), if_pos (by omega), if_pos (by omega), if_pos (by omega), if_pos trivial]
  have l1 : (a ++ b).length = a.length + b.length := List.length_append
  have l2 : ([z] ++ a ++ [8297]).length = a.length + 2 := by simp
  have oz : odd (ofc z) = false := by rw [ofc_bidi (by omega)]; rfl
  have o9 : odd (ofc 8297) = false := by rw [ofc_bidi (by omega)]; rfl
  have hci : (!(([z] ++ a ++ [8297]).any fun r => odd (ofc r))) = !(a.any fun r => odd (ofc r)) := by
    rw [List.any_append, List.any_append, List.any_cons, List.any_nil, List.any_cons, List.any_nil, oz, o9]
    simp
  have t1 : tl 0 a = true → tl 0 (a ++ b) = tl 0 b := fun h => by
    have := tl_app b a 0 0 (by omega) (by omega) h
    exact this
  have t2 : tl 0 a = true → tl 0 ([z] ++ a ++ [8297]) = true := fun h => by
    have := tl_app [8297] a 0 1 (by omega) (by omega) h
    rw [List.append_assoc, List.singleton_append, tl, if_neg (by omega), if_pos hz1]
    exact this.trans rfl
  rw [Calm_f (a ++ b) (by omega) (by omega), Calm_f a (by omega) (by omega), Calm_f b (by omega) (by omega), Turns_f a (by omega) (by omega), Turns_f (a ++ b) (by omega) (by omega), Turns_f b (by omega) (by omega), Turns_f ([z] ++ a ++ [8297]) (by omega) (by omega), Calm_f ([z] ++ a ++ [8297]) (by omega) (by omega), hci, calm_app]
  simp only [Option.bind_some]
  cases (!(a.any fun r => odd (ofc r))) <;> cases (!(b.any fun r => odd (ofc r))) <;> (cases ht : tl 0 a with | false => (cases tl 0 ([z] ++ a ++ [8297]) <;> rfl) | true => (rw [t1 ht, t2 ht]; cases tl 0 b <;> rfl))
end Go.Proofs.Ytgdefjcjikcofaa.Pure
