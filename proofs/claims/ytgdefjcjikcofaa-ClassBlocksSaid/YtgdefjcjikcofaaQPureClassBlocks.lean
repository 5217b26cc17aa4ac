/- ClassBlocks, in plain Lean: behind a nought stand ten digits, worth 0 to 9 in order; a digit's nought is so far ahead; who is a digit is of no other class; no condition. -/
import Derived.Test.YtgdefjcjikcofaaQx25
import Derived.Test.YtgdefjcjikcofaaSpecG
namespace Go.Proofs.Ytgdefjcjikcofaa.Pure
open Go.RowKit Go.Proofs.Ytgdefjcjikcofaa.Spec Go.Proofs.Ytgdefjcjikcofaa.Q Go.Proofs.YtgdefjcjikcofaaW.PrintWords Go.Proofs.YtgdefjcjikcofaaW.PrintLast
set_option linter.unusedVariables false
set_option linter.unusedSimpArgs false
theorem blocks_l {x3 : Bool} (hx3 : x3 = true) (r : Int) (hz : r ∈ NO) : ∀ (d n k : Nat), n + d = 10 → d + 40 < k → exerguelaw02_ClassBlocks.l0 k r x3 0 (n : Int) = some true := by
  have hb := NO_rune r hz
  intro d
  induction d with
  | zero =>
    intro n k hn hk
    obtain ⟨m, rfl, _⟩ := succ_of hk
    simp only [exerguelaw02_ClassBlocks.l0]
    rw [if_neg (by omega), if_pos hx3]
    rfl
  | succ d ih =>
    intro n k hn hk
    obtain ⟨m, rfl, hm⟩ := succ_of hk
    simp only [exerguelaw02_ClassBlocks.l0]
    have hv := val_at (r := r + n) hz (by omega) (by omega)
    rw [if_pos (by omega), wr32 (show -2147483648 ≤ (n : Int) by omega) (by omega), wr32 (show -2147483648 ≤ r + (n : Int) by omega) (by omega), Value_f _ (by omega), Option.bind_some, hv]
    dsimp only
    rw [if_pos rfl, if_pos (by omega), wr (show -9223372036854775808 ≤ (n : Int) + 1 by omega) (by omega)]
    exact ih (n + 1) m (by omega) (by omega)
theorem ClassBlocks : exerguelaw02_ClassBlocks.Pure := by
  intro r h0
  have hr := i32_of h0
  refine ⟨400, ?_⟩
  unfold exerguelaw02_ClassBlocks.f
  rw [shown_f (by omega), Option.bind_some, Value_f r (by omega), Option.bind_some, Of_f r (by omega), Option.bind_some]
  rcases val_of r NO with ⟨z, hz, h1, h2, hv⟩ | ⟨hno, hv⟩
  · have hb := NO_rune z hz
    rw [hv, ofc_digit hz h1 h2]
    dsimp only
    rw [if_neg (by simp), if_neg (by omega), if_neg (by omega), if_pos rfl, wr32 (show -2147483648 ≤ r - z by omega) (by omega), wr32 (show -2147483648 ≤ r - (r - z) by omega) (by omega), Zero_f _ (by omega), Option.bind_some, show r - (r - z) = z by omega, decide_eq_true hz]
    show exerguelaw02_ClassBlocks.j0 (399 + 1) r true (r - z) true false = _
    simp only [exerguelaw02_ClassBlocks.j0]
    rw [if_neg (by simp), Zero_f _ (by omega), Option.bind_some]
    by_cases hrz : r ∈ NO
    · have hrz' : z = r := by
        rcases NO_apart z hz r hrz with h | h | h <;> omega
      subst hrz'
      rw [decide_eq_true hz, if_pos rfl, Int.sub_self]
      exact blocks_l rfl z hz 10 0 399 (by omega) (by omega)
    · rw [decide_eq_false hrz, if_neg (by simp), if_pos trivial, if_pos trivial]
      have : r ≠ z := fun h => hrz (h ▸ hz)
      rw [decide_eq_true (show r - z > 0 by omega)]
  · rw [hv]
    have hn := ofc_nodigit (r := r) (by rw [hv])
    dsimp only
    rw [if_neg (by simp [hn]), if_neg (by omega), if_neg (by omega), if_neg (by simp), if_pos rfl]
    show exerguelaw02_ClassBlocks.j0 (399 + 1) r true 0 false false = _
    simp only [exerguelaw02_ClassBlocks.j0]
    have hrz : r ∉ NO := fun h => hno r h ⟨by omega, by omega⟩
    rw [if_neg (by simp), Zero_f _ (by omega), Option.bind_some, decide_eq_false hrz, if_neg (by simp), if_pos trivial, if_neg (by simp)]
end Go.Proofs.Ytgdefjcjikcofaa.Pure
