/- TankBurns, in plain Lean: fuel burnt in two parts is burnt at once. -/
import Derived.Test.YtlmgpjeienhihaaSpec
import Derived.Test.YtlmgpjeienhihaaQx13
namespace Go.Proofs.Ytlmgpjeienhihaa.Pure
open Go.RowKit Go.Proofs.Ytlmgpjeienhihaa.Mine Go.Proofs.Ytlmgpjeienhihaa.Spec Go.Proofs.Ytlmgpjeienhihaa.Q Go.Proofs.YtlmgpjeienhihaaW.PrintWords Go.Proofs.YtlmgpjeienhihaaW.PrintLast Go.Proofs.YtlmgpjeienhihaaW.PrintMore
set_option linter.unusedVariables false
set_option linter.unusedSimpArgs false
theorem burn_ok {f r n : Int} {out : List Int} (h0 : 0 ≤ n) (h1 : n ≤ f) (h2 : f < 9223372036854775808) : tank_BurnV.f f r out n = some (f - n, r, out, 0) := by
  unfold tank_BurnV.f
  rw [if_neg (by omega), if_neg (by omega), wr (by omega) (by omega)]
theorem burn_no {f r n : Int} {out : List Int} (h0 : 0 ≤ n) (h1 : ¬ n ≤ f) : tank_BurnV.f f r out n = some (0, r, out, 4) := by
  unfold tank_BurnV.f
  rw [if_neg (by omega), if_pos (by omega)]
theorem TankBurns (f r : Int) (out : List Int) (n m : Int) (hf : (Lit.int .i64 f).wf = true) (hr : (Lit.int .i64 r).wf = true) (ho : out.length * 4 ≤ 140737488351232 ∧ ∀ x ∈ out, (Lit.int .i32 x).wf = true) (hn : (Lit.int .u16 n).wf = true) (hm : (Lit.int .u16 m).wf = true) :
    ∃ k, exerguelaw04_TankBurns.f k f r out n m = some true := by
  have hf' := wf_i64 hf
  have hn' : 0 ≤ n ∧ n < 65536 := by
    simp [Lit.wf, IntKind.min, IntKind.max, IntKind.signed, IntKind.bits] at hn
    omega
  have hm' : 0 ≤ m ∧ m < 65536 := by
    simp [Lit.wf, IntKind.min, IntKind.max, IntKind.signed, IntKind.bits] at hm
    omega
  refine ⟨9000, ?_⟩
  unfold exerguelaw04_TankBurns.f
  rw [shown_f (by omega), Option.bind_some, if_pos rfl, right_f, Option.bind_some]
  by_cases h : 0 ≤ f ∧ 0 ≤ r ∧ (out.length : Int) ≤ 1000
  case neg => rw [if_pos (by simpa using h)]
  rw [if_neg (by simp [h]), if_pos ⟨hn'.1, hn'.2, hm'.1, hm'.2⟩]
  by_cases c1 : n + m ≤ f
  · rw [burn_ok (by omega) c1 hf'.2, Option.bind_some, burn_ok hn'.1 (by omega) hf'.2, Option.bind_some]
    dsimp only
    rw [if_pos rfl, burn_ok hm'.1 (by omega) (by omega), Option.bind_some]
    dsimp only
    rw [tSame_f (by omega) (by omega), Option.bind_some]
    exact if_pos ⟨by simp; omega, rfl, rfl, rfl, by rw [if_pos c1]⟩
  · rw [burn_no (by omega) c1, Option.bind_some]
    by_cases c2 : n ≤ f
    · rw [burn_ok hn'.1 c2 hf'.2, Option.bind_some]
      dsimp only
      rw [if_pos rfl, burn_no hm'.1 (by omega), Option.bind_some]
      dsimp only
      rw [tSame_f (by omega) (by omega), Option.bind_some]
      exact if_pos ⟨by simp, rfl, rfl, rfl, by rw [if_neg c1]; exact ⟨by decide, rfl⟩⟩
    · rw [burn_no hn'.1 c2, Option.bind_some]
      dsimp only
      rw [if_neg (by decide), Option.bind_some]
      dsimp only
      rw [tSame_f (by omega) (by omega), Option.bind_some]
      exact if_pos ⟨by simp, rfl, rfl, rfl, by rw [if_neg c1]; exact ⟨by decide, rfl⟩⟩
end Go.Proofs.Ytlmgpjeienhihaa.Pure
