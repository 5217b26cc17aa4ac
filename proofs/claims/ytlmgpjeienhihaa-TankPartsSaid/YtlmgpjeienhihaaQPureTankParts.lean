/- TankParts, in plain Lean: of a row in two parts it is what it is at once; what is out is the beginning of what was to be. -/
import Derived.Test.YtlmgpjeienhihaaSpec
import Derived.Test.YtlmgpjeienhihaaQx11
namespace Go.Proofs.Ytlmgpjeienhihaa.Pure
open Go.RowKit Go.Proofs.Ytlmgpjeienhihaa.Mine Go.Proofs.Ytlmgpjeienhihaa.Spec Go.Proofs.Ytlmgpjeienhihaa.Q Go.Proofs.YtlmgpjeienhihaaW.PrintWords Go.Proofs.YtlmgpjeienhihaaW.PrintLast Go.Proofs.YtlmgpjeienhihaaW.PrintMore
set_option linter.unusedVariables false
set_option linter.unusedSimpArgs false
theorem TankParts (f r : Int) (out l m : List Int) (hf : (Lit.int .i64 f).wf = true) (hr : (Lit.int .i64 r).wf = true) (ho : out.length * 4 ≤ 140737488351232 ∧ ∀ x ∈ out, (Lit.int .i32 x).wf = true) (hl : l.length * 4 ≤ 140737488351232 ∧ ∀ x ∈ l, (Lit.int .i32 x).wf = true) (hm : m.length * 4 ≤ 140737488351232 ∧ ∀ x ∈ m, (Lit.int .i32 x).wf = true) :
    ∃ k, exerguelaw04_TankParts.f k f r out l m = some true := by
  have hf' := wf_i64 hf
  have hr' := wf_i64 hr
  have hl1 := hl.1
  have hm1 := hm.1
  refine ⟨9000, ?_⟩
  unfold exerguelaw04_TankParts.f
  rw [shown_f (by omega), Option.bind_some, right_f, Option.bind_some, wr (by omega) (by omega)]
  have stop : ∀ (f r : Int) (out : List Int), exerguelaw04_TankParts.j0 9000 l m true true f r out = some true := by
    intro f r out
    simp [exerguelaw04_TankParts.j0]
  by_cases h : 0 ≤ f ∧ 0 ≤ r ∧ (out.length : Int) ≤ 1000
  · rw [if_pos (by simpa using h)]
    by_cases h2 : (l.length : Int) + (m.length : Int) > 1000
    · have : decide ((l.length : Int) + (m.length : Int) > 1000) = true := by simpa using h2
      rw [this]; exact stop _ _ _
    · have : decide ((l.length : Int) + (m.length : Int) > 1000) = false := by simpa using h2
      rw [this]
      simp only [exerguelaw04_TankParts.j0]
      have b1 := putR_bd (l ++ m) out h.1 h.2.1
      rw [List.length_append] at b1
      have b2 := putR_bd l out h.1 h.2.1
      rw [if_neg (by simp), Option.bind_some, if_pos (by simp only [List.length_nil]; omega), Option.bind_some, List.nil_append, if_pos (by omega), Option.bind_some, put_f h.1 (by omega) h.2.1 (by omega) (by omega) (by rw [List.length_append]; omega) (by rw [List.length_append]; omega), Option.bind_some, put_f h.1 (by omega) h.2.1 (by omega) (by omega) (by omega) (by omega), Option.bind_some]
      -- what the last part comes to
      have last : ∀ (e e2 : Int) (a : Int) (b : Int) (c : List Int), putR f r out (l ++ m) = (a, b, c, e2) → e = (putR f r out (l ++ m)).2.2.2 →
          exerguelaw04_TankParts.j1 8999 true (l ++ m) (putR f r out (l ++ m)).2.2.2 e f r out (putR f r out (l ++ m)).1 (putR f r out (l ++ m)).2.1 (putR f r out (l ++ m)).2.2.1 a b c = some true := by
        intro e e2 a b c hp he
        simp only [exerguelaw04_TankParts.j1]
        rw [if_pos he.symm, tSame_f (by omega) (by omega), Option.bind_some, if_pos (by rw [hp]; simp), if_neg (by omega), wr (x := (out.length : Int) + ((l ++ m).length : Int)) (by rw [List.length_append]; omega) (by rw [List.length_append]; omega), if_neg (by rw [List.length_append]; omega), if_pos trivial, Option.bind_some, if_pos (by simp only [List.length_nil]; omega), Option.bind_some, wr (by omega) (by omega), if_pos (by omega), if_pos (by rw [List.length_append]; omega), Option.bind_some, List.nil_append, if_pos (by rw [List.length_take, List.length_append]; omega), rSame_f (by omega) (by omega), Option.bind_some]
        have hlen : ((l ++ m).length : Int) ≤ 1000 := by rw [List.length_append]; omega
        rw [putR_eq (l ++ m) f r out h.1 h.2.1]
        by_cases c1 : ((l ++ m).length : Int) ≤ f ∧ ((l ++ m).length : Int) ≤ r
        · rw [if_pos c1]
          have e1 : (((out ++ (l ++ m)).length : Int) - (out.length : Int)).toNat = (l ++ m).length := by rw [List.length_append]; omega
          dsimp only
          rw [e1, List.take_length, if_pos (by simp)]
          have e3 : ((out ++ (l ++ m)).length : Int) - (out.length : Int) = ((l ++ m).length : Int) := by rw [List.length_append]; omega
          rw [e3]
          simp
        · rw [if_neg c1]
          by_cases c2 : f ≤ r
          · rw [if_pos c2]
            dsimp only
            have e0 : ((l ++ m).take f.toNat).length = f.toNat := by rw [List.length_take]; omega
            have e3 : ((out ++ (l ++ m).take f.toNat).length : Int) - (out.length : Int) = f := by rw [List.length_append, e0]; omega
            rw [e3, if_pos (by simp)]
            have : decide (f < ((l ++ m).length : Int)) = true := by rw [decide_eq_true_iff]; omega
            rw [this]
            simp
          · rw [if_neg c2]
            dsimp only
            have e0 : ((l ++ m).take r.toNat).length = r.toNat := by rw [List.length_take]; omega
            have e3 : ((out ++ (l ++ m).take r.toNat).length : Int) - (out.length : Int) = r := by rw [List.length_append, e0]; omega
            rw [e3, if_pos (by simp)]
            have : decide (r < ((l ++ m).length : Int)) = true := by rw [decide_eq_true_iff]; omega
            rw [this]
            simp
      have hp := putR_parts l m f r out
      by_cases h3 : (putR f r out l).2.2.2 = 0
      · rw [if_pos h3] at hp
        rw [if_pos h3, put_f b2.1 (by omega) b2.2.2.1 (by omega) (by omega) (by omega) (by omega), Option.bind_some]
        exact last _ _ _ _ _ (hp.trans rfl) (by rw [hp])
      · rw [if_neg h3] at hp
        rw [if_neg h3]
        exact last _ _ _ _ _ (hp.trans rfl) (by rw [hp])
  · rw [if_neg (by simpa using h)]
    exact stop _ _ _
end Go.Proofs.Ytlmgpjeienhihaa.Pure
