/- What the functions of class and of its reference come to, in plain Lean. -/
import Derived.Test.YtgdefjcjikcofaaSpecB
import Derived.Test.YtgdefjcjikcofaaQx21
namespace Go.Proofs.Ytgdefjcjikcofaa.Spec
open Go.RowKit Go.Proofs.Ytgdefjcjikcofaa.Mine Go.Proofs.Ytgdefjcjikcofaa.Q Go.Proofs.YtgdefjcjikcofaaW.PrintWords Go.Proofs.YtgdefjcjikcofaaW.PrintLast Go.Proofs.YtgdefjcjikcofaaW.PrintMore
set_option linter.unusedVariables false
set_option linter.unusedSimpArgs false
theorem cls_is (r : Int) : cls r = if (0 ≤ r ∧ r ≤ 31) ∨ (127 ≤ r ∧ r ≤ 159) then some 1 else if (1564 ≤ r ∧ r ≤ 1564) ∨ (8206 ≤ r ∧ r ≤ 8207) ∨ (8234 ≤ r ∧ r ≤ 8238) ∨ (8294 ≤ r ∧ r ≤ 8297) then some 2 else if (64976 ≤ r ∧ r ≤ 65007) then some 3 else if (32 ≤ r ∧ r ≤ 32) ∨ (160 ≤ r ∧ r ≤ 160) ∨ (5760 ≤ r ∧ r ≤ 5760) ∨ (8192 ≤ r ∧ r ≤ 8202) ∨ (8232 ≤ r ∧ r ≤ 8233) ∨ (8239 ≤ r ∧ r ≤ 8239) ∨ (8287 ≤ r ∧ r ≤ 8287) ∨ (12288 ≤ r ∧ r ≤ 12288) then some 4 else none := by
  by_cases h0 : 0 ≤ r ∧ r ≤ 31
  · rw [cls_hit (x := (0, 31, 1)) (by decide) (by simp [isin]; omega)]
    repeat' split
    all_goals first | rfl | (exfalso; omega)
  by_cases h1 : 127 ≤ r ∧ r ≤ 159
  · rw [cls_hit (x := (127, 159, 1)) (by decide) (by simp [isin]; omega)]
    repeat' split
    all_goals first | rfl | (exfalso; omega)
  by_cases h2 : 1564 ≤ r ∧ r ≤ 1564
  · rw [cls_hit (x := (1564, 1564, 2)) (by decide) (by simp [isin]; omega)]
    repeat' split
    all_goals first | rfl | (exfalso; omega)
  by_cases h3 : 8206 ≤ r ∧ r ≤ 8207
  · rw [cls_hit (x := (8206, 8207, 2)) (by decide) (by simp [isin]; omega)]
    repeat' split
    all_goals first | rfl | (exfalso; omega)
  by_cases h4 : 8234 ≤ r ∧ r ≤ 8238
  · rw [cls_hit (x := (8234, 8238, 2)) (by decide) (by simp [isin]; omega)]
    repeat' split
    all_goals first | rfl | (exfalso; omega)
  by_cases h5 : 8294 ≤ r ∧ r ≤ 8297
  · rw [cls_hit (x := (8294, 8297, 2)) (by decide) (by simp [isin]; omega)]
    repeat' split
    all_goals first | rfl | (exfalso; omega)
  by_cases h6 : 64976 ≤ r ∧ r ≤ 65007
  · rw [cls_hit (x := (64976, 65007, 3)) (by decide) (by simp [isin]; omega)]
    repeat' split
    all_goals first | rfl | (exfalso; omega)
  by_cases h7 : 32 ≤ r ∧ r ≤ 32
  · rw [cls_hit (x := (32, 32, 4)) (by decide) (by simp [isin]; omega)]
    repeat' split
    all_goals first | rfl | (exfalso; omega)
  by_cases h8 : 160 ≤ r ∧ r ≤ 160
  · rw [cls_hit (x := (160, 160, 4)) (by decide) (by simp [isin]; omega)]
    repeat' split
    all_goals first | rfl | (exfalso; omega)
  by_cases h9 : 5760 ≤ r ∧ r ≤ 5760
  · rw [cls_hit (x := (5760, 5760, 4)) (by decide) (by simp [isin]; omega)]
    repeat' split
    all_goals first | rfl | (exfalso; omega)
  by_cases h10 : 8192 ≤ r ∧ r ≤ 8202
  · rw [cls_hit (x := (8192, 8202, 4)) (by decide) (by simp [isin]; omega)]
    repeat' split
    all_goals first | rfl | (exfalso; omega)
  by_cases h11 : 8232 ≤ r ∧ r ≤ 8233
  · rw [cls_hit (x := (8232, 8233, 4)) (by decide) (by simp [isin]; omega)]
    repeat' split
    all_goals first | rfl | (exfalso; omega)
  by_cases h12 : 8239 ≤ r ∧ r ≤ 8239
  · rw [cls_hit (x := (8239, 8239, 4)) (by decide) (by simp [isin]; omega)]
    repeat' split
    all_goals first | rfl | (exfalso; omega)
  by_cases h13 : 8287 ≤ r ∧ r ≤ 8287
  · rw [cls_hit (x := (8287, 8287, 4)) (by decide) (by simp [isin]; omega)]
    repeat' split
    all_goals first | rfl | (exfalso; omega)
  by_cases h14 : 12288 ≤ r ∧ r ≤ 12288
  · rw [cls_hit (x := (12288, 12288, 4)) (by decide) (by simp [isin]; omega)]
    repeat' split
    all_goals first | rfl | (exfalso; omega)
  rw [cls_none (fun x hx => by
    simp only [RT, List.mem_cons, List.not_mem_nil, or_false] at hx
    rcases hx with rfl | rfl | rfl | rfl | rfl | rfl | rfl | rfl | rfl | rfl | rfl | rfl | rfl | rfl | rfl <;> (simp [isin]; omega))]
  repeat' split
  all_goals first | rfl | (exfalso; omega)
theorem turn_f (r : Int) : exergueref02_turning.f r = some (decide ((1564 ≤ r ∧ r ≤ 1564) ∨ (8206 ≤ r ∧ r ≤ 8207) ∨ (8234 ≤ r ∧ r ≤ 8238) ∨ (8294 ≤ r ∧ r ≤ 8297))) := by
  unfold exergueref02_turning.f
  repeat' split
  all_goals first | (congr 1; symm; first | exact decide_eq_true (by omega) | exact decide_eq_false (by omega)) | (congr 1; rw [decide_eq_decide]; omega)
theorem blank_f (r : Int) : exergueref02_blank.f r = some (decide ((32 ≤ r ∧ r ≤ 32) ∨ (160 ≤ r ∧ r ≤ 160) ∨ (5760 ≤ r ∧ r ≤ 5760) ∨ (8192 ≤ r ∧ r ≤ 8202) ∨ (8232 ≤ r ∧ r ≤ 8233) ∨ (8239 ≤ r ∧ r ≤ 8239) ∨ (8287 ≤ r ∧ r ≤ 8287) ∨ (12288 ≤ r ∧ r ≤ 12288))) := by
  unfold exergueref02_blank.f
  repeat' split
  all_goals first | (congr 1; symm; first | exact decide_eq_true (by omega) | exact decide_eq_false (by omega)) | (congr 1; rw [Bool.eq_iff_iff, beq_iff_eq, decide_eq_true_iff]; omega)
end Go.Proofs.Ytgdefjcjikcofaa.Spec
