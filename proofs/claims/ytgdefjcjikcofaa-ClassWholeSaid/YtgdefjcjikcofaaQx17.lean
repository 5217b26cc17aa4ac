/- Functions of the translation as plain Lean functions, each with a proof that the Go code comes to its answers, wherever the function has one; no other condition. Written by this session's own program (wip/myprint.py). -/
import Derived.Test.YtgdefjcjikcofaaQx0
namespace Go.Proofs.Ytgdefjcjikcofaa.Q
open Go.RowKit Go.Proofs.Ytgdefjcjikcofaa.Mine Go.Proofs.YtgdefjcjikcofaaW.PrintWords Go.Proofs.YtgdefjcjikcofaaW.PrintLast Go.Proofs.YtgdefjcjikcofaaW.PrintMore
attribute [local go_sem] max2_int min2_int max_two min_two max_three min_three max_four min_four   -- for this text's walks alone
set_option linter.unusedVariables false
set_option linter.unusedSimpArgs false

/-! ### exergueref02_turning: function 25 -/
def exergueref02_turning.f (a0 : Int) : Option (Bool) := if a0 = 1564 then (some true) else (if a0 = 8206 then (some true) else (if a0 = 8207 then (some true) else (if a0 ≥ 8234 then (if a0 ≤ 8238 then (some true) else (if a0 ≥ 8294 then (some (decide (a0 ≤ 8297))) else (some false))) else (if a0 ≥ 8294 then (some (decide (a0 ≤ 8297))) else (some false)))))
set_option maxHeartbeats 8000000 in
set_option maxRecDepth 100000 in
theorem exergueref02_turning.calls (a0 : Int) (r : Bool) (w : World) (h : exergueref02_turning.f a0 = some r) :
    Calls Try.prog 25 #[.int .i64 a0] w fun e w' => e = .returned (.bool r) ∧ Drawn0 w w' := by
  have H : (if a0 = 1564 then (some true) else (if a0 = 8206 then (some true) else (if a0 = 8207 then (some true) else (if a0 ≥ 8234 then (if a0 ≤ 8238 then (some true) else (if a0 ≥ 8294 then (some (decide (a0 ≤ 8297))) else (some false))) else (if a0 ≥ 8294 then (some (decide (a0 ≤ 8297))) else (some false)))))) = some r := h
  clear h
  by_cases c2 : a0 = 1564
  · rw [if_pos c2] at H
    have c2b0 : (a0 == 1564) = true := beq_iff_eq.mpr c2
    have c2b1 : (a0 != 1564) = false := bne_eq_false_iff_eq.mpr c2
    clear c2
    obtain rfl := Option.some.inj H
    go_enter Try.func25, Try.ntmps25
    go_wp2
    go_ret
    exact ⟨by first | rfl | (simp; done) | (simp [*]; done), by repeat (first | exact Drawn0.refl _ | apply Drawn0.step)⟩
  · rw [if_neg c2] at H
    have c2b0 : (a0 == 1564) = false := beq_eq_false_iff_ne.mpr c2
    have c2b1 : (a0 != 1564) = true := bne_iff_ne.mpr c2
    by_cases c3 : a0 = 8206
    · rw [if_pos c3] at H
      have c3b0 : (a0 == 8206) = true := beq_iff_eq.mpr c3
      have c3b1 : (a0 != 8206) = false := bne_eq_false_iff_eq.mpr c3
      clear c3
      obtain rfl := Option.some.inj H
      go_enter Try.func25, Try.ntmps25
      go_wp2
      go_ret
      exact ⟨by first | rfl | (simp; done) | (simp [*]; done), by repeat (first | exact Drawn0.refl _ | apply Drawn0.step)⟩
    · rw [if_neg c3] at H
      have c3b0 : (a0 == 8206) = false := beq_eq_false_iff_ne.mpr c3
      have c3b1 : (a0 != 8206) = true := bne_iff_ne.mpr c3
      by_cases c4 : a0 = 8207
      · rw [if_pos c4] at H
        have c4b0 : (a0 == 8207) = true := beq_iff_eq.mpr c4
        have c4b1 : (a0 != 8207) = false := bne_eq_false_iff_eq.mpr c4
        clear c4
        obtain rfl := Option.some.inj H
        go_enter Try.func25, Try.ntmps25
        go_wp2
        go_ret
        exact ⟨by first | rfl | (simp; done) | (simp [*]; done), by repeat (first | exact Drawn0.refl _ | apply Drawn0.step)⟩
      · rw [if_neg c4] at H
        have c4b0 : (a0 == 8207) = false := beq_eq_false_iff_ne.mpr c4
        have c4b1 : (a0 != 8207) = true := bne_iff_ne.mpr c4
        by_cases c5 : a0 ≥ 8234
        · rw [if_pos c5] at H
          have c5b0 : decide (8234 ≤ a0) = true := decide_eq_true c5
          clear c5
          by_cases c6 : a0 ≤ 8238
          · rw [if_pos c6] at H
            have c6b0 : decide (a0 ≤ 8238) = true := decide_eq_true c6
            clear c6
            obtain rfl := Option.some.inj H
            go_enter Try.func25, Try.ntmps25
            go_wp2
            go_ret
            exact ⟨by first | rfl | (simp; done) | (simp [*]; done), by repeat (first | exact Drawn0.refl _ | apply Drawn0.step)⟩
          · rw [if_neg c6] at H
            have c6b0 : decide (a0 ≤ 8238) = false := decide_eq_false c6
            clear c6
            by_cases c7 : a0 ≥ 8294
            · rw [if_pos c7] at H
              have c7b0 : decide (8294 ≤ a0) = true := decide_eq_true c7
              clear c7
              obtain rfl := Option.some.inj H
              go_enter Try.func25, Try.ntmps25
              go_wp2
              go_ret
              exact ⟨by first | rfl | (simp; done) | (simp [*]; done), by repeat (first | exact Drawn0.refl _ | apply Drawn0.step)⟩
            · rw [if_neg c7] at H
              have c7b0 : decide (8294 ≤ a0) = false := decide_eq_false c7
              clear c7
              obtain rfl := Option.some.inj H
              go_enter Try.func25, Try.ntmps25
              go_wp2
              go_ret
              exact ⟨by first | rfl | (simp; done) | (simp [*]; done), by repeat (first | exact Drawn0.refl _ | apply Drawn0.step)⟩
        · rw [if_neg c5] at H
          have c5b0 : decide (8234 ≤ a0) = false := decide_eq_false c5
          clear c5
          by_cases c8 : a0 ≥ 8294
          · rw [if_pos c8] at H
            have c8b0 : decide (8294 ≤ a0) = true := decide_eq_true c8
            clear c8
            obtain rfl := Option.some.inj H
            go_enter Try.func25, Try.ntmps25
            go_wp2
            go_ret
            exact ⟨by first | rfl | (simp; done) | (simp [*]; done), by repeat (first | exact Drawn0.refl _ | apply Drawn0.step)⟩
          · rw [if_neg c8] at H
            have c8b0 : decide (8294 ≤ a0) = false := decide_eq_false c8
            clear c8
            obtain rfl := Option.some.inj H
            go_enter Try.func25, Try.ntmps25
            go_wp2
            go_ret
            exact ⟨by first | rfl | (simp; done) | (simp [*]; done), by repeat (first | exact Drawn0.refl _ | apply Drawn0.step)⟩

end Go.Proofs.Ytgdefjcjikcofaa.Q
