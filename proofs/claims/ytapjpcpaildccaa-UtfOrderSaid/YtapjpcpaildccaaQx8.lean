/- Functions of the translation as plain Lean functions, each with a proof that the Go code comes to its answers, wherever the function has one; no other condition. Written by this session's own program (wip/myprint.py). -/
import Derived.Test.YtapjpcpaildccaaQx0
import Derived.Test.YtapjpcpaildccaaQx5
namespace Go.Proofs.Ytapjpcpaildccaa.Q
open Go.RowKit Go.Proofs.YtapjpcpaildccaaW.PrintWords Go.Proofs.YtapjpcpaildccaaW.PrintLast Go.Proofs.YtapjpcpaildccaaW.PrintMore
attribute [local go_sem] max2_int min2_int max_two min_two max_three min_three max_four min_four   -- for this text's walks alone
set_option linter.unusedVariables false
set_option linter.unusedSimpArgs false

/-! ### utf_size: function 28 -/
def utf_size.l0 : Nat → Int → Int → Option (Int)
  | 0, _, _ => none
  | k + 1, x0, x3 => if x3 ≤ 4 then (if x3 = 1 then (if x0 < 128 then (some x3) else (if x3 > 1 then ((utf_lead.f (wrap64 (x3 + 1))).bind fun t118 => ((utf_lead.f x3).bind fun t119 => (if (Go.bits .and .u8 x0 t118) = t119 then (some x3) else (utf_size.l0 k x0 (wrap64 (x3 + 1)))))) else (utf_size.l0 k x0 (wrap64 (x3 + 1))))) else (if x3 > 1 then ((utf_lead.f (wrap64 (x3 + 1))).bind fun t120 => ((utf_lead.f x3).bind fun t121 => (if (Go.bits .and .u8 x0 t120) = t121 then (some x3) else (utf_size.l0 k x0 (wrap64 (x3 + 1)))))) else (utf_size.l0 k x0 (wrap64 (x3 + 1))))) else (some 0)
def utf_size.f (k : Nat) (a0 : Int) : Option (Int) := utf_size.l0 k a0 1
theorem utf_size.mono_l : ∀ k, (∀ y0 y1, LeO (utf_size.l0 k y0 y1) (utf_size.l0 (k + 1) y0 y1))
  | 0 => fun _ _ r h => by simp [utf_size.l0] at h
  | k + 1 => by
    have ih0 := utf_size.mono_l k
    · intro y0 y1
      unfold utf_size.l0
      repeat' first
      | (with_reducible exact ih0 _ _)
      | (with_reducible exact LeO.refl _)
      | (with_reducible exact LeO.none _)
      | (with_reducible refine LeO.ite ?_ ?_)
      | (with_reducible refine LeO.bind ?_ (fun _ => ?_))
      | exact ih0 _ _
      | exact LeO.none _
      | refine LeO.ite ?_ ?_
      | refine LeO.bind ?_ (fun _ => ?_)
theorem utf_size.mono : ∀ a0 k, LeO (utf_size.f k a0) (utf_size.f (k + 1) a0) := by
  intro a0 k
  have ih0 := utf_size.mono_l k
  unfold utf_size.f
  repeat' first
      | (with_reducible exact ih0 _ _)
      | (with_reducible exact LeO.refl _)
      | (with_reducible exact LeO.none _)
      | (with_reducible refine LeO.ite ?_ ?_)
      | (with_reducible refine LeO.bind ?_ (fun _ => ?_))
      | exact ih0 _ _
      | exact LeO.none _
      | refine LeO.ite ?_ ?_
      | refine LeO.bind ?_ (fun _ => ?_)
set_option maxHeartbeats 8000000 in
set_option maxRecDepth 100000 in
theorem utf_size.calls (k : Nat) (a0 : Int) (r : Int) (w : World) (h : utf_size.f k a0 = some r) :
    Calls Try.prog 28 #[.int .u8 a0] w fun e w' => e = .returned (.int .i64 r) ∧ Drawn0 w w' := by
  have H : (utf_size.l0 k a0 1) = some r := h
  clear h
  have H' := Aside0.mk H
  clear H
  go_enter Try.func28, Try.ntmps28
  go_wp2
  go_loopg [3] k (fun kq v3 w' => ∃ (x3_1 : Int), v3 = .int .i64 x3_1 ∧ Aside0 (utf_size.l0 kq a0 x3_1 = some r) ∧ Aside0 (kq ≤ k) ∧ Drawn0 w w')
  case atStart => exact ⟨(1), (by first | rfl | (simp; done) | (simp [*]; done)), H', ⟨Nat.le_refl _⟩, by repeat (first | exact Drawn0.refl _ | apply Drawn0.step)⟩
  case round =>
    clear H'
    obtain ⟨x3_1, rfl, HA, HK1, ⟨m1, rfl⟩⟩ := hrel
    cases gk with
    | zero => exact absurd HA.out (by simp [utf_size.l0])
    | succ k1 =>
      have H := HA.out
      clear HA
      simp only [utf_size.l0] at H
      by_cases c2 : x3_1 ≤ 4
      · rw [if_pos c2] at H
        have c2b0 : decide (x3_1 ≤ 4) = true := decide_eq_true c2
        clear c2
        by_cases c3 : x3_1 = 1
        · rw [if_pos c3] at H
          have c3b0 : (x3_1 == 1) = true := beq_iff_eq.mpr c3
          have c3b1 : (x3_1 != 1) = false := bne_eq_false_iff_eq.mpr c3
          clear c3
          by_cases c4 : a0 < 128
          · rw [if_pos c4] at H
            have c4b0 : decide (a0 < 128) = true := decide_eq_true c4
            clear c4
            obtain rfl := Option.some.inj H
            go_wp2
            go_ret
            exact ⟨by first | rfl | (simp; done) | (simp [*]; done), by repeat (first | exact Drawn0.refl _ | apply Drawn0.step)⟩
          · rw [if_neg c4] at H
            have c4b0 : decide (a0 < 128) = false := decide_eq_false c4
            clear c4
            by_cases c5 : x3_1 > 1
            · rw [if_pos c5] at H
              have c5b0 : decide (1 < x3_1) = true := decide_eq_true c5
              clear c5
              replace H := Option.bind_eq_some_iff.mp H
              obtain ⟨t118, A60, H⟩ := H
              replace H : ((utf_lead.f x3_1).bind fun t119 => (if (Go.bits .and .u8 a0 t118) = t119 then (some x3_1) else (utf_size.l0 k1 a0 (wrap64 (x3_1 + 1))))) = some r := H
              have A6 := Aside0.mk A60
              clear A60
              replace H := Option.bind_eq_some_iff.mp H
              obtain ⟨t119, A70, H⟩ := H
              replace H : (if (Go.bits .and .u8 a0 t118) = t119 then (some x3_1) else (utf_size.l0 k1 a0 (wrap64 (x3_1 + 1)))) = some r := H
              have A7 := Aside0.mk A70
              clear A70
              by_cases c8 : (Go.bits .and .u8 a0 t118) = t119
              · rw [if_pos c8] at H
                have c8b0 : ((Go.bits .and .u8 a0 t118) == t119) = true := beq_iff_eq.mpr c8
                have c8b1 : ((Go.bits .and .u8 a0 t118) != t119) = false := bne_eq_false_iff_eq.mpr c8
                clear c8
                obtain rfl := Option.some.inj H
                go_wp2_with (first | (go_at_call 27; (with_reducible refine (utf_lead.calls (wrap64 (x3_1 + 1)) t118 _ A6.out).mono ?_); rintro e w' ⟨rfl, ⟨nd, rfl⟩⟩) | (go_at_call 27; (with_reducible refine (utf_lead.calls x3_1 t119 _ A7.out).mono ?_); rintro e w' ⟨rfl, ⟨nd, rfl⟩⟩))
                go_ret
                exact ⟨by first | rfl | (simp; done) | (simp [*]; done), by repeat (first | exact Drawn0.refl _ | apply Drawn0.step)⟩
              · rw [if_neg c8] at H
                have c8b0 : ((Go.bits .and .u8 a0 t118) == t119) = false := beq_eq_false_iff_ne.mpr c8
                have c8b1 : ((Go.bits .and .u8 a0 t118) != t119) = true := bne_iff_ne.mpr c8
                have H' := Aside0.mk H
                clear H
                go_wp2_with (first | (go_at_call 27; (with_reducible refine (utf_lead.calls (wrap64 (x3_1 + 1)) t118 _ A6.out).mono ?_); rintro e w' ⟨rfl, ⟨nd, rfl⟩⟩) | (go_at_call 27; (with_reducible refine (utf_lead.calls x3_1 t119 _ A7.out).mono ?_); rintro e w' ⟨rfl, ⟨nd, rfl⟩⟩))
                go_roundg k1
                case measure => have := HK1.out; omega
                case rel => exact ⟨(wrap64 (x3_1 + 1)), (by first | rfl | (simp; done) | (simp [*]; done)), H', ⟨by have := HK1.out; omega⟩, by repeat (first | exact Drawn0.refl _ | apply Drawn0.step)⟩
            · rw [if_neg c5] at H
              have c5b0 : decide (1 < x3_1) = false := decide_eq_false c5
              clear c5
              have H' := Aside0.mk H
              clear H
              go_wp2
              go_roundg k1
              case measure => have := HK1.out; omega
              case rel => exact ⟨(wrap64 (x3_1 + 1)), (by first | rfl | (simp; done) | (simp [*]; done)), H', ⟨by have := HK1.out; omega⟩, by repeat (first | exact Drawn0.refl _ | apply Drawn0.step)⟩
        · rw [if_neg c3] at H
          have c3b0 : (x3_1 == 1) = false := beq_eq_false_iff_ne.mpr c3
          have c3b1 : (x3_1 != 1) = true := bne_iff_ne.mpr c3
          by_cases c9 : x3_1 > 1
          · rw [if_pos c9] at H
            have c9b0 : decide (1 < x3_1) = true := decide_eq_true c9
            clear c9
            replace H := Option.bind_eq_some_iff.mp H
            obtain ⟨t120, A100, H⟩ := H
            replace H : ((utf_lead.f x3_1).bind fun t121 => (if (Go.bits .and .u8 a0 t120) = t121 then (some x3_1) else (utf_size.l0 k1 a0 (wrap64 (x3_1 + 1))))) = some r := H
            have A10 := Aside0.mk A100
            clear A100
            replace H := Option.bind_eq_some_iff.mp H
            obtain ⟨t121, A110, H⟩ := H
            replace H : (if (Go.bits .and .u8 a0 t120) = t121 then (some x3_1) else (utf_size.l0 k1 a0 (wrap64 (x3_1 + 1)))) = some r := H
            have A11 := Aside0.mk A110
            clear A110
            by_cases c12 : (Go.bits .and .u8 a0 t120) = t121
            · rw [if_pos c12] at H
              have c12b0 : ((Go.bits .and .u8 a0 t120) == t121) = true := beq_iff_eq.mpr c12
              have c12b1 : ((Go.bits .and .u8 a0 t120) != t121) = false := bne_eq_false_iff_eq.mpr c12
              clear c12
              obtain rfl := Option.some.inj H
              go_wp2_with (first | (go_at_call 27; (with_reducible refine (utf_lead.calls (wrap64 (x3_1 + 1)) t120 _ A10.out).mono ?_); rintro e w' ⟨rfl, ⟨nd, rfl⟩⟩) | (go_at_call 27; (with_reducible refine (utf_lead.calls x3_1 t121 _ A11.out).mono ?_); rintro e w' ⟨rfl, ⟨nd, rfl⟩⟩))
              go_ret
              exact ⟨by first | rfl | (simp; done) | (simp [*]; done), by repeat (first | exact Drawn0.refl _ | apply Drawn0.step)⟩
            · rw [if_neg c12] at H
              have c12b0 : ((Go.bits .and .u8 a0 t120) == t121) = false := beq_eq_false_iff_ne.mpr c12
              have c12b1 : ((Go.bits .and .u8 a0 t120) != t121) = true := bne_iff_ne.mpr c12
              have H' := Aside0.mk H
              clear H
              go_wp2_with (first | (go_at_call 27; (with_reducible refine (utf_lead.calls (wrap64 (x3_1 + 1)) t120 _ A10.out).mono ?_); rintro e w' ⟨rfl, ⟨nd, rfl⟩⟩) | (go_at_call 27; (with_reducible refine (utf_lead.calls x3_1 t121 _ A11.out).mono ?_); rintro e w' ⟨rfl, ⟨nd, rfl⟩⟩))
              go_roundg k1
              case measure => have := HK1.out; omega
              case rel => exact ⟨(wrap64 (x3_1 + 1)), (by first | rfl | (simp; done) | (simp [*]; done)), H', ⟨by have := HK1.out; omega⟩, by repeat (first | exact Drawn0.refl _ | apply Drawn0.step)⟩
          · rw [if_neg c9] at H
            have c9b0 : decide (1 < x3_1) = false := decide_eq_false c9
            clear c9
            have H' := Aside0.mk H
            clear H
            go_wp2
            go_roundg k1
            case measure => have := HK1.out; omega
            case rel => exact ⟨(wrap64 (x3_1 + 1)), (by first | rfl | (simp; done) | (simp [*]; done)), H', ⟨by have := HK1.out; omega⟩, by repeat (first | exact Drawn0.refl _ | apply Drawn0.step)⟩
      · rw [if_neg c2] at H
        have c2b0 : decide (x3_1 ≤ 4) = false := decide_eq_false c2
        clear c2
        obtain rfl := Option.some.inj H
        go_wp2
        go_ret
        exact ⟨by first | rfl | (simp; done) | (simp [*]; done), by repeat (first | exact Drawn0.refl _ | apply Drawn0.step)⟩

end Go.Proofs.Ytapjpcpaildccaa.Q
