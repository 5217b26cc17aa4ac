/- Texts of this claim, joined; what the kit's print wrote stands under a line of its own, LESS the theorems that this claim does not use (left out by prune16.py). -/
import Derived.Test.YtmhpcjncngonbaaZM2
import Derived.Test.YtmhpcjncngonbaaZM3
/- Functions of the translation as plain Lean functions, each with a proof that the Go code comes to its answers, wherever the function has one; no other condition. Written by this session's own program (wip/myprint.py). -/
namespace Go.Proofs.Ytmhpcjncngonbaa.Q
open Go.RowKit Go.Proofs.Ytmhpcjncngonbaa.Mine Go.Proofs.YtmhpcjncngonbaaW.PrintWords Go.Proofs.YtmhpcjncngonbaaW.PrintLast Go.Proofs.YtmhpcjncngonbaaW.PrintMore
attribute [local go_sem] max2_int min2_int max_two min_two max_three min_three max_four min_four   -- for this text's walks alone
set_option linter.unusedVariables false
set_option linter.unusedSimpArgs false

/-! ### exergueref01_Row: function 14 -/
def exergueref01_Row.l0 : Nat → List Int → List Int → Int → Option (Bool)
  | 0, _, _, _ => none
  | k + 1, x0, x1, x5 => if x5 < (x0.length : Int) then (if 0 ≤ x5 then (if x5 < (x1.length : Int) then (if (rd x0 x5) = (rd x1 x5) then (exergueref01_Row.l0 k x0 x1 (wrap64 (x5 + 1))) else (some false)) else (none)) else (none)) else (some true)
def exergueref01_Row.f (k : Nat) (l0 : List Int) (l1 : List Int) : Option (Bool) := if (l0.length : Int) = (l1.length : Int) then (exergueref01_Row.l0 k l0 l1 0) else (some false)
theorem exergueref01_Row.mono_l : ∀ k, (∀ y0 y1 y2, LeO (exergueref01_Row.l0 k y0 y1 y2) (exergueref01_Row.l0 (k + 1) y0 y1 y2))
  | 0 => fun _ _ _ r h => by simp [exergueref01_Row.l0] at h
  | k + 1 => by
    have ih0 := exergueref01_Row.mono_l k
    · intro y0 y1 y2
      unfold exergueref01_Row.l0
      repeat' first
      | (with_reducible exact ih0 _ _ _)
      | (with_reducible exact LeO.refl _)
      | (with_reducible exact LeO.none _)
      | (with_reducible refine LeO.ite ?_ ?_)
      | (with_reducible refine LeO.bind ?_ (fun _ => ?_))
      | exact ih0 _ _ _
      | exact LeO.none _
      | refine LeO.ite ?_ ?_
      | refine LeO.bind ?_ (fun _ => ?_)
theorem exergueref01_Row.mono : ∀ a0 a1 k, LeO (exergueref01_Row.f k a0 a1) (exergueref01_Row.f (k + 1) a0 a1) := by
  intro a0 a1 k
  have ih0 := exergueref01_Row.mono_l k
  unfold exergueref01_Row.f
  repeat' first
      | (with_reducible exact ih0 _ _ _)
      | (with_reducible exact LeO.refl _)
      | (with_reducible exact LeO.none _)
      | (with_reducible refine LeO.ite ?_ ?_)
      | (with_reducible refine LeO.bind ?_ (fun _ => ?_))
      | exact ih0 _ _ _
      | exact LeO.none _
      | refine LeO.ite ?_ ?_
      | refine LeO.bind ?_ (fun _ => ?_)
set_option maxHeartbeats 8000000 in
set_option maxRecDepth 100000 in
theorem exergueref01_Row.calls (k : Nat) (A0 : Option Addr) (c0 : Nat) (l0 : List Int) (A1 : Option Addr) (c1 : Nat) (l1 : List Int) (r : Bool) (w : World) (hr0 : Kd.C (Kd.int .u8) w A0 l0.length l0) (hc0 : l0.length ≤ c0) (hr1 : Kd.C (Kd.int .u8) w A1 l1.length l1) (hc1 : l1.length ≤ c1) (h : exergueref01_Row.f k l0 l1 = some r) :
    Calls Try.prog 14 #[.slice A0 l0.length c0, .slice A1 l1.length c1] w fun e w' => e = .returned (.bool r) ∧ Drawn0 w w' := by
  have HR0 := Aside0.mk hr0
  have HC0 := Aside0.mk hc0
  clear hr0 hc0
  have HR1 := Aside0.mk hr1
  have HC1 := Aside0.mk hc1
  clear hr1 hc1
  have H : (if (l0.length : Int) = (l1.length : Int) then (exergueref01_Row.l0 k l0 l1 0) else (some false)) = some r := h
  clear h
  by_cases c3 : (l0.length : Int) = (l1.length : Int)
  · rw [if_pos c3] at H
    have c3b0 : ((l0.length : Int) == (l1.length : Int)) = true := beq_iff_eq.mpr c3
    have c3b1 : ((l0.length : Int) != (l1.length : Int)) = false := bne_eq_false_iff_eq.mpr c3
    have c3b2 : (l0.length == l1.length) = true := by first | simpa using c3 | (simp at c3 ⊢; omega)
    clear c3
    have H' := Aside0.mk H
    clear H
    go_enter Try.func14, Try.ntmps14
    go_wp2
    repeat (go_quiet (fail); try go_wp2)
    go_loopg [5] k (fun kq v5 w' => ∃ (x5_1 : Int), v5 = .int .i64 x5_1 ∧ Aside0 (exergueref01_Row.l0 kq l0 l1 x5_1 = some r) ∧ Aside0 (kq ≤ k) ∧ Drawn0 w w')
    case atStart => exact ⟨(0), (by first | rfl | (simp; done) | (simp [*]; done)), H', ⟨Nat.le_refl _⟩, by repeat (first | exact Drawn0.refl _ | apply Drawn0.step)⟩
    case round =>
      clear H'
      try clear c1
      try clear p2
      try clear c3
      try clear c3b0
      try clear c3b1
      try clear c3b2
      obtain ⟨x5_1, rfl, HA, HK1, ⟨m1, rfl⟩⟩ := hrel
      cases gk with
      | zero => exact absurd HA.out (by simp [exergueref01_Row.l0])
      | succ k1 =>
        have H := HA.out
        clear HA
        simp only [exergueref01_Row.l0] at H
        by_cases c4 : x5_1 < (l0.length : Int)
        · rw [if_pos c4] at H
          have c4b0 : decide (x5_1 < (l0.length : Int)) = true := decide_eq_true c4
          clear c4
          by_cases c5 : 0 ≤ x5_1
          · rw [if_pos c5] at H
            have c5b0 : decide (0 ≤ x5_1) = true := decide_eq_true c5
            clear c5
            by_cases c6 : x5_1 < (l1.length : Int)
            · rw [if_pos c6] at H
              have c6b0 : decide (x5_1 < (l1.length : Int)) = true := decide_eq_true c6
              clear c6
              by_cases c7 : (rd l0 x5_1) = (rd l1 x5_1)
              · rw [if_pos c7] at H
                have c7b0 : ((rd l0 x5_1) == (rd l1 x5_1)) = true := beq_iff_eq.mpr c7
                have c7b1 : ((rd l0 x5_1) != (rd l1 x5_1)) = false := bne_eq_false_iff_eq.mpr c7
                clear c7
                have H' := Aside0.mk H
                clear H
                have p110 : 0 ≤ (x5_1 : Int) := of_decide_eq_true (by first | (with_reducible assumption) | assumption)
                have q110 : x5_1 < (l0.length : Int) := of_decide_eq_true (by first | (with_reducible assumption) | assumption)
                obtain ⟨ad110, e110, hx110_0⟩ := Kd.at_int HR0.out x5_1 p110 q110
                cases e110
                replace p110 := eq_true p110
                replace q110 := eq_true q110
                have p111 : 0 ≤ (x5_1 : Int) := of_decide_eq_true (by first | (with_reducible assumption) | assumption)
                have q111 : x5_1 < (l1.length : Int) := of_decide_eq_true (by first | (with_reducible assumption) | assumption)
                obtain ⟨ad111, e111, hx111_0⟩ := Kd.at_int HR1.out x5_1 p111 q111
                cases e111
                replace p111 := eq_true p111
                replace q111 := eq_true q111
                go_wp2
                repeat (go_quiet (fail); try go_wp2)
                go_roundg k1
                case measure => have := HK1.out; omega
                case rel => exact ⟨(wrap64 (x5_1 + 1)), (by first | rfl | (simp; done) | (simp [*]; done)), H', ⟨by have := HK1.out; omega⟩, by repeat (first | exact Drawn0.refl _ | apply Drawn0.step)⟩
              · rw [if_neg c7] at H
                have c7b0 : ((rd l0 x5_1) == (rd l1 x5_1)) = false := beq_eq_false_iff_ne.mpr c7
                have c7b1 : ((rd l0 x5_1) != (rd l1 x5_1)) = true := bne_iff_ne.mpr c7
                obtain rfl := Option.some.inj H
                have p110 : 0 ≤ (x5_1 : Int) := of_decide_eq_true (by first | (with_reducible assumption) | assumption)
                have q110 : x5_1 < (l0.length : Int) := of_decide_eq_true (by first | (with_reducible assumption) | assumption)
                obtain ⟨ad110, e110, hx110_0⟩ := Kd.at_int HR0.out x5_1 p110 q110
                cases e110
                replace p110 := eq_true p110
                replace q110 := eq_true q110
                have p111 : 0 ≤ (x5_1 : Int) := of_decide_eq_true (by first | (with_reducible assumption) | assumption)
                have q111 : x5_1 < (l1.length : Int) := of_decide_eq_true (by first | (with_reducible assumption) | assumption)
                obtain ⟨ad111, e111, hx111_0⟩ := Kd.at_int HR1.out x5_1 p111 q111
                cases e111
                replace p111 := eq_true p111
                replace q111 := eq_true q111
                go_wp2
                repeat (go_quiet (fail); try go_wp2)
                go_ret
                exact ⟨by first | rfl | (simp; done) | (simp [*]; done), by repeat (first | exact Drawn0.refl _ | apply Drawn0.step)⟩
            · rw [if_neg c6] at H
              exact absurd H (by simp)
          · rw [if_neg c5] at H
            exact absurd H (by simp)
        · rw [if_neg c4] at H
          have c4b0 : decide (x5_1 < (l0.length : Int)) = false := decide_eq_false c4
          clear c4
          obtain rfl := Option.some.inj H
          go_wp2
          repeat (go_quiet (fail); try go_wp2)
          go_ret
          exact ⟨by first | rfl | (simp; done) | (simp [*]; done), by repeat (first | exact Drawn0.refl _ | apply Drawn0.step)⟩
  · rw [if_neg c3] at H
    have c3b0 : ((l0.length : Int) == (l1.length : Int)) = false := beq_eq_false_iff_ne.mpr c3
    have c3b1 : ((l0.length : Int) != (l1.length : Int)) = true := bne_iff_ne.mpr c3
    have c3b2 : (l0.length == l1.length) = false := by first | simpa using c3 | (simp at c3 ⊢; omega)
    obtain rfl := Option.some.inj H
    go_enter Try.func14, Try.ntmps14
    go_wp2
    repeat (go_quiet (fail); try go_wp2)
    go_ret
    exact ⟨by first | rfl | (simp; done) | (simp [*]; done), by repeat (first | exact Drawn0.refl _ | apply Drawn0.step)⟩

end Go.Proofs.Ytmhpcjncngonbaa.Q
/- Functions of the translation as plain Lean functions, each with a proof that the Go code comes to its answers, wherever the function has one; no other condition. Written by this session's own program (wip/myprint.py). -/
namespace Go.Proofs.Ytmhpcjncngonbaa.Q
open Go.RowKit Go.Proofs.Ytmhpcjncngonbaa.Mine Go.Proofs.YtmhpcjncngonbaaW.PrintWords Go.Proofs.YtmhpcjncngonbaaW.PrintLast Go.Proofs.YtmhpcjncngonbaaW.PrintMore
attribute [local go_sem] max2_int min2_int max_two min_two max_three min_three max_four min_four   -- for this text's walks alone
set_option linter.unusedVariables false
set_option linter.unusedSimpArgs false

/-! ### exergueref09_At: function 54 -/
def exergueref09_At.l0 : Nat → List ByteArray → ByteArray → Int → Option (Int)
  | 0, _, _, _ => none
  | k + 1, x0, x1, x5 => if x5 < (x0.length : Int) then (if 0 ≤ x5 then (if (rdOf ByteArray.empty x0 x5).toList = x1.toList then (some x5) else (exergueref09_At.l0 k x0 x1 (wrap64 (x5 + 1)))) else (none)) else (some (-1))
def exergueref09_At.f (k : Nat) (l0 : List ByteArray) (a1 : ByteArray) : Option (Int) := exergueref09_At.l0 k l0 a1 0
theorem exergueref09_At.mono_l : ∀ k, (∀ y0 y1 y2, LeO (exergueref09_At.l0 k y0 y1 y2) (exergueref09_At.l0 (k + 1) y0 y1 y2))
  | 0 => fun _ _ _ r h => by simp [exergueref09_At.l0] at h
  | k + 1 => by
    have ih0 := exergueref09_At.mono_l k
    · intro y0 y1 y2
      unfold exergueref09_At.l0
      repeat' first
      | (with_reducible exact ih0 _ _ _)
      | (with_reducible exact LeO.refl _)
      | (with_reducible exact LeO.none _)
      | (with_reducible refine LeO.ite ?_ ?_)
      | (with_reducible refine LeO.bind ?_ (fun _ => ?_))
      | exact ih0 _ _ _
      | exact LeO.none _
      | refine LeO.ite ?_ ?_
      | refine LeO.bind ?_ (fun _ => ?_)
theorem exergueref09_At.mono : ∀ a0 a1 k, LeO (exergueref09_At.f k a0 a1) (exergueref09_At.f (k + 1) a0 a1) := by
  intro a0 a1 k
  have ih0 := exergueref09_At.mono_l k
  unfold exergueref09_At.f
  repeat' first
      | (with_reducible exact ih0 _ _ _)
      | (with_reducible exact LeO.refl _)
      | (with_reducible exact LeO.none _)
      | (with_reducible refine LeO.ite ?_ ?_)
      | (with_reducible refine LeO.bind ?_ (fun _ => ?_))
      | exact ih0 _ _ _
      | exact LeO.none _
      | refine LeO.ite ?_ ?_
      | refine LeO.bind ?_ (fun _ => ?_)
set_option maxHeartbeats 8000000 in
set_option maxRecDepth 100000 in
theorem exergueref09_At.calls (k : Nat) (A0 : Option Addr) (c0 : Nat) (l0 : List ByteArray) (a1 : ByteArray) (r : Int) (w : World) (hr0 : Kd.C Kd.string w A0 l0.length l0) (hc0 : l0.length ≤ c0) (h : exergueref09_At.f k l0 a1 = some r) :
    Calls Try.prog 54 #[.slice A0 l0.length c0, .string a1] w fun e w' => e = .returned (.int .i64 r) ∧ Drawn0 w w' := by
  have HR0 := Aside0.mk hr0
  have HC0 := Aside0.mk hc0
  clear hr0 hc0
  have H : (exergueref09_At.l0 k l0 a1 0) = some r := h
  clear h
  have H' := Aside0.mk H
  clear H
  go_enter Try.func54, Try.ntmps54
  go_wp2
  go_loopg [5] k (fun kq v5 w' => ∃ (x5_1 : Int), v5 = .int .i64 x5_1 ∧ Aside0 (exergueref09_At.l0 kq l0 a1 x5_1 = some r) ∧ Aside0 (kq ≤ k) ∧ Drawn0 w w')
  case atStart => exact ⟨(0), (by first | rfl | (simp; done) | (simp [*]; done)), H', ⟨Nat.le_refl _⟩, by repeat (first | exact Drawn0.refl _ | apply Drawn0.step)⟩
  case round =>
    clear H'
    try clear p2
    obtain ⟨x5_1, rfl, HA, HK1, ⟨m1, rfl⟩⟩ := hrel
    cases gk with
    | zero => exact absurd HA.out (by simp [exergueref09_At.l0])
    | succ k1 =>
      have H := HA.out
      clear HA
      simp only [exergueref09_At.l0] at H
      by_cases c3 : x5_1 < (l0.length : Int)
      · rw [if_pos c3] at H
        have c3b0 : decide (x5_1 < (l0.length : Int)) = true := decide_eq_true c3
        clear c3
        by_cases c4 : 0 ≤ x5_1
        · rw [if_pos c4] at H
          have c4b0 : decide (0 ≤ x5_1) = true := decide_eq_true c4
          clear c4
          by_cases c5 : (rdOf ByteArray.empty l0 x5_1).toList = a1.toList
          · rw [if_pos c5] at H
            have c5b0 : ((rdOf ByteArray.empty l0 x5_1).toList == a1.toList) = true := beq_iff_eq.mpr c5
            have c5b1 : ((rdOf ByteArray.empty l0 x5_1).toList != a1.toList) = false := bne_eq_false_iff_eq.mpr c5
            clear c5
            obtain rfl := Option.some.inj H
            have p128 : 0 ≤ (x5_1 : Int) := of_decide_eq_true (by first | (with_reducible assumption) | assumption)
            have q128 : x5_1 < (l0.length : Int) := of_decide_eq_true (by first | (with_reducible assumption) | assumption)
            obtain ⟨ad128, e128, hx128_0⟩ := Kd.at_string HR0.out x5_1 p128 q128
            cases e128
            replace p128 := eq_true p128
            replace q128 := eq_true q128
            go_wp2
            go_ret
            exact ⟨by first | rfl | (simp; done) | (simp [*]; done), by repeat (first | exact Drawn0.refl _ | apply Drawn0.step)⟩
          · rw [if_neg c5] at H
            have c5b0 : ((rdOf ByteArray.empty l0 x5_1).toList == a1.toList) = false := beq_eq_false_iff_ne.mpr c5
            have c5b1 : ((rdOf ByteArray.empty l0 x5_1).toList != a1.toList) = true := bne_iff_ne.mpr c5
            have H' := Aside0.mk H
            clear H
            have p128 : 0 ≤ (x5_1 : Int) := of_decide_eq_true (by first | (with_reducible assumption) | assumption)
            have q128 : x5_1 < (l0.length : Int) := of_decide_eq_true (by first | (with_reducible assumption) | assumption)
            obtain ⟨ad128, e128, hx128_0⟩ := Kd.at_string HR0.out x5_1 p128 q128
            cases e128
            replace p128 := eq_true p128
            replace q128 := eq_true q128
            go_wp2
            go_roundg k1
            case measure => have := HK1.out; omega
            case rel => exact ⟨(wrap64 (x5_1 + 1)), (by first | rfl | (simp; done) | (simp [*]; done)), H', ⟨by have := HK1.out; omega⟩, by repeat (first | exact Drawn0.refl _ | apply Drawn0.step)⟩
        · rw [if_neg c4] at H
          exact absurd H (by simp)
      · rw [if_neg c3] at H
        have c3b0 : decide (x5_1 < (l0.length : Int)) = false := decide_eq_false c3
        clear c3
        obtain rfl := Option.some.inj H
        go_wp2
        go_ret
        exact ⟨by first | rfl | (simp; done) | (simp [*]; done), by repeat (first | exact Drawn0.refl _ | apply Drawn0.step)⟩

end Go.Proofs.Ytmhpcjncngonbaa.Q
/- Functions of the translation as plain Lean functions, each with a proof that the Go code comes to its answers, wherever the function has one; no other condition. Written by this session's own program (wip/myprint.py). -/
namespace Go.Proofs.Ytmhpcjncngonbaa.Q
open Go.RowKit Go.Proofs.Ytmhpcjncngonbaa.Mine Go.Proofs.YtmhpcjncngonbaaW.PrintWords Go.Proofs.YtmhpcjncngonbaaW.PrintLast Go.Proofs.YtmhpcjncngonbaaW.PrintMore
attribute [local go_sem] max2_int min2_int max_two min_two max_three min_three max_four min_four   -- for this text's walks alone
set_option linter.unusedVariables false
set_option linter.unusedSimpArgs false

/-! ### exergueref09_Gather: function 38 -/
def exergueref09_Gather.l0 : Nat → List ByteArray → List ByteArray → List Int → Int → Option (List ByteArray × List Int)
  | 0, _, _, _, _ => none
  | k + 1, x0, x4, x5, x6 => if x6 < (x0.length : Int) then (if 0 ≤ x6 then ((exergueref09_At.f k x4 (rdOf ByteArray.empty x0 x6)).bind fun t130 => (if t130 < 0 then (if x4.length < 8796093022208 then (if x5.length < 17592186044416 then (exergueref09_Gather.l0 k x0 (x4 ++ [rdOf ByteArray.empty x0 x6]) (x5 ++ [(x4.length : Int)]) (wrap64 (x6 + 1))) else (none)) else (none)) else (if x5.length < 17592186044416 then (exergueref09_Gather.l0 k x0 x4 (x5 ++ [t130]) (wrap64 (x6 + 1))) else (none)))) else (none)) else (some (x4, x5))
def exergueref09_Gather.f (k : Nat) (l0 : List ByteArray) : Option (List ByteArray × List Int) := exergueref09_Gather.l0 k l0 ([] : List ByteArray) ([] : List Int) 0
theorem exergueref09_Gather.mono_l : ∀ k, (∀ y0 y1 y2 y3, LeO (exergueref09_Gather.l0 k y0 y1 y2 y3) (exergueref09_Gather.l0 (k + 1) y0 y1 y2 y3))
  | 0 => fun _ _ _ _ r h => by simp [exergueref09_Gather.l0] at h
  | k + 1 => by
    have ih0 := exergueref09_Gather.mono_l k
    · intro y0 y1 y2 y3
      unfold exergueref09_Gather.l0
      repeat' first
      | (with_reducible exact ih0 _ _ _ _)
      | (with_reducible exact exergueref09_At.mono _ _ _)
      | (with_reducible exact LeO.refl _)
      | (with_reducible exact LeO.none _)
      | (with_reducible refine LeO.ite ?_ ?_)
      | (with_reducible refine LeO.bind ?_ (fun _ => ?_))
      | exact ih0 _ _ _ _
      | exact exergueref09_At.mono _ _ _
      | exact LeO.none _
      | refine LeO.ite ?_ ?_
      | refine LeO.bind ?_ (fun _ => ?_)
theorem exergueref09_Gather.mono : ∀ a0 k, LeO (exergueref09_Gather.f k a0) (exergueref09_Gather.f (k + 1) a0) := by
  intro a0 k
  have ih0 := exergueref09_Gather.mono_l k
  unfold exergueref09_Gather.f
  repeat' first
      | (with_reducible exact ih0 _ _ _ _)
      | (with_reducible exact exergueref09_At.mono _ _ _)
      | (with_reducible exact LeO.refl _)
      | (with_reducible exact LeO.none _)
      | (with_reducible refine LeO.ite ?_ ?_)
      | (with_reducible refine LeO.bind ?_ (fun _ => ?_))
      | exact ih0 _ _ _ _
      | exact exergueref09_At.mono _ _ _
      | exact LeO.none _
      | refine LeO.ite ?_ ?_
      | refine LeO.bind ?_ (fun _ => ?_)
set_option maxHeartbeats 8000000 in
set_option maxRecDepth 100000 in
theorem exergueref09_Gather.calls (k : Nat) (A0 : Option Addr) (c0 : Nat) (l0 : List ByteArray) (r1 : List ByteArray) (r2 : List Int) (w : World) (hr0 : Kd.C Kd.string w A0 l0.length l0) (hc0 : l0.length ≤ c0) (h : exergueref09_Gather.f k l0 = some (r1, r2)) :
    Calls Try.prog 38 #[.slice A0 l0.length c0] w fun e w' => ∃ v0_ v1_ : Value, e = .returned (.tuple #[v0_, v1_]) ∧ Kd.R Kd.string 9 w' w.heap.size (fun _ => True) v0_ r1 ∧ Kd.R (Kd.int .i64) 3 w' w.heap.size (fun _ => True) v1_ r2 ∧ Below w.heap.size w w' := by
  have HR0 := Aside0.mk hr0
  have HC0 := Aside0.mk hc0
  clear hr0 hc0
  have HB := Aside0.mk (Below.refl w.heap.size w)
  have H : (exergueref09_Gather.l0 k l0 ([] : List ByteArray) ([] : List Int) 0) = some (r1, r2) := h
  clear h
  have H' := Aside0.mk H
  clear H
  go_enter Try.func38, Try.ntmps38
  go_wp2
  go_loopg [4, 5, 6] k (fun kq v4 v5 v6 w' => ∃ (x4_1 : List ByteArray) (x5_1 : List Int) (x6_1 : Int), v6 = .int .i64 x6_1 ∧ Aside0 (exergueref09_Gather.l0 kq l0 x4_1 x5_1 x6_1 = some (r1, r2)) ∧ Aside0 (kq ≤ k) ∧ Aside0 (Kd.R Kd.string 9 w' w.heap.size (fun _ => True) v4 x4_1) ∧ Aside0 (Kd.R (Kd.int .i64) 3 w' w.heap.size (fun _ => True) v5 x5_1) ∧ Aside0 (Below w.heap.size w w'))
  case atStart => exact ⟨(([] : List ByteArray)), (([] : List Int)), (0), (by first | rfl | (simp; done) | (simp [*]; done)), H', ⟨Nat.le_refl _⟩, ⟨by first | exact Kd.R_nil _ _ _ _ _ | exact Kd.N_nil _ _ _ _ _ | exact Kd.V_nil _ _ _ _ _ | exact Kd.Q_nil _ _ _ _ _ | exact Kd.S_nil _ _ _ _ _⟩, ⟨by first | exact Kd.R_nil _ _ _ _ _ | exact Kd.N_nil _ _ _ _ _ | exact Kd.V_nil _ _ _ _ _ | exact Kd.Q_nil _ _ _ _ _ | exact Kd.S_nil _ _ _ _ _⟩, ⟨by repeat (first | (with_reducible first | exact HB.out | apply below_alloc | apply pw_below_drewN | apply below_drew1) | exact HB.out)⟩⟩
  case round =>
    clear H'
    obtain ⟨x4_1, x5_1, x6_1, rfl, HA, HK1, HO_4, HO_5, HB⟩ := hrel
    cases gk with
    | zero => exact absurd HA.out (by simp [exergueref09_Gather.l0])
    | succ k1 =>
      have H := HA.out
      clear HA
      simp only [exergueref09_Gather.l0] at H
      by_cases c2 : x6_1 < (l0.length : Int)
      · rw [if_pos c2] at H
        have c2b0 : decide (x6_1 < (l0.length : Int)) = true := decide_eq_true c2
        clear c2
        by_cases c3 : 0 ≤ x6_1
        · rw [if_pos c3] at H
          have c3b0 : decide (0 ≤ x6_1) = true := decide_eq_true c3
          clear c3
          replace H := Option.bind_eq_some_iff.mp H
          obtain ⟨t130, A40, H⟩ := H
          replace H : (if t130 < 0 then (if x4_1.length < 8796093022208 then (if x5_1.length < 17592186044416 then (exergueref09_Gather.l0 k1 l0 (x4_1 ++ [rdOf ByteArray.empty l0 x6_1]) (x5_1 ++ [(x4_1.length : Int)]) (wrap64 (x6_1 + 1))) else (none)) else (none)) else (if x5_1.length < 17592186044416 then (exergueref09_Gather.l0 k1 l0 x4_1 (x5_1 ++ [t130]) (wrap64 (x6_1 + 1))) else (none))) = some (r1, r2) := H
          have A4 := Aside0.mk A40
          clear A40
          by_cases c5 : t130 < 0
          · rw [if_pos c5] at H
            have c5b0 : decide (t130 < 0) = true := decide_eq_true c5
            clear c5
            by_cases c6 : x4_1.length < 8796093022208
            · rw [if_pos c6] at H
              have LMc6 := Aside0.mk c6
              clear c6
              obtain ⟨y132, hy132⟩ : ∃ y_ : List ByteArray, y_ = (x4_1 ++ [rdOf ByteArray.empty l0 x6_1]) := ⟨_, rfl⟩
              replace H : (if x5_1.length < 17592186044416 then (exergueref09_Gather.l0 k1 l0 y132 (x5_1 ++ [(x4_1.length : Int)]) (wrap64 (x6_1 + 1))) else (none)) = some (r1, r2) := by first | (rw [hy132]; with_reducible exact H) | (have H2_ := (Option.bind_some _ _).symm.trans H; rw [hy132]; with_reducible exact H2_) | (have H2_ := (Option.bind_some _ _).symm.trans H; with_reducible exact H2_) | with_reducible exact H | (rw [hy132]; exact H) | exact H
              have Ny132 := Aside0.mk hy132
              clear hy132
              by_cases c7 : x5_1.length < 17592186044416
              · rw [if_pos c7] at H
                have LMc7 := Aside0.mk c7
                clear c7
                obtain ⟨y135, hy135⟩ : ∃ y_ : List Int, y_ = (x5_1 ++ [(x4_1.length : Int)]) := ⟨_, rfl⟩
                replace H : (exergueref09_Gather.l0 k1 l0 y132 y135 (wrap64 (x6_1 + 1))) = some (r1, r2) := by first | (rw [hy135]; with_reducible exact H) | (have H2_ := (Option.bind_some _ _).symm.trans H; rw [hy135]; with_reducible exact H2_) | (have H2_ := (Option.bind_some _ _).symm.trans H; with_reducible exact H2_) | with_reducible exact H | (rw [hy135]; exact H) | exact H
                have Ny135 := Aside0.mk hy135
                clear hy135
                have H' := Aside0.mk H
                clear H
                have p129 : 0 ≤ (x6_1 : Int) := of_decide_eq_true (by first | (with_reducible assumption) | assumption)
                have q129 : x6_1 < (l0.length : Int) := of_decide_eq_true (by first | (with_reducible assumption) | assumption)
                obtain ⟨ad129, e129, hx129_0⟩ := Kd.at_string HR0.out x6_1 p129 q129
                cases e129
                replace hx129_0 := (HB.out.cell (World.block_lt_of_cell? w _ hx129_0)).trans hx129_0
                replace p129 := eq_true p129
                replace q129 := eq_true q129
                obtain ⟨Ao8, co8, eo8⟩ := Kd.R_slice HO_4.out
                subst eo8
                go_wp2_with (first | ((with_reducible refine gate_callee (f := 54) rfl ?_); refine goesL_ (some 19) rfl rfl Try.func54 (by kernel_rfl) rfl #[.slice Ao8 x4_1.length co8, .string (rdOf ByteArray.empty l0 x6_1)] rfl (by (try simp only [List.map_toArray, List.map_cons, List.map_nil]); first | done | rfl | (simp only [List.length_drop, List.length_take]; rfl)) ?_; (with_reducible refine (exergueref09_At.calls k1 _ _ x4_1 (rdOf ByteArray.empty l0 x6_1) t130 _ ?side1 ?side2 A4.out).mono ?_); (case side1 => repeat (first | exact (Kd.R_reads' HO_4.out).2.2 | (with_reducible refine Kd.C_alloc ?_ _) | (with_reducible refine Kd.C_drewN ?_ _) | (with_reducible refine Kd.C_drew ?_))); (case side2 => exact (Kd.R_reads' HO_4.out).2.1); rintro e w' ⟨rfl, ⟨nd, rfl⟩⟩; refine ⟨_, rfl, ?_⟩; have p131 : 0 ≤ (x6_1 : Int) := of_decide_eq_true (by first | (with_reducible assumption) | assumption); have q131 : x6_1 < (l0.length : Int) := of_decide_eq_true (by first | (with_reducible assumption) | assumption); obtain ⟨ad131, e131, hx131_0⟩ := Kd.at_string HR0.out x6_1 p131 q131; obtain rfl : ad129 = ad131 := (by injection e131); replace hx131_0 := (HB.out.cell (World.block_lt_of_cell? w _ hx131_0)).trans hx131_0; replace p131 := eq_true p131; replace q131 := eq_true q131) | ((with_reducible refine gate_builtin (b := .append) (xs := #[.tmp 24, .tmp 29]) rfl ?_); at_builtin; refine Kd.R_append Kd.string (w0 := w) w.heap.size rfl (.tmp 24) (.tmp 29) 48 9 (.string ⟨#[]⟩) 16 rfl Try.underlying48 info9 rfl (by decide) (by omega) (.slice Ao8 x4_1.length co8) x4_1 (rdOf ByteArray.empty l0 x6_1) [.string (rdOf ByteArray.empty l0 x6_1)] (fun _ => True) (fun _ => False) rfl rfl ?aP (fun _ hk => hk.elim) ?aF ?aO ?aB ?aS ?aL ?_; (case aP => exact rfl); (case aB => exact (by repeat (first | (with_reducible first | exact HB.out | apply below_alloc | apply pw_below_drewN | apply below_drew1) | exact HB.out))); (case aF => exact (fun _ _ => trivial)); (case aO => exact (by (with_reducible repeat (first | apply Kd.R_alloc | apply Kd.R_drewN | apply Kd.R_drew)); exact HO_4.out)); (case aS => exact (below_size (by repeat (first | (with_reducible first | exact HB.out | apply below_alloc | apply pw_below_drewN | apply below_drew1) | exact HB.out)))); (case aL => have := LMc6.out; omega); intro v133 w9 ho hb hg hat; rw [← Ny132.out] at ho; have n0_ := Aside0.mk (Kd.R_over' (by (with_reducible repeat (first | apply Kd.R_alloc | apply Kd.R_drewN | apply Kd.R_drew)); exact HO_5.out) (Kd.R_typed (by (with_reducible repeat (first | apply Kd.R_alloc | apply Kd.R_drewN | apply Kd.R_drew)); exact HO_4.out)) (by decide) hg); have n1_ := Aside0.mk (hb); have n2_ := Aside0.mk (ho); clear HO_5; clear HB; clear HO_4; have HO_5 := n0_; have HB := n1_; have HO134 := n2_; clear n0_ n1_ n2_; clear ho hb hg hat) | ((with_reducible refine gate_builtin (b := .append) (xs := #[.tmp 31, .tmp 33]) rfl ?_); at_builtin; refine Kd.R_append (Kd.int .i64) (w0 := w) w.heap.size rfl (.tmp 31) (.tmp 33) 63 3 (.int .i64 0) 8 rfl Try.underlying63 info3 rfl (by decide) (by omega) u5 x5_1 (x4_1.length : Int) [.int .i64 (x4_1.length : Int)] (fun _ => True) (fun _ => False) rfl rfl ?aP (fun _ hk => hk.elim) ?aF ?aO ?aB ?aS ?aL ?_; (case aP => exact rfl); (case aB => exact (by repeat (first | (with_reducible first | exact HB.out | apply below_alloc | apply pw_below_drewN | apply below_drew1) | exact HB.out))); (case aF => exact (fun _ _ => trivial)); (case aO => exact (by (with_reducible repeat (first | apply Kd.R_alloc | apply Kd.R_drewN | apply Kd.R_drew)); exact HO_5.out)); (case aS => exact (below_size (by repeat (first | (with_reducible first | exact HB.out | apply below_alloc | apply pw_below_drewN | apply below_drew1) | exact HB.out)))); (case aL => have := LMc7.out; omega); intro v136 w10 ho hb hg hat; rw [← Ny135.out] at ho; have n0_ := Aside0.mk (Kd.R_over' (by (with_reducible repeat (first | apply Kd.R_alloc | apply Kd.R_drewN | apply Kd.R_drew)); exact HO134.out) (Kd.R_typed (by (with_reducible repeat (first | apply Kd.R_alloc | apply Kd.R_drewN | apply Kd.R_drew)); exact HO_5.out)) (by decide) hg); have n1_ := Aside0.mk (hb); have n2_ := Aside0.mk (ho); clear HO134; clear HB; clear HO_5; have HO134 := n0_; have HB := n1_; have HO137 := n2_; clear n0_ n1_ n2_; clear ho hb hg hat))
                go_roundg k1
                case measure => have := HK1.out; omega
                case rel => exact ⟨(y132), (y135), (wrap64 (x6_1 + 1)), (by first | rfl | (simp; done) | (simp [*]; done)), H', ⟨by have := HK1.out; omega⟩, ⟨by (with_reducible repeat (first | apply Kd.R_alloc | apply Kd.R_drewN | apply Kd.R_drew)); exact HO134.out⟩, ⟨by (with_reducible repeat (first | apply Kd.R_alloc | apply Kd.R_drewN | apply Kd.R_drew)); exact HO137.out⟩, ⟨by repeat (first | (with_reducible first | exact HB.out | apply below_alloc | apply pw_below_drewN | apply below_drew1) | exact HB.out)⟩⟩
              · rw [if_neg c7] at H
                exact absurd H (by simp)
            · rw [if_neg c6] at H
              exact absurd H (by simp)
          · rw [if_neg c5] at H
            have c5b0 : decide (t130 < 0) = false := decide_eq_false c5
            clear c5
            by_cases c11 : x5_1.length < 17592186044416
            · rw [if_pos c11] at H
              have LMc11 := Aside0.mk c11
              clear c11
              obtain ⟨y138, hy138⟩ : ∃ y_ : List Int, y_ = (x5_1 ++ [t130]) := ⟨_, rfl⟩
              replace H : (exergueref09_Gather.l0 k1 l0 x4_1 y138 (wrap64 (x6_1 + 1))) = some (r1, r2) := by first | (rw [hy138]; with_reducible exact H) | (have H2_ := (Option.bind_some _ _).symm.trans H; rw [hy138]; with_reducible exact H2_) | (have H2_ := (Option.bind_some _ _).symm.trans H; with_reducible exact H2_) | with_reducible exact H | (rw [hy138]; exact H) | exact H
              have Ny138 := Aside0.mk hy138
              clear hy138
              have H' := Aside0.mk H
              clear H
              have p129 : 0 ≤ (x6_1 : Int) := of_decide_eq_true (by first | (with_reducible assumption) | assumption)
              have q129 : x6_1 < (l0.length : Int) := of_decide_eq_true (by first | (with_reducible assumption) | assumption)
              obtain ⟨ad129, e129, hx129_0⟩ := Kd.at_string HR0.out x6_1 p129 q129
              cases e129
              replace hx129_0 := (HB.out.cell (World.block_lt_of_cell? w _ hx129_0)).trans hx129_0
              replace p129 := eq_true p129
              replace q129 := eq_true q129
              obtain ⟨Ao12, co12, eo12⟩ := Kd.R_slice HO_4.out
              subst eo12
              go_wp2_with (first | ((with_reducible refine gate_callee (f := 54) rfl ?_); refine goesL_ (some 19) rfl rfl Try.func54 (by kernel_rfl) rfl #[.slice Ao12 x4_1.length co12, .string (rdOf ByteArray.empty l0 x6_1)] rfl (by (try simp only [List.map_toArray, List.map_cons, List.map_nil]); first | done | rfl | (simp only [List.length_drop, List.length_take]; rfl)) ?_; (with_reducible refine (exergueref09_At.calls k1 _ _ x4_1 (rdOf ByteArray.empty l0 x6_1) t130 _ ?side1 ?side2 A4.out).mono ?_); (case side1 => repeat (first | exact (Kd.R_reads' HO_4.out).2.2 | (with_reducible refine Kd.C_alloc ?_ _) | (with_reducible refine Kd.C_drewN ?_ _) | (with_reducible refine Kd.C_drew ?_))); (case side2 => exact (Kd.R_reads' HO_4.out).2.1); rintro e w' ⟨rfl, ⟨nd, rfl⟩⟩; refine ⟨_, rfl, ?_⟩) | ((with_reducible refine gate_builtin (b := .append) (xs := #[.tmp 31, .tmp 33]) rfl ?_); at_builtin; refine Kd.R_append (Kd.int .i64) (w0 := w) w.heap.size rfl (.tmp 31) (.tmp 33) 63 3 (.int .i64 0) 8 rfl Try.underlying63 info3 rfl (by decide) (by omega) u5 x5_1 t130 [.int .i64 t130] (fun _ => True) (fun _ => False) rfl rfl ?aP (fun _ hk => hk.elim) ?aF ?aO ?aB ?aS ?aL ?_; (case aP => exact rfl); (case aB => exact (by repeat (first | (with_reducible first | exact HB.out | apply below_alloc | apply pw_below_drewN | apply below_drew1) | exact HB.out))); (case aF => exact (fun _ _ => trivial)); (case aO => exact (by (with_reducible repeat (first | apply Kd.R_alloc | apply Kd.R_drewN | apply Kd.R_drew)); exact HO_5.out)); (case aS => exact (below_size (by repeat (first | (with_reducible first | exact HB.out | apply below_alloc | apply pw_below_drewN | apply below_drew1) | exact HB.out)))); (case aL => have := LMc11.out; omega); intro v139 w13 ho hb hg hat; rw [← Ny138.out] at ho; have n0_ := Aside0.mk (Kd.R_over' (by (with_reducible repeat (first | apply Kd.R_alloc | apply Kd.R_drewN | apply Kd.R_drew)); exact HO_4.out) (Kd.R_typed (by (with_reducible repeat (first | apply Kd.R_alloc | apply Kd.R_drewN | apply Kd.R_drew)); exact HO_5.out)) (by decide) hg); have n1_ := Aside0.mk (hb); have n2_ := Aside0.mk (ho); clear HO_4; clear HB; clear HO_5; have HO_4 := n0_; have HB := n1_; have HO140 := n2_; clear n0_ n1_ n2_; clear ho hb hg hat))
              go_roundg k1
              case measure => have := HK1.out; omega
              case rel => exact ⟨(x4_1), (y138), (wrap64 (x6_1 + 1)), (by first | rfl | (simp; done) | (simp [*]; done)), H', ⟨by have := HK1.out; omega⟩, ⟨by (with_reducible repeat (first | apply Kd.R_alloc | apply Kd.R_drewN | apply Kd.R_drew)); exact HO_4.out⟩, ⟨by (with_reducible repeat (first | apply Kd.R_alloc | apply Kd.R_drewN | apply Kd.R_drew)); exact HO140.out⟩, ⟨by repeat (first | (with_reducible first | exact HB.out | apply below_alloc | apply pw_below_drewN | apply below_drew1) | exact HB.out)⟩⟩
            · rw [if_neg c11] at H
              exact absurd H (by simp)
        · rw [if_neg c3] at H
          exact absurd H (by simp)
      · rw [if_neg c2] at H
        have c2b0 : decide (x6_1 < (l0.length : Int)) = false := decide_eq_false c2
        clear c2
        simp only [Option.some.injEq, Prod.mk.injEq] at H
        obtain ⟨rfl, rfl⟩ := H
        go_wp2
        go_ret2
        exact ⟨_, _, by first | rfl | (simp [errW_none, errW_some] <;> rfl) | (simp [*, errW_none, errW_some] <;> rfl), by (with_reducible repeat (first | apply Kd.R_alloc | apply Kd.R_drewN | apply Kd.R_drew)); exact HO_4.out, by (with_reducible repeat (first | apply Kd.R_alloc | apply Kd.R_drewN | apply Kd.R_drew)); exact HO_5.out, by repeat (first | (with_reducible first | exact HB.out | apply below_alloc | apply pw_below_drewN | apply below_drew1) | exact HB.out)⟩

end Go.Proofs.Ytmhpcjncngonbaa.Q
/- Functions of the translation as plain Lean functions, each with a proof that the Go code comes to its answers, wherever the function has one; no other condition. Written by this session's own program (wip/myprint.py). -/
namespace Go.Proofs.Ytmhpcjncngonbaa.Q
open Go.RowKit Go.Proofs.Ytmhpcjncngonbaa.Mine Go.Proofs.YtmhpcjncngonbaaW.PrintWords Go.Proofs.YtmhpcjncngonbaaW.PrintLast Go.Proofs.YtmhpcjncngonbaaW.PrintMore
attribute [local go_sem] max2_int min2_int max_two min_two max_three min_three max_four min_four   -- for this text's walks alone
set_option linter.unusedVariables false
set_option linter.unusedSimpArgs false

/-! ### exergueref09_Texts: function 20 -/
def exergueref09_Texts.l0 : Nat → List ByteArray → List ByteArray → Int → Option (Bool)
  | 0, _, _, _ => none
  | k + 1, x0, x1, x5 => if x5 < (x0.length : Int) then (if 0 ≤ x5 then (if x5 < (x1.length : Int) then (if (rdOf ByteArray.empty x0 x5).toList = (rdOf ByteArray.empty x1 x5).toList then (exergueref09_Texts.l0 k x0 x1 (wrap64 (x5 + 1))) else (some false)) else (none)) else (none)) else (some true)
def exergueref09_Texts.f (k : Nat) (l0 : List ByteArray) (l1 : List ByteArray) : Option (Bool) := if (l0.length : Int) = (l1.length : Int) then (exergueref09_Texts.l0 k l0 l1 0) else (some false)
theorem exergueref09_Texts.mono_l : ∀ k, (∀ y0 y1 y2, LeO (exergueref09_Texts.l0 k y0 y1 y2) (exergueref09_Texts.l0 (k + 1) y0 y1 y2))
  | 0 => fun _ _ _ r h => by simp [exergueref09_Texts.l0] at h
  | k + 1 => by
    have ih0 := exergueref09_Texts.mono_l k
    · intro y0 y1 y2
      unfold exergueref09_Texts.l0
      repeat' first
      | (with_reducible exact ih0 _ _ _)
      | (with_reducible exact LeO.refl _)
      | (with_reducible exact LeO.none _)
      | (with_reducible refine LeO.ite ?_ ?_)
      | (with_reducible refine LeO.bind ?_ (fun _ => ?_))
      | exact ih0 _ _ _
      | exact LeO.none _
      | refine LeO.ite ?_ ?_
      | refine LeO.bind ?_ (fun _ => ?_)
theorem exergueref09_Texts.mono : ∀ a0 a1 k, LeO (exergueref09_Texts.f k a0 a1) (exergueref09_Texts.f (k + 1) a0 a1) := by
  intro a0 a1 k
  have ih0 := exergueref09_Texts.mono_l k
  unfold exergueref09_Texts.f
  repeat' first
      | (with_reducible exact ih0 _ _ _)
      | (with_reducible exact LeO.refl _)
      | (with_reducible exact LeO.none _)
      | (with_reducible refine LeO.ite ?_ ?_)
      | (with_reducible refine LeO.bind ?_ (fun _ => ?_))
      | exact ih0 _ _ _
      | exact LeO.none _
      | refine LeO.ite ?_ ?_
      | refine LeO.bind ?_ (fun _ => ?_)
set_option maxHeartbeats 8000000 in
set_option maxRecDepth 100000 in
theorem exergueref09_Texts.calls (k : Nat) (A0 : Option Addr) (c0 : Nat) (l0 : List ByteArray) (A1 : Option Addr) (c1 : Nat) (l1 : List ByteArray) (r : Bool) (w : World) (hr0 : Kd.C Kd.string w A0 l0.length l0) (hc0 : l0.length ≤ c0) (hr1 : Kd.C Kd.string w A1 l1.length l1) (hc1 : l1.length ≤ c1) (h : exergueref09_Texts.f k l0 l1 = some r) :
    Calls Try.prog 20 #[.slice A0 l0.length c0, .slice A1 l1.length c1] w fun e w' => e = .returned (.bool r) ∧ Drawn0 w w' := by
  have HR0 := Aside0.mk hr0
  have HC0 := Aside0.mk hc0
  clear hr0 hc0
  have HR1 := Aside0.mk hr1
  have HC1 := Aside0.mk hc1
  clear hr1 hc1
  have H : (if (l0.length : Int) = (l1.length : Int) then (exergueref09_Texts.l0 k l0 l1 0) else (some false)) = some r := h
  clear h
  by_cases c3 : (l0.length : Int) = (l1.length : Int)
  · rw [if_pos c3] at H
    have c3b0 : ((l0.length : Int) == (l1.length : Int)) = true := beq_iff_eq.mpr c3
    have c3b1 : ((l0.length : Int) != (l1.length : Int)) = false := bne_eq_false_iff_eq.mpr c3
    have c3b2 : (l0.length == l1.length) = true := by first | simpa using c3 | (simp at c3 ⊢; omega)
    clear c3
    have H' := Aside0.mk H
    clear H
    go_enter Try.func20, Try.ntmps20
    go_wp2
    repeat (go_quiet (fail); try go_wp2)
    go_loopg [5] k (fun kq v5 w' => ∃ (x5_1 : Int), v5 = .int .i64 x5_1 ∧ Aside0 (exergueref09_Texts.l0 kq l0 l1 x5_1 = some r) ∧ Aside0 (kq ≤ k) ∧ Drawn0 w w')
    case atStart => exact ⟨(0), (by first | rfl | (simp; done) | (simp [*]; done)), H', ⟨Nat.le_refl _⟩, by repeat (first | exact Drawn0.refl _ | apply Drawn0.step)⟩
    case round =>
      clear H'
      try clear c1
      try clear c2
      try clear p2
      try clear c3
      try clear c3b0
      try clear c3b1
      try clear c3b2
      obtain ⟨x5_1, rfl, HA, HK1, ⟨m1, rfl⟩⟩ := hrel
      cases gk with
      | zero => exact absurd HA.out (by simp [exergueref09_Texts.l0])
      | succ k1 =>
        have H := HA.out
        clear HA
        simp only [exergueref09_Texts.l0] at H
        by_cases c4 : x5_1 < (l0.length : Int)
        · rw [if_pos c4] at H
          have c4b0 : decide (x5_1 < (l0.length : Int)) = true := decide_eq_true c4
          clear c4
          by_cases c5 : 0 ≤ x5_1
          · rw [if_pos c5] at H
            have c5b0 : decide (0 ≤ x5_1) = true := decide_eq_true c5
            clear c5
            by_cases c6 : x5_1 < (l1.length : Int)
            · rw [if_pos c6] at H
              have c6b0 : decide (x5_1 < (l1.length : Int)) = true := decide_eq_true c6
              clear c6
              by_cases c7 : (rdOf ByteArray.empty l0 x5_1).toList = (rdOf ByteArray.empty l1 x5_1).toList
              · rw [if_pos c7] at H
                have c7b0 : ((rdOf ByteArray.empty l0 x5_1).toList == (rdOf ByteArray.empty l1 x5_1).toList) = true := beq_iff_eq.mpr c7
                have c7b1 : ((rdOf ByteArray.empty l0 x5_1).toList != (rdOf ByteArray.empty l1 x5_1).toList) = false := bne_eq_false_iff_eq.mpr c7
                clear c7
                have H' := Aside0.mk H
                clear H
                have p226 : 0 ≤ (x5_1 : Int) := of_decide_eq_true (by first | (with_reducible assumption) | assumption)
                have q226 : x5_1 < (l0.length : Int) := of_decide_eq_true (by first | (with_reducible assumption) | assumption)
                obtain ⟨ad226, e226, hx226_0⟩ := Kd.at_string HR0.out x5_1 p226 q226
                cases e226
                replace p226 := eq_true p226
                replace q226 := eq_true q226
                have p227 : 0 ≤ (x5_1 : Int) := of_decide_eq_true (by first | (with_reducible assumption) | assumption)
                have q227 : x5_1 < (l1.length : Int) := of_decide_eq_true (by first | (with_reducible assumption) | assumption)
                obtain ⟨ad227, e227, hx227_0⟩ := Kd.at_string HR1.out x5_1 p227 q227
                cases e227
                replace p227 := eq_true p227
                replace q227 := eq_true q227
                go_wp2
                repeat (go_quiet (fail); try go_wp2)
                go_roundg k1
                case measure => have := HK1.out; omega
                case rel => exact ⟨(wrap64 (x5_1 + 1)), (by first | rfl | (simp; done) | (simp [*]; done)), H', ⟨by have := HK1.out; omega⟩, by repeat (first | exact Drawn0.refl _ | apply Drawn0.step)⟩
              · rw [if_neg c7] at H
                have c7b0 : ((rdOf ByteArray.empty l0 x5_1).toList == (rdOf ByteArray.empty l1 x5_1).toList) = false := beq_eq_false_iff_ne.mpr c7
                have c7b1 : ((rdOf ByteArray.empty l0 x5_1).toList != (rdOf ByteArray.empty l1 x5_1).toList) = true := bne_iff_ne.mpr c7
                obtain rfl := Option.some.inj H
                have p226 : 0 ≤ (x5_1 : Int) := of_decide_eq_true (by first | (with_reducible assumption) | assumption)
                have q226 : x5_1 < (l0.length : Int) := of_decide_eq_true (by first | (with_reducible assumption) | assumption)
                obtain ⟨ad226, e226, hx226_0⟩ := Kd.at_string HR0.out x5_1 p226 q226
                cases e226
                replace p226 := eq_true p226
                replace q226 := eq_true q226
                have p227 : 0 ≤ (x5_1 : Int) := of_decide_eq_true (by first | (with_reducible assumption) | assumption)
                have q227 : x5_1 < (l1.length : Int) := of_decide_eq_true (by first | (with_reducible assumption) | assumption)
                obtain ⟨ad227, e227, hx227_0⟩ := Kd.at_string HR1.out x5_1 p227 q227
                cases e227
                replace p227 := eq_true p227
                replace q227 := eq_true q227
                go_wp2
                repeat (go_quiet (fail); try go_wp2)
                go_ret
                exact ⟨by first | rfl | (simp; done) | (simp [*]; done), by repeat (first | exact Drawn0.refl _ | apply Drawn0.step)⟩
            · rw [if_neg c6] at H
              exact absurd H (by simp)
          · rw [if_neg c5] at H
            exact absurd H (by simp)
        · rw [if_neg c4] at H
          have c4b0 : decide (x5_1 < (l0.length : Int)) = false := decide_eq_false c4
          clear c4
          obtain rfl := Option.some.inj H
          go_wp2
          repeat (go_quiet (fail); try go_wp2)
          go_ret
          exact ⟨by first | rfl | (simp; done) | (simp [*]; done), by repeat (first | exact Drawn0.refl _ | apply Drawn0.step)⟩
  · rw [if_neg c3] at H
    have c3b0 : ((l0.length : Int) == (l1.length : Int)) = false := beq_eq_false_iff_ne.mpr c3
    have c3b1 : ((l0.length : Int) != (l1.length : Int)) = true := bne_iff_ne.mpr c3
    have c3b2 : (l0.length == l1.length) = false := by first | simpa using c3 | (simp at c3 ⊢; omega)
    obtain rfl := Option.some.inj H
    go_enter Try.func20, Try.ntmps20
    go_wp2
    repeat (go_quiet (fail); try go_wp2)
    go_ret
    exact ⟨by first | rfl | (simp; done) | (simp [*]; done), by repeat (first | exact Drawn0.refl _ | apply Drawn0.step)⟩

end Go.Proofs.Ytmhpcjncngonbaa.Q
/- Functions of the translation as plain Lean functions, each with a proof that the Go code comes to its answers, wherever the function has one; no other condition. Written by this session's own program (wip/myprint.py). -/
namespace Go.Proofs.Ytmhpcjncngonbaa.Q
open Go.RowKit Go.Proofs.Ytmhpcjncngonbaa.Mine Go.Proofs.YtmhpcjncngonbaaW.PrintWords Go.Proofs.YtmhpcjncngonbaaW.PrintLast Go.Proofs.YtmhpcjncngonbaaW.PrintMore
attribute [local go_sem] max2_int min2_int max_two min_two max_three min_three max_four min_four   -- for this text's walks alone
set_option linter.unusedVariables false
set_option linter.unusedSimpArgs false

/-! ### exergueref09_Pool: function 39 -/
def exergueref09_Pool.l0 : Nat → List ByteArray → Int → Option (Bool)
  | 0, _, _ => none
  | k + 1, x0, x3 => if x3 < (x0.length : Int) then (if 0 ≤ x3 then (if ((rdOf ByteArray.empty x0 x3).size : Int) > 400 then (some false) else ((exergueref09_At.f k x0 (rdOf ByteArray.empty x0 x3)).bind fun t143 => (if t143 < x3 then (some false) else (exergueref09_Pool.l0 k x0 (wrap64 (x3 + 1)))))) else (none)) else (some true)
def exergueref09_Pool.f (k : Nat) (l0 : List ByteArray) : Option (Bool) := if (l0.length : Int) > 500 then (some false) else (exergueref09_Pool.l0 k l0 0)
theorem exergueref09_Pool.mono_l : ∀ k, (∀ y0 y1, LeO (exergueref09_Pool.l0 k y0 y1) (exergueref09_Pool.l0 (k + 1) y0 y1))
  | 0 => fun _ _ r h => by simp [exergueref09_Pool.l0] at h
  | k + 1 => by
    have ih0 := exergueref09_Pool.mono_l k
    · intro y0 y1
      unfold exergueref09_Pool.l0
      repeat' first
      | (with_reducible exact ih0 _ _)
      | (with_reducible exact exergueref09_At.mono _ _ _)
      | (with_reducible exact LeO.refl _)
      | (with_reducible exact LeO.none _)
      | (with_reducible refine LeO.ite ?_ ?_)
      | (with_reducible refine LeO.bind ?_ (fun _ => ?_))
      | exact ih0 _ _
      | exact exergueref09_At.mono _ _ _
      | exact LeO.none _
      | refine LeO.ite ?_ ?_
      | refine LeO.bind ?_ (fun _ => ?_)
theorem exergueref09_Pool.mono : ∀ a0 k, LeO (exergueref09_Pool.f k a0) (exergueref09_Pool.f (k + 1) a0) := by
  intro a0 k
  have ih0 := exergueref09_Pool.mono_l k
  unfold exergueref09_Pool.f
  repeat' first
      | (with_reducible exact ih0 _ _)
      | (with_reducible exact exergueref09_At.mono _ _ _)
      | (with_reducible exact LeO.refl _)
      | (with_reducible exact LeO.none _)
      | (with_reducible refine LeO.ite ?_ ?_)
      | (with_reducible refine LeO.bind ?_ (fun _ => ?_))
      | exact ih0 _ _
      | exact exergueref09_At.mono _ _ _
      | exact LeO.none _
      | refine LeO.ite ?_ ?_
      | refine LeO.bind ?_ (fun _ => ?_)
set_option maxHeartbeats 8000000 in
set_option maxRecDepth 100000 in
theorem exergueref09_Pool.calls (k : Nat) (A0 : Option Addr) (c0 : Nat) (l0 : List ByteArray) (r : Bool) (w : World) (hr0 : Kd.C Kd.string w A0 l0.length l0) (hc0 : l0.length ≤ c0) (h : exergueref09_Pool.f k l0 = some r) :
    Calls Try.prog 39 #[.slice A0 l0.length c0] w fun e w' => e = .returned (.bool r) ∧ Drawn0 w w' := by
  have HR0 := Aside0.mk hr0
  have HC0 := Aside0.mk hc0
  clear hr0 hc0
  have H : (if (l0.length : Int) > 500 then (some false) else (exergueref09_Pool.l0 k l0 0)) = some r := h
  clear h
  by_cases c2 : (l0.length : Int) > 500
  · rw [if_pos c2] at H
    have c2b0 : decide (500 < (l0.length : Int)) = true := decide_eq_true c2
    have c2b1 : decide (500 < l0.length) = true := decide_eq_true (by omega)
    clear c2
    obtain rfl := Option.some.inj H
    go_enter Try.func39, Try.ntmps39
    go_wp2
    go_ret
    exact ⟨by first | rfl | (simp; done) | (simp [*]; done), by repeat (first | exact Drawn0.refl _ | apply Drawn0.step)⟩
  · rw [if_neg c2] at H
    have c2b0 : decide (500 < (l0.length : Int)) = false := decide_eq_false c2
    have c2b1 : decide (500 < l0.length) = false := decide_eq_false (by omega)
    clear c2
    have H' := Aside0.mk H
    clear H
    go_enter Try.func39, Try.ntmps39
    go_wp2
    go_loopg [3] k (fun kq v3 w' => ∃ (x3_1 : Int), v3 = .int .i64 x3_1 ∧ Aside0 (exergueref09_Pool.l0 kq l0 x3_1 = some r) ∧ Aside0 (kq ≤ k) ∧ Drawn0 w w')
    case atStart => exact ⟨(0), (by first | rfl | (simp; done) | (simp [*]; done)), H', ⟨Nat.le_refl _⟩, by repeat (first | exact Drawn0.refl _ | apply Drawn0.step)⟩
    case round =>
      clear H'
      try clear c2
      try clear c2b0
      try clear c2b1
      try clear p2
      obtain ⟨x3_1, rfl, HA, HK1, ⟨m1, rfl⟩⟩ := hrel
      cases gk with
      | zero => exact absurd HA.out (by simp [exergueref09_Pool.l0])
      | succ k1 =>
        have H := HA.out
        clear HA
        simp only [exergueref09_Pool.l0] at H
        by_cases c3 : x3_1 < (l0.length : Int)
        · rw [if_pos c3] at H
          have c3b0 : decide (x3_1 < (l0.length : Int)) = true := decide_eq_true c3
          clear c3
          by_cases c4 : 0 ≤ x3_1
          · rw [if_pos c4] at H
            have c4b0 : decide (0 ≤ x3_1) = true := decide_eq_true c4
            clear c4
            by_cases c5 : ((rdOf ByteArray.empty l0 x3_1).size : Int) > 400
            · rw [if_pos c5] at H
              have c5b0 : decide (400 < ((rdOf ByteArray.empty l0 x3_1).size : Int)) = true := decide_eq_true c5
              have c5b1 : decide (400 < (rdOf ByteArray.empty l0 x3_1).size) = true := decide_eq_true (by omega)
              clear c5
              obtain rfl := Option.some.inj H
              have p141 : 0 ≤ (x3_1 : Int) := of_decide_eq_true (by first | (with_reducible assumption) | assumption)
              have q141 : x3_1 < (l0.length : Int) := of_decide_eq_true (by first | (with_reducible assumption) | assumption)
              obtain ⟨ad141, e141, hx141_0⟩ := Kd.at_string HR0.out x3_1 p141 q141
              cases e141
              replace p141 := eq_true p141
              replace q141 := eq_true q141
              go_wp2
              go_ret
              exact ⟨by first | rfl | (simp; done) | (simp [*]; done), by repeat (first | exact Drawn0.refl _ | apply Drawn0.step)⟩
            · rw [if_neg c5] at H
              have c5b0 : decide (400 < ((rdOf ByteArray.empty l0 x3_1).size : Int)) = false := decide_eq_false c5
              have c5b1 : decide (400 < (rdOf ByteArray.empty l0 x3_1).size) = false := decide_eq_false (by omega)
              clear c5
              replace H := Option.bind_eq_some_iff.mp H
              obtain ⟨t143, A60, H⟩ := H
              replace H : (if t143 < x3_1 then (some false) else (exergueref09_Pool.l0 k1 l0 (wrap64 (x3_1 + 1)))) = some r := H
              have A6 := Aside0.mk A60
              clear A60
              by_cases c7 : t143 < x3_1
              · rw [if_pos c7] at H
                have c7b0 : decide (t143 < x3_1) = true := decide_eq_true c7
                clear c7
                obtain rfl := Option.some.inj H
                have p141 : 0 ≤ (x3_1 : Int) := of_decide_eq_true (by first | (with_reducible assumption) | assumption)
                have q141 : x3_1 < (l0.length : Int) := of_decide_eq_true (by first | (with_reducible assumption) | assumption)
                obtain ⟨ad141, e141, hx141_0⟩ := Kd.at_string HR0.out x3_1 p141 q141
                cases e141
                replace p141 := eq_true p141
                replace q141 := eq_true q141
                have p142 : 0 ≤ (x3_1 : Int) := of_decide_eq_true (by first | (with_reducible assumption) | assumption)
                have q142 : x3_1 < (l0.length : Int) := of_decide_eq_true (by first | (with_reducible assumption) | assumption)
                obtain ⟨ad142, e142, hx142_0⟩ := Kd.at_string HR0.out x3_1 p142 q142
                obtain rfl : ad141 = ad142 := (by injection e142)
                replace p142 := eq_true p142
                replace q142 := eq_true q142
                go_wp2_with (first | (go_at_call 54; (with_reducible refine (exergueref09_At.calls k1 _ _ l0 (rdOf ByteArray.empty l0 x3_1) t143 _ ?side1 ?side2 A6.out).mono ?_); (case side1 => repeat (first | exact HR0.out | (with_reducible refine Kd.C_alloc ?_ _) | (with_reducible refine Kd.C_drewN ?_ _) | (with_reducible refine Kd.C_drew ?_))); (case side2 => exact HC0.out); rintro e w' ⟨rfl, ⟨nd, rfl⟩⟩))
                go_ret
                exact ⟨by first | rfl | (simp; done) | (simp [*]; done), by repeat (first | exact Drawn0.refl _ | apply Drawn0.step)⟩
              · rw [if_neg c7] at H
                have c7b0 : decide (t143 < x3_1) = false := decide_eq_false c7
                clear c7
                have H' := Aside0.mk H
                clear H
                have p141 : 0 ≤ (x3_1 : Int) := of_decide_eq_true (by first | (with_reducible assumption) | assumption)
                have q141 : x3_1 < (l0.length : Int) := of_decide_eq_true (by first | (with_reducible assumption) | assumption)
                obtain ⟨ad141, e141, hx141_0⟩ := Kd.at_string HR0.out x3_1 p141 q141
                cases e141
                replace p141 := eq_true p141
                replace q141 := eq_true q141
                have p142 : 0 ≤ (x3_1 : Int) := of_decide_eq_true (by first | (with_reducible assumption) | assumption)
                have q142 : x3_1 < (l0.length : Int) := of_decide_eq_true (by first | (with_reducible assumption) | assumption)
                obtain ⟨ad142, e142, hx142_0⟩ := Kd.at_string HR0.out x3_1 p142 q142
                obtain rfl : ad141 = ad142 := (by injection e142)
                replace p142 := eq_true p142
                replace q142 := eq_true q142
                go_wp2_with (first | (go_at_call 54; (with_reducible refine (exergueref09_At.calls k1 _ _ l0 (rdOf ByteArray.empty l0 x3_1) t143 _ ?side1 ?side2 A6.out).mono ?_); (case side1 => repeat (first | exact HR0.out | (with_reducible refine Kd.C_alloc ?_ _) | (with_reducible refine Kd.C_drewN ?_ _) | (with_reducible refine Kd.C_drew ?_))); (case side2 => exact HC0.out); rintro e w' ⟨rfl, ⟨nd, rfl⟩⟩))
                go_roundg k1
                case measure => have := HK1.out; omega
                case rel => exact ⟨(wrap64 (x3_1 + 1)), (by first | rfl | (simp; done) | (simp [*]; done)), H', ⟨by have := HK1.out; omega⟩, by repeat (first | exact Drawn0.refl _ | apply Drawn0.step)⟩
          · rw [if_neg c4] at H
            exact absurd H (by simp)
        · rw [if_neg c3] at H
          have c3b0 : decide (x3_1 < (l0.length : Int)) = false := decide_eq_false c3
          clear c3
          obtain rfl := Option.some.inj H
          go_wp2
          go_ret
          exact ⟨by first | rfl | (simp; done) | (simp [*]; done), by repeat (first | exact Drawn0.refl _ | apply Drawn0.step)⟩

end Go.Proofs.Ytmhpcjncngonbaa.Q
/- What the reference's small functions come to, in plain Lean; rows as long as memory has room. -/
namespace Go.Proofs.Ytmhpcjncngonbaa.Q
open Go.RowKit Go.Proofs.Ytmhpcjncngonbaa.Mine Go.Proofs.YtmhpcjncngonbaaW.PrintWords Go.Proofs.YtmhpcjncngonbaaW.PrintLast Go.Proofs.YtmhpcjncngonbaaW.PrintMore
set_option linter.unusedVariables false
set_option linter.unusedSimpArgs false
theorem wr {x : Int} (h : -9223372036854775808 ≤ x) (h2 : x < 9223372036854775808) : wrap64 x = x := by unfold wrap64; omega
theorem succ_of {k b : Nat} (h : b < k) : ∃ m, k = m + 1 ∧ b ≤ m := ⟨k - 1, by omega, by omega⟩
theorem rd_at {a : List Int} {n : Nat} (h : n < a.length) : rd a (n : Int) = a[n] := by simp [rd, List.getD_eq_getElem?_getD, h]
theorem rs_at {a : List ByteArray} {n : Nat} (h : n < a.length) : rdOf ByteArray.empty a (n : Int) = a[n] := by simp [rdOf, List.getD_eq_getElem?_getD, h]
theorem tl_eq (s t : ByteArray) : s.toList = t.toList ↔ s = t := by
  have h := toList_eq_iff s t
  rw [Bool.eq_iff_iff, beq_iff_eq, decide_eq_true_iff] at h
  exact h
theorem drop_dec {α : Type} [DecidableEq α] {a b : List α} {n : Nat} (h1 : n < a.length) (h2 : n < b.length) (e : a[n] = b[n]) : decide (a.drop n = b.drop n) = decide (a.drop (n + 1) = b.drop (n + 1)) := by
  rw [List.drop_eq_getElem_cons h1, List.drop_eq_getElem_cons h2, e, decide_eq_decide]
  simp only [List.cons.injEq, true_and]
theorem idx_le : ∀ (l : List ByteArray) (n : Nat) (h : n < l.length), l.idxOf l[n] ≤ n
  | x :: l, 0, h => by simp
  | x :: l, n + 1, h => by
    rw [List.getElem_cons_succ, List.idxOf_cons]
    have h2 : n < l.length := by simpa using h
    cases x == l[n] with
    | true => simp
    | false => simpa using idx_le l n h2
theorem Texts_l (a b : List ByteArray) (he : a.length = b.length) (hl : a.length < 140737488355328) : ∀ (d n k : Nat), n + d = a.length → d < k → exergueref09_Texts.l0 k a b (n : Int) = some (decide (a.drop n = b.drop n)) := by
  intro d
  induction d with
  | zero =>
    intro n k hn hk
    obtain ⟨m, rfl, _⟩ := succ_of hk
    simp only [exergueref09_Texts.l0]
    rw [if_neg (by omega), List.drop_eq_nil_of_le (by omega), List.drop_eq_nil_of_le (by omega)]
    simp
  | succ d ih =>
    intro n k hn hk
    obtain ⟨m, rfl, hm⟩ := succ_of hk
    have h1 : n < a.length := by omega
    have h2 : n < b.length := by omega
    simp only [exergueref09_Texts.l0]
    rw [if_pos (by omega), if_pos (by omega), if_pos (by omega), rs_at h1, rs_at h2, wr (by omega) (by omega)]
    by_cases q : a[n] = b[n]
    · rw [if_pos ((tl_eq _ _).2 q), drop_dec h1 h2 q]
      exact ih (n + 1) m (by omega) (by omega)
    · rw [if_neg (fun e => q ((tl_eq _ _).1 e)), decide_eq_false]
      intro e
      rw [List.drop_eq_getElem_cons h1, List.drop_eq_getElem_cons h2] at e
      exact q (List.cons.inj e).1
theorem Texts_f {k : Nat} (a b : List ByteArray) (hl : a.length < 140737488355328) (hk : a.length < k) : exergueref09_Texts.f k a b = some (decide (a = b)) := by
  unfold exergueref09_Texts.f
  by_cases h : a.length = b.length
  · rw [if_pos (by omega)]
    exact Texts_l a b h hl a.length 0 k (by omega) hk
  · rw [if_neg (by omega), decide_eq_false (fun e => h (by rw [e]))]
theorem At_l (l : List ByteArray) (s : ByteArray) (hl : l.length < 140737488355328) : ∀ (d n k : Nat), n + d = l.length → d < k → exergueref09_At.l0 k l s (n : Int) = some (if s ∈ l.drop n then ((n + (l.drop n).idxOf s : Nat) : Int) else -1) := by
  intro d
  induction d with
  | zero =>
    intro n k hn hk
    obtain ⟨m, rfl, _⟩ := succ_of hk
    simp only [exergueref09_At.l0]
    rw [if_neg (by omega), List.drop_eq_nil_of_le (by omega), if_neg List.not_mem_nil]
  | succ d ih =>
    intro n k hn hk
    obtain ⟨m, rfl, hm⟩ := succ_of hk
    have h1 : n < l.length := by omega
    simp only [exergueref09_At.l0]
    rw [if_pos (by omega), if_pos (by omega), rs_at h1, wr (by omega) (by omega), List.drop_eq_getElem_cons h1, List.idxOf_cons]
    by_cases q : l[n] = s
    · rw [if_pos ((tl_eq _ _).2 q), if_pos (by rw [q]; exact List.mem_cons_self), show (l[n] == s) = true from beq_iff_eq.2 q]
      simp
    · rw [if_neg (fun e => q ((tl_eq _ _).1 e)), show (l[n] == s) = false from beq_eq_false_iff_ne.2 q]
      refine (ih (n + 1) m (by omega) (by omega)).trans ?_
      by_cases hm : s ∈ l.drop (n + 1)
      · rw [if_pos hm, if_pos (List.mem_cons_of_mem _ hm)]
        simp
        omega
      · rw [if_neg hm, if_neg (fun h => hm ((List.mem_cons.1 h).resolve_left (fun e => q e.symm)))]
theorem At_f {k : Nat} (l : List ByteArray) (s : ByteArray) (hl : l.length < 140737488355328) (hk : l.length < k) : exergueref09_At.f k l s = some (if s ∈ l then (l.idxOf s : Int) else -1) := by
  have := At_l l s hl l.length 0 k (by omega) hk
  simpa [exergueref09_At.f] using this
theorem grefs_snoc {p l : List ByteArray} (s : ByteArray) (hm : ∀ x ∈ l, x ∈ p) : grefs (gstep p s) (l ++ [s]) = grefs p l ++ [((gstep p s).idxOf s : Int)] := by
  unfold grefs
  rw [List.map_append]
  congr 1
  exact List.map_congr_left (fun x hx => by rw [idx_gstep s (hm x hx)])
theorem refGather_l (l : List ByteArray) (hl : l.length < 8796093022208) : ∀ (d n k : Nat), n + d = l.length → d + l.length + 1 < k → exergueref09_Gather.l0 k l (gpool (l.take n)) (grefs (gpool (l.take n)) (l.take n)) (n : Int) = some (gpool l, grefs (gpool l) l) := by
  intro d
  induction d with
  | zero =>
    intro n k hn hk
    obtain ⟨m, rfl, _⟩ := succ_of hk
    simp only [exergueref09_Gather.l0]
    rw [if_neg (by omega), List.take_of_length_le (by omega)]
  | succ d ih =>
    intro n k hn hk
    obtain ⟨m, rfl, hm⟩ := succ_of hk
    have h1 : n < l.length := by omega
    have hpl := gpool_len (l.take n)
    have htl : (l.take n).length = n := by rw [List.length_take]; omega
    have hrl : (grefs (gpool (l.take n)) (l.take n)).length = n := by simp [grefs]; omega
    simp only [exergueref09_Gather.l0]
    rw [if_pos (by omega), if_pos (by omega), rs_at h1, At_f _ _ (by omega) (by omega), Option.bind_some, wr (by omega) (by omega)]
    have hi := ih (n + 1) m (by omega) (by omega)
    have e1 : ((n + 1 : Nat) : Int) = (n : Int) + 1 := by omega
    rw [gpool_take h1, List.take_succ_eq_append_getElem h1, grefs_snoc _ (fun x hx => mem_gpool hx), e1] at hi
    by_cases q : l[n] ∈ gpool (l.take n)
    · rw [if_pos q, if_neg (by omega), if_pos (by omega)]
      rw [show gstep (gpool (l.take n)) l[n] = gpool (l.take n) from if_pos q] at hi
      exact hi
    · rw [if_neg q, if_pos (by omega), if_pos (by omega), if_pos (by omega)]
      rw [show gstep (gpool (l.take n)) l[n] = gpool (l.take n) ++ [l[n]] from if_neg q] at hi
      rw [List.idxOf_append, if_neg q] at hi
      simpa using hi
theorem refGather_f {k : Nat} (l : List ByteArray) (hl : l.length < 8796093022208) (hk : 2 * l.length + 1 < k) : exergueref09_Gather.f k l = some (gpool l, grefs (gpool l) l) := refGather_l l hl l.length 0 k (by omega) (by omega)
/-- texts by their places, or an error -/
def spreadN (l : List ByteArray) (refs : List Int) : List ByteArray × Int :=
  if refs.all (fun n => decide (0 ≤ n ∧ n < l.length)) = true then (refs.map (rdOf ByteArray.empty l), 0) else ([], 7)
def spreadA (l : List ByteArray) (acc : List ByteArray) (refs : List Int) : List ByteArray × Int :=
  if refs.all (fun n => decide (0 ≤ n ∧ n < l.length)) = true then (acc ++ refs.map (rdOf ByteArray.empty l), 0) else ([], 7)
def total : List ByteArray → Nat
  | [] => 0
  | s :: l => s.size + total l
theorem gpool_nodup : ∀ (l p : List ByteArray), p.Nodup → ((l.foldl gstep p).length = p.length + l.length ↔ (p ++ l).Nodup)
  | [], p, h => by simp [h]
  | x :: l, p, h => by
    rw [List.foldl_cons]
    by_cases hx : x ∈ p
    · have e : gstep p x = p := if_pos hx
      have hlen := gpool_lenI l p
      rw [e]
      constructor
      · intro h2; rw [List.length_cons] at h2; omega
      · intro h2
        rw [List.nodup_append] at h2
        exact absurd rfl (h2.2.2 x hx x List.mem_cons_self)
    · have e : gstep p x = p ++ [x] := if_neg hx
      have hn : (p ++ [x]).Nodup := by
        rw [List.nodup_append]
        exact ⟨h, by simp, fun a ha b hb => by rw [List.mem_singleton.1 hb]; rintro rfl; exact hx ha⟩
      have := gpool_nodup l (p ++ [x]) hn
      rw [e, show p ++ x :: l = p ++ [x] ++ l by simp, ← this]
      simp
      omega
theorem nodup_idx (l : List ByteArray) : l.Nodup ↔ ∀ (i : Nat) (h : i < l.length), l.idxOf l[i] = i := by
  constructor
  · intro h i hi
    exact List.Nodup.idxOf_getElem h i hi
  · intro h
    refine List.pairwise_iff_getElem.2 (fun i j hi hj hij e => ?_)
    have h1 := h i hi
    have h2 := h j hj
    rw [e, h2] at h1
    omega
theorem Pool_l (l : List ByteArray) (hl : l.length ≤ 500) : ∀ (d n k : Nat), n + d = l.length → d + l.length < k → ∃ b, exergueref09_Pool.l0 k l (n : Int) = some b ∧ (b = true ↔ ∀ (i : Nat) (h : i < l.length), n ≤ i → l[i].size ≤ 400 ∧ l.idxOf l[i] = i) := by
  intro d
  induction d with
  | zero =>
    intro n k hn hk
    obtain ⟨m, rfl, _⟩ := succ_of hk
    simp only [exergueref09_Pool.l0]
    rw [if_neg (by omega)]
    exact ⟨true, rfl, by simp; intro i h1 h2; omega⟩
  | succ d ih =>
    intro n k hn hk
    obtain ⟨m, rfl, hm⟩ := succ_of hk
    have h1 : n < l.length := by omega
    simp only [exergueref09_Pool.l0]
    rw [if_pos (by omega), if_pos (by omega), rs_at h1, wr (by omega) (by omega)]
    by_cases q0 : (l[n].size : Int) > 400
    · rw [if_pos q0]
      refine ⟨false, rfl, ⟨fun h => (by cases h), fun h => ?_⟩⟩
      have := (h n h1 (Nat.le_refl _)).1
      omega
    rw [if_neg q0, At_f _ _ (by omega) (by omega), Option.bind_some, if_pos (List.getElem_mem h1)]
    have hle : l.idxOf l[n] ≤ n := idx_le l n h1
    by_cases q1 : (l.idxOf l[n] : Int) < (n : Int)
    · rw [if_pos q1]
      refine ⟨false, rfl, ⟨fun h => (by cases h), fun h => ?_⟩⟩
      have := (h n h1 (Nat.le_refl _)).2
      omega
    rw [if_neg q1]
    obtain ⟨b, hb, hiff⟩ := ih (n + 1) m (by omega) (by omega)
    refine ⟨b, hb, hiff.trans ⟨fun h i hi hni => ?_, fun h i hi hni => h i hi (by omega)⟩⟩
    rcases Nat.lt_or_ge n i with h2 | h2
    · exact h i hi (by omega)
    · obtain rfl : i = n := by omega
      exact ⟨by omega, by omega⟩
theorem isPoolB_iff (l : List ByteArray) : isPoolB l = true ↔ l.length ≤ 500 ∧ ∀ (i : Nat) (h : i < l.length), l[i].size ≤ 400 ∧ l.idxOf l[i] = i := by
  have h1 := gpool_nodup l [] List.nodup_nil
  rw [List.nil_append, List.length_nil, Nat.zero_add] at h1
  have h2 : (gpool l).length = l.length ↔ ∀ (i : Nat) (h : i < l.length), l.idxOf l[i] = i := h1.trans (nodup_idx l)
  unfold isPoolB
  rw [Bool.and_eq_true, Bool.and_eq_true, decide_eq_true_eq, decide_eq_true_eq, Bool.not_eq_true', List.any_eq_false, h2]
  constructor
  · rintro ⟨a, b, c⟩
    refine ⟨b, fun i hi => ⟨?_, a i hi⟩⟩
    have := c l[i] (List.getElem_mem hi)
    simpa using this
  · rintro ⟨b, c⟩
    refine ⟨fun i hi => (c i hi).2, b, fun x hx => ?_⟩
    obtain ⟨i, hi, rfl⟩ := List.mem_iff_getElem.1 hx
    have := (c i hi).1
    simpa using this
theorem Pool_f {k : Nat} (l : List ByteArray) (hk : 1001 < k) : exergueref09_Pool.f k l = some (isPoolB l) := by
  unfold exergueref09_Pool.f
  by_cases h : (l.length : Int) > 500
  · rw [if_pos h]
    congr 1
    symm
    rw [Bool.eq_false_iff]
    intro e
    have := ((isPoolB_iff l).1 e).1
    omega
  · rw [if_neg h]
    obtain ⟨b, hb, hiff⟩ := Pool_l l (by omega) l.length 0 k (by omega) (by omega)
    have e0 : ((0 : Nat) : Int) = 0 := rfl
    rw [e0] at hb
    rw [hb]
    congr 1
    rw [Bool.eq_iff_iff, hiff, isPoolB_iff]
    exact ⟨fun h2 => ⟨by omega, fun i hi => h2 i hi (Nat.zero_le _)⟩, fun h2 i hi _ => h2.2 i hi⟩
end Go.Proofs.Ytmhpcjncngonbaa.Q
/- What the writer's head comes to; any writer. -/
namespace Go.Proofs.Ytmhpcjncngonbaa.Q
open Go.RowKit Go.Proofs.Ytmhpcjncngonbaa.Mine Go.Proofs.YtmhpcjncngonbaaW.PrintWords Go.Proofs.YtmhpcjncngonbaaW.PrintLast Go.Proofs.YtmhpcjncngonbaaW.PrintMore
set_option linter.unusedVariables false
set_option linter.unusedSimpArgs false
/-- the head: the name and seven signs -/
noncomputable def whead (n : Int) (L : Loc) (st : List Int × Bool) : List Int × Bool := [L.s0, L.s1, L.s2, L.s3, L.s4, L.s5, L.s6].foldl (fun st x => wnum x 4 st) (wnum n 2 st)
theorem wfold_len (xs : List Int) : ∀ st : List Int × Bool, (xs.foldl (fun st x => wnum x 4 st) st).1.length ≤ st.1.length + 4 * xs.length := by
  induction xs with
  | nil => intro st; exact Nat.le_refl _
  | cons x xs ih =>
    intro st
    have h1 := ih (wnum x 4 st)
    have h2 := wnum_len x 4 st
    simp only [List.foldl_cons, List.length_cons]
    omega
set_option maxHeartbeats 4000000 in
set_option maxRecDepth 100000 in
theorem whead.calls (g : Nat) (n : Int) (ns : List Int) (L : Loc) (a : Lat) (st : List Int × Bool) (w0 w : World) (h : Wt g (n :: ns) L a st w0 w) (hl : st.1.length < 140737488350000) :
    Calls Try.prog 26 #[.pointer (some ⟨g, 0, none⟩)] w fun e w' => e = .returned (.tuple #[]) ∧ Wt g ns L a (whead n L st) w0 w' ∧ KeepBut w w' g none := by
  have l0 := wnum_len n 2 st
  have H0 := Aside0.mk (wtext.calls g n ns L a st w0 w h (by omega))
  have HLT := Aside0.mk h.lt
  have HLS := Aside0.mk (show LocS L from h.loc.2.2.2)
  generalize hq : wnum n 2 st = st1 at H0 l0
  have hq2 : whead n L st = [L.s0, L.s1, L.s2, L.s3, L.s4, L.s5, L.s6].foldl (fun st x => wnum x 4 st) st1 := by unfold whead; rw [hq]
  rw [hq2]
  clear h hq hq2
  obtain ⟨ys, hys⟩ : ∃ ys, ys = [L.s0, L.s1, L.s2, L.s3, L.s4, L.s5, L.s6] := ⟨_, rfl⟩
  rw [← hys]
  have HYS := Aside0.mk hys
  have hyl : ys.length = 7 := by rw [hys]; rfl
  clear hys
  go_enter Try.func26, Try.ntmps26
  go_wp2_with fail
  refine H0.out.mono ?_
  rintro e w1 ⟨rfl, hw, hk⟩
  dsimp only
  have HW := Aside0.mk hw
  have HK := Aside0.mk hk
  obtain ⟨A, c, ⟨bv, hb, _⟩, _⟩ := hw
  have hc0 : w1.cell? ⟨g, 3, none⟩ = some (.int .i32 L.s0) := (blk_cell hb 3).trans rfl
  have hc1 : w1.cell? ⟨g, 4, none⟩ = some (.int .i32 L.s1) := (blk_cell hb 4).trans rfl
  have hc2 : w1.cell? ⟨g, 5, none⟩ = some (.int .i32 L.s2) := (blk_cell hb 5).trans rfl
  have hc3 : w1.cell? ⟨g, 6, none⟩ = some (.int .i32 L.s3) := (blk_cell hb 6).trans rfl
  have hc4 : w1.cell? ⟨g, 7, none⟩ = some (.int .i32 L.s4) := (blk_cell hb 7).trans rfl
  have hc5 : w1.cell? ⟨g, 8, none⟩ = some (.int .i32 L.s5) := (blk_cell hb 8).trans rfl
  have hc6 : w1.cell? ⟨g, 9, none⟩ = some (.int .i32 L.s6) := (blk_cell hb 9).trans rfl
  clear hk hb
  obtain ⟨w2, hw2⟩ : ∃ w2, w2 = ((w1.alloc (.cells #[.int .i32 L.s0, .int .i32 L.s1, .int .i32 L.s2, .int .i32 L.s3, .int .i32 L.s4, .int .i32 L.s5, .int .i32 L.s6] 23)).alloc (.cells #[.int .i32 L.s0, .int .i32 L.s1, .int .i32 L.s2, .int .i32 L.s3, .int .i32 L.s4, .int .i32 L.s5, .int .i32 L.s6] 21)) := ⟨_, rfl⟩
  have hb2 : Below w1.heap.size w1 w2 := by rw [hw2]; exact ((Below.refl w1.heap.size w1).alloc (Nat.le_refl _) _).alloc (by simp) _
  have HW2 := Aside0.mk (HW.out.below hb2)
  have HK2 := Aside0.mk (KeepBut.trans HK.out (KeepBut.of_below hb2 g none) (.inl rfl))
  have HN2 := Aside0.mk (show w2.heap[w1.heap.size + 1]? = some (.cells #[.int .i32 L.s0, .int .i32 L.s1, .int .i32 L.s2, .int .i32 L.s3, .int .i32 L.s4, .int .i32 L.s5, .int .i32 L.s6] 21 (0, 0)) by
    rw [hw2]
    have := blk_new (w1.alloc (.cells #[.int .i32 L.s0, .int .i32 L.s1, .int .i32 L.s2, .int .i32 L.s3, .int .i32 L.s4, .int .i32 L.s5, .int .i32 L.s6] 23)) (.cells #[.int .i32 L.s0, .int .i32 L.s1, .int .i32 L.s2, .int .i32 L.s3, .int .i32 L.s4, .int .i32 L.s5, .int .i32 L.s6] 21)
    simpa using this)
  have HLT1 := Aside0.mk HW.out.lt
  have HE2 := Aside0.mk hw2
  clear hb2 hw2
  go_wp2_with fail
  rw [← HE2.out]
  clear hc0 hc1 hc2 hc3 hc4 hc5 hc6
  go_loopg [28] 7 (fun kq v28 w' => ∃ (j : Nat), v28 = .int .i64 (j : Int) ∧ Aside0 (j ≤ 7) ∧ Aside0 (7 - j = kq) ∧ Aside0 (Wt g ns L a ((ys.take j).foldl (fun st x => wnum x 4 st) st1) w0 w') ∧ Aside0 (KeepBut w w' g none) ∧ Aside0 (w'.heap[w1.heap.size + 1]? = some (.cells #[.int .i32 L.s0, .int .i32 L.s1, .int .i32 L.s2, .int .i32 L.s3, .int .i32 L.s4, .int .i32 L.s5, .int .i32 L.s6] 21 (0, 0))))
  case atStart => exact ⟨0, rfl, ⟨by decide⟩, ⟨rfl⟩, HW2, HK2, HN2⟩
  case round =>
    obtain ⟨j, rfl, HJ, HKQ, HWJ, HKJ, HNJ⟩ := hrel
    by_cases hlt : j < 7
    · have hC := C_block (k := .i32) (xs := ys) HNJ.out (by rw [HYS.out]; rfl) (by omega)
      obtain ⟨ad, ead, hcell⟩ := Kd.at_int hC (j : Int) (by omega) (by omega)
      cases ead
      rw [Int.toNat_natCast, Addr.add_lit, Nat.zero_add] at hcell
      have hrd : rd ys (j : Int) = ys[j]'(by omega) := rd_at (by omega)
      have hl2 := wfold_len (ys.take j) st1
      rw [List.length_take] at hl2
      have HNUM := Aside0.mk (wtnum.calls g ns L a _ (rd ys (j : Int)) 4 w0 _ HWJ.out (by omega))
      have HNX := Aside0.mk (show wnum (rd ys (j : Int)) 4 ((ys.take j).foldl (fun st x => wnum x 4 st) st1) = (ys.take (j + 1)).foldl (fun st x => wnum x 4 st) st1 by
        rw [List.take_succ_eq_append_getElem (by omega), List.foldl_append, hrd]; rfl)
      have hw64 : wrap64 (rd ys (j : Int)) = rd ys (j : Int) := by
        have := HLS.out (rd ys (j : Int)) (by rw [hrd, ← HYS.out]; exact List.getElem_mem _)
        unfold wrap64; omega
      have hlt2 : (j : Int) < 7 := by omega
      have HLT := Aside0.mk hlt
      clear hrd hl2 hC hlt
      generalize rd ys (j : Int) = x at hcell HNUM HNX hw64
      go_wp2_with fail
      refine HNUM.out.mono ?_
      rintro e w3 ⟨rfl, hw3, hk3⟩
      have HW3 := Aside0.mk hw3
      have HK3 := Aside0.mk (KeepBut.trans HKJ.out hk3 (.inl rfl))
      have HN3 := Aside0.mk (KeepBut.blk hk3 HNJ.out (by have := HLT1.out; omega) (by simp))
      clear hw3 hk3
      dsimp only
      go_wp2
      go_roundg (7 - (j + 1))
      case measure => have := HLT.out; have := HKQ.out; omega
      case rel => exact ⟨j + 1, by go_num, ⟨HLT.out⟩, ⟨rfl⟩, ⟨HNX.out ▸ HW3.out⟩, HK3, HN3⟩
    · have hj : j = 7 := by have := HJ.out; omega
      subst hj
      have e7 : ys.take 7 = ys := List.take_of_length_le (by omega)
      rw [e7] at HWJ
      clear hlt e7
      go_wp2
      go_end0
      exact ⟨rfl, HWJ.out, HKJ.out⟩
end Go.Proofs.Ytmhpcjncngonbaa.Q
/- What the writer's rules, curs and comps come to; any writer. -/
namespace Go.Proofs.Ytmhpcjncngonbaa.Q
open Go.RowKit Go.Proofs.Ytmhpcjncngonbaa.Mine Go.Proofs.YtmhpcjncngonbaaW.PrintWords Go.Proofs.YtmhpcjncngonbaaW.PrintLast Go.Proofs.YtmhpcjncngonbaaW.PrintMore
set_option linter.unusedVariables false
set_option linter.unusedSimpArgs false
/-- the rules -/
noncomputable def wrules : List (Int × ByteArray) → List Int → List Int × Bool → List Int × Bool
  | x :: xs, n :: ns, st => wrules xs ns (wnum n 2 (wnum x.1 1 st))
  | _, _, st => st
set_option maxHeartbeats 4000000 in
set_option maxRecDepth 100000 in
theorem wrules.calls (g : Nat) (ns rest : List Int) (L : Loc) (a : Lat) (st : List Int × Bool) (w0 w : World) (h : Wt g (ns ++ rest) L a st w0 w) (hl : st.1.length < 140737480000000) (hn : ns.length = L.rules.length) (hm : L.rules.length ≤ 65535) :
    Calls Try.prog 28 #[.pointer (some ⟨g, 0, none⟩)] w fun e w' => e = .returned (.tuple #[]) ∧ Wt g rest L a (wrules L.rules ns (wnum L.rules.length 2 st)) w0 w' ∧ KeepBut w w' g none := by
  obtain ⟨A3, c3, A4, c4, A5, c5⟩ := a
  have l0 := wnum_len L.rules.length 2 st
  have H0 := Aside0.mk (wtnum.calls g (ns ++ rest) L ⟨A3, c3, A4, c4, A5, c5⟩ st L.rules.length 2 w0 w h (by omega))
  have HLT := Aside0.mk h.lt
  obtain ⟨A, c, ⟨bv, hb, _⟩, _⟩ := h
  have hc0 : w.cell? ⟨g, 14, none⟩ = some (.slice A3 L.rules.length c3) := (blk_cell hb 14).trans rfl
  generalize wnum L.rules.length 2 st = st1 at H0 l0 ⊢
  obtain ⟨T, hT⟩ : ∃ T, T = wrules L.rules ns st1 := ⟨_, rfl⟩
  rw [← hT]
  have HT := Aside0.mk hT
  have HN := Aside0.mk hn
  have HM := Aside0.mk hm
  have HL := Aside0.mk (show st1.1.length < 140737480000004 by omega)
  clear hb hT l0 hl hn hm
  go_enter Try.func28, Try.ntmps28
  go_wp2_with fail
  refine H0.out.mono ?_
  rintro e w1 ⟨rfl, hw, hk⟩
  dsimp only
  have HW := Aside0.mk hw
  have HK := Aside0.mk hk
  obtain ⟨A, c, ⟨bv, hb, _⟩, _⟩ := hw
  have hc0 : w1.cell? ⟨g, 14, none⟩ = some (.slice A3 L.rules.length c3) := (blk_cell hb 14).trans rfl
  clear hb hk
  go_wp2_with fail
  clear hc0
  go_loopg [18] L.rules.length (fun kq v18 w' => ∃ (j : Nat) (stj : List Int × Bool), v18 = .int .i64 (j : Int) ∧ Aside0 (j ≤ L.rules.length) ∧ Aside0 (L.rules.length - j = kq) ∧ Aside0 (stj.1.length ≤ st1.1.length + 8 * j) ∧ Aside0 (Wt g (ns.drop j ++ rest) L ⟨A3, c3, A4, c4, A5, c5⟩ stj w0 w') ∧ Aside0 (wrules (L.rules.drop j) (ns.drop j) stj = T) ∧ Aside0 (KeepBut w w' g none))
  case atStart => exact ⟨0, st1, rfl, ⟨Nat.zero_le _⟩, ⟨rfl⟩, ⟨by omega⟩, HW, ⟨HT.out.symm⟩, HK⟩
  case round =>
    obtain ⟨j, stj, rfl, HJ, HKQ, HSL, HWJ, HTJ, HKJ⟩ := hrel
    by_cases hlt : j < L.rules.length
    · have hlt2 : (j : Int) < (L.rules.length : Int) := by omega
      have hjn : j < ns.length := by rw [HN.out]; exact hlt
      obtain ⟨x, hx⟩ : ∃ x, L.rules[j]? = some x := ⟨_, List.getElem?_eq_getElem hlt⟩
      obtain ⟨n, hn⟩ : ∃ n, ns[j]? = some n := ⟨_, List.getElem?_eq_getElem hjn⟩
      obtain ⟨ad, ead, hcell0, hcell1⟩ := at_rule HWJ.out.loc.1.1 j hlt x hx
      have ead2 : A3 = some ad := ead
      clear ead
      subst ead2
      have eL : L.rules.drop j = x :: L.rules.drop (j + 1) := by
        rw [List.drop_eq_getElem_cons hlt]; congr 1
        rw [List.getElem?_eq_getElem hlt] at hx; exact Option.some.inj hx
      have eN : ns.drop j = n :: ns.drop (j + 1) := by
        rw [List.drop_eq_getElem_cons hjn]; congr 1
        rw [List.getElem?_eq_getElem hjn] at hn; exact Option.some.inj hn
      rw [eL, eN] at HTJ
      rw [eN] at HWJ
      have HTX := Aside0.mk (show wrules (L.rules.drop (j + 1)) (ns.drop (j + 1)) (wnum n 2 (wnum x.1 1 stj)) = T by have := HTJ.out; rw [wrules] at this; exact this)
      have l1 := wnum_len x.1 1 stj
      have l2 := wnum_len n 2 (wnum x.1 1 stj)
      have HB := Aside0.mk ((Below.refl wr.heap.size wr).alloc (Nat.le_refl _) (.cells #[.int .i64 x.1, .string x.2] 58))
      have HLEN := Aside0.mk (show stj.1.length < 140737488350000 ∧ (wnum x.1 1 stj).1.length < 140737488350000 ∧ (wnum n 2 (wnum x.1 1 stj)).1.length ≤ st1.1.length + 8 * (j + 1) by
        have := HSL.out; have := HL.out; have := HM.out; omega)
      have HNUM := Aside0.mk (wtnum.calls g _ L _ stj x.1 1 w0 _ (HWJ.out.below HB.out) (by have := HLEN.out.1; omega))
      have HLT2 := Aside0.mk hlt
      clear hlt hjn hx hn eL eN HTJ l1 l2
      have HLTW := Aside0.mk HWJ.out.lt
      have HKA := Aside0.mk (KeepBut.trans HKJ.out (KeepBut.of_below HB.out g none) (.inl rfl))
      go_wp2_with fail
      refine HNUM.out.mono ?_
      rintro e w3 ⟨rfl, hw3, hk3⟩
      have HTXT := Aside0.mk (wtext.calls g n (ns.drop (j + 1) ++ rest) L _ _ w0 w3 hw3 (by have := HLEN.out.2.1; omega))
      have HK3 := Aside0.mk (KeepBut.trans HKA.out hk3 (.inl rfl))
      clear hw3 hk3
      dsimp only
      go_wp2_with fail
      refine HTXT.out.mono ?_
      rintro e w4 ⟨rfl, hw4, hk4⟩
      have HW4 := Aside0.mk hw4
      have HK4 := Aside0.mk (KeepBut.trans HK3.out hk4 (.inl rfl))
      clear hw4 hk4
      dsimp only
      go_wp2
      go_roundg (L.rules.length - (j + 1))
      case measure => have := HLT2.out; have := HKQ.out; omega
      case rel => exact ⟨j + 1, _, by have h1 := HLT2.out; have h2 := HM.out; congr 1; unfold wrap64; omega, ⟨HLT2.out⟩, ⟨rfl⟩, ⟨HLEN.out.2.2⟩, HW4, HTX, HK4⟩
    · have hj : j = L.rules.length := by have := HJ.out; omega
      subst hj
      have e1 := HTJ.out
      rw [List.drop_length, ← HN.out, List.drop_length] at e1
      have e2 : stj = T := e1
      rw [← HN.out, List.drop_length] at HWJ
      rw [e2] at HWJ
      clear hlt e1 e2
      go_wp2
      go_end0
      exact ⟨rfl, HWJ.out, HKJ.out⟩
/-- the currencies -/
noncomputable def wcurs : List (ByteArray × ByteArray × Int) → List Int → List Int × Bool → List Int × Bool
  | x :: xs, n :: m :: ns, st => wcurs xs ns (wnum x.2.2 1 (wnum m 2 (wnum n 2 st)))
  | _, _, st => st
set_option maxHeartbeats 4000000 in
set_option maxRecDepth 100000 in
theorem wcurs.calls (g : Nat) (ns rest : List Int) (L : Loc) (a : Lat) (st : List Int × Bool) (w0 w : World) (h : Wt g (ns ++ rest) L a st w0 w) (hl : st.1.length < 140737480000000) (hn : ns.length = 2 * L.curs.length) (hm : L.curs.length ≤ 65535) :
    Calls Try.prog 29 #[.pointer (some ⟨g, 0, none⟩)] w fun e w' => e = .returned (.tuple #[]) ∧ Wt g rest L a (wcurs L.curs ns (wnum L.curs.length 2 st)) w0 w' ∧ KeepBut w w' g none := by
  obtain ⟨A3, c3, A4, c4, A5, c5⟩ := a
  have l0 := wnum_len L.curs.length 2 st
  have H0 := Aside0.mk (wtnum.calls g (ns ++ rest) L ⟨A3, c3, A4, c4, A5, c5⟩ st L.curs.length 2 w0 w h (by omega))
  have HLT := Aside0.mk h.lt
  obtain ⟨A, c, ⟨bv, hb, _⟩, _⟩ := h
  have hc0 : w.cell? ⟨g, 15, none⟩ = some (.slice A4 L.curs.length c4) := (blk_cell hb 15).trans rfl
  generalize wnum L.curs.length 2 st = st1 at H0 l0 ⊢
  obtain ⟨T, hT⟩ : ∃ T, T = wcurs L.curs ns st1 := ⟨_, rfl⟩
  rw [← hT]
  have HT := Aside0.mk hT
  have HN := Aside0.mk hn
  have HM := Aside0.mk hm
  have HL := Aside0.mk (show st1.1.length < 140737480000004 by omega)
  clear hb hT l0 hl hn hm
  go_enter Try.func29, Try.ntmps29
  go_wp2_with fail
  refine H0.out.mono ?_
  rintro e w1 ⟨rfl, hw, hk⟩
  dsimp only
  have HW := Aside0.mk hw
  have HK := Aside0.mk hk
  obtain ⟨A, c, ⟨bv, hb, _⟩, _⟩ := hw
  have hc0 : w1.cell? ⟨g, 15, none⟩ = some (.slice A4 L.curs.length c4) := (blk_cell hb 15).trans rfl
  clear hb hk
  go_wp2_with fail
  clear hc0
  go_loopg [18] L.curs.length (fun kq v18 w' => ∃ (j : Nat) (stj : List Int × Bool), v18 = .int .i64 (j : Int) ∧ Aside0 (j ≤ L.curs.length) ∧ Aside0 (L.curs.length - j = kq) ∧ Aside0 (stj.1.length ≤ st1.1.length + 12 * j) ∧ Aside0 (Wt g (ns.drop (2 * j) ++ rest) L ⟨A3, c3, A4, c4, A5, c5⟩ stj w0 w') ∧ Aside0 (wcurs (L.curs.drop j) (ns.drop (2 * j)) stj = T) ∧ Aside0 (KeepBut w w' g none))
  case atStart => exact ⟨0, st1, rfl, ⟨Nat.zero_le _⟩, ⟨rfl⟩, ⟨by omega⟩, HW, ⟨HT.out.symm⟩, HK⟩
  case round =>
    obtain ⟨j, stj, rfl, HJ, HKQ, HSL, HWJ, HTJ, HKJ⟩ := hrel
    by_cases hlt : j < L.curs.length
    · have hlt2 : (j : Int) < (L.curs.length : Int) := by omega
      have hjn : 2 * j + 1 < ns.length := by rw [HN.out]; omega
      obtain ⟨x, hx⟩ : ∃ x, L.curs[j]? = some x := ⟨_, List.getElem?_eq_getElem hlt⟩
      obtain ⟨n, hn⟩ : ∃ n, ns[2 * j]? = some n := ⟨_, List.getElem?_eq_getElem (by omega)⟩
      obtain ⟨m, hm⟩ : ∃ m, ns[2 * j + 1]? = some m := ⟨_, List.getElem?_eq_getElem hjn⟩
      obtain ⟨ad, ead, hcell0, hcell1, hcell2⟩ := at_cur HWJ.out.loc.2.1.1 j hlt x hx
      have ead2 : A4 = some ad := ead
      clear ead
      subst ead2
      have eL : L.curs.drop j = x :: L.curs.drop (j + 1) := by
        rw [List.drop_eq_getElem_cons hlt]; congr 1
        rw [List.getElem?_eq_getElem hlt] at hx; exact Option.some.inj hx
      have eN : ns.drop (2 * j) = n :: m :: ns.drop (2 * (j + 1)) := by
        rw [List.drop_eq_getElem_cons (show 2 * j < ns.length by omega), List.drop_eq_getElem_cons hjn]
        rw [List.getElem?_eq_getElem (show 2 * j < ns.length by omega)] at hn
        rw [List.getElem?_eq_getElem hjn] at hm
        rw [Option.some.inj hn, Option.some.inj hm]
        rfl
      rw [eL, eN] at HTJ
      rw [eN] at HWJ
      have HTX := Aside0.mk (show wcurs (L.curs.drop (j + 1)) (ns.drop (2 * (j + 1))) (wnum x.2.2 1 (wnum m 2 (wnum n 2 stj))) = T by have := HTJ.out; rw [wcurs] at this; exact this)
      have l1 := wnum_len n 2 stj
      have l2 := wnum_len m 2 (wnum n 2 stj)
      have l3 := wnum_len x.2.2 1 (wnum m 2 (wnum n 2 stj))
      have HB := Aside0.mk ((Below.refl wr.heap.size wr).alloc (Nat.le_refl _) (.cells #[.string x.1, .string x.2.1, .int .i64 x.2.2] 60))
      have HBN := Aside0.mk (blk_new wr (.cells #[.string x.1, .string x.2.1, .int .i64 x.2.2] 60))
      have HLEN := Aside0.mk (show stj.1.length < 140737488350000 ∧ (wnum n 2 stj).1.length < 140737488350000 ∧ (wnum m 2 (wnum n 2 stj)).1.length < 140737488350000 ∧ (wnum x.2.2 1 (wnum m 2 (wnum n 2 stj))).1.length ≤ st1.1.length + 12 * (j + 1) by
        have := HSL.out; have := HL.out; have := HM.out; omega)
      have HNUM := Aside0.mk (wtext.calls g n (m :: ns.drop (2 * (j + 1)) ++ rest) L _ stj w0 _ (HWJ.out.below HB.out) (by have := HLEN.out.1; omega))
      have HLT2 := Aside0.mk hlt
      have HLTW := Aside0.mk HWJ.out.lt
      have HKA := Aside0.mk (KeepBut.trans HKJ.out (KeepBut.of_below HB.out g none) (.inl rfl))
      clear hlt hjn hx hn hm eL eN HTJ l1 l2 l3
      go_wp2_with fail
      refine HNUM.out.mono ?_
      rintro e w3 ⟨rfl, hw3, hk3⟩
      have HTXT := Aside0.mk (wtext.calls g m (ns.drop (2 * (j + 1)) ++ rest) L _ _ w0 w3 hw3 (by have := HLEN.out.2.1; omega))
      have HBN3 := Aside0.mk (KeepBut.blk hk3 HBN.out (by have := HLTW.out; omega) (by simp))
      have HK3 := Aside0.mk (KeepBut.trans HKA.out hk3 (.inl rfl))
      clear hw3 hk3
      dsimp only
      go_wp2_with fail
      refine HTXT.out.mono ?_
      rintro e w4 ⟨rfl, hw4, hk4⟩
      have HTXU := Aside0.mk (wtnum.calls g _ L _ _ x.2.2 1 w0 w4 hw4 (by have := HLEN.out.2.2.1; omega))
      have hcb : w4.cell? ⟨wr.heap.size, 2, none⟩ = some (.int .i64 x.2.2) := (blk_cell (KeepBut.blk hk4 HBN3.out (by have := HLTW.out; omega) (by simp)) 2).trans rfl
      have HK4 := Aside0.mk (KeepBut.trans HK3.out hk4 (.inl rfl))
      clear hw4 hk4
      dsimp only
      go_wp2_with fail
      refine HTXU.out.mono ?_
      rintro e w5 ⟨rfl, hw5, hk5⟩
      have HW5 := Aside0.mk hw5
      have HK5 := Aside0.mk (KeepBut.trans HK4.out hk5 (.inl rfl))
      clear hw5 hk5 hcb
      dsimp only
      go_wp2
      go_roundg (L.curs.length - (j + 1))
      case measure => have := HLT2.out; have := HKQ.out; omega
      case rel => exact ⟨j + 1, _, by have h1 := HLT2.out; have h2 := HM.out; congr 1; unfold wrap64; omega, ⟨HLT2.out⟩, ⟨rfl⟩, ⟨HLEN.out.2.2.2⟩, HW5, HTX, HK5⟩
    · have hj : j = L.curs.length := by have := HJ.out; omega
      subst hj
      have e1 := HTJ.out
      rw [List.drop_length, ← HN.out, List.drop_length] at e1
      have e2 : stj = T := e1
      rw [← HN.out, List.drop_length] at HWJ
      rw [e2] at HWJ
      clear hlt e1 e2
      go_wp2
      go_end0
      exact ⟨rfl, HWJ.out, HKJ.out⟩
/-- the compact patterns -/
noncomputable def wcomps : List (Int × Int × ByteArray) → List Int → List Int × Bool → List Int × Bool
  | x :: xs, n :: ns, st => wcomps xs ns (wnum n 2 (wnum x.2.1 1 (wnum x.1 1 st)))
  | _, _, st => st
set_option maxHeartbeats 4000000 in
set_option maxRecDepth 100000 in
theorem wcomps.calls (g : Nat) (ns rest : List Int) (L : Loc) (a : Lat) (st : List Int × Bool) (w0 w : World) (h : Wt g (ns ++ rest) L a st w0 w) (hl : st.1.length < 140737480000000) (hn : ns.length = L.comps.length) (hm : L.comps.length ≤ 65535) :
    Calls Try.prog 30 #[.pointer (some ⟨g, 0, none⟩)] w fun e w' => e = .returned (.tuple #[]) ∧ Wt g rest L a (wcomps L.comps ns (wnum L.comps.length 2 st)) w0 w' ∧ KeepBut w w' g none := by
  obtain ⟨A3, c3, A4, c4, A5, c5⟩ := a
  have l0 := wnum_len L.comps.length 2 st
  have H0 := Aside0.mk (wtnum.calls g (ns ++ rest) L ⟨A3, c3, A4, c4, A5, c5⟩ st L.comps.length 2 w0 w h (by omega))
  have HLT := Aside0.mk h.lt
  obtain ⟨A, c, ⟨bv, hb, _⟩, _⟩ := h
  have hc0 : w.cell? ⟨g, 16, none⟩ = some (.slice A5 L.comps.length c5) := (blk_cell hb 16).trans rfl
  generalize wnum L.comps.length 2 st = st1 at H0 l0 ⊢
  obtain ⟨T, hT⟩ : ∃ T, T = wcomps L.comps ns st1 := ⟨_, rfl⟩
  rw [← hT]
  have HT := Aside0.mk hT
  have HN := Aside0.mk hn
  have HM := Aside0.mk hm
  have HL := Aside0.mk (show st1.1.length < 140737480000004 by omega)
  clear hb hT l0 hl hn hm
  go_enter Try.func30, Try.ntmps30
  go_wp2_with fail
  refine H0.out.mono ?_
  rintro e w1 ⟨rfl, hw, hk⟩
  dsimp only
  have HW := Aside0.mk hw
  have HK := Aside0.mk hk
  obtain ⟨A, c, ⟨bv, hb, _⟩, _⟩ := hw
  have hc0 : w1.cell? ⟨g, 16, none⟩ = some (.slice A5 L.comps.length c5) := (blk_cell hb 16).trans rfl
  clear hb hk
  go_wp2_with fail
  clear hc0
  go_loopg [18] L.comps.length (fun kq v18 w' => ∃ (j : Nat) (stj : List Int × Bool), v18 = .int .i64 (j : Int) ∧ Aside0 (j ≤ L.comps.length) ∧ Aside0 (L.comps.length - j = kq) ∧ Aside0 (stj.1.length ≤ st1.1.length + 12 * j) ∧ Aside0 (Wt g (ns.drop j ++ rest) L ⟨A3, c3, A4, c4, A5, c5⟩ stj w0 w') ∧ Aside0 (wcomps (L.comps.drop j) (ns.drop j) stj = T) ∧ Aside0 (KeepBut w w' g none))
  case atStart => exact ⟨0, st1, rfl, ⟨Nat.zero_le _⟩, ⟨rfl⟩, ⟨by omega⟩, HW, ⟨HT.out.symm⟩, HK⟩
  case round =>
    obtain ⟨j, stj, rfl, HJ, HKQ, HSL, HWJ, HTJ, HKJ⟩ := hrel
    by_cases hlt : j < L.comps.length
    · have hlt2 : (j : Int) < (L.comps.length : Int) := by omega
      have hjn : j < ns.length := by rw [HN.out]; exact hlt
      obtain ⟨x, hx⟩ : ∃ x, L.comps[j]? = some x := ⟨_, List.getElem?_eq_getElem hlt⟩
      obtain ⟨n, hn⟩ : ∃ n, ns[j]? = some n := ⟨_, List.getElem?_eq_getElem hjn⟩
      obtain ⟨ad, ead, hcell0, hcell1, hcell2⟩ := at_comp HWJ.out.loc.2.2.1.1 j hlt x hx
      have ead2 : A5 = some ad := ead
      clear ead
      subst ead2
      have eL : L.comps.drop j = x :: L.comps.drop (j + 1) := by
        rw [List.drop_eq_getElem_cons hlt]; congr 1
        rw [List.getElem?_eq_getElem hlt] at hx; exact Option.some.inj hx
      have eN : ns.drop j = n :: ns.drop (j + 1) := by
        rw [List.drop_eq_getElem_cons hjn]; congr 1
        rw [List.getElem?_eq_getElem hjn] at hn; exact Option.some.inj hn
      rw [eL, eN] at HTJ
      rw [eN] at HWJ
      have HTX := Aside0.mk (show wcomps (L.comps.drop (j + 1)) (ns.drop (j + 1)) (wnum n 2 (wnum x.2.1 1 (wnum x.1 1 stj))) = T by have := HTJ.out; rw [wcomps] at this; exact this)
      have l1 := wnum_len x.1 1 stj
      have l2 := wnum_len x.2.1 1 (wnum x.1 1 stj)
      have l3 := wnum_len n 2 (wnum x.2.1 1 (wnum x.1 1 stj))
      have HB := Aside0.mk ((Below.refl wr.heap.size wr).alloc (Nat.le_refl _) (.cells #[.int .i64 x.1, .int .i64 x.2.1, .string x.2.2] 62))
      have HBN := Aside0.mk (blk_new wr (.cells #[.int .i64 x.1, .int .i64 x.2.1, .string x.2.2] 62))
      have HLEN := Aside0.mk (show stj.1.length < 140737488350000 ∧ (wnum x.1 1 stj).1.length < 140737488350000 ∧ (wnum x.2.1 1 (wnum x.1 1 stj)).1.length < 140737488350000 ∧ (wnum n 2 (wnum x.2.1 1 (wnum x.1 1 stj))).1.length ≤ st1.1.length + 12 * (j + 1) by
        have := HSL.out; have := HL.out; have := HM.out; omega)
      have HNUM := Aside0.mk (wtnum.calls g _ L _ stj x.1 1 w0 _ (HWJ.out.below HB.out) (by have := HLEN.out.1; omega))
      have HLT2 := Aside0.mk hlt
      have HLTW := Aside0.mk HWJ.out.lt
      have HKA := Aside0.mk (KeepBut.trans HKJ.out (KeepBut.of_below HB.out g none) (.inl rfl))
      clear hlt hjn hx hn eL eN HTJ l1 l2 l3
      go_wp2_with fail
      refine HNUM.out.mono ?_
      rintro e w3 ⟨rfl, hw3, hk3⟩
      have HTXT := Aside0.mk (wtnum.calls g _ L _ _ x.2.1 1 w0 w3 hw3 (by have := HLEN.out.2.1; omega))
      have hcb : w3.cell? ⟨wr.heap.size, 1, none⟩ = some (.int .i64 x.2.1) := (blk_cell (KeepBut.blk hk3 HBN.out (by have := HLTW.out; omega) (by simp)) 1).trans rfl
      have HK3 := Aside0.mk (KeepBut.trans HKA.out hk3 (.inl rfl))
      clear hw3 hk3
      dsimp only
      go_wp2_with fail
      refine HTXT.out.mono ?_
      rintro e w4 ⟨rfl, hw4, hk4⟩
      have HTXU := Aside0.mk (wtext.calls g n (ns.drop (j + 1) ++ rest) L _ _ w0 w4 hw4 (by have := HLEN.out.2.2.1; omega))
      have HK4 := Aside0.mk (KeepBut.trans HK3.out hk4 (.inl rfl))
      clear hw4 hk4 hcb
      dsimp only
      go_wp2_with fail
      refine HTXU.out.mono ?_
      rintro e w5 ⟨rfl, hw5, hk5⟩
      have HW5 := Aside0.mk hw5
      have HK5 := Aside0.mk (KeepBut.trans HK4.out hk5 (.inl rfl))
      clear hw5 hk5
      dsimp only
      go_wp2
      go_roundg (L.comps.length - (j + 1))
      case measure => have := HLT2.out; have := HKQ.out; omega
      case rel => exact ⟨j + 1, _, by have h1 := HLT2.out; have h2 := HM.out; congr 1; unfold wrap64; omega, ⟨HLT2.out⟩, ⟨rfl⟩, ⟨HLEN.out.2.2.2⟩, HW5, HTX, HK5⟩
    · have hj : j = L.comps.length := by have := HJ.out; omega
      subst hj
      have e1 := HTJ.out
      rw [List.drop_length, ← HN.out, List.drop_length] at e1
      have e2 : stj = T := e1
      rw [← HN.out, List.drop_length] at HWJ
      rw [e2] at HWJ
      clear hlt e1 e2
      go_wp2
      go_end0
      exact ⟨rfl, HWJ.out, HKJ.out⟩
end Go.Proofs.Ytmhpcjncngonbaa.Q
/- What bund.Texts comes to; rows of 65535 at most. -/
namespace Go.Proofs.Ytmhpcjncngonbaa.Q
open Go.RowKit Go.Proofs.Ytmhpcjncngonbaa.Mine Go.Proofs.YtmhpcjncngonbaaW.PrintWords Go.Proofs.YtmhpcjncngonbaaW.PrintLast Go.Proofs.YtmhpcjncngonbaaW.PrintMore
set_option linter.unusedVariables false
set_option linter.unusedSimpArgs false
/-- a row of scalars, just laid -/
theorem R_lit_new {α : Type} (enc : α → Value) (h1 : ∀ x, (enc x).oneCell' = true) (w : World) (cells : Array Value) (e base : Nat) (ok : Nat → Prop) (xs : List α) (hx : cells.toList = xs.map enc) (hb : base ≤ w.heap.size) (hok : ok w.heap.size) (hm : xs.length ≤ 140737488355328) :
    (Kd.scalar enc h1).R e (w.alloc (.cells cells e)) base ok (.slice (some ⟨w.heap.size, 0, none⟩) xs.length xs.length) xs := by
  have hl : cells.size = xs.length := by rw [← Array.length_toList, hx, List.length_map]
  refine ⟨fun k hk => ?_, cells.toList, ?_, ⟨?_, fun j p hj => ?_⟩⟩
  · have : w.heap.size = k := by simpa [Value.ownBlock] using hk
    exact this ▸ hok
  · have h2 := World.ownsRow_lit (base := base) (e := e) (size := 1) w cells xs.length hb (by simp only [maxLen]; omega) (by rw [hl, Nat.mul_one])
    exact h2
  · show cells.toList.length = xs.length * 1
    rw [Array.length_toList, hl, Nat.mul_one]
  · obtain ⟨hl2, hp⟩ := List.getElem?_eq_some_iff.1 hj
    show (cells.toList.drop (j * 1)).take 1 = [enc p]
    rw [hx, Nat.mul_one, List.drop_eq_getElem_cons (by rw [List.length_map]; exact hl2), List.take_succ_cons, List.take_zero, List.getElem_map, hp]
/-- four texts that stand behind each other, read as a row -/
theorem C_four {w : World} {ad : Addr} {x0 x1 x2 x3 : ByteArray} (h0 : w.cell? ad = some (.string x0)) (h1 : w.cell? (ad.add 1) = some (.string x1)) (h2 : w.cell? (ad.add 2) = some (.string x2)) (h3 : w.cell? (ad.add 3) = some (.string x3)) :
    Kd.string.C w (some ad) 4 [x0, x1, x2, x3] := by
  refine ⟨rfl, by decide, fun _ => ⟨ad, rfl, fun j p hj => ⟨[.string p], rfl, rfl, fun i u hi => ?_⟩⟩⟩
  cases i with
  | succ i => simp at hi
  | zero =>
    have hu : u = .string p := by simpa using hi.symm
    subst hu
    have e2 : Kd.string.sz = 1 := rfl
    rw [e2, Nat.mul_one, Nat.add_zero]
    match j, hj with
    | 0, hj => simp at hj; subst hj; exact h0
    | 1, hj => simp at hj; subst hj; exact h1
    | 2, hj => simp at hj; subst hj; exact h2
    | 3, hj => simp at hj; subst hj; exact h3
    | j + 4, hj => simp at hj
/-- a locale's texts -/
def textsL (L : Loc) : List ByteArray := [L.tag, L.p0, L.p1, L.p2, L.p3] ++ L.rules.flatMap (fun x => [x.2]) ++ L.curs.flatMap (fun x => [x.1, x.2.1]) ++ L.comps.flatMap (fun x => [x.2.2])
@[reducible] def boxL (L : Loc) (a : Lat) : Array Value := #[.string L.tag, .int .i32 L.s0, .int .i32 L.s1, .int .i32 L.s2, .int .i32 L.s3, .int .i32 L.s4, .int .i32 L.s5, .int .i32 L.s6, .string L.p0, .string L.p1, .string L.p2, .string L.p3, .slice a.A3 L.rules.length a.c3, .slice a.A4 L.curs.length a.c4, .slice a.A5 L.comps.length a.c5]
theorem lit_reads {α : Type} (enc : α → Value) (h1 : ∀ x, (enc x).oneCell' = true) (w : World) (cells : Array Value) (e : Nat) (xs : List α) (hx : cells.toList = xs.map enc) (hm : xs.length ≤ 140737488355328) : (Kd.scalar enc h1).C (w.alloc (.cells cells e)) (some ⟨w.heap.size, 0, none⟩) xs.length xs := by
  obtain ⟨A, c, he, _, hC⟩ := Kd.R_reads (R_lit_new enc h1 w cells e w.heap.size (fun _ => True) xs hx (Nat.le_refl _) trivial hm)
  injection he with h1 h2 h3
  rw [← h1] at hC
  exact hC
set_option maxHeartbeats 8000000 in
set_option maxRecDepth 100000 in
theorem bund_Texts.calls (L : Loc) (a : Lat) (w : World) (h : LocC L a w) (hb : LocB L) :
    Calls Try.prog 21 #[locV L a] w fun e w' => ∃ v0_ : Value, e = .returned v0_ ∧ Kd.R Kd.string 9 w' w.heap.size (fun _ => True) v0_ (textsL L) ∧ Below w.heap.size w w' := by
  obtain ⟨A3, c3, A4, c4, A5, c5⟩ := a
  obtain ⟨w1, hw1⟩ : ∃ w1, w1 = w.alloc (.cells (boxL L ⟨A3, c3, A4, c4, A5, c5⟩) 29) := ⟨_, rfl⟩
  have hbel : Below w.heap.size w w1 := by rw [hw1]; exact (Below.refl w.heap.size w).alloc (Nat.le_refl _) _
  have hsz : w1.heap.size = w.heap.size + 1 := by rw [hw1]; simp
  have hbx : w1.heap[w.heap.size]? = some (.cells (boxL L ⟨A3, c3, A4, c4, A5, c5⟩) 29 (0, 0)) := by rw [hw1]; exact blk_new w _
  have HLB := Aside0.mk hb
  have HBEL := Aside0.mk hbel
  have HL := Aside0.mk (h.below hbel)
  have HSZ := Aside0.mk hsz
  have HBX := Aside0.mk hbx
  have HW1 := Aside0.mk hw1
  have HO0 := Aside0.mk (show Kd.R Kd.string 9 (w1.alloc (.cells #[.string L.tag] 9)) w1.heap.size (fun _ => True) (.slice (some ⟨w1.heap.size, 0, none⟩) 1 1) [L.tag] from R_lit_new Value.string (fun _ => rfl) w1 #[.string L.tag] 9 w1.heap.size (fun _ => True) [L.tag] rfl (Nat.le_refl _) trivial (by simp))
  have HR0 := Aside0.mk (show ∀ X : World, X.heap[w.heap.size]? = some (.cells (boxL L ⟨A3, c3, A4, c4, A5, c5⟩) 29 (0, 0)) → Kd.string.C X (some ⟨w.heap.size, 8, none⟩) 4 [L.p0, L.p1, L.p2, L.p3] from fun X hX => C_four ((blk_cell hX 8).trans rfl) ((blk_cell hX 9).trans rfl) ((blk_cell hX 10).trans rfl) ((blk_cell hX 11).trans rfl))
  have hc0 : w1.cell? ⟨w.heap.size, 0, none⟩ = some (.string L.tag) := (blk_cell hbx 0).trans rfl
  have HT0 := Aside0.mk (show ∃ T0, T0 = [L.tag, L.p0, L.p1, L.p2, L.p3] ++ L.rules.flatMap (fun x => [x.2]) from ⟨_, rfl⟩)
  obtain ⟨T0, hT0⟩ := HT0.out
  obtain ⟨T1, hT1⟩ : ∃ T1, T1 = T0 ++ L.curs.flatMap (fun x => [x.1, x.2.1]) := ⟨_, rfl⟩
  obtain ⟨T2, hT2⟩ : ∃ T2, T2 = T1 ++ L.comps.flatMap (fun x => [x.2.2]) := ⟨_, rfl⟩
  clear HT0
  have HT3 := Aside0.mk (show textsL L = T2 by rw [hT2, hT1, hT0]; rfl)
  have HT0 := Aside0.mk hT0
  have HT1 := Aside0.mk hT1
  have HT2 := Aside0.mk hT2
  clear h hb hbel hbx hw1 hsz hT0 hT1 hT2
  go_enter Try.func21, Try.ntmps21
  go_wp2_with fail
  rw [← HW1.out]
  go_region_law (first | (refine step_of_list rfl ?_; refine Kd.R_append_rows Kd.string (w0 := w1) w1.heap.size rfl (.tmp 12) (.tmp 14) 48 9 (.string ⟨#[]⟩) 16 rfl Try.underlying48 info9 rfl (by decide) (by omega) _ [L.tag] [L.p0, L.p1, L.p2, L.p3] _ _ _ (fun _ => True) (fun _ => False) rfl rfl ?aO ?aR (fun _ _ h => h) (fun _ h => h.elim) ?aF ?aB ?aS ?aL ?_; (case aF => exact (fun _ _ => trivial)); (case aO => exact Kd.R_drew HO0.out); (case aR => exact Kd.C_drew (HR0.out _ (blk_alloc HBX.out _))); (case aB => exact ((Below.refl w1.heap.size w1).alloc (Nat.le_refl _) _).drew); (case aS => exact (((Below.refl w1.heap.size w1).alloc (Nat.le_refl _) (.cells #[.string L.tag] 9)).drew).size); (case aL => exact (show (1 + 4) * 16 ≤ 140737488355328 by decide)); intro v5 w5 ho_ hb_ _ _; have HO5 := Aside0.mk ho_; have HB5 := Aside0.mk hb_; clear ho_ hb_; refine ⟨rfl, ?_⟩) | go_simp)
  have HX5 := Aside0.mk (show w5.heap[w.heap.size]? = some (.cells (boxL L ⟨A3, c3, A4, c4, A5, c5⟩) 29 (0, 0)) from (HB5.out.block w.heap.size (by have := HSZ.out; omega)).trans HBX.out)
  clear hc0
  have hc12 : w5.cell? ⟨w.heap.size, 12, none⟩ = some (.slice A3 L.rules.length c3) := (blk_cell HX5.out 12).trans rfl
  go_wp2_with fail
  clear hc12
  go_loopg [3, 19] L.rules.length (fun kq v3 v19 w' => ∃ (j : Nat) (acc : List ByteArray), v19 = .int .i64 (j : Int) ∧ Aside0 (j ≤ L.rules.length) ∧ Aside0 (L.rules.length - j = kq) ∧ Aside0 (acc.length = 5 + j) ∧ Aside0 (acc ++ (L.rules.drop j).flatMap (fun x => [x.2]) = T0) ∧ Aside0 (Kd.R Kd.string 9 w' w1.heap.size (fun _ => True) v3 acc) ∧ Aside0 (Below w1.heap.size w1 w'))
  case atStart => exact ⟨0, _, rfl, ⟨Nat.zero_le _⟩, ⟨rfl⟩, ⟨rfl⟩, ⟨HT0.out.symm⟩, HO5, HB5⟩
  case round =>
    obtain ⟨j, acc, rfl, HJ, HKQ, HSL, HTJ, HOJ, HBJ⟩ := hrel
    have HXJ := Aside0.mk (show wr.heap[w.heap.size]? = some (.cells (boxL L ⟨A3, c3, A4, c4, A5, c5⟩) 29 (0, 0)) from (HBJ.out.block w.heap.size (by have := HSZ.out; omega)).trans HBX.out)
    have hm := HLB.out.1
    by_cases hlt : j < L.rules.length
    · have hlt2 : (j : Int) < (L.rules.length : Int) := by omega
      obtain ⟨x, hx⟩ : ∃ x, L.rules[j]? = some x := ⟨_, List.getElem?_eq_getElem hlt⟩
      obtain ⟨ad, ead, hcell0, hcell1⟩ := at_rule (HL.out.below HBJ.out).1.1 j hlt x hx
      have ead2 : A3 = some ad := ead
      clear ead
      subst ead2
      have eL : L.rules.drop j = x :: L.rules.drop (j + 1) := by
        rw [List.drop_eq_getElem_cons hlt]; congr 1
        rw [List.getElem?_eq_getElem hlt] at hx; exact Option.some.inj hx
      rw [eL] at HTJ
      have HTX := Aside0.mk (show (acc ++ [x.2]) ++ (L.rules.drop (j + 1)).flatMap (fun x => [x.2]) = T0 by have := HTJ.out; rw [List.flatMap_cons, ← List.append_assoc] at this; exact this)
      have HLT2 := Aside0.mk hlt
      have HLEN := Aside0.mk (show (acc.length + 1) * 16 ≤ 140737488355328 by have := HSL.out; have h1 := HLB.out.1; have h2 := HLB.out.2.1; have h3 := HLB.out.2.2; omega)
      have HSL2 := Aside0.mk (show (acc ++ [x.2]).length = 5 + (j + 1) by have := HSL.out; rw [List.length_append]; simp; omega)
      have HXX := Aside0.mk hx
      clear hlt hx eL
      have HBC := Aside0.mk ((Below.refl w1.heap.size wr).alloc HBJ.out.size (.cells #[.int .i64 x.1, .string x.2] 58))
      have HOC := Aside0.mk (Kd.R_alloc (Kd.R_alloc HOJ.out (.cells #[.int .i64 x.1, .string x.2] 58)) (.cells #[.string x.2] 9))
      have HBD := Aside0.mk ((HBJ.out.alloc HBJ.out.size (.cells #[.int .i64 x.1, .string x.2] 58)).alloc (Nat.le_trans HBJ.out.size (by simp)) (.cells #[.string x.2] 9))
      have hRC := lit_reads Value.string (fun _ => rfl) (wr.alloc (.cells #[.int .i64 x.1, .string x.2] 58)) #[.string x.2] 9 [x.2] rfl (by simp)
      rw [show (wr.alloc (.cells #[.int .i64 x.1, .string x.2] 58)).heap.size = wr.heap.size + 1 by simp] at hRC
      have HRC := Aside0.mk hRC
      clear hRC
      go_wp2_with ((with_reducible refine gate_builtin (b := .append) (xs := #[.tmp 23, .tmp 26]) rfl ?_); at_builtin; refine Kd.R_append_rows Kd.string (w0 := w1) w1.heap.size rfl (.tmp 23) (.tmp 26) 48 9 (.string ⟨#[]⟩) 16 rfl Try.underlying48 info9 rfl (by decide) (by omega) u3 acc [x.2] _ _ _ (fun _ => True) (fun _ => False) rfl rfl ?aO ?aR (fun _ _ h => h) (fun _ h => h.elim) ?aF ?aB ?aS ?aL ?_; (case aF => exact (fun _ _ => trivial)); (case aO => exact HOC.out); (case aR => exact HRC.out); (case aB => exact HBD.out); (case aS => exact HBD.out.size); (case aL => exact HLEN.out); intro v7 w7 ho_ hb_ _ _; have HO7 := Aside0.mk ho_; have HB7 := Aside0.mk hb_; clear ho_ hb_)
      go_roundg (L.rules.length - (j + 1))
      case measure => have := HLT2.out; have := HKQ.out; omega
      case rel => exact ⟨j + 1, _, by have h1 := HLT2.out; first | rfl | (congr 1; unfold wrap64; omega), ⟨HLT2.out⟩, ⟨rfl⟩, HSL2, HTX, HO7, HB7⟩
    · have hj : j = L.rules.length := by have := HJ.out; omega
      subst hj
      have e1 := HTJ.out
      rw [List.drop_length, List.flatMap_nil, List.append_nil] at e1
      have HE0 := Aside0.mk e1
      have HO0_ := HOJ
      have HX0_ := HXJ
      have HB0_ := HBJ
      have HS0_ := HSL
      clear hlt e1 HOJ HXJ HBJ HSL HTJ HKQ HJ hm
      have hc13 : wr.cell? ⟨w.heap.size, 13, none⟩ = some (.slice A4 L.curs.length c4) := (blk_cell HX0_.out 13).trans rfl
      go_wp2_with fail
      clear hc13
      go_loopg [3, 32] L.curs.length (fun kq v3 v32 w' => ∃ (j : Nat) (acc : List ByteArray), v32 = .int .i64 (j : Int) ∧ Aside0 (j ≤ L.curs.length) ∧ Aside0 (L.curs.length - j = kq) ∧ Aside0 (acc.length = 5 + L.rules.length + 2 * j) ∧ Aside0 (acc ++ (L.curs.drop j).flatMap (fun x => [x.1, x.2.1]) = T1) ∧ Aside0 (Kd.R Kd.string 9 w' w1.heap.size (fun _ => True) v3 acc) ∧ Aside0 (Below w1.heap.size w1 w'))
      case atStart => exact ⟨0, _, rfl, ⟨Nat.zero_le _⟩, ⟨rfl⟩, ⟨by have := HS0_.out; omega⟩, ⟨by rw [HE0.out]; exact HT1.out.symm⟩, HO0_, HB0_⟩
      case round =>
        obtain ⟨j, acc, rfl, HJ, HKQ, HSL, HTJ, HOJ, HBJ⟩ := hrel
        have HXJ := Aside0.mk (show wr.heap[w.heap.size]? = some (.cells (boxL L ⟨A3, c3, A4, c4, A5, c5⟩) 29 (0, 0)) from (HBJ.out.block w.heap.size (by have := HSZ.out; omega)).trans HBX.out)
        have hm := HLB.out.2.1
        by_cases hlt : j < L.curs.length
        · have hlt2 : (j : Int) < (L.curs.length : Int) := by omega
          obtain ⟨x, hx⟩ : ∃ x, L.curs[j]? = some x := ⟨_, List.getElem?_eq_getElem hlt⟩
          obtain ⟨ad, ead, hcell0, hcell1, hcell2⟩ := at_cur (HL.out.below HBJ.out).2.1.1 j hlt x hx
          have ead2 : A4 = some ad := ead
          clear ead
          subst ead2
          have eL : L.curs.drop j = x :: L.curs.drop (j + 1) := by
            rw [List.drop_eq_getElem_cons hlt]; congr 1
            rw [List.getElem?_eq_getElem hlt] at hx; exact Option.some.inj hx
          rw [eL] at HTJ
          have HTX := Aside0.mk (show (acc ++ [x.1, x.2.1]) ++ (L.curs.drop (j + 1)).flatMap (fun x => [x.1, x.2.1]) = T1 by have := HTJ.out; rw [List.flatMap_cons, ← List.append_assoc] at this; exact this)
          have HLT2 := Aside0.mk hlt
          have HLEN := Aside0.mk (show (acc.length + 2) * 16 ≤ 140737488355328 by have := HSL.out; have h1 := HLB.out.1; have h2 := HLB.out.2.1; have h3 := HLB.out.2.2; omega)
          have HSL2 := Aside0.mk (show (acc ++ [x.1, x.2.1]).length = 5 + L.rules.length + 2 * (j + 1) by have := HSL.out; rw [List.length_append]; simp; omega)
          have HXX := Aside0.mk hx
          clear hlt hx eL
          have HBC := Aside0.mk ((Below.refl w1.heap.size wr).alloc HBJ.out.size (.cells #[.string x.1, .string x.2.1, .int .i64 x.2.2] 60))
          have HOC := Aside0.mk (Kd.R_alloc (Kd.R_alloc HOJ.out (.cells #[.string x.1, .string x.2.1, .int .i64 x.2.2] 60)) (.cells #[.string x.1, .string x.2.1] 9))
          have HBD := Aside0.mk ((HBJ.out.alloc HBJ.out.size (.cells #[.string x.1, .string x.2.1, .int .i64 x.2.2] 60)).alloc (Nat.le_trans HBJ.out.size (by simp)) (.cells #[.string x.1, .string x.2.1] 9))
          have hRC := lit_reads Value.string (fun _ => rfl) (wr.alloc (.cells #[.string x.1, .string x.2.1, .int .i64 x.2.2] 60)) #[.string x.1, .string x.2.1] 9 [x.1, x.2.1] rfl (by simp)
          rw [show (wr.alloc (.cells #[.string x.1, .string x.2.1, .int .i64 x.2.2] 60)).heap.size = wr.heap.size + 1 by simp] at hRC
          have HRC := Aside0.mk hRC
          clear hRC
          go_wp2_with ((with_reducible refine gate_builtin (b := .append) (xs := #[.tmp 36, .tmp 41]) rfl ?_); at_builtin; refine Kd.R_append_rows Kd.string (w0 := w1) w1.heap.size rfl (.tmp 36) (.tmp 41) 48 9 (.string ⟨#[]⟩) 16 rfl Try.underlying48 info9 rfl (by decide) (by omega) u3 acc [x.1, x.2.1] _ _ _ (fun _ => True) (fun _ => False) rfl rfl ?aO ?aR (fun _ _ h => h) (fun _ h => h.elim) ?aF ?aB ?aS ?aL ?_; (case aF => exact (fun _ _ => trivial)); (case aO => exact HOC.out); (case aR => exact HRC.out); (case aB => exact HBD.out); (case aS => exact HBD.out.size); (case aL => exact HLEN.out); intro v7 w7 ho_ hb_ _ _; have HO7 := Aside0.mk ho_; have HB7 := Aside0.mk hb_; clear ho_ hb_)
          go_roundg (L.curs.length - (j + 1))
          case measure => have := HLT2.out; have := HKQ.out; omega
          case rel => exact ⟨j + 1, _, by have h1 := HLT2.out; first | rfl | (congr 1; unfold wrap64; omega), ⟨HLT2.out⟩, ⟨rfl⟩, HSL2, HTX, HO7, HB7⟩
        · have hj : j = L.curs.length := by have := HJ.out; omega
          subst hj
          have e1 := HTJ.out
          rw [List.drop_length, List.flatMap_nil, List.append_nil] at e1
          have HE1 := Aside0.mk e1
          have HO1_ := HOJ
          have HX1_ := HXJ
          have HB1_ := HBJ
          have HS1_ := HSL
          clear hlt e1 HOJ HXJ HBJ HSL HTJ HKQ HJ hm
          have hc14 : wr.cell? ⟨w.heap.size, 14, none⟩ = some (.slice A5 L.comps.length c5) := (blk_cell HX1_.out 14).trans rfl
          go_wp2_with fail
          clear hc14
          go_loopg [3, 47] L.comps.length (fun kq v3 v47 w' => ∃ (j : Nat) (acc : List ByteArray), v47 = .int .i64 (j : Int) ∧ Aside0 (j ≤ L.comps.length) ∧ Aside0 (L.comps.length - j = kq) ∧ Aside0 (acc.length = 5 + L.rules.length + 2 * L.curs.length + j) ∧ Aside0 (acc ++ (L.comps.drop j).flatMap (fun x => [x.2.2]) = T2) ∧ Aside0 (Kd.R Kd.string 9 w' w1.heap.size (fun _ => True) v3 acc) ∧ Aside0 (Below w1.heap.size w1 w'))
          case atStart => exact ⟨0, _, rfl, ⟨Nat.zero_le _⟩, ⟨rfl⟩, ⟨by have := HS1_.out; omega⟩, ⟨by rw [HE1.out]; exact HT2.out.symm⟩, HO1_, HB1_⟩
          case round =>
            obtain ⟨j, acc, rfl, HJ, HKQ, HSL, HTJ, HOJ, HBJ⟩ := hrel
            have HXJ := Aside0.mk (show wr.heap[w.heap.size]? = some (.cells (boxL L ⟨A3, c3, A4, c4, A5, c5⟩) 29 (0, 0)) from (HBJ.out.block w.heap.size (by have := HSZ.out; omega)).trans HBX.out)
            have hm := HLB.out.2.2
            by_cases hlt : j < L.comps.length
            · have hlt2 : (j : Int) < (L.comps.length : Int) := by omega
              obtain ⟨x, hx⟩ : ∃ x, L.comps[j]? = some x := ⟨_, List.getElem?_eq_getElem hlt⟩
              obtain ⟨ad, ead, hcell0, hcell1, hcell2⟩ := at_comp (HL.out.below HBJ.out).2.2.1.1 j hlt x hx
              have ead2 : A5 = some ad := ead
              clear ead
              subst ead2
              have eL : L.comps.drop j = x :: L.comps.drop (j + 1) := by
                rw [List.drop_eq_getElem_cons hlt]; congr 1
                rw [List.getElem?_eq_getElem hlt] at hx; exact Option.some.inj hx
              rw [eL] at HTJ
              have HTX := Aside0.mk (show (acc ++ [x.2.2]) ++ (L.comps.drop (j + 1)).flatMap (fun x => [x.2.2]) = T2 by have := HTJ.out; rw [List.flatMap_cons, ← List.append_assoc] at this; exact this)
              have HLT2 := Aside0.mk hlt
              have HLEN := Aside0.mk (show (acc.length + 1) * 16 ≤ 140737488355328 by have := HSL.out; have h1 := HLB.out.1; have h2 := HLB.out.2.1; have h3 := HLB.out.2.2; omega)
              have HSL2 := Aside0.mk (show (acc ++ [x.2.2]).length = 5 + L.rules.length + 2 * L.curs.length + (j + 1) by have := HSL.out; rw [List.length_append]; simp; omega)
              have HXX := Aside0.mk hx
              clear hlt hx eL
              have HBC := Aside0.mk ((Below.refl w1.heap.size wr).alloc HBJ.out.size (.cells #[.int .i64 x.1, .int .i64 x.2.1, .string x.2.2] 62))
              have HOC := Aside0.mk (Kd.R_alloc (Kd.R_alloc HOJ.out (.cells #[.int .i64 x.1, .int .i64 x.2.1, .string x.2.2] 62)) (.cells #[.string x.2.2] 9))
              have HBD := Aside0.mk ((HBJ.out.alloc HBJ.out.size (.cells #[.int .i64 x.1, .int .i64 x.2.1, .string x.2.2] 62)).alloc (Nat.le_trans HBJ.out.size (by simp)) (.cells #[.string x.2.2] 9))
              have hRC := lit_reads Value.string (fun _ => rfl) (wr.alloc (.cells #[.int .i64 x.1, .int .i64 x.2.1, .string x.2.2] 62)) #[.string x.2.2] 9 [x.2.2] rfl (by simp)
              rw [show (wr.alloc (.cells #[.int .i64 x.1, .int .i64 x.2.1, .string x.2.2] 62)).heap.size = wr.heap.size + 1 by simp] at hRC
              have HRC := Aside0.mk hRC
              clear hRC
              go_wp2_with ((with_reducible refine gate_builtin (b := .append) (xs := #[.tmp 51, .tmp 54]) rfl ?_); at_builtin; refine Kd.R_append_rows Kd.string (w0 := w1) w1.heap.size rfl (.tmp 51) (.tmp 54) 48 9 (.string ⟨#[]⟩) 16 rfl Try.underlying48 info9 rfl (by decide) (by omega) u3 acc [x.2.2] _ _ _ (fun _ => True) (fun _ => False) rfl rfl ?aO ?aR (fun _ _ h => h) (fun _ h => h.elim) ?aF ?aB ?aS ?aL ?_; (case aF => exact (fun _ _ => trivial)); (case aO => exact HOC.out); (case aR => exact HRC.out); (case aB => exact HBD.out); (case aS => exact HBD.out.size); (case aL => exact HLEN.out); intro v7 w7 ho_ hb_ _ _; have HO7 := Aside0.mk ho_; have HB7 := Aside0.mk hb_; clear ho_ hb_)
              go_roundg (L.comps.length - (j + 1))
              case measure => have := HLT2.out; have := HKQ.out; omega
              case rel => exact ⟨j + 1, _, by have h1 := HLT2.out; first | rfl | (congr 1; unfold wrap64; omega), ⟨HLT2.out⟩, ⟨rfl⟩, HSL2, HTX, HO7, HB7⟩
            · have hj : j = L.comps.length := by have := HJ.out; omega
              subst hj
              have e1 := HTJ.out
              rw [List.drop_length, List.flatMap_nil, List.append_nil] at e1
              have HE2 := Aside0.mk e1
              have HO2_ := HOJ
              have HX2_ := HXJ
              have HB2_ := HBJ
              have HS2_ := HSL
              clear hlt e1 HOJ HXJ HBJ HSL HTJ HKQ HJ hm
              go_wp2
              go_ret
              exact ⟨_, rfl, Kd.R_mono (Kd.R_lower (by rw [HT3.out, ← HE2.out]; exact HO2_.out) (Nat.le_trans (Nat.le_succ _) (Nat.le_of_eq HSZ.out.symm))) (fun _ _ => trivial), HBEL.out.trans (HB2_.out.mono (Nat.le_trans (Nat.le_succ _) (Nat.le_of_eq HSZ.out.symm)))⟩
end Go.Proofs.Ytmhpcjncngonbaa.Q
