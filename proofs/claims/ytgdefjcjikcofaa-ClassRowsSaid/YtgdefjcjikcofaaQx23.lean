/- Functions of the translation as plain Lean functions, each with a proof that the Go code comes to its answers, wherever the function has one; no other condition. Written by this session's own program (wip/myprint.py). -/
import Derived.Test.YtgdefjcjikcofaaQx0
namespace Go.Proofs.Ytgdefjcjikcofaa.Q
open Go.RowKit Go.Proofs.Ytgdefjcjikcofaa.Mine Go.Proofs.YtgdefjcjikcofaaW.PrintWords Go.Proofs.YtgdefjcjikcofaaW.PrintLast Go.Proofs.YtgdefjcjikcofaaW.PrintMore
attribute [local go_sem] max2_int min2_int max_two min_two max_three min_three max_four min_four   -- for this text's walks alone
set_option linter.unusedVariables false
set_option linter.unusedSimpArgs false

/-! ### exergueref02_Turns: function 19 -/
mutual
def exergueref02_Turns.l0 : Nat → List Int → Int → Int → Option (Bool)
  | 0, _, _, _ => none
  | k + 1, x0, x3, x4 => if x4 < (x0.length : Int) then (if 0 ≤ x4 then (if (wrap64 (rd x0 x4)) ≥ 8234 then (exergueref02_Turns.j1 k x0 x3 x4 (wrap64 (rd x0 x4)) (decide ((wrap64 (rd x0 x4)) ≤ 8238))) else (exergueref02_Turns.j1 k x0 x3 x4 (wrap64 (rd x0 x4)) false)) else (none)) else (some (x3 == 0))
def exergueref02_Turns.j1 : Nat → List Int → Int → Int → Int → Bool → Option (Bool)
  | 0, _, _, _, _, _ => none
  | k + 1, x0, x3, x4, x5, x22 => if x22 = true then (some false) else (if x5 ≥ 8294 then (exergueref02_Turns.j2 k x0 x3 x4 x5 (decide (x5 ≤ 8296))) else (exergueref02_Turns.j2 k x0 x3 x4 x5 false))
def exergueref02_Turns.j2 : Nat → List Int → Int → Int → Int → Bool → Option (Bool)
  | 0, _, _, _, _, _ => none
  | k + 1, x0, x3, x4, x5, x28 => if x28 = true then (exergueref02_Turns.j3 k x0 (wrap64 (x3 + 1)) x4 x5) else (exergueref02_Turns.j3 k x0 x3 x4 x5)
def exergueref02_Turns.j3 : Nat → List Int → Int → Int → Int → Option (Bool)
  | 0, _, _, _, _ => none
  | k + 1, x0, x3, x4, x5 => if x5 = 8297 then (if x3 = 0 then (some false) else (exergueref02_Turns.l0 k x0 (wrap64 (x3 - 1)) (wrap64 (x4 + 1)))) else (exergueref02_Turns.l0 k x0 x3 (wrap64 (x4 + 1)))
end
def exergueref02_Turns.f (k : Nat) (l0 : List Int) : Option (Bool) := exergueref02_Turns.l0 k l0 0 0
theorem exergueref02_Turns.mono_l : ∀ k, (∀ y0 y1 y2, LeO (exergueref02_Turns.l0 k y0 y1 y2) (exergueref02_Turns.l0 (k + 1) y0 y1 y2)) ∧ (∀ y0 y1 y2 y3 y4, LeO (exergueref02_Turns.j1 k y0 y1 y2 y3 y4) (exergueref02_Turns.j1 (k + 1) y0 y1 y2 y3 y4)) ∧ (∀ y0 y1 y2 y3 y4, LeO (exergueref02_Turns.j2 k y0 y1 y2 y3 y4) (exergueref02_Turns.j2 (k + 1) y0 y1 y2 y3 y4)) ∧ (∀ y0 y1 y2 y3, LeO (exergueref02_Turns.j3 k y0 y1 y2 y3) (exergueref02_Turns.j3 (k + 1) y0 y1 y2 y3))
  | 0 => ⟨fun _ _ _ r h => by simp [exergueref02_Turns.l0] at h, fun _ _ _ _ _ r h => by simp [exergueref02_Turns.j1] at h, fun _ _ _ _ _ r h => by simp [exergueref02_Turns.j2] at h, fun _ _ _ _ r h => by simp [exergueref02_Turns.j3] at h⟩
  | k + 1 => by
    obtain ⟨ih0, ih1, ih2, ih3⟩ := exergueref02_Turns.mono_l k
    refine ⟨?_, ?_, ?_, ?_⟩
    · intro y0 y1 y2
      unfold exergueref02_Turns.l0
      repeat' first
      | (with_reducible exact ih0 _ _ _)
      | (with_reducible exact ih1 _ _ _ _ _)
      | (with_reducible exact ih2 _ _ _ _ _)
      | (with_reducible exact ih3 _ _ _ _)
      | (with_reducible exact LeO.refl _)
      | (with_reducible exact LeO.none _)
      | (with_reducible refine LeO.ite ?_ ?_)
      | (with_reducible refine LeO.bind ?_ (fun _ => ?_))
      | exact ih0 _ _ _
      | exact ih1 _ _ _ _ _
      | exact ih2 _ _ _ _ _
      | exact ih3 _ _ _ _
      | exact LeO.none _
      | refine LeO.ite ?_ ?_
      | refine LeO.bind ?_ (fun _ => ?_)
    · intro y0 y1 y2 y3 y4
      unfold exergueref02_Turns.j1
      repeat' first
      | (with_reducible exact ih0 _ _ _)
      | (with_reducible exact ih1 _ _ _ _ _)
      | (with_reducible exact ih2 _ _ _ _ _)
      | (with_reducible exact ih3 _ _ _ _)
      | (with_reducible exact LeO.refl _)
      | (with_reducible exact LeO.none _)
      | (with_reducible refine LeO.ite ?_ ?_)
      | (with_reducible refine LeO.bind ?_ (fun _ => ?_))
      | exact ih0 _ _ _
      | exact ih1 _ _ _ _ _
      | exact ih2 _ _ _ _ _
      | exact ih3 _ _ _ _
      | exact LeO.none _
      | refine LeO.ite ?_ ?_
      | refine LeO.bind ?_ (fun _ => ?_)
    · intro y0 y1 y2 y3 y4
      unfold exergueref02_Turns.j2
      repeat' first
      | (with_reducible exact ih0 _ _ _)
      | (with_reducible exact ih1 _ _ _ _ _)
      | (with_reducible exact ih2 _ _ _ _ _)
      | (with_reducible exact ih3 _ _ _ _)
      | (with_reducible exact LeO.refl _)
      | (with_reducible exact LeO.none _)
      | (with_reducible refine LeO.ite ?_ ?_)
      | (with_reducible refine LeO.bind ?_ (fun _ => ?_))
      | exact ih0 _ _ _
      | exact ih1 _ _ _ _ _
      | exact ih2 _ _ _ _ _
      | exact ih3 _ _ _ _
      | exact LeO.none _
      | refine LeO.ite ?_ ?_
      | refine LeO.bind ?_ (fun _ => ?_)
    · intro y0 y1 y2 y3
      unfold exergueref02_Turns.j3
      repeat' first
      | (with_reducible exact ih0 _ _ _)
      | (with_reducible exact ih1 _ _ _ _ _)
      | (with_reducible exact ih2 _ _ _ _ _)
      | (with_reducible exact ih3 _ _ _ _)
      | (with_reducible exact LeO.refl _)
      | (with_reducible exact LeO.none _)
      | (with_reducible refine LeO.ite ?_ ?_)
      | (with_reducible refine LeO.bind ?_ (fun _ => ?_))
      | exact ih0 _ _ _
      | exact ih1 _ _ _ _ _
      | exact ih2 _ _ _ _ _
      | exact ih3 _ _ _ _
      | exact LeO.none _
      | refine LeO.ite ?_ ?_
      | refine LeO.bind ?_ (fun _ => ?_)
theorem exergueref02_Turns.mono : ∀ a0 k, LeO (exergueref02_Turns.f k a0) (exergueref02_Turns.f (k + 1) a0) := by
  intro a0 k
  obtain ⟨ih0, ih1, ih2, ih3⟩ := exergueref02_Turns.mono_l k
  unfold exergueref02_Turns.f
  repeat' first
      | (with_reducible exact ih0 _ _ _)
      | (with_reducible exact ih1 _ _ _ _ _)
      | (with_reducible exact ih2 _ _ _ _ _)
      | (with_reducible exact ih3 _ _ _ _)
      | (with_reducible exact LeO.refl _)
      | (with_reducible exact LeO.none _)
      | (with_reducible refine LeO.ite ?_ ?_)
      | (with_reducible refine LeO.bind ?_ (fun _ => ?_))
      | exact ih0 _ _ _
      | exact ih1 _ _ _ _ _
      | exact ih2 _ _ _ _ _
      | exact ih3 _ _ _ _
      | exact LeO.none _
      | refine LeO.ite ?_ ?_
      | refine LeO.bind ?_ (fun _ => ?_)
set_option maxHeartbeats 8000000 in
set_option maxRecDepth 100000 in
theorem exergueref02_Turns.calls (k : Nat) (A0 : Option Addr) (c0 : Nat) (l0 : List Int) (r : Bool) (w : World) (hr0 : Kd.C (Kd.int .i32) w A0 l0.length l0) (hc0 : l0.length ≤ c0) (h : exergueref02_Turns.f k l0 = some r) :
    Calls Try.prog 19 #[.slice A0 l0.length c0] w fun e w' => e = .returned (.bool r) ∧ Drawn0 w w' := by
  have HR0 := Aside0.mk hr0
  have HC0 := Aside0.mk hc0
  clear hr0 hc0
  have H : (exergueref02_Turns.l0 k l0 0 0) = some r := h
  clear h
  have H' := Aside0.mk H
  clear H
  go_enter Try.func19, Try.ntmps19
  go_wp2
  go_loopg [3, 4] k (fun kq v3 v4 w' => ∃ (x3_1 : Int) (x4_1 : Int), v3 = .int .i64 x3_1 ∧ v4 = .int .i64 x4_1 ∧ Aside0 (exergueref02_Turns.l0 kq l0 x3_1 x4_1 = some r) ∧ Aside0 (kq ≤ k) ∧ Drawn0 w w')
  case atStart => exact ⟨(0), (0), (by first | rfl | (simp; done) | (simp [*]; done)), (by first | rfl | (simp; done) | (simp [*]; done)), H', ⟨Nat.le_refl _⟩, by repeat (first | exact Drawn0.refl _ | apply Drawn0.step)⟩
  case round =>
    clear H'
    try clear c1
    obtain ⟨x3_1, x4_1, rfl, rfl, HA, HK1, ⟨m1, rfl⟩⟩ := hrel
    cases gk with
    | zero => exact absurd HA.out (by simp [exergueref02_Turns.l0])
    | succ k1 =>
      have H := HA.out
      clear HA
      simp only [exergueref02_Turns.l0] at H
      by_cases c2 : x4_1 < (l0.length : Int)
      · rw [if_pos c2] at H
        have c2b0 : decide (x4_1 < (l0.length : Int)) = true := decide_eq_true c2
        clear c2
        by_cases c3 : 0 ≤ x4_1
        · rw [if_pos c3] at H
          have c3b0 : decide (0 ≤ x4_1) = true := decide_eq_true c3
          clear c3
          have HC4 := Aside0.mk H
          clear H
          have p153 : 0 ≤ (x4_1 : Int) := of_decide_eq_true (by first | (with_reducible assumption) | assumption)
          have q153 : x4_1 < (l0.length : Int) := of_decide_eq_true (by first | (with_reducible assumption) | assumption)
          obtain ⟨ad153, e153, hx153_0⟩ := Kd.at_int HR0.out x4_1 p153 q153
          cases e153
          replace p153 := eq_true p153
          replace q153 := eq_true q153
          go_upto_region 6 with (fail)
          go_cut [22] (fun v22 wc => ∃ (kq : Nat) (x22_3 : Bool), v22 = .bool x22_3 ∧ Aside0 (exergueref02_Turns.j1 kq l0 x3_1 x4_1 (wrap64 (rd l0 x4_1)) x22_3 = some r) ∧ Aside0 (kq ≤ k1) ∧ Drawn0 w wc)
          case first =>
            have H := HC4.out
            clear HC4
            by_cases c5 : (wrap64 (rd l0 x4_1)) ≥ 8234
            · rw [if_pos c5] at H
              have c5b0 : decide (8234 ≤ (wrap64 (rd l0 x4_1))) = true := decide_eq_true c5
              clear c5
              (first | rw [c5b0] | (simp only [i64_w, i32_w]; rw [c5b0]) | skip)
              have H' := Aside0.mk H
              clear H
              go_wp2
              go_meet
              case rel => exact ⟨_, (decide ((wrap64 (rd l0 x4_1)) ≤ 8238)), (by first | rfl | (simp; done) | (simp [*]; done)), H', ⟨by have := HK1.out; first | omega | exact Nat.le_refl _⟩, by repeat (first | exact Drawn0.refl _ | apply Drawn0.step)⟩
            · rw [if_neg c5] at H
              have c5b0 : decide (8234 ≤ (wrap64 (rd l0 x4_1))) = false := decide_eq_false c5
              clear c5
              (first | rw [c5b0] | (simp only [i64_w, i32_w]; rw [c5b0]) | skip)
              have H' := Aside0.mk H
              clear H
              go_wp2
              go_meet
              case rel => exact ⟨_, (false), (by first | rfl | (simp; done) | (simp [*]; done)), H', ⟨by have := HK1.out; first | omega | exact Nat.le_refl _⟩, by repeat (first | exact Drawn0.refl _ | apply Drawn0.step)⟩
          case rest =>
            clear HC4
            try clear c1
            try clear p1
            try clear q1
            try clear hx1
            try clear c2
            try clear c2b0
            try clear p2
            try clear c3
            try clear c3b0
            try clear c5
            try clear c5b0
            try clear hx153_0
            try clear p153
            try clear q153
            obtain ⟨kq, x22_3, rfl, HA, HJ3, ⟨mc3, rfl⟩⟩ := hcut
            cases kq with
            | zero => exact absurd HA.out (by simp [exergueref02_Turns.j1])
            | succ kj3 =>
              have H := HA.out
              clear HA
              simp only [exergueref02_Turns.j1] at H
              by_cases c6 : x22_3 = true
              · subst c6
                have H1 : (some false) = some r := by rw [if_pos rfl] at H; exact H
                clear H
                have H := H1
                clear H1
                obtain rfl := Option.some.inj H
                go_wp2
                go_ret
                exact ⟨by first | rfl | (simp; done) | (simp [*]; done), by repeat (first | exact Drawn0.refl _ | apply Drawn0.step)⟩
              · replace c6 := Bool.eq_false_iff.mpr c6
                subst c6
                have H1 : (if (wrap64 (rd l0 x4_1)) ≥ 8294 then (exergueref02_Turns.j2 kj3 l0 x3_1 x4_1 (wrap64 (rd l0 x4_1)) (decide ((wrap64 (rd l0 x4_1)) ≤ 8296))) else (exergueref02_Turns.j2 kj3 l0 x3_1 x4_1 (wrap64 (rd l0 x4_1)) false)) = some r := by rw [if_neg (show ¬ (false = true) by decide)] at H; exact H
                clear H
                have H := H1
                clear H1
                have HC7 := Aside0.mk H
                clear H
                go_upto_region 8 with (fail)
                go_cut [28] (fun v28 wc => ∃ (kq : Nat) (x28_6 : Bool), v28 = .bool x28_6 ∧ Aside0 (exergueref02_Turns.j2 kq l0 x3_1 x4_1 (wrap64 (rd l0 x4_1)) x28_6 = some r) ∧ Aside0 (kq ≤ kj3) ∧ Drawn0 w wc)
                case first =>
                  have H := HC7.out
                  clear HC7
                  by_cases c8 : (wrap64 (rd l0 x4_1)) ≥ 8294
                  · rw [if_pos c8] at H
                    have c8b0 : decide (8294 ≤ (wrap64 (rd l0 x4_1))) = true := decide_eq_true c8
                    clear c8
                    (first | rw [c8b0] | (simp only [i64_w, i32_w]; rw [c8b0]) | skip)
                    have H' := Aside0.mk H
                    clear H
                    go_wp2
                    go_meet
                    case rel => exact ⟨_, (decide ((wrap64 (rd l0 x4_1)) ≤ 8296)), (by first | rfl | (simp; done) | (simp [*]; done)), H', ⟨by have := HK1.out; have := HJ3.out; first | omega | exact Nat.le_refl _⟩, by repeat (first | exact Drawn0.refl _ | apply Drawn0.step)⟩
                  · rw [if_neg c8] at H
                    have c8b0 : decide (8294 ≤ (wrap64 (rd l0 x4_1))) = false := decide_eq_false c8
                    clear c8
                    (first | rw [c8b0] | (simp only [i64_w, i32_w]; rw [c8b0]) | skip)
                    have H' := Aside0.mk H
                    clear H
                    go_wp2
                    go_meet
                    case rel => exact ⟨_, (false), (by first | rfl | (simp; done) | (simp [*]; done)), H', ⟨by have := HK1.out; have := HJ3.out; first | omega | exact Nat.le_refl _⟩, by repeat (first | exact Drawn0.refl _ | apply Drawn0.step)⟩
                case rest =>
                  clear HC7
                  try clear c1
                  try clear p1
                  try clear q1
                  try clear hx1
                  try clear c2
                  try clear c2b0
                  try clear p2
                  try clear c3
                  try clear c3b0
                  try clear c5
                  try clear c5b0
                  try clear c6
                  try clear p6
                  try clear c8
                  try clear c8b0
                  try clear hx153_0
                  try clear p1
                  try clear p153
                  try clear p2
                  try clear q1
                  try clear q153
                  obtain ⟨kq, x28_6, rfl, HA, HJ6, ⟨mc6, rfl⟩⟩ := hcut
                  cases kq with
                  | zero => exact absurd HA.out (by simp [exergueref02_Turns.j2])
                  | succ kj6 =>
                    have H := HA.out
                    clear HA
                    simp only [exergueref02_Turns.j2] at H
                    have HC9 := Aside0.mk H
                    clear H
                    go_upto_if 28 with (fail)
                    go_cut [3] (fun v3 wc => ∃ (kq : Nat) (x3_8 : Int), v3 = .int .i64 x3_8 ∧ Aside0 (exergueref02_Turns.j3 kq l0 x3_8 x4_1 (wrap64 (rd l0 x4_1)) = some r) ∧ Aside0 (kq ≤ kj6) ∧ Drawn0 w wc)
                    case first =>
                      have H := HC9.out
                      clear HC9
                      by_cases c10 : x28_6 = true
                      · subst c10
                        have H1 : (exergueref02_Turns.j3 kj6 l0 (wrap64 (x3_1 + 1)) x4_1 (wrap64 (rd l0 x4_1))) = some r := by rw [if_pos rfl] at H; exact H
                        clear H
                        have H := H1
                        clear H1
                        have H' := Aside0.mk H
                        clear H
                        go_wp2
                        go_meet
                        case rel => exact ⟨_, (wrap64 (x3_1 + 1)), (by first | rfl | (simp; done) | (simp [*]; done)), H', ⟨by have := HK1.out; have := HJ3.out; have := HJ6.out; first | omega | exact Nat.le_refl _⟩, by repeat (first | exact Drawn0.refl _ | apply Drawn0.step)⟩
                      · replace c10 := Bool.eq_false_iff.mpr c10
                        subst c10
                        have H1 : (exergueref02_Turns.j3 kj6 l0 x3_1 x4_1 (wrap64 (rd l0 x4_1))) = some r := by rw [if_neg (show ¬ (false = true) by decide)] at H; exact H
                        clear H
                        have H := H1
                        clear H1
                        have H' := Aside0.mk H
                        clear H
                        go_wp2
                        go_meet
                        case rel => exact ⟨_, (x3_1), (by first | rfl | (simp; done) | (simp [*]; done)), H', ⟨by have := HK1.out; have := HJ3.out; have := HJ6.out; first | omega | exact Nat.le_refl _⟩, by repeat (first | exact Drawn0.refl _ | apply Drawn0.step)⟩
                    case rest =>
                      clear HC9
                      try clear c1
                      try clear p1
                      try clear q1
                      try clear hx1
                      try clear c2
                      try clear c2b0
                      try clear p2
                      try clear c3
                      try clear c3b0
                      try clear c5
                      try clear c5b0
                      try clear c6
                      try clear p6
                      try clear c8
                      try clear c8b0
                      try clear c10
                      try clear hx153_0
                      try clear p1
                      try clear p153
                      try clear p2
                      try clear p6
                      try clear q1
                      try clear q153
                      obtain ⟨kq, x3_8, rfl, HA, HJ8, ⟨mc8, rfl⟩⟩ := hcut
                      cases kq with
                      | zero => exact absurd HA.out (by simp [exergueref02_Turns.j3])
                      | succ kj8 =>
                        have H := HA.out
                        clear HA
                        simp only [exergueref02_Turns.j3] at H
                        by_cases c11 : (wrap64 (rd l0 x4_1)) = 8297
                        · rw [if_pos c11] at H
                          have c11b0 : ((wrap64 (rd l0 x4_1)) == 8297) = true := beq_iff_eq.mpr c11
                          have c11b1 : ((wrap64 (rd l0 x4_1)) != 8297) = false := bne_eq_false_iff_eq.mpr c11
                          clear c11
                          by_cases c12 : x3_8 = 0
                          · rw [if_pos c12] at H
                            have c12b0 : (x3_8 == 0) = true := beq_iff_eq.mpr c12
                            have c12b1 : (x3_8 != 0) = false := bne_eq_false_iff_eq.mpr c12
                            clear c12
                            obtain rfl := Option.some.inj H
                            go_wp2
                            go_ret
                            exact ⟨by first | rfl | (simp; done) | (simp [*]; done), by repeat (first | exact Drawn0.refl _ | apply Drawn0.step)⟩
                          · rw [if_neg c12] at H
                            have c12b0 : (x3_8 == 0) = false := beq_eq_false_iff_ne.mpr c12
                            have c12b1 : (x3_8 != 0) = true := bne_iff_ne.mpr c12
                            have H' := Aside0.mk H
                            clear H
                            go_wp2
                            go_roundg kj8
                            case measure => have := HK1.out; have := HJ3.out; have := HJ6.out; have := HJ8.out; omega
                            case rel => exact ⟨(wrap64 (x3_8 - 1)), (wrap64 (x4_1 + 1)), (by first | rfl | (simp; done) | (simp [*]; done)), (by first | rfl | (simp; done) | (simp [*]; done)), H', ⟨by have := HK1.out; have := HJ3.out; have := HJ6.out; have := HJ8.out; omega⟩, by repeat (first | exact Drawn0.refl _ | apply Drawn0.step)⟩
                        · rw [if_neg c11] at H
                          have c11b0 : ((wrap64 (rd l0 x4_1)) == 8297) = false := beq_eq_false_iff_ne.mpr c11
                          have c11b1 : ((wrap64 (rd l0 x4_1)) != 8297) = true := bne_iff_ne.mpr c11
                          have H' := Aside0.mk H
                          clear H
                          go_wp2
                          go_roundg kj8
                          case measure => have := HK1.out; have := HJ3.out; have := HJ6.out; have := HJ8.out; omega
                          case rel => exact ⟨(x3_8), (wrap64 (x4_1 + 1)), (by first | rfl | (simp; done) | (simp [*]; done)), (by first | rfl | (simp; done) | (simp [*]; done)), H', ⟨by have := HK1.out; have := HJ3.out; have := HJ6.out; have := HJ8.out; omega⟩, by repeat (first | exact Drawn0.refl _ | apply Drawn0.step)⟩
        · rw [if_neg c3] at H
          exact absurd H (by simp)
      · rw [if_neg c2] at H
        have c2b0 : decide (x4_1 < (l0.length : Int)) = false := decide_eq_false c2
        clear c2
        obtain rfl := Option.some.inj H
        go_wp2
        go_ret
        exact ⟨by first | rfl | (simp; done) | (simp [*]; done), by repeat (first | exact Drawn0.refl _ | apply Drawn0.step)⟩

end Go.Proofs.Ytgdefjcjikcofaa.Q
