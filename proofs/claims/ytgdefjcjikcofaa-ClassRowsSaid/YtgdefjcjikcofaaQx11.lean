/- Functions of the translation as plain Lean functions, each with a proof that the Go code comes to its answers, wherever the function has one; no other condition. Written by this session's own program (wip/myprint.py). -/
import Derived.Test.YtgdefjcjikcofaaQx0
import Derived.Test.YtgdefjcjikcofaaQx5
namespace Go.Proofs.Ytgdefjcjikcofaa.Q
open Go.RowKit Go.Proofs.Ytgdefjcjikcofaa.Mine Go.Proofs.YtgdefjcjikcofaaW.PrintWords Go.Proofs.YtgdefjcjikcofaaW.PrintLast Go.Proofs.YtgdefjcjikcofaaW.PrintMore
attribute [local go_sem] max2_int min2_int max_two min_two max_three min_three max_four min_four   -- for this text's walks alone
set_option linter.unusedVariables false
set_option linter.unusedSimpArgs false

/-! ### class_Calm: function 16 -/
/-- the classes that let no row be calm -/
def odd (c : Int) : Bool := c == 6 || c == 1 || c == 3
set_option maxHeartbeats 2000000 in
set_option maxRecDepth 100000 in
theorem class_Calm_1.calls (k : Nat) (a0 c : Int) (w : World) (h : class_Of.f k a0 = some c) : Calls Try.prog 29 #[.int .i32 a0] w fun e w' => e = .returned (.bool (odd c)) ∧ Below w.heap.size w w' := by
  have A := Aside0.mk h
  clear h
  go_enter Try.func29, Try.ntmps29
  go_wp2_with fail
  refine (class_Of.calls k a0 c _ A.out).mono ?_
  rintro e w1 ⟨rfl, hb_⟩
  have HB := Aside0.mk hb_
  clear hb_
  dsimp only
  by_cases h6 : c = 6
  · subst h6
    go_wp2
    go_ret
    exact ⟨rfl, HB.out⟩
  by_cases h1 : c = 1
  · subst h1
    go_wp2
    go_ret
    exact ⟨rfl, HB.out⟩
  have b6 : (c == 6) = false := beq_eq_false_iff_ne.mpr h6
  have b1 : (c == 1) = false := beq_eq_false_iff_ne.mpr h1
  by_cases h3 : c = 3
  · subst h3
    go_wp2
    go_ret
    exact ⟨rfl, HB.out⟩
  have b3 : (c == 3) = false := beq_eq_false_iff_ne.mpr h3
  go_wp2
  go_ret
  exact ⟨by simp [odd, b6, b1, b3], HB.out⟩
def class_Calm.l0 : Nat → List Int → Int → Option Int
  | 0, _, _ => none
  | k + 1, x0, x8 => if x8 < (x0.length : Int) then (if 0 ≤ x8 then ((class_Of.f k (rd x0 x8)).bind fun c => if odd c = true then some x8 else class_Calm.l0 k x0 (wrap64 (x8 + 1))) else none) else some (-1)
def class_Calm.f (k : Nat) (l0 : List Int) : Option Bool := (class_Calm.l0 k l0 0).bind fun i => some (!(decide (i ≥ 0)))
theorem class_Calm.mono_l : ∀ k, (∀ y0 y1, LeO (class_Calm.l0 k y0 y1) (class_Calm.l0 (k + 1) y0 y1))
  | 0 => fun _ _ r h => by simp [class_Calm.l0] at h
  | k + 1 => by
    have ih0 := class_Calm.mono_l k
    intro y0 y1
    unfold class_Calm.l0
    repeat' first
      | (with_reducible exact ih0 _ _)
      | (with_reducible exact class_Of.mono _ _)
      | (with_reducible exact LeO.refl _)
      | (with_reducible exact LeO.none _)
      | (with_reducible refine LeO.ite ?_ ?_)
      | (with_reducible refine LeO.bind ?_ (fun _ => ?_))
theorem class_Calm.mono : ∀ a0 k, LeO (class_Calm.f k a0) (class_Calm.f (k + 1) a0) := by
  intro a0 k
  have ih0 := class_Calm.mono_l k
  unfold class_Calm.f
  repeat' first
      | (with_reducible exact ih0 _ _)
      | (with_reducible exact LeO.refl _)
      | (with_reducible refine LeO.bind ?_ (fun _ => ?_))
set_option maxHeartbeats 2000000 in
set_option maxRecDepth 100000 in
theorem class_Calm_2.calls (k : Nat) (A0 : Option Addr) (c0 : Nat) (l0 : List Int) (i : Int) (w : World) (hr0 : Kd.C (Kd.int .i32) w A0 l0.length l0) (hc0 : l0.length ≤ c0) (h : class_Calm.l0 k l0 0 = some i) :
    Calls Try.prog 31 #[.slice A0 l0.length c0, .func (.func 29) #[] #[]] w fun e w' => e = .returned (.int .i64 i) ∧ Below w.heap.size w w' := by
  have HR0 := Aside0.mk hr0
  have HH := Aside0.mk h
  clear hr0 hc0 h
  go_enter Try.func31, Try.ntmps31
  go_wp2
  go_loopg [8] k (fun kq v8 w' => ∃ (x8_1 : Int), v8 = .int .i64 x8_1 ∧ Aside0 (class_Calm.l0 kq l0 x8_1 = some i) ∧ Aside0 (Below w.heap.size w w'))
  case atStart => exact ⟨0, rfl, HH, ⟨Below.refl _ _⟩⟩
  case round =>
    obtain ⟨x8_1, rfl, HA, HB1⟩ := hrel
    cases gk with
    | zero => exact absurd HA.out (by simp [class_Calm.l0])
    | succ k1 =>
      have H := HA.out
      clear HA
      simp only [class_Calm.l0] at H
      by_cases c3 : x8_1 < (l0.length : Int)
      · rw [if_pos c3] at H
        by_cases c4 : 0 ≤ x8_1
        · rw [if_pos c4] at H
          obtain ⟨c, A5_, H⟩ := Option.bind_eq_some_iff.mp H
          have A5 := Aside0.mk A5_
          have H' := Aside0.mk H
          clear H A5_
          obtain ⟨ad105, e105, hx105_0⟩ := Kd.at_int (Kd.C_below HR0.out HB1.out) x8_1 c4 c3
          cases e105
          go_wp2_with fail
          refine (class_Calm_1.calls k1 (rd l0 x8_1) c _ A5.out).mono ?_
          rintro e w2 ⟨rfl, hb_⟩
          have HB2 := Aside0.mk (HB1.out.trans (hb_.mono HB1.out.size))
          clear hb_
          have H := H'.out
          dsimp only
          cases hodd : odd c with
          | true =>
            rw [hodd, if_pos rfl] at H
            obtain rfl := Option.some.inj H
            clear H H'
            go_wp2
            go_ret
            exact ⟨rfl, HB2.out⟩
          | false =>
            rw [hodd, if_neg (by simp)] at H
            have H2 := Aside0.mk H
            clear H H'
            go_wp2
            go_roundg k1
            case measure => omega
            case rel => exact ⟨wrap64 (x8_1 + 1), (by first | rfl | (simp; done) | (simp [*]; done)), H2, HB2⟩
        · rw [if_neg c4] at H
          exact absurd H (by simp)
      · rw [if_neg c3] at H
        obtain rfl := Option.some.inj H
        go_wp2
        go_ret
        exact ⟨rfl, HB1.out⟩
set_option maxHeartbeats 2000000 in
set_option maxRecDepth 100000 in
theorem class_Calm_3.calls (k : Nat) (A0 : Option Addr) (c0 : Nat) (l0 : List Int) (i : Int) (w : World) (hr0 : Kd.C (Kd.int .i32) w A0 l0.length l0) (hc0 : l0.length ≤ c0) (h : class_Calm.l0 k l0 0 = some i) :
    Calls Try.prog 28 #[.slice A0 l0.length c0, .func (.func 29) #[] #[]] w fun e w' => e = .returned (.bool (decide (i ≥ 0))) ∧ Below w.heap.size w w' := by
  have HR0 := Aside0.mk hr0
  have HC0 := Aside0.mk hc0
  have HH := Aside0.mk h
  clear hr0 hc0 h
  go_enter Try.func28, Try.ntmps28
  go_wp2_with fail
  refine (class_Calm_2.calls k _ _ l0 i _ HR0.out HC0.out HH.out).mono ?_
  rintro e w1 ⟨rfl, hb_⟩
  have HB := Aside0.mk hb_
  clear hb_
  dsimp only
  go_wp2
  go_ret
  exact ⟨rfl, HB.out⟩
set_option maxHeartbeats 2000000 in
set_option maxRecDepth 100000 in
theorem class_Calm.calls (k : Nat) (A0 : Option Addr) (c0 : Nat) (l0 : List Int) (r : Bool) (w : World) (hr0 : Kd.C (Kd.int .i32) w A0 l0.length l0) (hc0 : l0.length ≤ c0) (h : class_Calm.f k l0 = some r) :
    Calls Try.prog 16 #[.slice A0 l0.length c0] w fun e w' => e = .returned (.bool r) ∧ Below w.heap.size w w' := by
  obtain ⟨i, A1_, h⟩ := Option.bind_eq_some_iff.mp h
  obtain rfl := Option.some.inj h
  have A1 := Aside0.mk A1_
  have HR0 := Aside0.mk hr0
  have HC0 := Aside0.mk hc0
  clear hr0 hc0 h A1_
  go_enter Try.func16, Try.ntmps16
  go_wp2_with fail
  refine (class_Calm_3.calls k _ _ l0 i _ HR0.out HC0.out A1.out).mono ?_
  rintro e w1 ⟨rfl, hb_⟩
  have HB := Aside0.mk hb_
  clear hb_
  dsimp only
  go_wp2
  go_ret
  exact ⟨by first | rfl | (simp; done), HB.out⟩

end Go.Proofs.Ytgdefjcjikcofaa.Q
