/- Functions of the translation as plain Lean functions, each with a proof that the Go code comes to its answers, wherever the function has one; no other condition. Written by this session's own program (wip/myprint.py). -/
import Derived.Test.YtgdefjcjikcofaaQx0
import Derived.Test.YtgdefjcjikcofaaQx5
import Derived.Test.YtgdefjcjikcofaaQx12
import Derived.Test.YtgdefjcjikcofaaQx13
namespace Go.Proofs.Ytgdefjcjikcofaa.Q
open Go.RowKit Go.Proofs.Ytgdefjcjikcofaa.Mine Go.Proofs.YtgdefjcjikcofaaW.PrintWords Go.Proofs.YtgdefjcjikcofaaW.PrintLast Go.Proofs.YtgdefjcjikcofaaW.PrintMore
attribute [local go_sem] max2_int min2_int max_two min_two max_three min_three max_four min_four   -- for this text's walks alone
set_option linter.unusedVariables false
set_option linter.unusedSimpArgs false

theorem tk_ {l : List Int} {i : Int} (h : decide (i ≤ (l.length : Int)) = true := by first | (with_reducible assumption) | assumption) : (l.take i.toNat).length = i.toNat := by rw [List.length_take]; have := of_decide_eq_true h; omega
/-! ### exerguelaw02_ClassTurns: function 8 -/
mutual
def exerguelaw02_ClassTurns.l0 : Nat → List Int → Int → Int → Bool → Bool → Int → Option (Bool)
 | 0, _, _, _, _, _, _ => none
 | k + 1, x0, x1, x2, x7, x8, x9 => if x9 < (x0.length : Int) then (if x8 = true then (if 0 ≤ x9 then ((class_Of.f k (rd x0 x9)).bind fun t213 => (exerguelaw02_ClassTurns.l0 k x0 x1 x2 x7 (t213 != 2) (wrap64 (x9 + 1)))) else (none)) else (exerguelaw02_ClassTurns.l0 k x0 x1 x2 x7 false (wrap64 (x9 + 1)))) else (if x8 = true then ((class_Turns.f k x0).bind fun t214 => (exerguelaw02_ClassTurns.j1 k x0 x1 x2 x7 x8 (!t214))) else (exerguelaw02_ClassTurns.j1 k x0 x1 x2 x7 x8 false))
def exerguelaw02_ClassTurns.j1 : Nat → List Int → Int → Int → Bool → Bool → Bool → Option (Bool)
 | 0, _, _, _, _, _, _ => none
 | k + 1, x0, x1, x2, x7, x8, x37 => if x37 = true then (some false) else (if x8 = true then (if x1 < 0 then (some x7) else (if x1 > (x0.length : Int) then (some x7) else ((some (([] : List Int) : List Int)).bind fun y215 => (if 0 ≤ x1 then (if x1 ≤ (x0.length : Int) then (if y215.length + (x0.take (x1 : Int).toNat).length < 35184372088832 then ((some (y215 ++ (x0.take (x1 : Int).toNat) : List Int)).bind fun y219 => ((some (([x2] : List Int) : List Int)).bind fun y222 => (if y219.length + y222.length < 35184372088832 then ((some (y219 ++ y222 : List Int)).bind fun y225 => (if y225.length + (x0.drop (x1 : Int).toNat).length < 35184372088832 then ((some (y225 ++ (x0.drop (x1 : Int).toNat) : List Int)).bind fun y229 => (if x2 ≥ 8294 then (if x2 ≤ 8297 then (if x7 = true then ((class_Turns.f k y229).bind fun t232 => (some (t232 == (!true)))) else (some false)) else (if x2 ≥ 8234 then (if x7 = true then ((class_Turns.f k y229).bind fun t233 => (some (t233 == (!(decide (x2 ≤ 8238)))))) else (some false)) else (if x7 = true then ((class_Turns.f k y229).bind fun t234 => (some (t234 == (!false)))) else (some false)))) else (if x2 ≥ 8234 then (if x7 = true then ((class_Turns.f k y229).bind fun t235 => (some (t235 == (!(decide (x2 ≤ 8238)))))) else (some false)) else (if x7 = true then ((class_Turns.f k y229).bind fun t236 => (some (t236 == (!false)))) else (some false))))) else (none))) else (none)))) else (none)) else (none)) else (none))))) else (some x7))
end
def exerguelaw02_ClassTurns.f (k : Nat) (l0 : List Int) (a1 : Int) (a2 : Int) : Option (Bool) := (exerguelaw02_shown.f k).bind fun t211 => (if (l0.length : Int) > 500 then (some t211) else (exerguelaw02_ClassTurns.l0 k l0 a1 a2 t211 true 0))
theorem exerguelaw02_ClassTurns.mono_l : ∀ k, (∀ y0 y1 y2 y3 y4 y5, LeO (exerguelaw02_ClassTurns.l0 k y0 y1 y2 y3 y4 y5) (exerguelaw02_ClassTurns.l0 (k + 1) y0 y1 y2 y3 y4 y5)) ∧ (∀ y0 y1 y2 y3 y4 y5, LeO (exerguelaw02_ClassTurns.j1 k y0 y1 y2 y3 y4 y5) (exerguelaw02_ClassTurns.j1 (k + 1) y0 y1 y2 y3 y4 y5))
 | 0 => ⟨fun _ _ _ _ _ _ r h => by simp [exerguelaw02_ClassTurns.l0] at h, fun _ _ _ _ _ _ r h => by simp [exerguelaw02_ClassTurns.j1] at h⟩
 | k + 1 => by
  obtain ⟨ih0, ih1⟩ := exerguelaw02_ClassTurns.mono_l k
  refine ⟨?_, ?_⟩
  ·intro y0 y1 y2 y3 y4 y5
   unfold exerguelaw02_ClassTurns.l0
   repeat' first
   | (with_reducible exact ih0 _ _ _ _ _ _)
   | (with_reducible exact ih1 _ _ _ _ _ _)
   | (with_reducible exact class_Of.mono _ _)
   | (with_reducible exact class_Turns.mono _ _)
   | (with_reducible exact exerguelaw02_shown.mono _)
   | (with_reducible exact LeO.refl _)
   | (with_reducible exact LeO.none _)
   | (with_reducible refine LeO.ite ?_ ?_)
   | (with_reducible refine LeO.bind ?_ (fun _ => ?_))
   | exact ih0 _ _ _ _ _ _
   | exact ih1 _ _ _ _ _ _
   | exact class_Of.mono _ _
   | exact class_Turns.mono _ _
   | exact exerguelaw02_shown.mono _
   | exact LeO.none _
   | refine LeO.ite ?_ ?_
   | refine LeO.bind ?_ (fun _ => ?_)
  ·intro y0 y1 y2 y3 y4 y5
   unfold exerguelaw02_ClassTurns.j1
   repeat' first
   | (with_reducible exact ih0 _ _ _ _ _ _)
   | (with_reducible exact ih1 _ _ _ _ _ _)
   | (with_reducible exact class_Of.mono _ _)
   | (with_reducible exact class_Turns.mono _ _)
   | (with_reducible exact exerguelaw02_shown.mono _)
   | (with_reducible exact LeO.refl _)
   | (with_reducible exact LeO.none _)
   | (with_reducible refine LeO.ite ?_ ?_)
   | (with_reducible refine LeO.bind ?_ (fun _ => ?_))
   | exact ih0 _ _ _ _ _ _
   | exact ih1 _ _ _ _ _ _
   | exact class_Of.mono _ _
   | exact class_Turns.mono _ _
   | exact exerguelaw02_shown.mono _
   | exact LeO.none _
   | refine LeO.ite ?_ ?_
   | refine LeO.bind ?_ (fun _ => ?_)
theorem exerguelaw02_ClassTurns.mono : ∀ a0 a1 a2 k, LeO (exerguelaw02_ClassTurns.f k a0 a1 a2) (exerguelaw02_ClassTurns.f (k + 1) a0 a1 a2) := by
 intro a0 a1 a2 k
 obtain ⟨ih0, ih1⟩ := exerguelaw02_ClassTurns.mono_l k
 unfold exerguelaw02_ClassTurns.f
 repeat' first
   | (with_reducible exact ih0 _ _ _ _ _ _)
   | (with_reducible exact ih1 _ _ _ _ _ _)
   | (with_reducible exact class_Of.mono _ _)
   | (with_reducible exact class_Turns.mono _ _)
   | (with_reducible exact exerguelaw02_shown.mono _)
   | (with_reducible exact LeO.refl _)
   | (with_reducible exact LeO.none _)
   | (with_reducible refine LeO.ite ?_ ?_)
   | (with_reducible refine LeO.bind ?_ (fun _ => ?_))
   | exact ih0 _ _ _ _ _ _
   | exact ih1 _ _ _ _ _ _
   | exact class_Of.mono _ _
   | exact class_Turns.mono _ _
   | exact exerguelaw02_shown.mono _
   | exact LeO.none _
   | refine LeO.ite ?_ ?_
   | refine LeO.bind ?_ (fun _ => ?_)
def exerguelaw02_ClassTurns.T13 : Bool × List (List Nat × List Nat) := (true, [([], []), ([], []), ([], []), ([1, 2], [1, 2]), ([0, 3], [0, 3]), ([], []), ([5], [5]), ([4, 6, 4], [4, 6]), ([], []), ([], []), ([8, 9], [8, 9]), ([7, 10, 7], [7, 10]), ([11, 11, 0, 1, 2, 3, 4, 5, 6, 7, 8, 9, 10, 11], [11])])
def exerguelaw02_ClassTurns.B13 : List Nat := [0, 0, 0, 6, 15, 0, 32, 127, 0, 0, 768, 2047, 4095]
theorem exerguelaw02_ClassTurns.tab13 : rtab .any (opsOf Try.f8 13) = exerguelaw02_ClassTurns.T13 := by kernel_rfl
theorem exerguelaw02_ClassTurns.bits13 : waitsOk exerguelaw02_ClassTurns.T13.2 exerguelaw02_ClassTurns.B13 = true := by kernel_rfl
set_option maxHeartbeats 8000000 in
set_option maxRecDepth 100000 in
theorem exerguelaw02_ClassTurns.calls (k : Nat) (A0 : Option Addr) (c0 : Nat) (l0 : List Int) (a1 : Int) (a2 : Int) (r : Bool) (w : World) (hr0 : Kd.C (Kd.int .i32) w A0 l0.length l0) (hc0 : l0.length ≤ c0) (h : exerguelaw02_ClassTurns.f k l0 a1 a2 = some r) :
  Calls Try.prog 8 #[.slice A0 l0.length c0, .int .i64 a1, .int .i32 a2] w fun e w' => e = .returned (.bool r) ∧ Below w.heap.size w w' := by
 have HR0 := Aside0.mk hr0
 have HC0 := Aside0.mk hc0
 clear hr0 hc0
 have HB := Aside0.mk (Below.refl w.heap.size w)
 have H : ((exerguelaw02_shown.f k).bind fun t211 => (if (l0.length : Int) > 500 then (some t211) else (exerguelaw02_ClassTurns.l0 k l0 a1 a2 t211 true 0))) = some r := h
 clear h
 replace H := Option.bind_eq_some_iff.mp H
 obtain ⟨t211, A40, H⟩ := H
 replace H : (if (l0.length : Int) > 500 then (some t211) else (exerguelaw02_ClassTurns.l0 k l0 a1 a2 t211 true 0)) = some r := H
 have A4 := Aside0.mk A40
 clear A40
 by_cases c5 : (l0.length : Int) > 500
 ·rw [if_pos c5] at H
  have c5b0 : decide (500 < (l0.length : Int)) = true := decide_eq_true c5
  have c5b1 : decide (500 < l0.length) = true := decide_eq_true (by omega)
  clear c5
  obtain rfl := Option.some.inj H
  go_enter Try.func8, Try.ntmps8
  go_wp2_with (first | ((with_reducible refine gate_callee (f := 9) rfl ?_); refine goesL_ (some 12) rfl rfl Try.func9 (by kernel_rfl) rfl #[] rfl mz ?_; (with_reducible refine (exerguelaw02_shown.calls k  t211 _ A4.out).mono ?_); rintro e w6 ⟨rfl, hb⟩; refine ⟨_, rfl, ?_⟩; have n0_ := Aside0.mk (below_step bz hb); clear HB; have HB := n0_; clear n0_; try clear hb))
  go_ret
  exact ⟨by first | rfl | (simp [errW_none, errW_some] <;> rfl) | (simp [*, errW_none, errW_some] <;> rfl), bz⟩
 rw [if_neg c5] at H
 have c5b0 : decide (500 < (l0.length : Int)) = false := decide_eq_false c5
 have c5b1 : decide (500 < l0.length) = false := decide_eq_false (by omega)
 clear c5
 have H' := Aside0.mk H
 clear H
 go_enter Try.func8, Try.ntmps8
 go_wp2_with (first | ((with_reducible refine gate_callee (f := 9) rfl ?_); refine goesL_ (some 12) rfl rfl Try.func9 (by kernel_rfl) rfl #[] rfl mz ?_; (with_reducible refine (exerguelaw02_shown.calls k  t211 _ A4.out).mono ?_); rintro e w7 ⟨rfl, hb⟩; refine ⟨_, rfl, ?_⟩; have n0_ := Aside0.mk (below_step bz hb); clear HB; have HB := n0_; clear n0_; try clear hb))
 go_loopg [8, 9] k (fun kq v8 v9 w' => ∃ (x8_1 : Bool) (x9_1 : Int), v8 = .bool x8_1 ∧ v9 = .int .i64 x9_1 ∧ Aside0 (exerguelaw02_ClassTurns.l0 kq l0 a1 a2 t211 x8_1 x9_1 = some r) ∧ Aside0 (kq ≤ k) ∧ Aside0 (Below w.heap.size w w'))
 case atStart => exact ⟨(true), (0), (by first | rfl | (simp; done) | (simp [*]; done)), (by first | rfl | (simp; done) | (simp [*]; done)), H', ⟨Nat.le_refl _⟩, ⟨bz⟩⟩
 case round =>
  clear H'
  try clear p2
  try clear c5
  try clear c5b0
  try clear c5b1
  obtain ⟨x8_1, x9_1, rfl, rfl, HA, HK1, HB⟩ := hrel
  cases gk with
  | zero => exact absurd HA.out (by simp [exerguelaw02_ClassTurns.l0])
  | succ k1 =>
   have H := HA.out
   clear HA
   simp only [exerguelaw02_ClassTurns.l0] at H
   by_cases c8 : x9_1 < (l0.length : Int)
   ·rw [if_pos c8] at H
    have c8b0 : decide (x9_1 < (l0.length : Int)) = true := decide_eq_true c8
    clear c8
    by_cases c9 : x8_1 = true
    rotate_left
    ·replace c9 := Bool.eq_false_iff.mpr c9
     subst c9
     have H1 : (exerguelaw02_ClassTurns.l0 k1 l0 a1 a2 t211 false (wrap64 (x9_1 + 1))) = some r := by rw [if_neg (show ¬ (false = true) by decide)] at H; exact H
     clear H
     have H := H1
     clear H1
     have H' := Aside0.mk H
     clear H
     go_wp2
     go_roundg k1
     case measure => have := HK1.out; omega
     case rel => exact ⟨(false), (wrap64 (x9_1 + 1)), (by first | rfl | (simp; done) | (simp [*]; done)), (by first | rfl | (simp; done) | (simp [*]; done)), H', ⟨by have := HK1.out; omega⟩, ⟨bz⟩⟩
    subst c9
    have H1 : (if 0 ≤ x9_1 then ((class_Of.f k1 (rd l0 x9_1)).bind fun t213 => (exerguelaw02_ClassTurns.l0 k1 l0 a1 a2 t211 (t213 != 2) (wrap64 (x9_1 + 1)))) else (none)) = some r := by rw [if_pos rfl] at H; exact H
    clear H
    have H := H1
    clear H1
    by_cases c10 : 0 ≤ x9_1
    rotate_left
    ·rw [if_neg c10] at H
     exact absurd H (by simp)
    rw [if_pos c10] at H
    have c10b0 : decide (0 ≤ x9_1) = true := decide_eq_true c10
    clear c10
    replace H := Option.bind_eq_some_iff.mp H
    obtain ⟨t213, A110, H⟩ := H
    replace H : (exerguelaw02_ClassTurns.l0 k1 l0 a1 a2 t211 (t213 != 2) (wrap64 (x9_1 + 1))) = some r := H
    have A11 := Aside0.mk A110
    clear A110
    have H' := Aside0.mk H
    clear H
    have p212 : 0 ≤ (x9_1 : Int) := of_decide_eq_true (by first | (with_reducible assumption) | assumption)
    have q212 : x9_1 < (l0.length : Int) := of_decide_eq_true (by first | (with_reducible assumption) | assumption)
    obtain ⟨ad212, e212, hx212_0⟩ := Kd.at_int HR0.out x9_1 p212 q212
    cases e212
    replace hx212_0 := (HB.out.cell (World.block_lt_of_cell? w _ hx212_0)).trans hx212_0
    replace p212 := eq_true p212
    replace q212 := eq_true q212
    go_wp2_with (first | (go_at_call 12; (with_reducible refine (class_Of.calls k1 (rd l0 x9_1) t213 _ A11.out).mono ?_); rintro e w12 ⟨rfl, hb⟩; have n0_ := Aside0.mk (below_step bz hb); clear HB; have HB := n0_; clear n0_; try clear hb))
    go_roundg k1
    case measure => have := HK1.out; omega
    case rel => exact ⟨((t213 != 2)), (wrap64 (x9_1 + 1)), (by first | rfl | (simp; done) | (simp [*]; done)), (by first | rfl | (simp; done) | (simp [*]; done)), H', ⟨by have := HK1.out; omega⟩, ⟨bz⟩⟩
   rw [if_neg c8] at H
   have c8b0 : decide (x9_1 < (l0.length : Int)) = false := decide_eq_false c8
   clear c8
   have HC13 := Aside0.mk H
   clear H
   go_upto_region 9 with (fail)
   go_cut [37] (fun v37 wc => ∃ (kq : Nat) (x37_12 : Bool), v37 = .bool x37_12 ∧ Aside0 (exerguelaw02_ClassTurns.j1 kq l0 a1 a2 t211 x8_1 x37_12 = some r) ∧ Aside0 (kq ≤ k1) ∧ Aside0 (Below w.heap.size w wc))
   case first =>
    have H := HC13.out
    clear HC13
    by_cases c14 : x8_1 = true
    rotate_left
    ·replace c14 := Bool.eq_false_iff.mpr c14
     subst c14
     have H1 : (exerguelaw02_ClassTurns.j1 k1 l0 a1 a2 t211 false false) = some r := by rw [if_neg (show ¬ (false = true) by decide)] at H; exact H
     clear H
     have H := H1
     clear H1
     have H' := Aside0.mk H
     clear H
     go_wp2
     go_meet
     case rel => exact ⟨_, (false), (by first | rfl | (simp; done) | (simp [*]; done)), H', ⟨by have := HK1.out; first | omega | exact Nat.le_refl _⟩, ⟨bz⟩⟩
    subst c14
    have H1 : ((class_Turns.f k1 l0).bind fun t214 => (exerguelaw02_ClassTurns.j1 k1 l0 a1 a2 t211 true (!t214))) = some r := by rw [if_pos rfl] at H; exact H
    clear H
    have H := H1
    clear H1
    replace H := Option.bind_eq_some_iff.mp H
    obtain ⟨t214, A150, H⟩ := H
    replace H : (exerguelaw02_ClassTurns.j1 k1 l0 a1 a2 t211 true (!t214)) = some r := H
    have A15 := Aside0.mk A150
    clear A150
    have H' := Aside0.mk H
    clear H
    go_wp2_with (first | (go_at_call 18; (with_reducible refine (class_Turns.calls k1 _ _ l0 t214 _ ?side1 ?side2 A15.out).mono ?_); (case side1 => exact cz (Kd.C_below HR0.out HB.out)); (case side2 => exact HC0.out); rintro e w' ⟨rfl, ⟨nd, rfl⟩⟩))
    go_meet
    case rel => exact ⟨_, (!t214), (by first | rfl | (simp; done) | (simp [*]; done)), H', ⟨by have := HK1.out; first | omega | exact Nat.le_refl _⟩, ⟨bz⟩⟩
   case rest =>
    clear HC13
    try clear c1
    try clear p2
    try clear q2
    try clear hx2
    try clear c5
    try clear c5b0
    try clear c5b1
    try clear p6
    try clear c8
    try clear c8b0
    try clear c9
    try clear c10
    try clear c10b0
    try clear c14
    try clear hx212_0
    try clear p2
    try clear p212
    try clear q212
    obtain ⟨kq, x37_12, rfl, HA, HJ12, HB⟩ := hcut
    cases kq with
    | zero => exact absurd HA.out (by simp [exerguelaw02_ClassTurns.j1])
    | succ kj12 =>
     have H := HA.out
     clear HA
     simp only [exerguelaw02_ClassTurns.j1] at H
     by_cases c16 : x37_12 = true
     ·subst c16
      have H1 : (some false) = some r := by rw [if_pos rfl] at H; exact H
      clear H
      have H := H1
      clear H1
      obtain rfl := Option.some.inj H
      go_wp2
      go_ret
      exact ⟨by first | rfl | (simp [errW_none, errW_some] <;> rfl) | (simp [*, errW_none, errW_some] <;> rfl), bz⟩
     replace c16 := Bool.eq_false_iff.mpr c16
     subst c16
     have H1 : (if x8_1 = true then (if a1 < 0 then (some t211) else (if a1 > (l0.length : Int) then (some t211) else ((some (([] : List Int) : List Int)).bind fun y215 => (if 0 ≤ a1 then (if a1 ≤ (l0.length : Int) then (if y215.length + (l0.take (a1 : Int).toNat).length < 35184372088832 then ((some (y215 ++ (l0.take (a1 : Int).toNat) : List Int)).bind fun y219 => ((some (([a2] : List Int) : List Int)).bind fun y222 => (if y219.length + y222.length < 35184372088832 then ((some (y219 ++ y222 : List Int)).bind fun y225 => (if y225.length + (l0.drop (a1 : Int).toNat).length < 35184372088832 then ((some (y225 ++ (l0.drop (a1 : Int).toNat) : List Int)).bind fun y229 => (if a2 ≥ 8294 then (if a2 ≤ 8297 then (if t211 = true then ((class_Turns.f kj12 y229).bind fun t232 => (some (t232 == (!true)))) else (some false)) else (if a2 ≥ 8234 then (if t211 = true then ((class_Turns.f kj12 y229).bind fun t233 => (some (t233 == (!(decide (a2 ≤ 8238)))))) else (some false)) else (if t211 = true then ((class_Turns.f kj12 y229).bind fun t234 => (some (t234 == (!false)))) else (some false)))) else (if a2 ≥ 8234 then (if t211 = true then ((class_Turns.f kj12 y229).bind fun t235 => (some (t235 == (!(decide (a2 ≤ 8238)))))) else (some false)) else (if t211 = true then ((class_Turns.f kj12 y229).bind fun t236 => (some (t236 == (!false)))) else (some false))))) else (none))) else (none)))) else (none)) else (none)) else (none))))) else (some t211)) = some r := by rw [if_neg (show ¬ (false = true) by decide)] at H; exact H
     clear H
     have H := H1
     clear H1
     by_cases c17 : x8_1 = true
     rotate_left
     ·replace c17 := Bool.eq_false_iff.mpr c17
      subst c17
      have H1 : (some t211) = some r := by rw [if_neg (show ¬ (false = true) by decide)] at H; exact H
      clear H
      have H := H1
      clear H1
      obtain rfl := Option.some.inj H
      go_wp2
      go_ret
      exact ⟨by first | rfl | (simp [errW_none, errW_some] <;> rfl) | (simp [*, errW_none, errW_some] <;> rfl), bz⟩
     subst c17
     have H1 : (if a1 < 0 then (some t211) else (if a1 > (l0.length : Int) then (some t211) else ((some (([] : List Int) : List Int)).bind fun y215 => (if 0 ≤ a1 then (if a1 ≤ (l0.length : Int) then (if y215.length + (l0.take (a1 : Int).toNat).length < 35184372088832 then ((some (y215 ++ (l0.take (a1 : Int).toNat) : List Int)).bind fun y219 => ((some (([a2] : List Int) : List Int)).bind fun y222 => (if y219.length + y222.length < 35184372088832 then ((some (y219 ++ y222 : List Int)).bind fun y225 => (if y225.length + (l0.drop (a1 : Int).toNat).length < 35184372088832 then ((some (y225 ++ (l0.drop (a1 : Int).toNat) : List Int)).bind fun y229 => (if a2 ≥ 8294 then (if a2 ≤ 8297 then (if t211 = true then ((class_Turns.f kj12 y229).bind fun t232 => (some (t232 == (!true)))) else (some false)) else (if a2 ≥ 8234 then (if t211 = true then ((class_Turns.f kj12 y229).bind fun t233 => (some (t233 == (!(decide (a2 ≤ 8238)))))) else (some false)) else (if t211 = true then ((class_Turns.f kj12 y229).bind fun t234 => (some (t234 == (!false)))) else (some false)))) else (if a2 ≥ 8234 then (if t211 = true then ((class_Turns.f kj12 y229).bind fun t235 => (some (t235 == (!(decide (a2 ≤ 8238)))))) else (some false)) else (if t211 = true then ((class_Turns.f kj12 y229).bind fun t236 => (some (t236 == (!false)))) else (some false))))) else (none))) else (none)))) else (none)) else (none)) else (none))))) = some r := by rw [if_pos rfl] at H; exact H
     clear H
     have H := H1
     clear H1
     by_cases c18 : a1 < 0
     ·rw [if_pos c18] at H
      have c18b0 : decide (a1 < 0) = true := decide_eq_true c18
      clear c18
      obtain rfl := Option.some.inj H
      go_wp2
      go_ret
      exact ⟨by first | rfl | (simp [errW_none, errW_some] <;> rfl) | (simp [*, errW_none, errW_some] <;> rfl), bz⟩
     rw [if_neg c18] at H
     have c18b0 : decide (a1 < 0) = false := decide_eq_false c18
     clear c18
     by_cases c19 : a1 > (l0.length : Int)
     ·rw [if_pos c19] at H
      have c19b0 : decide ((l0.length : Int) < a1) = true := decide_eq_true c19
      clear c19
      obtain rfl := Option.some.inj H
      go_wp2
      go_ret
      exact ⟨by first | rfl | (simp [errW_none, errW_some] <;> rfl) | (simp [*, errW_none, errW_some] <;> rfl), bz⟩
     rw [if_neg c19] at H
     have c19b0 : decide ((l0.length : Int) < a1) = false := decide_eq_false c19
     clear c19
     obtain ⟨y215, hy215⟩ : ∃ y_ : List Int, y_ = (([] : List Int)) := ⟨_, rfl⟩
     replace H : (if 0 ≤ a1 then (if a1 ≤ (l0.length : Int) then (if y215.length + (l0.take (a1 : Int).toNat).length < 35184372088832 then ((some (y215 ++ (l0.take (a1 : Int).toNat) : List Int)).bind fun y219 => ((some (([a2] : List Int) : List Int)).bind fun y222 => (if y219.length + y222.length < 35184372088832 then ((some (y219 ++ y222 : List Int)).bind fun y225 => (if y225.length + (l0.drop (a1 : Int).toNat).length < 35184372088832 then ((some (y225 ++ (l0.drop (a1 : Int).toNat) : List Int)).bind fun y229 => (if a2 ≥ 8294 then (if a2 ≤ 8297 then (if t211 = true then ((class_Turns.f kj12 y229).bind fun t232 => (some (t232 == (!true)))) else (some false)) else (if a2 ≥ 8234 then (if t211 = true then ((class_Turns.f kj12 y229).bind fun t233 => (some (t233 == (!(decide (a2 ≤ 8238)))))) else (some false)) else (if t211 = true then ((class_Turns.f kj12 y229).bind fun t234 => (some (t234 == (!false)))) else (some false)))) else (if a2 ≥ 8234 then (if t211 = true then ((class_Turns.f kj12 y229).bind fun t235 => (some (t235 == (!(decide (a2 ≤ 8238)))))) else (some false)) else (if t211 = true then ((class_Turns.f kj12 y229).bind fun t236 => (some (t236 == (!false)))) else (some false))))) else (none))) else (none)))) else (none)) else (none)) else (none)) = some r := by first | (rw [hy215]; with_reducible exact H) | (have H2_ := (Option.bind_some _ _).symm.trans H; rw [hy215]; with_reducible exact H2_) | (have H2_ := (Option.bind_some _ _).symm.trans H; with_reducible exact H2_) | with_reducible exact H | (rw [hy215]; exact H) | exact H
     have Ny215 := Aside0.mk hy215
     clear hy215
     by_cases c20 : 0 ≤ a1
     rotate_left
     ·rw [if_neg c20] at H
      exact absurd H (by simp)
     rw [if_pos c20] at H
     have c20b0 := eq_true c20
     have c20b1 : decide (0 ≤ a1) = true := decide_eq_true c20
     clear c20
     by_cases c21 : a1 ≤ (l0.length : Int)
     rotate_left
     ·rw [if_neg c21] at H
      exact absurd H (by simp)
     rw [if_pos c21] at H
     have c21b0 := eq_true c21
     have c21b1 : decide (a1 ≤ (l0.length : Int)) = true := decide_eq_true c21
     clear c21
     by_cases c22 : y215.length + (l0.take (a1 : Int).toNat).length < 35184372088832
     rotate_left
     ·rw [if_neg c22] at H
      exact absurd H (by simp)
     rw [if_pos c22] at H
     have LMc22 := Aside0.mk c22
     clear c22
     obtain ⟨y219, hy219⟩ : ∃ y_ : List Int, y_ = (y215 ++ (l0.take (a1 : Int).toNat)) := ⟨_, rfl⟩
     replace H : ((some (([a2] : List Int) : List Int)).bind fun y222 => (if y219.length + y222.length < 35184372088832 then ((some (y219 ++ y222 : List Int)).bind fun y225 => (if y225.length + (l0.drop (a1 : Int).toNat).length < 35184372088832 then ((some (y225 ++ (l0.drop (a1 : Int).toNat) : List Int)).bind fun y229 => (if a2 ≥ 8294 then (if a2 ≤ 8297 then (if t211 = true then ((class_Turns.f kj12 y229).bind fun t232 => (some (t232 == (!true)))) else (some false)) else (if a2 ≥ 8234 then (if t211 = true then ((class_Turns.f kj12 y229).bind fun t233 => (some (t233 == (!(decide (a2 ≤ 8238)))))) else (some false)) else (if t211 = true then ((class_Turns.f kj12 y229).bind fun t234 => (some (t234 == (!false)))) else (some false)))) else (if a2 ≥ 8234 then (if t211 = true then ((class_Turns.f kj12 y229).bind fun t235 => (some (t235 == (!(decide (a2 ≤ 8238)))))) else (some false)) else (if t211 = true then ((class_Turns.f kj12 y229).bind fun t236 => (some (t236 == (!false)))) else (some false))))) else (none))) else (none))) = some r := by first | (rw [hy219]; with_reducible exact H) | (have H2_ := (Option.bind_some _ _).symm.trans H; rw [hy219]; with_reducible exact H2_) | (have H2_ := (Option.bind_some _ _).symm.trans H; with_reducible exact H2_) | with_reducible exact H | (rw [hy219]; exact H) | exact H
     have Ny219 := Aside0.mk hy219
     clear hy219
     obtain ⟨y222, hy222⟩ : ∃ y_ : List Int, y_ = (([a2] : List Int)) := ⟨_, rfl⟩
     replace H : (if y219.length + y222.length < 35184372088832 then ((some (y219 ++ y222 : List Int)).bind fun y225 => (if y225.length + (l0.drop (a1 : Int).toNat).length < 35184372088832 then ((some (y225 ++ (l0.drop (a1 : Int).toNat) : List Int)).bind fun y229 => (if a2 ≥ 8294 then (if a2 ≤ 8297 then (if t211 = true then ((class_Turns.f kj12 y229).bind fun t232 => (some (t232 == (!true)))) else (some false)) else (if a2 ≥ 8234 then (if t211 = true then ((class_Turns.f kj12 y229).bind fun t233 => (some (t233 == (!(decide (a2 ≤ 8238)))))) else (some false)) else (if t211 = true then ((class_Turns.f kj12 y229).bind fun t234 => (some (t234 == (!false)))) else (some false)))) else (if a2 ≥ 8234 then (if t211 = true then ((class_Turns.f kj12 y229).bind fun t235 => (some (t235 == (!(decide (a2 ≤ 8238)))))) else (some false)) else (if t211 = true then ((class_Turns.f kj12 y229).bind fun t236 => (some (t236 == (!false)))) else (some false))))) else (none))) else (none)) = some r := by first | (rw [hy222]; with_reducible exact H) | (have H2_ := (Option.bind_some _ _).symm.trans H; rw [hy222]; with_reducible exact H2_) | (have H2_ := (Option.bind_some _ _).symm.trans H; with_reducible exact H2_) | with_reducible exact H | (rw [hy222]; exact H) | exact H
     have Ny222 := Aside0.mk hy222
     clear hy222
     by_cases c23 : y219.length + y222.length < 35184372088832
     rotate_left
     ·rw [if_neg c23] at H
      exact absurd H (by simp)
     rw [if_pos c23] at H
     have LMc23 := Aside0.mk c23
     clear c23
     obtain ⟨y225, hy225⟩ : ∃ y_ : List Int, y_ = (y219 ++ y222) := ⟨_, rfl⟩
     replace H : (if y225.length + (l0.drop (a1 : Int).toNat).length < 35184372088832 then ((some (y225 ++ (l0.drop (a1 : Int).toNat) : List Int)).bind fun y229 => (if a2 ≥ 8294 then (if a2 ≤ 8297 then (if t211 = true then ((class_Turns.f kj12 y229).bind fun t232 => (some (t232 == (!true)))) else (some false)) else (if a2 ≥ 8234 then (if t211 = true then ((class_Turns.f kj12 y229).bind fun t233 => (some (t233 == (!(decide (a2 ≤ 8238)))))) else (some false)) else (if t211 = true then ((class_Turns.f kj12 y229).bind fun t234 => (some (t234 == (!false)))) else (some false)))) else (if a2 ≥ 8234 then (if t211 = true then ((class_Turns.f kj12 y229).bind fun t235 => (some (t235 == (!(decide (a2 ≤ 8238)))))) else (some false)) else (if t211 = true then ((class_Turns.f kj12 y229).bind fun t236 => (some (t236 == (!false)))) else (some false))))) else (none)) = some r := by first | (rw [hy225]; with_reducible exact H) | (have H2_ := (Option.bind_some _ _).symm.trans H; rw [hy225]; with_reducible exact H2_) | (have H2_ := (Option.bind_some _ _).symm.trans H; with_reducible exact H2_) | with_reducible exact H | (rw [hy225]; exact H) | exact H
     have Ny225 := Aside0.mk hy225
     clear hy225
     have c24b0 := eq_true (of_decide_eq_true (by first | (with_reducible assumption) | assumption) : 0 ≤ a1)
     have c25b0 := eq_true (of_decide_eq_true (by first | (with_reducible assumption) | assumption) : a1 ≤ (l0.length : Int))
     by_cases c26 : y225.length + (l0.drop (a1 : Int).toNat).length < 35184372088832
     rotate_left
     ·rw [if_neg c26] at H
      exact absurd H (by simp)
     rw [if_pos c26] at H
     have LMc26 := Aside0.mk c26
     clear c26
     obtain ⟨y229, hy229⟩ : ∃ y_ : List Int, y_ = (y225 ++ (l0.drop (a1 : Int).toNat)) := ⟨_, rfl⟩
     replace H : (if a2 ≥ 8294 then (if a2 ≤ 8297 then (if t211 = true then ((class_Turns.f kj12 y229).bind fun t232 => (some (t232 == (!true)))) else (some false)) else (if a2 ≥ 8234 then (if t211 = true then ((class_Turns.f kj12 y229).bind fun t233 => (some (t233 == (!(decide (a2 ≤ 8238)))))) else (some false)) else (if t211 = true then ((class_Turns.f kj12 y229).bind fun t234 => (some (t234 == (!false)))) else (some false)))) else (if a2 ≥ 8234 then (if t211 = true then ((class_Turns.f kj12 y229).bind fun t235 => (some (t235 == (!(decide (a2 ≤ 8238)))))) else (some false)) else (if t211 = true then ((class_Turns.f kj12 y229).bind fun t236 => (some (t236 == (!false)))) else (some false)))) = some r := by first | (rw [hy229]; with_reducible exact H) | (have H2_ := (Option.bind_some _ _).symm.trans H; rw [hy229]; with_reducible exact H2_) | (have H2_ := (Option.bind_some _ _).symm.trans H; with_reducible exact H2_) | with_reducible exact H | (rw [hy229]; exact H) | exact H
     have Ny229 := Aside0.mk hy229
     clear hy229
     by_cases c27 : a2 ≥ 8294
     rotate_left
     ·rw [if_neg c27] at H
      have c27b0 : decide (8294 ≤ a2) = false := decide_eq_false c27
      clear c27
      by_cases c111 : a2 ≥ 8234
      rotate_left
      ·rw [if_neg c111] at H
       have c111b0 : decide (8234 ≤ a2) = false := decide_eq_false c111
       clear c111
       by_cases c139 : t211 = true
       rotate_left
       ·replace c139 := Bool.eq_false_iff.mpr c139
        subst c139
        have H1 : (some false) = some r := by rw [if_neg (show ¬ (false = true) by decide)] at H; exact H
        clear H
        have H := H1
        clear H1
        obtain rfl := Option.some.inj H
        try go_wp2
        have n0_ := Aside0.mk (below_drew1 HB.out)
        clear HB
        have HB := n0_
        clear n0_
        obtain ⟨i0155, hi0155, _, hsz155, _⟩ := info_parts info21
        obtain ⟨hcut155, hA155, hC155⟩ := print_take_of (P := Try.prog) (Value.int .i32) 0 27 21 .i64 Try.underlying27 hi0155 hsz155 A0 c0 l0 a1 (of_decide_eq_true (by first | (with_reducible assumption) | assumption)) (of_decide_eq_true (by first | (with_reducible assumption) | assumption)) HC0.out
        have HR218 := Aside0.mk (Kd.C_of_reads (h1 := fun _ => rfl) (hA155 _ (Kd.reads_of_C HR0.out)))
        have HC218 := Aside0.mk hC155
        clear hA155 hC155 hi0155 hsz155
        obtain ⟨i0156, hi0156, _, hsz156, _⟩ := info_parts info21
        obtain ⟨A156, hcut156, hA156, hC156⟩ := print_drop_of (P := Try.prog) (Value.int .i32) 0 27 21 .i64 Try.underlying27 hi0156 hsz156 A0 c0 l0 a1 (of_decide_eq_true (by first | (with_reducible assumption) | assumption)) (of_decide_eq_true (by first | (with_reducible assumption) | assumption)) HC0.out
        have HR228 := Aside0.mk (Kd.C_of_reads (h1 := fun _ => rfl) (hA156 _ (Kd.reads_of_C HR0.out)))
        have HC228 := Aside0.mk hC156
        clear hA156 hC156 hi0156 hsz156
        refine start_ (n := 13) (S := fun w' => True) (ds := []) #[false, false, false, false, false, false, false, false, false, false, false, false, false] (by kernel_rfl) rfl rfl trivial (fun hHeld => ?_); refine with_tabW exerguelaw02_ClassTurns.tab13 exerguelaw02_ClassTurns.bits13 (fun HT_ HW_ => ?_)
        generalize wc.drew = w154 at HB HR218 HR228 hHeld ⊢
        refine pure_ (i := 1) (N := some 52) (v := ?_) (a' := ?_) #[false, true, false, false, false, false, false, false, false, false, false, false, false] rfl rfl (any_of HT_.out (by kernel_rfl)) (fun _ _ _ h => h) (Or.inl ⟨by rfl, ?_⟩) ?_ ?_
        rotate_left
        ·intro w'
         go_simp
         with_reducible rfl
        rotate_left
        ·simp only [Act.put, List.setIfInBounds_toArray, List.set_cons_zero, List.set_cons_succ, i64_w, i32_w]
         rfl
        refine pure_ (i := 2) (N := some 53) (v := ?_) (a' := ?_) #[false, true, true, false, false, false, false, false, false, false, false, false, false] rfl rfl (any_of HT_.out (by kernel_rfl)) (fun _ _ _ h => h) (Or.inl ⟨by rfl, ?_⟩) ?_ ?_
        rotate_left
        ·intro w'
         go_simp
         with_reducible rfl
        rotate_left
        ·simp only [Act.put, List.setIfInBounds_toArray, List.set_cons_zero, List.set_cons_succ, i64_w, i32_w]
         rfl
        refine pure_ (i := 3) (N := some 54) (v := ?_) (a' := ?_) #[false, true, true, true, false, false, false, false, false, false, false, false, false] rfl rfl (any_of HT_.out (by kernel_rfl)) (fun _ _ _ h => h) (Or.inl ⟨by rfl, ?_⟩) ?_ ?_
        rotate_left
        ·intro w'
         go_simp
         with_reducible rfl
        rotate_left
        ·simp only [Act.put, List.setIfInBounds_toArray, List.set_cons_zero, List.set_cons_succ, i64_w, i32_w]
         rfl
        refine pure_ (i := 5) (N := some 56) (v := ?_) (a' := ?_) #[false, true, true, true, false, true, false, false, false, false, false, false, false] rfl rfl (any_of HT_.out (by kernel_rfl)) (fun _ _ _ h => h) (Or.inl ⟨by rfl, ?_⟩) ?_ ?_
        rotate_left
        ·intro w'
         go_simp
         with_reducible rfl
        rotate_left
        ·simp only [Act.put, List.setIfInBounds_toArray, List.set_cons_zero, List.set_cons_succ, i64_w, i32_w]
         rfl
        refine pure_ (i := 8) (N := some 59) (v := ?_) (a' := ?_) #[false, true, true, true, false, true, false, false, true, false, false, false, false] rfl rfl (any_of HT_.out (by kernel_rfl)) (fun _ _ _ h => h) (Or.inl ⟨by rfl, ?_⟩) ?_ ?_
        rotate_left
        ·intro w'
         go_simp
         with_reducible rfl
        rotate_left
        ·simp only [Act.put, List.setIfInBounds_toArray, List.set_cons_zero, List.set_cons_succ, i64_w, i32_w]
         rfl
        refine pure_ (i := 9) (N := some 60) (v := ?_) (a' := ?_) #[false, true, true, true, false, true, false, false, true, true, false, false, false] rfl rfl (any_of HT_.out (by kernel_rfl)) (fun _ _ _ h => h) (Or.inl ⟨by rfl, ?_⟩) ?_ ?_
        rotate_left
        ·intro w'
         go_simp
         with_reducible rfl
        rotate_left
        ·simp only [Act.put, List.setIfInBounds_toArray, List.set_cons_zero, List.set_cons_succ, i64_w, i32_w]
         rfl
        refine pure_ (i := 10) (N := some 61) (v := ?_) (a' := ?_) #[false, true, true, true, false, true, false, false, true, true, true, false, false] rfl rfl (any_of HT_.out (by kernel_rfl)) (fun _ _ _ h => h) (Or.inl ⟨by rfl, ?_⟩) ?_ ?_
        rotate_left
        ·intro w'
         go_simp
         with_reducible rfl
        rotate_left
        ·simp only [Act.put, List.setIfInBounds_toArray, List.set_cons_zero, List.set_cons_succ, i64_w, i32_w]
         rfl
        refine join_ (σ := Value × Value × Value) 3 #[true, true, true, true, true, true, true, false, true, true, true, false, false] (fun s_ => [(51, s_.1), (55, s_.2.1), (57, s_.2.2)]) (fun s_ w' => (Kd.R (Kd.int .i32) 21 w' w.heap.size (fun k_ => some k_ ≠ (s_.2.2 : Value).ownBlock) s_.2.1 y219) ∧ (Kd.R (Kd.int .i32) 21 w' w.heap.size (fun k_ => some k_ ≠ (s_.2.1 : Value).ownBlock) s_.2.2 y222) ∧ (Below w.heap.size w w')) ?_ ?_
        rotate_left
        ·intro hCont
         refine two_ (i := 0) (j := 6) (Ni := some 51) (Nj := some 57) #[true, true, true, true, false, true, false, false, true, true, true, false, false] #[false, true, true, true, false, true, true, false, true, true, true, false, false] rfl rfl rfl rfl (two_of HT_.out (by kernel_rfl)) (by decide) (by decide) (fun K hK => ?_) (fun K hK => ?_)
         ·skip
          refine Kd.R_lit_step (Kd.int .i32) _ 21 ?hg (N := 51) ?hd (xs := ([] : List Int)) (inner := []) (ok := fun _ => True) (okp := fun _ => True) ?hr ?hp (fun _ hk => hk) trivial (Below.refl _ _) (Nat.le_refl _) (by simp) ?_; (case hd => rfl); (case hg => rfl); (case hr => first | (go_simp; done) | (go_simp; rfl)); (case hp => exact (Reps.none _ _))
          intro v216 w157 ho158 hb hg_ hnew_
          clear hg_ hnew_
          (first | rw [← Ny215.out] at ho158 | (simp only [Int.reduceToNat] at ho158; rw [← Ny215.out] at ho158))
          have n0_ := Aside0.mk (Kd.R_lower ho158 (below_size bz))
          have n1_ := Aside0.mk (below_step bz hb)
          clear HB
          have HO217 := n0_
          have HB := n1_
          clear n0_ n1_
          clear hb ho158
          refine hK.out _ _ trivial (fun hHeld => ?_)
          clear hK K
          refine norm_ (a' := ?_) ?_ ?_
          rotate_left
          ·show Act.put _ (some 51) _ = _
           simp only [Act.put, List.setIfInBounds_toArray, List.set_cons_zero, List.set_cons_succ, i64_w, i32_w]
           rfl
          refine two_ (i := 4) (j := 6) (Ni := some 55) (Nj := some 57) #[true, true, true, true, true, true, false, false, true, true, true, false, false] #[true, true, true, true, false, true, true, false, true, true, true, false, false] rfl rfl rfl rfl (two_of HT_.out (by kernel_rfl)) (by decide) (by decide) (fun K hK => ?_) (fun K hK => ?_)
          ·skip
           refine Kd.R_append_rows_step (Kd.int .i32) (w0 := w) w.heap.size (by rfl) (.tmp 51) (.tmp 54) 27 21 (.int .i32 0) 4 rfl Try.underlying27 info21 rfl (by decide) (by omega) v216 y215 (l0.take (a1 : Int).toNat) _ _ _ (fun _ => True) (fun _ => False) rfl rfl ?aO ?aR (fun _ _ h => h) (fun _ h => h.elim) ?aF ?aB ?aS ?aL ?_
           (case aR => first | (have c_ := (Kd.C_below HR218.out HB.out); rw [tk_ (l := l0) (i := a1)] at c_; exact cz c_) | (exact cz (Kd.C_below HR218.out HB.out)))
           (case aB => exact bz)
           (case aF => exact (fun _ _ => trivial))
           (case aO => exact (rz HO217.out))
           (case aS => exact (below_size bz))
           (case aL => have := LMc22.out; have hlx_ := (tk_ (l := l0)); omega)
           intro v220 w159 ho hb hg hat
           rw [← Ny219.out] at ho
           have n0_ := Aside0.mk (hb)
           have n1_ := Aside0.mk (ho)
           clear HB
           clear HO217
           have HB := n0_
           have HO221 := n1_
           clear n0_ n1_
           clear ho hb hg hat
           refine hK.out _ _ trivial (fun hHeld => ?_)
           clear hK K
           refine norm_ (a' := ?_) ?_ ?_
           rotate_left
           ·show Act.put _ (some 55) _ = _
            simp only [Act.put, List.setIfInBounds_toArray, List.set_cons_zero, List.set_cons_succ, i64_w, i32_w]
            rfl
           refine one_ (i := 6) (N := some 57) #[true, true, true, true, true, true, true, false, true, true, true, false, false] rfl rfl (one_of HT_.out (by kernel_rfl)) (by decide) (fun K hK => ?_)
           refine Kd.R_lit_step (Kd.int .i32) _ 21 ?hg (N := 57) ?hd (xs := ([a2] : List Int)) (inner := [.int .i32 a2]) (ok := fun _ => True) (okp := fun _ => True) ?hr ?hp (fun _ hk => hk) trivial (Below.refl _ _) (Nat.le_refl _) (by simp) ?_; (case hd => rfl); (case hg => rfl); (case hr => first | (go_simp; done) | (go_simp; rfl)); (case hp => exact (Reps.one (show Kd.M (Kd.int .i32) _ _ _ a2 [.int .i32 a2] from rfl) (Reps.none _ _)))
           intro v223 w160 ho161 hb hg_ hnew_
           clear hg_ hnew_
           (first | rw [← Ny222.out] at ho161 | (simp only [Int.reduceToNat] at ho161; rw [← Ny222.out] at ho161))
           have n0_ := Aside0.mk (Kd.R_elder' (rz HO221.out) (Kd.R_base ho161) hb)
           have n1_ := Aside0.mk (Kd.R_lower (Kd.R_new' ho161 (Kd.R_lt (rz HO221.out))) (below_size bz))
           have n2_ := Aside0.mk (below_step bz hb)
           clear HO221
           clear HB
           have HO221 := n0_
           have HO224 := n1_
           have HB := n2_
           clear n0_ n1_ n2_
           clear hb ho161
           refine hK.out _ _ trivial (fun hHeld => ?_)
           clear hK K
           refine norm_ (a' := ?_) ?_ ?_
           rotate_left
           ·show Act.put _ (some 57) _ = _
            simp only [Act.put, List.setIfInBounds_toArray, List.set_cons_zero, List.set_cons_succ, i64_w, i32_w]
            rfl
           exact norm_ (by simp only [putAll, Act.put, List.setIfInBounds_toArray, List.set_cons_zero, List.set_cons_succ]) (hCont (v216, v220, v223) _ ⟨(by (with_reducible repeat (first | apply Kd.R_alloc | apply Kd.R_drewN | apply Kd.R_drew)); exact Kd.R_mono HO221.out (fun _ hk => hk.2)), (by (with_reducible repeat (first | apply Kd.R_alloc | apply Kd.R_drewN | apply Kd.R_drew)); exact Kd.R_mono HO224.out (fun _ hk => hk.2)), bz⟩)
          ·skip
           refine Kd.R_lit_step (Kd.int .i32) _ 21 ?hg (N := 57) ?hd (xs := ([a2] : List Int)) (inner := [.int .i32 a2]) (ok := fun _ => True) (okp := fun _ => True) ?hr ?hp (fun _ hk => hk) trivial (Below.refl _ _) (Nat.le_refl _) (by simp) ?_; (case hd => rfl); (case hg => rfl); (case hr => first | (go_simp; done) | (go_simp; rfl)); (case hp => exact (Reps.one (show Kd.M (Kd.int .i32) _ _ _ a2 [.int .i32 a2] from rfl) (Reps.none _ _)))
           intro v223 w159 ho160 hb hg_ hnew_
           clear hg_ hnew_
           (first | rw [← Ny222.out] at ho160 | (simp only [Int.reduceToNat] at ho160; rw [← Ny222.out] at ho160))
           have n0_ := Aside0.mk (Kd.R_elder' (rz HO217.out) (Kd.R_base ho160) hb)
           have n1_ := Aside0.mk (Kd.R_lower (Kd.R_new' ho160 (Kd.R_lt (rz HO217.out))) (below_size bz))
           have n2_ := Aside0.mk (below_step bz hb)
           clear HO217
           clear HB
           have HO217 := n0_
           have HO224 := n1_
           have HB := n2_
           clear n0_ n1_ n2_
           clear hb ho160
           refine hK.out _ _ trivial (fun hHeld => ?_)
           clear hK K
           refine norm_ (a' := ?_) ?_ ?_
           rotate_left
           ·show Act.put _ (some 57) _ = _
            simp only [Act.put, List.setIfInBounds_toArray, List.set_cons_zero, List.set_cons_succ, i64_w, i32_w]
            rfl
           refine one_ (i := 4) (N := some 55) #[true, true, true, true, true, true, true, false, true, true, true, false, false] rfl rfl (one_of HT_.out (by kernel_rfl)) (by decide) (fun K hK => ?_)
           refine Kd.R_append_rows_step (Kd.int .i32) (w0 := w) w.heap.size (by rfl) (.tmp 51) (.tmp 54) 27 21 (.int .i32 0) 4 rfl Try.underlying27 info21 rfl (by decide) (by omega) v216 y215 (l0.take (a1 : Int).toNat) _ _ _ (fun k_ => some k_ ≠ (v223 : Value).ownBlock) (fun _ => False) rfl rfl ?aO ?aR (fun _ _ h => h) (fun _ h => h.elim) ?aF ?aB ?aS ?aL ?_
           (case aR => first | (have c_ := (Kd.C_below HR218.out HB.out); rw [tk_ (l := l0) (i := a1)] at c_; exact cz c_) | (exact cz (Kd.C_below HR218.out HB.out)))
           (case aB => exact bz)
           (case aF => exact (fun k_ hk => Kd.fresh' (Kd.R_lt (rz HO224.out)) k_ hk))
           (case aO => exact (by (with_reducible repeat (first | apply Kd.R_alloc | apply Kd.R_drewN | apply Kd.R_drew)); exact Kd.R_mono HO217.out (fun _ hk => hk.2)))
           (case aS => exact (below_size bz))
           (case aL => have := LMc22.out; have hlx_ := (tk_ (l := l0)); omega)
           intro v220 w161 ho hb hg hat
           rw [← Ny219.out] at ho
           have n0_ := Aside0.mk (Kd.R_after (ok := (fun _ => True)) (rz HO224.out) hg hat)
           have n1_ := Aside0.mk (hb)
           have n2_ := Aside0.mk (ho)
           clear HO224
           clear HB
           clear HO217
           have HO224 := n0_
           have HB := n1_
           have HO221 := n2_
           clear n0_ n1_ n2_
           clear ho hb hg hat
           refine hK.out _ _ trivial (fun hHeld => ?_)
           clear hK K
           refine norm_ (a' := ?_) ?_ ?_
           rotate_left
           ·show Act.put _ (some 55) _ = _
            simp only [Act.put, List.setIfInBounds_toArray, List.set_cons_zero, List.set_cons_succ, i64_w, i32_w]
            rfl
           exact norm_ (by simp only [putAll, Act.put, List.setIfInBounds_toArray, List.set_cons_zero, List.set_cons_succ]) (hCont (v216, v220, v223) _ ⟨(rz HO221.out), (by (with_reducible repeat (first | apply Kd.R_alloc | apply Kd.R_drewN | apply Kd.R_drew)); exact Kd.R_mono HO224.out (fun _ hk => hk.2)), bz⟩)
         ·skip
          refine Kd.R_lit_step (Kd.int .i32) _ 21 ?hg (N := 57) ?hd (xs := ([a2] : List Int)) (inner := [.int .i32 a2]) (ok := fun _ => True) (okp := fun _ => True) ?hr ?hp (fun _ hk => hk) trivial (Below.refl _ _) (Nat.le_refl _) (by simp) ?_; (case hd => rfl); (case hg => rfl); (case hr => first | (go_simp; done) | (go_simp; rfl)); (case hp => exact (Reps.one (show Kd.M (Kd.int .i32) _ _ _ a2 [.int .i32 a2] from rfl) (Reps.none _ _)))
          intro v223 w157 ho158 hb hg_ hnew_
          clear hg_ hnew_
          (first | rw [← Ny222.out] at ho158 | (simp only [Int.reduceToNat] at ho158; rw [← Ny222.out] at ho158))
          have n0_ := Aside0.mk (Kd.R_lower ho158 (below_size bz))
          have n1_ := Aside0.mk (below_step bz hb)
          clear HB
          have HO224 := n0_
          have HB := n1_
          clear n0_ n1_
          clear hb ho158
          refine hK.out _ _ trivial (fun hHeld => ?_)
          clear hK K
          refine norm_ (a' := ?_) ?_ ?_
          rotate_left
          ·show Act.put _ (some 57) _ = _
           simp only [Act.put, List.setIfInBounds_toArray, List.set_cons_zero, List.set_cons_succ, i64_w, i32_w]
           rfl
          refine one_ (i := 0) (N := some 51) #[true, true, true, true, false, true, true, false, true, true, true, false, false] rfl rfl (one_of HT_.out (by kernel_rfl)) (by decide) (fun K hK => ?_)
          refine Kd.R_lit_step (Kd.int .i32) _ 21 ?hg (N := 51) ?hd (xs := ([] : List Int)) (inner := []) (ok := fun _ => True) (okp := fun _ => True) ?hr ?hp (fun _ hk => hk) trivial (Below.refl _ _) (Nat.le_refl _) (by simp) ?_; (case hd => rfl); (case hg => rfl); (case hr => first | (go_simp; done) | (go_simp; rfl)); (case hp => exact (Reps.none _ _))
          intro v216 w159 ho160 hb hg_ hnew_
          clear hg_ hnew_
          (first | rw [← Ny215.out] at ho160 | (simp only [Int.reduceToNat] at ho160; rw [← Ny215.out] at ho160))
          have n0_ := Aside0.mk (Kd.R_elder' (rz HO224.out) (Kd.R_base ho160) hb)
          have n1_ := Aside0.mk (Kd.R_lower (Kd.R_new' ho160 (Kd.R_lt (rz HO224.out))) (below_size bz))
          have n2_ := Aside0.mk (below_step bz hb)
          clear HO224
          clear HB
          have HO224 := n0_
          have HO217 := n1_
          have HB := n2_
          clear n0_ n1_ n2_
          clear hb ho160
          refine hK.out _ _ trivial (fun hHeld => ?_)
          clear hK K
          refine norm_ (a' := ?_) ?_ ?_
          rotate_left
          ·show Act.put _ (some 51) _ = _
           simp only [Act.put, List.setIfInBounds_toArray, List.set_cons_zero, List.set_cons_succ, i64_w, i32_w]
           rfl
          refine one_ (i := 4) (N := some 55) #[true, true, true, true, true, true, true, false, true, true, true, false, false] rfl rfl (one_of HT_.out (by kernel_rfl)) (by decide) (fun K hK => ?_)
          refine Kd.R_append_rows_step (Kd.int .i32) (w0 := w) w.heap.size (by rfl) (.tmp 51) (.tmp 54) 27 21 (.int .i32 0) 4 rfl Try.underlying27 info21 rfl (by decide) (by omega) v216 y215 (l0.take (a1 : Int).toNat) _ _ _ (fun k_ => some k_ ≠ (v223 : Value).ownBlock) (fun _ => False) rfl rfl ?aO ?aR (fun _ _ h => h) (fun _ h => h.elim) ?aF ?aB ?aS ?aL ?_
          (case aR => first | (have c_ := (Kd.C_below HR218.out HB.out); rw [tk_ (l := l0) (i := a1)] at c_; exact cz c_) | (exact cz (Kd.C_below HR218.out HB.out)))
          (case aB => exact bz)
          (case aF => exact (fun k_ hk => Kd.fresh' (Kd.R_lt (rz HO224.out)) k_ hk))
          (case aO => exact (by (with_reducible repeat (first | apply Kd.R_alloc | apply Kd.R_drewN | apply Kd.R_drew)); exact Kd.R_mono HO217.out (fun _ hk => hk.2)))
          (case aS => exact (below_size bz))
          (case aL => have := LMc22.out; have hlx_ := (tk_ (l := l0)); omega)
          intro v220 w161 ho hb hg hat
          rw [← Ny219.out] at ho
          have n0_ := Aside0.mk (Kd.R_after (ok := (fun _ => True)) (rz HO224.out) hg hat)
          have n1_ := Aside0.mk (hb)
          have n2_ := Aside0.mk (ho)
          clear HO224
          clear HB
          clear HO217
          have HO224 := n0_
          have HB := n1_
          have HO221 := n2_
          clear n0_ n1_ n2_
          clear ho hb hg hat
          refine hK.out _ _ trivial (fun hHeld => ?_)
          clear hK K
          refine norm_ (a' := ?_) ?_ ?_
          rotate_left
          ·show Act.put _ (some 55) _ = _
           simp only [Act.put, List.setIfInBounds_toArray, List.set_cons_zero, List.set_cons_succ, i64_w, i32_w]
           rfl
          exact norm_ (by simp only [putAll, Act.put, List.setIfInBounds_toArray, List.set_cons_zero, List.set_cons_succ]) (hCont (v216, v220, v223) _ ⟨(rz HO221.out), (by (with_reducible repeat (first | apply Kd.R_alloc | apply Kd.R_drewN | apply Kd.R_drew)); exact Kd.R_mono HO224.out (fun _ hk => hk.2)), bz⟩)
        rintro ⟨v216, v220, v223⟩ w162 ⟨h0_, h1_, h2_⟩
        have n0_ : Aside0 (Kd.R (Kd.int .i32) 21 w162 w.heap.size (fun k_ => some k_ ≠ (v223 : Value).ownBlock) v220 y219) := ⟨h0_⟩
        have n1_ : Aside0 (Kd.R (Kd.int .i32) 21 w162 w.heap.size (fun k_ => some k_ ≠ (v220 : Value).ownBlock) v223 y222) := ⟨h1_⟩
        have n2_ : Aside0 (Below w.heap.size w w162) := ⟨h2_⟩
        clear HB
        clear h0_ h1_ h2_
        have HO221 := n0_
        have HO224 := n1_
        have HB := n2_
        clear n0_ n1_ n2_
        have hHeld := trivial
        obtain ⟨Ao164, co164, eo164⟩ := Kd.R_slice HO224.out
        (first | subst eo164 | (injection eo164 with f1_ f2_ f3_; have f4_ := f1_.symm; have f5_ := f3_.symm; clear f1_ f2_ f3_; subst f4_; subst f5_))
        refine norm_ (a' := ?_) ?_ ?_
        rotate_left
        ·simp only [putAll, Act.put, List.setIfInBounds_toArray, List.set_cons_zero, List.set_cons_succ]
         rfl
        refine one_ (i := 7) (N := some 58) #[true, true, true, true, true, true, true, true, true, true, true, false, false] rfl rfl (one_of HT_.out (by kernel_rfl)) (by decide) (fun K hK => ?_)
        refine Kd.R_append_rows_step (Kd.int .i32) (w0 := w) w.heap.size (by rfl) (.tmp 55) (.tmp 57) 27 21 (.int .i32 0) 4 rfl Try.underlying27 info21 rfl (by decide) (by omega) v220 y219 y222 _ _ _ (fun k_ => some k_ ≠ (.slice Ao164 y222.length co164 : Value).ownBlock) (fun _ => False) rfl rfl ?aO ?aR (fun _ _ h => h) (fun _ h => h.elim) ?aF ?aB ?aS ?aL ?_
        (case aR => repeat (first | exact (Kd.R_reads' HO224.out).2.2 | (with_reducible refine Kd.C_alloc ?_ _) | (with_reducible refine Kd.C_drewN ?_ _) | (with_reducible refine Kd.C_drew ?_)))
        (case aB => exact bz)
        (case aF => exact (fun k_ hk => Kd.fresh' (Kd.R_lt (rz HO224.out)) k_ hk))
        (case aO => exact (rz HO221.out))
        (case aS => exact (below_size bz))
        (case aL => have := LMc23.out; omega)
        intro v226 w163 ho hb hg hat
        rw [← Ny225.out] at ho
        have n0_ := Aside0.mk (Kd.R_after (ok := (fun _ => True)) (by (with_reducible repeat (first | apply Kd.R_alloc | apply Kd.R_drewN | apply Kd.R_drew)); exact Kd.R_mono HO224.out (fun _ hk => ⟨trivial, hk⟩)) hg hat)
        have n1_ := Aside0.mk (hb)
        have n2_ := Aside0.mk (ho)
        clear HO224
        clear HB
        clear HO221
        have HO224 := n0_
        have HB := n1_
        have HO227 := n2_
        clear n0_ n1_ n2_
        clear ho hb hg hat
        refine hK.out _ _ trivial (fun hHeld => ?_)
        clear hK K
        refine norm_ (a' := ?_) ?_ ?_
        rotate_left
        ·show Act.put _ (some 58) _ = _
         simp only [Act.put, List.setIfInBounds_toArray, List.set_cons_zero, List.set_cons_succ, i64_w, i32_w]
         rfl
        refine one_ (i := 11) (N := some 62) #[true, true, true, true, true, true, true, true, true, true, true, true, false] rfl rfl (one_of HT_.out (by kernel_rfl)) (by decide) (fun K hK => ?_)
        refine Kd.R_append_rows_step (Kd.int .i32) (w0 := w) w.heap.size (by rfl) (.tmp 58) (.tmp 61) 27 21 (.int .i32 0) 4 rfl Try.underlying27 info21 rfl (by decide) (by omega) v226 y225 (l0.drop (a1 : Int).toNat) _ _ _ (fun k_ => some k_ ≠ (.slice Ao164 y222.length co164 : Value).ownBlock) (fun _ => False) rfl rfl ?aO ?aR (fun _ _ h => h) (fun _ h => h.elim) ?aF ?aB ?aS ?aL ?_
        (case aR => first | (rw [← show (l0.drop (a1 : Int).toNat).length = (l0.length - a1.toNat) from List.length_drop]; exact cz (Kd.C_below HR228.out HB.out)) | (exact cz (Kd.C_below HR228.out HB.out)))
        (case aB => exact bz)
        (case aF => exact (fun k_ hk => Kd.fresh' (Kd.R_lt (rz HO224.out)) k_ hk))
        (case aO => exact (rz HO227.out))
        (case aS => exact (below_size bz))
        (case aL => have := LMc26.out; have hlx_ := (show (l0.drop (a1 : Int).toNat).length = (l0.length - a1.toNat) from List.length_drop); omega)
        intro v230 w165 ho hb hg hat
        rw [← Ny229.out] at ho
        have n0_ := Aside0.mk (Kd.R_after (ok := (fun _ => True)) (rz HO224.out) hg hat)
        have n1_ := Aside0.mk (hb)
        have n2_ := Aside0.mk (ho)
        clear HO224
        clear HB
        clear HO227
        have HO224 := n0_
        have HB := n1_
        have HO231 := n2_
        clear n0_ n1_ n2_
        clear ho hb hg hat
        refine hK.out _ _ trivial (fun hHeld => ?_)
        clear hK K
        refine norm_ (a' := ?_) ?_ ?_
        rotate_left
        ·show Act.put _ (some 62) _ = _
         simp only [Act.put, List.setIfInBounds_toArray, List.set_cons_zero, List.set_cons_succ, i64_w, i32_w]
         rfl
        refine pure_ (i := 12) (N := some 10) (v := ?_) (a' := ?_) #[true, true, true, true, true, true, true, true, true, true, true, true, true] rfl rfl (any_of HT_.out (by kernel_rfl)) (fun _ _ _ h => h) (Or.inl ⟨by rfl, ?_⟩) ?_ ?_
        rotate_left
        ·intro w'
         go_simp
         with_reducible rfl
        rotate_left
        ·simp only [Act.put, List.setIfInBounds_toArray, List.set_cons_zero, List.set_cons_succ, i64_w, i32_w]
         rfl
        refine done_ (done_of HT_.out (by kernel_rfl)) ?_
        try go_wp2
        go_ret
        exact ⟨by first | rfl | (simp [errW_none, errW_some] <;> rfl) | (simp [*, errW_none, errW_some] <;> rfl), bz⟩
       subst c139
       have H1 : ((class_Turns.f kj12 y229).bind fun t236 => (some (t236 == (!false)))) = some r := by rw [if_pos rfl] at H; exact H
       clear H
       have H := H1
       clear H1
       replace H := Option.bind_eq_some_iff.mp H
       obtain ⟨t236, A1400, H⟩ := H
       replace H : (some (t236 == (!false))) = some r := H
       have A140 := Aside0.mk A1400
       clear A1400
       obtain rfl := Option.some.inj H
       try go_wp2
       have n0_ := Aside0.mk (below_drew1 HB.out)
       clear HB
       have HB := n0_
       clear n0_
       obtain ⟨i0142, hi0142, _, hsz142, _⟩ := info_parts info21
       obtain ⟨hcut142, hA142, hC142⟩ := print_take_of (P := Try.prog) (Value.int .i32) 0 27 21 .i64 Try.underlying27 hi0142 hsz142 A0 c0 l0 a1 (of_decide_eq_true (by first | (with_reducible assumption) | assumption)) (of_decide_eq_true (by first | (with_reducible assumption) | assumption)) HC0.out
       have HR218 := Aside0.mk (Kd.C_of_reads (h1 := fun _ => rfl) (hA142 _ (Kd.reads_of_C HR0.out)))
       have HC218 := Aside0.mk hC142
       clear hA142 hC142 hi0142 hsz142
       obtain ⟨i0143, hi0143, _, hsz143, _⟩ := info_parts info21
       obtain ⟨A143, hcut143, hA143, hC143⟩ := print_drop_of (P := Try.prog) (Value.int .i32) 0 27 21 .i64 Try.underlying27 hi0143 hsz143 A0 c0 l0 a1 (of_decide_eq_true (by first | (with_reducible assumption) | assumption)) (of_decide_eq_true (by first | (with_reducible assumption) | assumption)) HC0.out
       have HR228 := Aside0.mk (Kd.C_of_reads (h1 := fun _ => rfl) (hA143 _ (Kd.reads_of_C HR0.out)))
       have HC228 := Aside0.mk hC143
       clear hA143 hC143 hi0143 hsz143
       refine start_ (n := 13) (S := fun w' => True) (ds := []) #[false, false, false, false, false, false, false, false, false, false, false, false, false] (by kernel_rfl) rfl rfl trivial (fun hHeld => ?_); refine with_tabW exerguelaw02_ClassTurns.tab13 exerguelaw02_ClassTurns.bits13 (fun HT_ HW_ => ?_)
       generalize wc.drew = w141 at HB HR218 HR228 hHeld ⊢
       refine pure_ (i := 1) (N := some 52) (v := ?_) (a' := ?_) #[false, true, false, false, false, false, false, false, false, false, false, false, false] rfl rfl (any_of HT_.out (by kernel_rfl)) (fun _ _ _ h => h) (Or.inl ⟨by rfl, ?_⟩) ?_ ?_
       rotate_left
       ·intro w'
        go_simp
        with_reducible rfl
       rotate_left
       ·simp only [Act.put, List.setIfInBounds_toArray, List.set_cons_zero, List.set_cons_succ, i64_w, i32_w]
        rfl
       refine pure_ (i := 2) (N := some 53) (v := ?_) (a' := ?_) #[false, true, true, false, false, false, false, false, false, false, false, false, false] rfl rfl (any_of HT_.out (by kernel_rfl)) (fun _ _ _ h => h) (Or.inl ⟨by rfl, ?_⟩) ?_ ?_
       rotate_left
       ·intro w'
        go_simp
        with_reducible rfl
       rotate_left
       ·simp only [Act.put, List.setIfInBounds_toArray, List.set_cons_zero, List.set_cons_succ, i64_w, i32_w]
        rfl
       refine pure_ (i := 3) (N := some 54) (v := ?_) (a' := ?_) #[false, true, true, true, false, false, false, false, false, false, false, false, false] rfl rfl (any_of HT_.out (by kernel_rfl)) (fun _ _ _ h => h) (Or.inl ⟨by rfl, ?_⟩) ?_ ?_
       rotate_left
       ·intro w'
        go_simp
        with_reducible rfl
       rotate_left
       ·simp only [Act.put, List.setIfInBounds_toArray, List.set_cons_zero, List.set_cons_succ, i64_w, i32_w]
        rfl
       refine pure_ (i := 5) (N := some 56) (v := ?_) (a' := ?_) #[false, true, true, true, false, true, false, false, false, false, false, false, false] rfl rfl (any_of HT_.out (by kernel_rfl)) (fun _ _ _ h => h) (Or.inl ⟨by rfl, ?_⟩) ?_ ?_
       rotate_left
       ·intro w'
        go_simp
        with_reducible rfl
       rotate_left
       ·simp only [Act.put, List.setIfInBounds_toArray, List.set_cons_zero, List.set_cons_succ, i64_w, i32_w]
        rfl
       refine pure_ (i := 8) (N := some 59) (v := ?_) (a' := ?_) #[false, true, true, true, false, true, false, false, true, false, false, false, false] rfl rfl (any_of HT_.out (by kernel_rfl)) (fun _ _ _ h => h) (Or.inl ⟨by rfl, ?_⟩) ?_ ?_
       rotate_left
       ·intro w'
        go_simp
        with_reducible rfl
       rotate_left
       ·simp only [Act.put, List.setIfInBounds_toArray, List.set_cons_zero, List.set_cons_succ, i64_w, i32_w]
        rfl
       refine pure_ (i := 9) (N := some 60) (v := ?_) (a' := ?_) #[false, true, true, true, false, true, false, false, true, true, false, false, false] rfl rfl (any_of HT_.out (by kernel_rfl)) (fun _ _ _ h => h) (Or.inl ⟨by rfl, ?_⟩) ?_ ?_
       rotate_left
       ·intro w'
        go_simp
        with_reducible rfl
       rotate_left
       ·simp only [Act.put, List.setIfInBounds_toArray, List.set_cons_zero, List.set_cons_succ, i64_w, i32_w]
        rfl
       refine pure_ (i := 10) (N := some 61) (v := ?_) (a' := ?_) #[false, true, true, true, false, true, false, false, true, true, true, false, false] rfl rfl (any_of HT_.out (by kernel_rfl)) (fun _ _ _ h => h) (Or.inl ⟨by rfl, ?_⟩) ?_ ?_
       rotate_left
       ·intro w'
        go_simp
        with_reducible rfl
       rotate_left
       ·simp only [Act.put, List.setIfInBounds_toArray, List.set_cons_zero, List.set_cons_succ, i64_w, i32_w]
        rfl
       refine join_ (σ := Value × Value × Value) 3 #[true, true, true, true, true, true, true, false, true, true, true, false, false] (fun s_ => [(51, s_.1), (55, s_.2.1), (57, s_.2.2)]) (fun s_ w' => (Kd.R (Kd.int .i32) 21 w' w.heap.size (fun k_ => some k_ ≠ (s_.2.2 : Value).ownBlock) s_.2.1 y219) ∧ (Kd.R (Kd.int .i32) 21 w' w.heap.size (fun k_ => some k_ ≠ (s_.2.1 : Value).ownBlock) s_.2.2 y222) ∧ (Below w.heap.size w w')) ?_ ?_
       rotate_left
       ·intro hCont
        refine two_ (i := 0) (j := 6) (Ni := some 51) (Nj := some 57) #[true, true, true, true, false, true, false, false, true, true, true, false, false] #[false, true, true, true, false, true, true, false, true, true, true, false, false] rfl rfl rfl rfl (two_of HT_.out (by kernel_rfl)) (by decide) (by decide) (fun K hK => ?_) (fun K hK => ?_)
        ·skip
         refine Kd.R_lit_step (Kd.int .i32) _ 21 ?hg (N := 51) ?hd (xs := ([] : List Int)) (inner := []) (ok := fun _ => True) (okp := fun _ => True) ?hr ?hp (fun _ hk => hk) trivial (Below.refl _ _) (Nat.le_refl _) (by simp) ?_; (case hd => rfl); (case hg => rfl); (case hr => first | (go_simp; done) | (go_simp; rfl)); (case hp => exact (Reps.none _ _))
         intro v216 w144 ho145 hb hg_ hnew_
         clear hg_ hnew_
         (first | rw [← Ny215.out] at ho145 | (simp only [Int.reduceToNat] at ho145; rw [← Ny215.out] at ho145))
         have n0_ := Aside0.mk (Kd.R_lower ho145 (below_size bz))
         have n1_ := Aside0.mk (below_step bz hb)
         clear HB
         have HO217 := n0_
         have HB := n1_
         clear n0_ n1_
         clear hb ho145
         refine hK.out _ _ trivial (fun hHeld => ?_)
         clear hK K
         refine norm_ (a' := ?_) ?_ ?_
         rotate_left
         ·show Act.put _ (some 51) _ = _
          simp only [Act.put, List.setIfInBounds_toArray, List.set_cons_zero, List.set_cons_succ, i64_w, i32_w]
          rfl
         refine two_ (i := 4) (j := 6) (Ni := some 55) (Nj := some 57) #[true, true, true, true, true, true, false, false, true, true, true, false, false] #[true, true, true, true, false, true, true, false, true, true, true, false, false] rfl rfl rfl rfl (two_of HT_.out (by kernel_rfl)) (by decide) (by decide) (fun K hK => ?_) (fun K hK => ?_)
         ·skip
          refine Kd.R_append_rows_step (Kd.int .i32) (w0 := w) w.heap.size (by rfl) (.tmp 51) (.tmp 54) 27 21 (.int .i32 0) 4 rfl Try.underlying27 info21 rfl (by decide) (by omega) v216 y215 (l0.take (a1 : Int).toNat) _ _ _ (fun _ => True) (fun _ => False) rfl rfl ?aO ?aR (fun _ _ h => h) (fun _ h => h.elim) ?aF ?aB ?aS ?aL ?_
          (case aR => first | (have c_ := (Kd.C_below HR218.out HB.out); rw [tk_ (l := l0) (i := a1)] at c_; exact cz c_) | (exact cz (Kd.C_below HR218.out HB.out)))
          (case aB => exact bz)
          (case aF => exact (fun _ _ => trivial))
          (case aO => exact (rz HO217.out))
          (case aS => exact (below_size bz))
          (case aL => have := LMc22.out; have hlx_ := (tk_ (l := l0)); omega)
          intro v220 w146 ho hb hg hat
          rw [← Ny219.out] at ho
          have n0_ := Aside0.mk (hb)
          have n1_ := Aside0.mk (ho)
          clear HB
          clear HO217
          have HB := n0_
          have HO221 := n1_
          clear n0_ n1_
          clear ho hb hg hat
          refine hK.out _ _ trivial (fun hHeld => ?_)
          clear hK K
          refine norm_ (a' := ?_) ?_ ?_
          rotate_left
          ·show Act.put _ (some 55) _ = _
           simp only [Act.put, List.setIfInBounds_toArray, List.set_cons_zero, List.set_cons_succ, i64_w, i32_w]
           rfl
          refine one_ (i := 6) (N := some 57) #[true, true, true, true, true, true, true, false, true, true, true, false, false] rfl rfl (one_of HT_.out (by kernel_rfl)) (by decide) (fun K hK => ?_)
          refine Kd.R_lit_step (Kd.int .i32) _ 21 ?hg (N := 57) ?hd (xs := ([a2] : List Int)) (inner := [.int .i32 a2]) (ok := fun _ => True) (okp := fun _ => True) ?hr ?hp (fun _ hk => hk) trivial (Below.refl _ _) (Nat.le_refl _) (by simp) ?_; (case hd => rfl); (case hg => rfl); (case hr => first | (go_simp; done) | (go_simp; rfl)); (case hp => exact (Reps.one (show Kd.M (Kd.int .i32) _ _ _ a2 [.int .i32 a2] from rfl) (Reps.none _ _)))
          intro v223 w147 ho148 hb hg_ hnew_
          clear hg_ hnew_
          (first | rw [← Ny222.out] at ho148 | (simp only [Int.reduceToNat] at ho148; rw [← Ny222.out] at ho148))
          have n0_ := Aside0.mk (Kd.R_elder' (rz HO221.out) (Kd.R_base ho148) hb)
          have n1_ := Aside0.mk (Kd.R_lower (Kd.R_new' ho148 (Kd.R_lt (rz HO221.out))) (below_size bz))
          have n2_ := Aside0.mk (below_step bz hb)
          clear HO221
          clear HB
          have HO221 := n0_
          have HO224 := n1_
          have HB := n2_
          clear n0_ n1_ n2_
          clear hb ho148
          refine hK.out _ _ trivial (fun hHeld => ?_)
          clear hK K
          refine norm_ (a' := ?_) ?_ ?_
          rotate_left
          ·show Act.put _ (some 57) _ = _
           simp only [Act.put, List.setIfInBounds_toArray, List.set_cons_zero, List.set_cons_succ, i64_w, i32_w]
           rfl
          exact norm_ (by simp only [putAll, Act.put, List.setIfInBounds_toArray, List.set_cons_zero, List.set_cons_succ]) (hCont (v216, v220, v223) _ ⟨(by (with_reducible repeat (first | apply Kd.R_alloc | apply Kd.R_drewN | apply Kd.R_drew)); exact Kd.R_mono HO221.out (fun _ hk => hk.2)), (by (with_reducible repeat (first | apply Kd.R_alloc | apply Kd.R_drewN | apply Kd.R_drew)); exact Kd.R_mono HO224.out (fun _ hk => hk.2)), bz⟩)
         ·skip
          refine Kd.R_lit_step (Kd.int .i32) _ 21 ?hg (N := 57) ?hd (xs := ([a2] : List Int)) (inner := [.int .i32 a2]) (ok := fun _ => True) (okp := fun _ => True) ?hr ?hp (fun _ hk => hk) trivial (Below.refl _ _) (Nat.le_refl _) (by simp) ?_; (case hd => rfl); (case hg => rfl); (case hr => first | (go_simp; done) | (go_simp; rfl)); (case hp => exact (Reps.one (show Kd.M (Kd.int .i32) _ _ _ a2 [.int .i32 a2] from rfl) (Reps.none _ _)))
          intro v223 w146 ho147 hb hg_ hnew_
          clear hg_ hnew_
          (first | rw [← Ny222.out] at ho147 | (simp only [Int.reduceToNat] at ho147; rw [← Ny222.out] at ho147))
          have n0_ := Aside0.mk (Kd.R_elder' (rz HO217.out) (Kd.R_base ho147) hb)
          have n1_ := Aside0.mk (Kd.R_lower (Kd.R_new' ho147 (Kd.R_lt (rz HO217.out))) (below_size bz))
          have n2_ := Aside0.mk (below_step bz hb)
          clear HO217
          clear HB
          have HO217 := n0_
          have HO224 := n1_
          have HB := n2_
          clear n0_ n1_ n2_
          clear hb ho147
          refine hK.out _ _ trivial (fun hHeld => ?_)
          clear hK K
          refine norm_ (a' := ?_) ?_ ?_
          rotate_left
          ·show Act.put _ (some 57) _ = _
           simp only [Act.put, List.setIfInBounds_toArray, List.set_cons_zero, List.set_cons_succ, i64_w, i32_w]
           rfl
          refine one_ (i := 4) (N := some 55) #[true, true, true, true, true, true, true, false, true, true, true, false, false] rfl rfl (one_of HT_.out (by kernel_rfl)) (by decide) (fun K hK => ?_)
          refine Kd.R_append_rows_step (Kd.int .i32) (w0 := w) w.heap.size (by rfl) (.tmp 51) (.tmp 54) 27 21 (.int .i32 0) 4 rfl Try.underlying27 info21 rfl (by decide) (by omega) v216 y215 (l0.take (a1 : Int).toNat) _ _ _ (fun k_ => some k_ ≠ (v223 : Value).ownBlock) (fun _ => False) rfl rfl ?aO ?aR (fun _ _ h => h) (fun _ h => h.elim) ?aF ?aB ?aS ?aL ?_
          (case aR => first | (have c_ := (Kd.C_below HR218.out HB.out); rw [tk_ (l := l0) (i := a1)] at c_; exact cz c_) | (exact cz (Kd.C_below HR218.out HB.out)))
          (case aB => exact bz)
          (case aF => exact (fun k_ hk => Kd.fresh' (Kd.R_lt (rz HO224.out)) k_ hk))
          (case aO => exact (by (with_reducible repeat (first | apply Kd.R_alloc | apply Kd.R_drewN | apply Kd.R_drew)); exact Kd.R_mono HO217.out (fun _ hk => hk.2)))
          (case aS => exact (below_size bz))
          (case aL => have := LMc22.out; have hlx_ := (tk_ (l := l0)); omega)
          intro v220 w148 ho hb hg hat
          rw [← Ny219.out] at ho
          have n0_ := Aside0.mk (Kd.R_after (ok := (fun _ => True)) (rz HO224.out) hg hat)
          have n1_ := Aside0.mk (hb)
          have n2_ := Aside0.mk (ho)
          clear HO224
          clear HB
          clear HO217
          have HO224 := n0_
          have HB := n1_
          have HO221 := n2_
          clear n0_ n1_ n2_
          clear ho hb hg hat
          refine hK.out _ _ trivial (fun hHeld => ?_)
          clear hK K
          refine norm_ (a' := ?_) ?_ ?_
          rotate_left
          ·show Act.put _ (some 55) _ = _
           simp only [Act.put, List.setIfInBounds_toArray, List.set_cons_zero, List.set_cons_succ, i64_w, i32_w]
           rfl
          exact norm_ (by simp only [putAll, Act.put, List.setIfInBounds_toArray, List.set_cons_zero, List.set_cons_succ]) (hCont (v216, v220, v223) _ ⟨(rz HO221.out), (by (with_reducible repeat (first | apply Kd.R_alloc | apply Kd.R_drewN | apply Kd.R_drew)); exact Kd.R_mono HO224.out (fun _ hk => hk.2)), bz⟩)
        ·skip
         refine Kd.R_lit_step (Kd.int .i32) _ 21 ?hg (N := 57) ?hd (xs := ([a2] : List Int)) (inner := [.int .i32 a2]) (ok := fun _ => True) (okp := fun _ => True) ?hr ?hp (fun _ hk => hk) trivial (Below.refl _ _) (Nat.le_refl _) (by simp) ?_; (case hd => rfl); (case hg => rfl); (case hr => first | (go_simp; done) | (go_simp; rfl)); (case hp => exact (Reps.one (show Kd.M (Kd.int .i32) _ _ _ a2 [.int .i32 a2] from rfl) (Reps.none _ _)))
         intro v223 w144 ho145 hb hg_ hnew_
         clear hg_ hnew_
         (first | rw [← Ny222.out] at ho145 | (simp only [Int.reduceToNat] at ho145; rw [← Ny222.out] at ho145))
         have n0_ := Aside0.mk (Kd.R_lower ho145 (below_size bz))
         have n1_ := Aside0.mk (below_step bz hb)
         clear HB
         have HO224 := n0_
         have HB := n1_
         clear n0_ n1_
         clear hb ho145
         refine hK.out _ _ trivial (fun hHeld => ?_)
         clear hK K
         refine norm_ (a' := ?_) ?_ ?_
         rotate_left
         ·show Act.put _ (some 57) _ = _
          simp only [Act.put, List.setIfInBounds_toArray, List.set_cons_zero, List.set_cons_succ, i64_w, i32_w]
          rfl
         refine one_ (i := 0) (N := some 51) #[true, true, true, true, false, true, true, false, true, true, true, false, false] rfl rfl (one_of HT_.out (by kernel_rfl)) (by decide) (fun K hK => ?_)
         refine Kd.R_lit_step (Kd.int .i32) _ 21 ?hg (N := 51) ?hd (xs := ([] : List Int)) (inner := []) (ok := fun _ => True) (okp := fun _ => True) ?hr ?hp (fun _ hk => hk) trivial (Below.refl _ _) (Nat.le_refl _) (by simp) ?_; (case hd => rfl); (case hg => rfl); (case hr => first | (go_simp; done) | (go_simp; rfl)); (case hp => exact (Reps.none _ _))
         intro v216 w146 ho147 hb hg_ hnew_
         clear hg_ hnew_
         (first | rw [← Ny215.out] at ho147 | (simp only [Int.reduceToNat] at ho147; rw [← Ny215.out] at ho147))
         have n0_ := Aside0.mk (Kd.R_elder' (rz HO224.out) (Kd.R_base ho147) hb)
         have n1_ := Aside0.mk (Kd.R_lower (Kd.R_new' ho147 (Kd.R_lt (rz HO224.out))) (below_size bz))
         have n2_ := Aside0.mk (below_step bz hb)
         clear HO224
         clear HB
         have HO224 := n0_
         have HO217 := n1_
         have HB := n2_
         clear n0_ n1_ n2_
         clear hb ho147
         refine hK.out _ _ trivial (fun hHeld => ?_)
         clear hK K
         refine norm_ (a' := ?_) ?_ ?_
         rotate_left
         ·show Act.put _ (some 51) _ = _
          simp only [Act.put, List.setIfInBounds_toArray, List.set_cons_zero, List.set_cons_succ, i64_w, i32_w]
          rfl
         refine one_ (i := 4) (N := some 55) #[true, true, true, true, true, true, true, false, true, true, true, false, false] rfl rfl (one_of HT_.out (by kernel_rfl)) (by decide) (fun K hK => ?_)
         refine Kd.R_append_rows_step (Kd.int .i32) (w0 := w) w.heap.size (by rfl) (.tmp 51) (.tmp 54) 27 21 (.int .i32 0) 4 rfl Try.underlying27 info21 rfl (by decide) (by omega) v216 y215 (l0.take (a1 : Int).toNat) _ _ _ (fun k_ => some k_ ≠ (v223 : Value).ownBlock) (fun _ => False) rfl rfl ?aO ?aR (fun _ _ h => h) (fun _ h => h.elim) ?aF ?aB ?aS ?aL ?_
         (case aR => first | (have c_ := (Kd.C_below HR218.out HB.out); rw [tk_ (l := l0) (i := a1)] at c_; exact cz c_) | (exact cz (Kd.C_below HR218.out HB.out)))
         (case aB => exact bz)
         (case aF => exact (fun k_ hk => Kd.fresh' (Kd.R_lt (rz HO224.out)) k_ hk))
         (case aO => exact (by (with_reducible repeat (first | apply Kd.R_alloc | apply Kd.R_drewN | apply Kd.R_drew)); exact Kd.R_mono HO217.out (fun _ hk => hk.2)))
         (case aS => exact (below_size bz))
         (case aL => have := LMc22.out; have hlx_ := (tk_ (l := l0)); omega)
         intro v220 w148 ho hb hg hat
         rw [← Ny219.out] at ho
         have n0_ := Aside0.mk (Kd.R_after (ok := (fun _ => True)) (rz HO224.out) hg hat)
         have n1_ := Aside0.mk (hb)
         have n2_ := Aside0.mk (ho)
         clear HO224
         clear HB
         clear HO217
         have HO224 := n0_
         have HB := n1_
         have HO221 := n2_
         clear n0_ n1_ n2_
         clear ho hb hg hat
         refine hK.out _ _ trivial (fun hHeld => ?_)
         clear hK K
         refine norm_ (a' := ?_) ?_ ?_
         rotate_left
         ·show Act.put _ (some 55) _ = _
          simp only [Act.put, List.setIfInBounds_toArray, List.set_cons_zero, List.set_cons_succ, i64_w, i32_w]
          rfl
         exact norm_ (by simp only [putAll, Act.put, List.setIfInBounds_toArray, List.set_cons_zero, List.set_cons_succ]) (hCont (v216, v220, v223) _ ⟨(rz HO221.out), (by (with_reducible repeat (first | apply Kd.R_alloc | apply Kd.R_drewN | apply Kd.R_drew)); exact Kd.R_mono HO224.out (fun _ hk => hk.2)), bz⟩)
       rintro ⟨v216, v220, v223⟩ w149 ⟨h0_, h1_, h2_⟩
       have n0_ : Aside0 (Kd.R (Kd.int .i32) 21 w149 w.heap.size (fun k_ => some k_ ≠ (v223 : Value).ownBlock) v220 y219) := ⟨h0_⟩
       have n1_ : Aside0 (Kd.R (Kd.int .i32) 21 w149 w.heap.size (fun k_ => some k_ ≠ (v220 : Value).ownBlock) v223 y222) := ⟨h1_⟩
       have n2_ : Aside0 (Below w.heap.size w w149) := ⟨h2_⟩
       clear HB
       clear h0_ h1_ h2_
       have HO221 := n0_
       have HO224 := n1_
       have HB := n2_
       clear n0_ n1_ n2_
       have hHeld := trivial
       obtain ⟨Ao151, co151, eo151⟩ := Kd.R_slice HO224.out
       (first | subst eo151 | (injection eo151 with f1_ f2_ f3_; have f4_ := f1_.symm; have f5_ := f3_.symm; clear f1_ f2_ f3_; subst f4_; subst f5_))
       refine norm_ (a' := ?_) ?_ ?_
       rotate_left
       ·simp only [putAll, Act.put, List.setIfInBounds_toArray, List.set_cons_zero, List.set_cons_succ]
        rfl
       refine one_ (i := 7) (N := some 58) #[true, true, true, true, true, true, true, true, true, true, true, false, false] rfl rfl (one_of HT_.out (by kernel_rfl)) (by decide) (fun K hK => ?_)
       refine Kd.R_append_rows_step (Kd.int .i32) (w0 := w) w.heap.size (by rfl) (.tmp 55) (.tmp 57) 27 21 (.int .i32 0) 4 rfl Try.underlying27 info21 rfl (by decide) (by omega) v220 y219 y222 _ _ _ (fun k_ => some k_ ≠ (.slice Ao151 y222.length co151 : Value).ownBlock) (fun _ => False) rfl rfl ?aO ?aR (fun _ _ h => h) (fun _ h => h.elim) ?aF ?aB ?aS ?aL ?_
       (case aR => repeat (first | exact (Kd.R_reads' HO224.out).2.2 | (with_reducible refine Kd.C_alloc ?_ _) | (with_reducible refine Kd.C_drewN ?_ _) | (with_reducible refine Kd.C_drew ?_)))
       (case aB => exact bz)
       (case aF => exact (fun k_ hk => Kd.fresh' (Kd.R_lt (rz HO224.out)) k_ hk))
       (case aO => exact (rz HO221.out))
       (case aS => exact (below_size bz))
       (case aL => have := LMc23.out; omega)
       intro v226 w150 ho hb hg hat
       rw [← Ny225.out] at ho
       have n0_ := Aside0.mk (Kd.R_after (ok := (fun _ => True)) (by (with_reducible repeat (first | apply Kd.R_alloc | apply Kd.R_drewN | apply Kd.R_drew)); exact Kd.R_mono HO224.out (fun _ hk => ⟨trivial, hk⟩)) hg hat)
       have n1_ := Aside0.mk (hb)
       have n2_ := Aside0.mk (ho)
       clear HO224
       clear HB
       clear HO221
       have HO224 := n0_
       have HB := n1_
       have HO227 := n2_
       clear n0_ n1_ n2_
       clear ho hb hg hat
       refine hK.out _ _ trivial (fun hHeld => ?_)
       clear hK K
       refine norm_ (a' := ?_) ?_ ?_
       rotate_left
       ·show Act.put _ (some 58) _ = _
        simp only [Act.put, List.setIfInBounds_toArray, List.set_cons_zero, List.set_cons_succ, i64_w, i32_w]
        rfl
       refine one_ (i := 11) (N := some 62) #[true, true, true, true, true, true, true, true, true, true, true, true, false] rfl rfl (one_of HT_.out (by kernel_rfl)) (by decide) (fun K hK => ?_)
       refine Kd.R_append_rows_step (Kd.int .i32) (w0 := w) w.heap.size (by rfl) (.tmp 58) (.tmp 61) 27 21 (.int .i32 0) 4 rfl Try.underlying27 info21 rfl (by decide) (by omega) v226 y225 (l0.drop (a1 : Int).toNat) _ _ _ (fun k_ => some k_ ≠ (.slice Ao151 y222.length co151 : Value).ownBlock) (fun _ => False) rfl rfl ?aO ?aR (fun _ _ h => h) (fun _ h => h.elim) ?aF ?aB ?aS ?aL ?_
       (case aR => first | (rw [← show (l0.drop (a1 : Int).toNat).length = (l0.length - a1.toNat) from List.length_drop]; exact cz (Kd.C_below HR228.out HB.out)) | (exact cz (Kd.C_below HR228.out HB.out)))
       (case aB => exact bz)
       (case aF => exact (fun k_ hk => Kd.fresh' (Kd.R_lt (rz HO224.out)) k_ hk))
       (case aO => exact (rz HO227.out))
       (case aS => exact (below_size bz))
       (case aL => have := LMc26.out; have hlx_ := (show (l0.drop (a1 : Int).toNat).length = (l0.length - a1.toNat) from List.length_drop); omega)
       intro v230 w152 ho hb hg hat
       rw [← Ny229.out] at ho
       have n0_ := Aside0.mk (Kd.R_after (ok := (fun _ => True)) (rz HO224.out) hg hat)
       have n1_ := Aside0.mk (hb)
       have n2_ := Aside0.mk (ho)
       clear HO224
       clear HB
       clear HO227
       have HO224 := n0_
       have HB := n1_
       have HO231 := n2_
       clear n0_ n1_ n2_
       clear ho hb hg hat
       refine hK.out _ _ trivial (fun hHeld => ?_)
       clear hK K
       refine norm_ (a' := ?_) ?_ ?_
       rotate_left
       ·show Act.put _ (some 62) _ = _
        simp only [Act.put, List.setIfInBounds_toArray, List.set_cons_zero, List.set_cons_succ, i64_w, i32_w]
        rfl
       refine pure_ (i := 12) (N := some 10) (v := ?_) (a' := ?_) #[true, true, true, true, true, true, true, true, true, true, true, true, true] rfl rfl (any_of HT_.out (by kernel_rfl)) (fun _ _ _ h => h) (Or.inl ⟨by rfl, ?_⟩) ?_ ?_
       rotate_left
       ·intro w'
        go_simp
        with_reducible rfl
       rotate_left
       ·simp only [Act.put, List.setIfInBounds_toArray, List.set_cons_zero, List.set_cons_succ, i64_w, i32_w]
        rfl
       refine done_ (done_of HT_.out (by kernel_rfl)) ?_
       obtain ⟨Ao153, co153, eo153⟩ := Kd.R_slice HO231.out
       subst eo153
       try go_wp2_with (first | (go_at_call 18; (with_reducible refine (class_Turns.calls kj12 _ _ y229 t236 _ ?side1 ?side2 A140.out).mono ?_); (case side1 => repeat (first | exact (Kd.R_reads' HO231.out).2.2 | (with_reducible refine Kd.C_alloc ?_ _) | (with_reducible refine Kd.C_drewN ?_ _) | (with_reducible refine Kd.C_drew ?_))); (case side2 => exact (Kd.R_reads' HO231.out).2.1); rintro e w' ⟨rfl, ⟨nd, rfl⟩⟩))
       go_ret
       exact ⟨by first | rfl | (simp [errW_none, errW_some] <;> rfl) | (simp [*, errW_none, errW_some] <;> rfl), bz⟩
      rw [if_pos c111] at H
      have c111b0 : decide (8234 ≤ a2) = true := decide_eq_true c111
      clear c111
      by_cases c112 : t211 = true
      rotate_left
      ·replace c112 := Bool.eq_false_iff.mpr c112
       subst c112
       have H1 : (some false) = some r := by rw [if_neg (show ¬ (false = true) by decide)] at H; exact H
       clear H
       have H := H1
       clear H1
       obtain rfl := Option.some.inj H
       try go_wp2
       have n0_ := Aside0.mk (below_drew1 HB.out)
       clear HB
       have HB := n0_
       clear n0_
       obtain ⟨i0128, hi0128, _, hsz128, _⟩ := info_parts info21
       obtain ⟨hcut128, hA128, hC128⟩ := print_take_of (P := Try.prog) (Value.int .i32) 0 27 21 .i64 Try.underlying27 hi0128 hsz128 A0 c0 l0 a1 (of_decide_eq_true (by first | (with_reducible assumption) | assumption)) (of_decide_eq_true (by first | (with_reducible assumption) | assumption)) HC0.out
       have HR218 := Aside0.mk (Kd.C_of_reads (h1 := fun _ => rfl) (hA128 _ (Kd.reads_of_C HR0.out)))
       have HC218 := Aside0.mk hC128
       clear hA128 hC128 hi0128 hsz128
       obtain ⟨i0129, hi0129, _, hsz129, _⟩ := info_parts info21
       obtain ⟨A129, hcut129, hA129, hC129⟩ := print_drop_of (P := Try.prog) (Value.int .i32) 0 27 21 .i64 Try.underlying27 hi0129 hsz129 A0 c0 l0 a1 (of_decide_eq_true (by first | (with_reducible assumption) | assumption)) (of_decide_eq_true (by first | (with_reducible assumption) | assumption)) HC0.out
       have HR228 := Aside0.mk (Kd.C_of_reads (h1 := fun _ => rfl) (hA129 _ (Kd.reads_of_C HR0.out)))
       have HC228 := Aside0.mk hC129
       clear hA129 hC129 hi0129 hsz129
       refine start_ (n := 13) (S := fun w' => True) (ds := []) #[false, false, false, false, false, false, false, false, false, false, false, false, false] (by kernel_rfl) rfl rfl trivial (fun hHeld => ?_); refine with_tabW exerguelaw02_ClassTurns.tab13 exerguelaw02_ClassTurns.bits13 (fun HT_ HW_ => ?_)
       generalize wc.drew = w127 at HB HR218 HR228 hHeld ⊢
       refine pure_ (i := 1) (N := some 52) (v := ?_) (a' := ?_) #[false, true, false, false, false, false, false, false, false, false, false, false, false] rfl rfl (any_of HT_.out (by kernel_rfl)) (fun _ _ _ h => h) (Or.inl ⟨by rfl, ?_⟩) ?_ ?_
       rotate_left
       ·intro w'
        go_simp
        with_reducible rfl
       rotate_left
       ·simp only [Act.put, List.setIfInBounds_toArray, List.set_cons_zero, List.set_cons_succ, i64_w, i32_w]
        rfl
       refine pure_ (i := 2) (N := some 53) (v := ?_) (a' := ?_) #[false, true, true, false, false, false, false, false, false, false, false, false, false] rfl rfl (any_of HT_.out (by kernel_rfl)) (fun _ _ _ h => h) (Or.inl ⟨by rfl, ?_⟩) ?_ ?_
       rotate_left
       ·intro w'
        go_simp
        with_reducible rfl
       rotate_left
       ·simp only [Act.put, List.setIfInBounds_toArray, List.set_cons_zero, List.set_cons_succ, i64_w, i32_w]
        rfl
       refine pure_ (i := 3) (N := some 54) (v := ?_) (a' := ?_) #[false, true, true, true, false, false, false, false, false, false, false, false, false] rfl rfl (any_of HT_.out (by kernel_rfl)) (fun _ _ _ h => h) (Or.inl ⟨by rfl, ?_⟩) ?_ ?_
       rotate_left
       ·intro w'
        go_simp
        with_reducible rfl
       rotate_left
       ·simp only [Act.put, List.setIfInBounds_toArray, List.set_cons_zero, List.set_cons_succ, i64_w, i32_w]
        rfl
       refine pure_ (i := 5) (N := some 56) (v := ?_) (a' := ?_) #[false, true, true, true, false, true, false, false, false, false, false, false, false] rfl rfl (any_of HT_.out (by kernel_rfl)) (fun _ _ _ h => h) (Or.inl ⟨by rfl, ?_⟩) ?_ ?_
       rotate_left
       ·intro w'
        go_simp
        with_reducible rfl
       rotate_left
       ·simp only [Act.put, List.setIfInBounds_toArray, List.set_cons_zero, List.set_cons_succ, i64_w, i32_w]
        rfl
       refine pure_ (i := 8) (N := some 59) (v := ?_) (a' := ?_) #[false, true, true, true, false, true, false, false, true, false, false, false, false] rfl rfl (any_of HT_.out (by kernel_rfl)) (fun _ _ _ h => h) (Or.inl ⟨by rfl, ?_⟩) ?_ ?_
       rotate_left
       ·intro w'
        go_simp
        with_reducible rfl
       rotate_left
       ·simp only [Act.put, List.setIfInBounds_toArray, List.set_cons_zero, List.set_cons_succ, i64_w, i32_w]
        rfl
       refine pure_ (i := 9) (N := some 60) (v := ?_) (a' := ?_) #[false, true, true, true, false, true, false, false, true, true, false, false, false] rfl rfl (any_of HT_.out (by kernel_rfl)) (fun _ _ _ h => h) (Or.inl ⟨by rfl, ?_⟩) ?_ ?_
       rotate_left
       ·intro w'
        go_simp
        with_reducible rfl
       rotate_left
       ·simp only [Act.put, List.setIfInBounds_toArray, List.set_cons_zero, List.set_cons_succ, i64_w, i32_w]
        rfl
       refine pure_ (i := 10) (N := some 61) (v := ?_) (a' := ?_) #[false, true, true, true, false, true, false, false, true, true, true, false, false] rfl rfl (any_of HT_.out (by kernel_rfl)) (fun _ _ _ h => h) (Or.inl ⟨by rfl, ?_⟩) ?_ ?_
       rotate_left
       ·intro w'
        go_simp
        with_reducible rfl
       rotate_left
       ·simp only [Act.put, List.setIfInBounds_toArray, List.set_cons_zero, List.set_cons_succ, i64_w, i32_w]
        rfl
       refine join_ (σ := Value × Value × Value) 3 #[true, true, true, true, true, true, true, false, true, true, true, false, false] (fun s_ => [(51, s_.1), (55, s_.2.1), (57, s_.2.2)]) (fun s_ w' => (Kd.R (Kd.int .i32) 21 w' w.heap.size (fun k_ => some k_ ≠ (s_.2.2 : Value).ownBlock) s_.2.1 y219) ∧ (Kd.R (Kd.int .i32) 21 w' w.heap.size (fun k_ => some k_ ≠ (s_.2.1 : Value).ownBlock) s_.2.2 y222) ∧ (Below w.heap.size w w')) ?_ ?_
       rotate_left
       ·intro hCont
        refine two_ (i := 0) (j := 6) (Ni := some 51) (Nj := some 57) #[true, true, true, true, false, true, false, false, true, true, true, false, false] #[false, true, true, true, false, true, true, false, true, true, true, false, false] rfl rfl rfl rfl (two_of HT_.out (by kernel_rfl)) (by decide) (by decide) (fun K hK => ?_) (fun K hK => ?_)
        ·skip
         refine Kd.R_lit_step (Kd.int .i32) _ 21 ?hg (N := 51) ?hd (xs := ([] : List Int)) (inner := []) (ok := fun _ => True) (okp := fun _ => True) ?hr ?hp (fun _ hk => hk) trivial (Below.refl _ _) (Nat.le_refl _) (by simp) ?_; (case hd => rfl); (case hg => rfl); (case hr => first | (go_simp; done) | (go_simp; rfl)); (case hp => exact (Reps.none _ _))
         intro v216 w130 ho131 hb hg_ hnew_
         clear hg_ hnew_
         (first | rw [← Ny215.out] at ho131 | (simp only [Int.reduceToNat] at ho131; rw [← Ny215.out] at ho131))
         have n0_ := Aside0.mk (Kd.R_lower ho131 (below_size bz))
         have n1_ := Aside0.mk (below_step bz hb)
         clear HB
         have HO217 := n0_
         have HB := n1_
         clear n0_ n1_
         clear hb ho131
         refine hK.out _ _ trivial (fun hHeld => ?_)
         clear hK K
         refine norm_ (a' := ?_) ?_ ?_
         rotate_left
         ·show Act.put _ (some 51) _ = _
          simp only [Act.put, List.setIfInBounds_toArray, List.set_cons_zero, List.set_cons_succ, i64_w, i32_w]
          rfl
         refine two_ (i := 4) (j := 6) (Ni := some 55) (Nj := some 57) #[true, true, true, true, true, true, false, false, true, true, true, false, false] #[true, true, true, true, false, true, true, false, true, true, true, false, false] rfl rfl rfl rfl (two_of HT_.out (by kernel_rfl)) (by decide) (by decide) (fun K hK => ?_) (fun K hK => ?_)
         ·skip
          refine Kd.R_append_rows_step (Kd.int .i32) (w0 := w) w.heap.size (by rfl) (.tmp 51) (.tmp 54) 27 21 (.int .i32 0) 4 rfl Try.underlying27 info21 rfl (by decide) (by omega) v216 y215 (l0.take (a1 : Int).toNat) _ _ _ (fun _ => True) (fun _ => False) rfl rfl ?aO ?aR (fun _ _ h => h) (fun _ h => h.elim) ?aF ?aB ?aS ?aL ?_
          (case aR => first | (have c_ := (Kd.C_below HR218.out HB.out); rw [tk_ (l := l0) (i := a1)] at c_; exact cz c_) | (exact cz (Kd.C_below HR218.out HB.out)))
          (case aB => exact bz)
          (case aF => exact (fun _ _ => trivial))
          (case aO => exact (rz HO217.out))
          (case aS => exact (below_size bz))
          (case aL => have := LMc22.out; have hlx_ := (tk_ (l := l0)); omega)
          intro v220 w132 ho hb hg hat
          rw [← Ny219.out] at ho
          have n0_ := Aside0.mk (hb)
          have n1_ := Aside0.mk (ho)
          clear HB
          clear HO217
          have HB := n0_
          have HO221 := n1_
          clear n0_ n1_
          clear ho hb hg hat
          refine hK.out _ _ trivial (fun hHeld => ?_)
          clear hK K
          refine norm_ (a' := ?_) ?_ ?_
          rotate_left
          ·show Act.put _ (some 55) _ = _
           simp only [Act.put, List.setIfInBounds_toArray, List.set_cons_zero, List.set_cons_succ, i64_w, i32_w]
           rfl
          refine one_ (i := 6) (N := some 57) #[true, true, true, true, true, true, true, false, true, true, true, false, false] rfl rfl (one_of HT_.out (by kernel_rfl)) (by decide) (fun K hK => ?_)
          refine Kd.R_lit_step (Kd.int .i32) _ 21 ?hg (N := 57) ?hd (xs := ([a2] : List Int)) (inner := [.int .i32 a2]) (ok := fun _ => True) (okp := fun _ => True) ?hr ?hp (fun _ hk => hk) trivial (Below.refl _ _) (Nat.le_refl _) (by simp) ?_; (case hd => rfl); (case hg => rfl); (case hr => first | (go_simp; done) | (go_simp; rfl)); (case hp => exact (Reps.one (show Kd.M (Kd.int .i32) _ _ _ a2 [.int .i32 a2] from rfl) (Reps.none _ _)))
          intro v223 w133 ho134 hb hg_ hnew_
          clear hg_ hnew_
          (first | rw [← Ny222.out] at ho134 | (simp only [Int.reduceToNat] at ho134; rw [← Ny222.out] at ho134))
          have n0_ := Aside0.mk (Kd.R_elder' (rz HO221.out) (Kd.R_base ho134) hb)
          have n1_ := Aside0.mk (Kd.R_lower (Kd.R_new' ho134 (Kd.R_lt (rz HO221.out))) (below_size bz))
          have n2_ := Aside0.mk (below_step bz hb)
          clear HO221
          clear HB
          have HO221 := n0_
          have HO224 := n1_
          have HB := n2_
          clear n0_ n1_ n2_
          clear hb ho134
          refine hK.out _ _ trivial (fun hHeld => ?_)
          clear hK K
          refine norm_ (a' := ?_) ?_ ?_
          rotate_left
          ·show Act.put _ (some 57) _ = _
           simp only [Act.put, List.setIfInBounds_toArray, List.set_cons_zero, List.set_cons_succ, i64_w, i32_w]
           rfl
          exact norm_ (by simp only [putAll, Act.put, List.setIfInBounds_toArray, List.set_cons_zero, List.set_cons_succ]) (hCont (v216, v220, v223) _ ⟨(by (with_reducible repeat (first | apply Kd.R_alloc | apply Kd.R_drewN | apply Kd.R_drew)); exact Kd.R_mono HO221.out (fun _ hk => hk.2)), (by (with_reducible repeat (first | apply Kd.R_alloc | apply Kd.R_drewN | apply Kd.R_drew)); exact Kd.R_mono HO224.out (fun _ hk => hk.2)), bz⟩)
         ·skip
          refine Kd.R_lit_step (Kd.int .i32) _ 21 ?hg (N := 57) ?hd (xs := ([a2] : List Int)) (inner := [.int .i32 a2]) (ok := fun _ => True) (okp := fun _ => True) ?hr ?hp (fun _ hk => hk) trivial (Below.refl _ _) (Nat.le_refl _) (by simp) ?_; (case hd => rfl); (case hg => rfl); (case hr => first | (go_simp; done) | (go_simp; rfl)); (case hp => exact (Reps.one (show Kd.M (Kd.int .i32) _ _ _ a2 [.int .i32 a2] from rfl) (Reps.none _ _)))
          intro v223 w132 ho133 hb hg_ hnew_
          clear hg_ hnew_
          (first | rw [← Ny222.out] at ho133 | (simp only [Int.reduceToNat] at ho133; rw [← Ny222.out] at ho133))
          have n0_ := Aside0.mk (Kd.R_elder' (rz HO217.out) (Kd.R_base ho133) hb)
          have n1_ := Aside0.mk (Kd.R_lower (Kd.R_new' ho133 (Kd.R_lt (rz HO217.out))) (below_size bz))
          have n2_ := Aside0.mk (below_step bz hb)
          clear HO217
          clear HB
          have HO217 := n0_
          have HO224 := n1_
          have HB := n2_
          clear n0_ n1_ n2_
          clear hb ho133
          refine hK.out _ _ trivial (fun hHeld => ?_)
          clear hK K
          refine norm_ (a' := ?_) ?_ ?_
          rotate_left
          ·show Act.put _ (some 57) _ = _
           simp only [Act.put, List.setIfInBounds_toArray, List.set_cons_zero, List.set_cons_succ, i64_w, i32_w]
           rfl
          refine one_ (i := 4) (N := some 55) #[true, true, true, true, true, true, true, false, true, true, true, false, false] rfl rfl (one_of HT_.out (by kernel_rfl)) (by decide) (fun K hK => ?_)
          refine Kd.R_append_rows_step (Kd.int .i32) (w0 := w) w.heap.size (by rfl) (.tmp 51) (.tmp 54) 27 21 (.int .i32 0) 4 rfl Try.underlying27 info21 rfl (by decide) (by omega) v216 y215 (l0.take (a1 : Int).toNat) _ _ _ (fun k_ => some k_ ≠ (v223 : Value).ownBlock) (fun _ => False) rfl rfl ?aO ?aR (fun _ _ h => h) (fun _ h => h.elim) ?aF ?aB ?aS ?aL ?_
          (case aR => first | (have c_ := (Kd.C_below HR218.out HB.out); rw [tk_ (l := l0) (i := a1)] at c_; exact cz c_) | (exact cz (Kd.C_below HR218.out HB.out)))
          (case aB => exact bz)
          (case aF => exact (fun k_ hk => Kd.fresh' (Kd.R_lt (rz HO224.out)) k_ hk))
          (case aO => exact (by (with_reducible repeat (first | apply Kd.R_alloc | apply Kd.R_drewN | apply Kd.R_drew)); exact Kd.R_mono HO217.out (fun _ hk => hk.2)))
          (case aS => exact (below_size bz))
          (case aL => have := LMc22.out; have hlx_ := (tk_ (l := l0)); omega)
          intro v220 w134 ho hb hg hat
          rw [← Ny219.out] at ho
          have n0_ := Aside0.mk (Kd.R_after (ok := (fun _ => True)) (rz HO224.out) hg hat)
          have n1_ := Aside0.mk (hb)
          have n2_ := Aside0.mk (ho)
          clear HO224
          clear HB
          clear HO217
          have HO224 := n0_
          have HB := n1_
          have HO221 := n2_
          clear n0_ n1_ n2_
          clear ho hb hg hat
          refine hK.out _ _ trivial (fun hHeld => ?_)
          clear hK K
          refine norm_ (a' := ?_) ?_ ?_
          rotate_left
          ·show Act.put _ (some 55) _ = _
           simp only [Act.put, List.setIfInBounds_toArray, List.set_cons_zero, List.set_cons_succ, i64_w, i32_w]
           rfl
          exact norm_ (by simp only [putAll, Act.put, List.setIfInBounds_toArray, List.set_cons_zero, List.set_cons_succ]) (hCont (v216, v220, v223) _ ⟨(rz HO221.out), (by (with_reducible repeat (first | apply Kd.R_alloc | apply Kd.R_drewN | apply Kd.R_drew)); exact Kd.R_mono HO224.out (fun _ hk => hk.2)), bz⟩)
        ·skip
         refine Kd.R_lit_step (Kd.int .i32) _ 21 ?hg (N := 57) ?hd (xs := ([a2] : List Int)) (inner := [.int .i32 a2]) (ok := fun _ => True) (okp := fun _ => True) ?hr ?hp (fun _ hk => hk) trivial (Below.refl _ _) (Nat.le_refl _) (by simp) ?_; (case hd => rfl); (case hg => rfl); (case hr => first | (go_simp; done) | (go_simp; rfl)); (case hp => exact (Reps.one (show Kd.M (Kd.int .i32) _ _ _ a2 [.int .i32 a2] from rfl) (Reps.none _ _)))
         intro v223 w130 ho131 hb hg_ hnew_
         clear hg_ hnew_
         (first | rw [← Ny222.out] at ho131 | (simp only [Int.reduceToNat] at ho131; rw [← Ny222.out] at ho131))
         have n0_ := Aside0.mk (Kd.R_lower ho131 (below_size bz))
         have n1_ := Aside0.mk (below_step bz hb)
         clear HB
         have HO224 := n0_
         have HB := n1_
         clear n0_ n1_
         clear hb ho131
         refine hK.out _ _ trivial (fun hHeld => ?_)
         clear hK K
         refine norm_ (a' := ?_) ?_ ?_
         rotate_left
         ·show Act.put _ (some 57) _ = _
          simp only [Act.put, List.setIfInBounds_toArray, List.set_cons_zero, List.set_cons_succ, i64_w, i32_w]
          rfl
         refine one_ (i := 0) (N := some 51) #[true, true, true, true, false, true, true, false, true, true, true, false, false] rfl rfl (one_of HT_.out (by kernel_rfl)) (by decide) (fun K hK => ?_)
         refine Kd.R_lit_step (Kd.int .i32) _ 21 ?hg (N := 51) ?hd (xs := ([] : List Int)) (inner := []) (ok := fun _ => True) (okp := fun _ => True) ?hr ?hp (fun _ hk => hk) trivial (Below.refl _ _) (Nat.le_refl _) (by simp) ?_; (case hd => rfl); (case hg => rfl); (case hr => first | (go_simp; done) | (go_simp; rfl)); (case hp => exact (Reps.none _ _))
         intro v216 w132 ho133 hb hg_ hnew_
         clear hg_ hnew_
         (first | rw [← Ny215.out] at ho133 | (simp only [Int.reduceToNat] at ho133; rw [← Ny215.out] at ho133))
         have n0_ := Aside0.mk (Kd.R_elder' (rz HO224.out) (Kd.R_base ho133) hb)
         have n1_ := Aside0.mk (Kd.R_lower (Kd.R_new' ho133 (Kd.R_lt (rz HO224.out))) (below_size bz))
         have n2_ := Aside0.mk (below_step bz hb)
         clear HO224
         clear HB
         have HO224 := n0_
         have HO217 := n1_
         have HB := n2_
         clear n0_ n1_ n2_
         clear hb ho133
         refine hK.out _ _ trivial (fun hHeld => ?_)
         clear hK K
         refine norm_ (a' := ?_) ?_ ?_
         rotate_left
         ·show Act.put _ (some 51) _ = _
          simp only [Act.put, List.setIfInBounds_toArray, List.set_cons_zero, List.set_cons_succ, i64_w, i32_w]
          rfl
         refine one_ (i := 4) (N := some 55) #[true, true, true, true, true, true, true, false, true, true, true, false, false] rfl rfl (one_of HT_.out (by kernel_rfl)) (by decide) (fun K hK => ?_)
         refine Kd.R_append_rows_step (Kd.int .i32) (w0 := w) w.heap.size (by rfl) (.tmp 51) (.tmp 54) 27 21 (.int .i32 0) 4 rfl Try.underlying27 info21 rfl (by decide) (by omega) v216 y215 (l0.take (a1 : Int).toNat) _ _ _ (fun k_ => some k_ ≠ (v223 : Value).ownBlock) (fun _ => False) rfl rfl ?aO ?aR (fun _ _ h => h) (fun _ h => h.elim) ?aF ?aB ?aS ?aL ?_
         (case aR => first | (have c_ := (Kd.C_below HR218.out HB.out); rw [tk_ (l := l0) (i := a1)] at c_; exact cz c_) | (exact cz (Kd.C_below HR218.out HB.out)))
         (case aB => exact bz)
         (case aF => exact (fun k_ hk => Kd.fresh' (Kd.R_lt (rz HO224.out)) k_ hk))
         (case aO => exact (by (with_reducible repeat (first | apply Kd.R_alloc | apply Kd.R_drewN | apply Kd.R_drew)); exact Kd.R_mono HO217.out (fun _ hk => hk.2)))
         (case aS => exact (below_size bz))
         (case aL => have := LMc22.out; have hlx_ := (tk_ (l := l0)); omega)
         intro v220 w134 ho hb hg hat
         rw [← Ny219.out] at ho
         have n0_ := Aside0.mk (Kd.R_after (ok := (fun _ => True)) (rz HO224.out) hg hat)
         have n1_ := Aside0.mk (hb)
         have n2_ := Aside0.mk (ho)
         clear HO224
         clear HB
         clear HO217
         have HO224 := n0_
         have HB := n1_
         have HO221 := n2_
         clear n0_ n1_ n2_
         clear ho hb hg hat
         refine hK.out _ _ trivial (fun hHeld => ?_)
         clear hK K
         refine norm_ (a' := ?_) ?_ ?_
         rotate_left
         ·show Act.put _ (some 55) _ = _
          simp only [Act.put, List.setIfInBounds_toArray, List.set_cons_zero, List.set_cons_succ, i64_w, i32_w]
          rfl
         exact norm_ (by simp only [putAll, Act.put, List.setIfInBounds_toArray, List.set_cons_zero, List.set_cons_succ]) (hCont (v216, v220, v223) _ ⟨(rz HO221.out), (by (with_reducible repeat (first | apply Kd.R_alloc | apply Kd.R_drewN | apply Kd.R_drew)); exact Kd.R_mono HO224.out (fun _ hk => hk.2)), bz⟩)
       rintro ⟨v216, v220, v223⟩ w135 ⟨h0_, h1_, h2_⟩
       have n0_ : Aside0 (Kd.R (Kd.int .i32) 21 w135 w.heap.size (fun k_ => some k_ ≠ (v223 : Value).ownBlock) v220 y219) := ⟨h0_⟩
       have n1_ : Aside0 (Kd.R (Kd.int .i32) 21 w135 w.heap.size (fun k_ => some k_ ≠ (v220 : Value).ownBlock) v223 y222) := ⟨h1_⟩
       have n2_ : Aside0 (Below w.heap.size w w135) := ⟨h2_⟩
       clear HB
       clear h0_ h1_ h2_
       have HO221 := n0_
       have HO224 := n1_
       have HB := n2_
       clear n0_ n1_ n2_
       have hHeld := trivial
       obtain ⟨Ao137, co137, eo137⟩ := Kd.R_slice HO224.out
       (first | subst eo137 | (injection eo137 with f1_ f2_ f3_; have f4_ := f1_.symm; have f5_ := f3_.symm; clear f1_ f2_ f3_; subst f4_; subst f5_))
       refine norm_ (a' := ?_) ?_ ?_
       rotate_left
       ·simp only [putAll, Act.put, List.setIfInBounds_toArray, List.set_cons_zero, List.set_cons_succ]
        rfl
       refine one_ (i := 7) (N := some 58) #[true, true, true, true, true, true, true, true, true, true, true, false, false] rfl rfl (one_of HT_.out (by kernel_rfl)) (by decide) (fun K hK => ?_)
       refine Kd.R_append_rows_step (Kd.int .i32) (w0 := w) w.heap.size (by rfl) (.tmp 55) (.tmp 57) 27 21 (.int .i32 0) 4 rfl Try.underlying27 info21 rfl (by decide) (by omega) v220 y219 y222 _ _ _ (fun k_ => some k_ ≠ (.slice Ao137 y222.length co137 : Value).ownBlock) (fun _ => False) rfl rfl ?aO ?aR (fun _ _ h => h) (fun _ h => h.elim) ?aF ?aB ?aS ?aL ?_
       (case aR => repeat (first | exact (Kd.R_reads' HO224.out).2.2 | (with_reducible refine Kd.C_alloc ?_ _) | (with_reducible refine Kd.C_drewN ?_ _) | (with_reducible refine Kd.C_drew ?_)))
       (case aB => exact bz)
       (case aF => exact (fun k_ hk => Kd.fresh' (Kd.R_lt (rz HO224.out)) k_ hk))
       (case aO => exact (rz HO221.out))
       (case aS => exact (below_size bz))
       (case aL => have := LMc23.out; omega)
       intro v226 w136 ho hb hg hat
       rw [← Ny225.out] at ho
       have n0_ := Aside0.mk (Kd.R_after (ok := (fun _ => True)) (by (with_reducible repeat (first | apply Kd.R_alloc | apply Kd.R_drewN | apply Kd.R_drew)); exact Kd.R_mono HO224.out (fun _ hk => ⟨trivial, hk⟩)) hg hat)
       have n1_ := Aside0.mk (hb)
       have n2_ := Aside0.mk (ho)
       clear HO224
       clear HB
       clear HO221
       have HO224 := n0_
       have HB := n1_
       have HO227 := n2_
       clear n0_ n1_ n2_
       clear ho hb hg hat
       refine hK.out _ _ trivial (fun hHeld => ?_)
       clear hK K
       refine norm_ (a' := ?_) ?_ ?_
       rotate_left
       ·show Act.put _ (some 58) _ = _
        simp only [Act.put, List.setIfInBounds_toArray, List.set_cons_zero, List.set_cons_succ, i64_w, i32_w]
        rfl
       refine one_ (i := 11) (N := some 62) #[true, true, true, true, true, true, true, true, true, true, true, true, false] rfl rfl (one_of HT_.out (by kernel_rfl)) (by decide) (fun K hK => ?_)
       refine Kd.R_append_rows_step (Kd.int .i32) (w0 := w) w.heap.size (by rfl) (.tmp 58) (.tmp 61) 27 21 (.int .i32 0) 4 rfl Try.underlying27 info21 rfl (by decide) (by omega) v226 y225 (l0.drop (a1 : Int).toNat) _ _ _ (fun k_ => some k_ ≠ (.slice Ao137 y222.length co137 : Value).ownBlock) (fun _ => False) rfl rfl ?aO ?aR (fun _ _ h => h) (fun _ h => h.elim) ?aF ?aB ?aS ?aL ?_
       (case aR => first | (rw [← show (l0.drop (a1 : Int).toNat).length = (l0.length - a1.toNat) from List.length_drop]; exact cz (Kd.C_below HR228.out HB.out)) | (exact cz (Kd.C_below HR228.out HB.out)))
       (case aB => exact bz)
       (case aF => exact (fun k_ hk => Kd.fresh' (Kd.R_lt (rz HO224.out)) k_ hk))
       (case aO => exact (rz HO227.out))
       (case aS => exact (below_size bz))
       (case aL => have := LMc26.out; have hlx_ := (show (l0.drop (a1 : Int).toNat).length = (l0.length - a1.toNat) from List.length_drop); omega)
       intro v230 w138 ho hb hg hat
       rw [← Ny229.out] at ho
       have n0_ := Aside0.mk (Kd.R_after (ok := (fun _ => True)) (rz HO224.out) hg hat)
       have n1_ := Aside0.mk (hb)
       have n2_ := Aside0.mk (ho)
       clear HO224
       clear HB
       clear HO227
       have HO224 := n0_
       have HB := n1_
       have HO231 := n2_
       clear n0_ n1_ n2_
       clear ho hb hg hat
       refine hK.out _ _ trivial (fun hHeld => ?_)
       clear hK K
       refine norm_ (a' := ?_) ?_ ?_
       rotate_left
       ·show Act.put _ (some 62) _ = _
        simp only [Act.put, List.setIfInBounds_toArray, List.set_cons_zero, List.set_cons_succ, i64_w, i32_w]
        rfl
       refine pure_ (i := 12) (N := some 10) (v := ?_) (a' := ?_) #[true, true, true, true, true, true, true, true, true, true, true, true, true] rfl rfl (any_of HT_.out (by kernel_rfl)) (fun _ _ _ h => h) (Or.inl ⟨by rfl, ?_⟩) ?_ ?_
       rotate_left
       ·intro w'
        go_simp
        with_reducible rfl
       rotate_left
       ·simp only [Act.put, List.setIfInBounds_toArray, List.set_cons_zero, List.set_cons_succ, i64_w, i32_w]
        rfl
       refine done_ (done_of HT_.out (by kernel_rfl)) ?_
       try go_wp2
       go_ret
       exact ⟨by first | rfl | (simp [errW_none, errW_some] <;> rfl) | (simp [*, errW_none, errW_some] <;> rfl), bz⟩
      subst c112
      have H1 : ((class_Turns.f kj12 y229).bind fun t235 => (some (t235 == (!(decide (a2 ≤ 8238)))))) = some r := by rw [if_pos rfl] at H; exact H
      clear H
      have H := H1
      clear H1
      replace H := Option.bind_eq_some_iff.mp H
      obtain ⟨t235, A1130, H⟩ := H
      replace H : (some (t235 == (!(decide (a2 ≤ 8238))))) = some r := H
      have A113 := Aside0.mk A1130
      clear A1130
      obtain rfl := Option.some.inj H
      try go_wp2
      have n0_ := Aside0.mk (below_drew1 HB.out)
      clear HB
      have HB := n0_
      clear n0_
      obtain ⟨i0115, hi0115, _, hsz115, _⟩ := info_parts info21
      obtain ⟨hcut115, hA115, hC115⟩ := print_take_of (P := Try.prog) (Value.int .i32) 0 27 21 .i64 Try.underlying27 hi0115 hsz115 A0 c0 l0 a1 (of_decide_eq_true (by first | (with_reducible assumption) | assumption)) (of_decide_eq_true (by first | (with_reducible assumption) | assumption)) HC0.out
      have HR218 := Aside0.mk (Kd.C_of_reads (h1 := fun _ => rfl) (hA115 _ (Kd.reads_of_C HR0.out)))
      have HC218 := Aside0.mk hC115
      clear hA115 hC115 hi0115 hsz115
      obtain ⟨i0116, hi0116, _, hsz116, _⟩ := info_parts info21
      obtain ⟨A116, hcut116, hA116, hC116⟩ := print_drop_of (P := Try.prog) (Value.int .i32) 0 27 21 .i64 Try.underlying27 hi0116 hsz116 A0 c0 l0 a1 (of_decide_eq_true (by first | (with_reducible assumption) | assumption)) (of_decide_eq_true (by first | (with_reducible assumption) | assumption)) HC0.out
      have HR228 := Aside0.mk (Kd.C_of_reads (h1 := fun _ => rfl) (hA116 _ (Kd.reads_of_C HR0.out)))
      have HC228 := Aside0.mk hC116
      clear hA116 hC116 hi0116 hsz116
      refine start_ (n := 13) (S := fun w' => True) (ds := []) #[false, false, false, false, false, false, false, false, false, false, false, false, false] (by kernel_rfl) rfl rfl trivial (fun hHeld => ?_); refine with_tabW exerguelaw02_ClassTurns.tab13 exerguelaw02_ClassTurns.bits13 (fun HT_ HW_ => ?_)
      generalize wc.drew = w114 at HB HR218 HR228 hHeld ⊢
      refine pure_ (i := 1) (N := some 52) (v := ?_) (a' := ?_) #[false, true, false, false, false, false, false, false, false, false, false, false, false] rfl rfl (any_of HT_.out (by kernel_rfl)) (fun _ _ _ h => h) (Or.inl ⟨by rfl, ?_⟩) ?_ ?_
      rotate_left
      ·intro w'
       go_simp
       with_reducible rfl
      rotate_left
      ·simp only [Act.put, List.setIfInBounds_toArray, List.set_cons_zero, List.set_cons_succ, i64_w, i32_w]
       rfl
      refine pure_ (i := 2) (N := some 53) (v := ?_) (a' := ?_) #[false, true, true, false, false, false, false, false, false, false, false, false, false] rfl rfl (any_of HT_.out (by kernel_rfl)) (fun _ _ _ h => h) (Or.inl ⟨by rfl, ?_⟩) ?_ ?_
      rotate_left
      ·intro w'
       go_simp
       with_reducible rfl
      rotate_left
      ·simp only [Act.put, List.setIfInBounds_toArray, List.set_cons_zero, List.set_cons_succ, i64_w, i32_w]
       rfl
      refine pure_ (i := 3) (N := some 54) (v := ?_) (a' := ?_) #[false, true, true, true, false, false, false, false, false, false, false, false, false] rfl rfl (any_of HT_.out (by kernel_rfl)) (fun _ _ _ h => h) (Or.inl ⟨by rfl, ?_⟩) ?_ ?_
      rotate_left
      ·intro w'
       go_simp
       with_reducible rfl
      rotate_left
      ·simp only [Act.put, List.setIfInBounds_toArray, List.set_cons_zero, List.set_cons_succ, i64_w, i32_w]
       rfl
      refine pure_ (i := 5) (N := some 56) (v := ?_) (a' := ?_) #[false, true, true, true, false, true, false, false, false, false, false, false, false] rfl rfl (any_of HT_.out (by kernel_rfl)) (fun _ _ _ h => h) (Or.inl ⟨by rfl, ?_⟩) ?_ ?_
      rotate_left
      ·intro w'
       go_simp
       with_reducible rfl
      rotate_left
      ·simp only [Act.put, List.setIfInBounds_toArray, List.set_cons_zero, List.set_cons_succ, i64_w, i32_w]
       rfl
      refine pure_ (i := 8) (N := some 59) (v := ?_) (a' := ?_) #[false, true, true, true, false, true, false, false, true, false, false, false, false] rfl rfl (any_of HT_.out (by kernel_rfl)) (fun _ _ _ h => h) (Or.inl ⟨by rfl, ?_⟩) ?_ ?_
      rotate_left
      ·intro w'
       go_simp
       with_reducible rfl
      rotate_left
      ·simp only [Act.put, List.setIfInBounds_toArray, List.set_cons_zero, List.set_cons_succ, i64_w, i32_w]
       rfl
      refine pure_ (i := 9) (N := some 60) (v := ?_) (a' := ?_) #[false, true, true, true, false, true, false, false, true, true, false, false, false] rfl rfl (any_of HT_.out (by kernel_rfl)) (fun _ _ _ h => h) (Or.inl ⟨by rfl, ?_⟩) ?_ ?_
      rotate_left
      ·intro w'
       go_simp
       with_reducible rfl
      rotate_left
      ·simp only [Act.put, List.setIfInBounds_toArray, List.set_cons_zero, List.set_cons_succ, i64_w, i32_w]
       rfl
      refine pure_ (i := 10) (N := some 61) (v := ?_) (a' := ?_) #[false, true, true, true, false, true, false, false, true, true, true, false, false] rfl rfl (any_of HT_.out (by kernel_rfl)) (fun _ _ _ h => h) (Or.inl ⟨by rfl, ?_⟩) ?_ ?_
      rotate_left
      ·intro w'
       go_simp
       with_reducible rfl
      rotate_left
      ·simp only [Act.put, List.setIfInBounds_toArray, List.set_cons_zero, List.set_cons_succ, i64_w, i32_w]
       rfl
      refine join_ (σ := Value × Value × Value) 3 #[true, true, true, true, true, true, true, false, true, true, true, false, false] (fun s_ => [(51, s_.1), (55, s_.2.1), (57, s_.2.2)]) (fun s_ w' => (Kd.R (Kd.int .i32) 21 w' w.heap.size (fun k_ => some k_ ≠ (s_.2.2 : Value).ownBlock) s_.2.1 y219) ∧ (Kd.R (Kd.int .i32) 21 w' w.heap.size (fun k_ => some k_ ≠ (s_.2.1 : Value).ownBlock) s_.2.2 y222) ∧ (Below w.heap.size w w')) ?_ ?_
      rotate_left
      ·intro hCont
       refine two_ (i := 0) (j := 6) (Ni := some 51) (Nj := some 57) #[true, true, true, true, false, true, false, false, true, true, true, false, false] #[false, true, true, true, false, true, true, false, true, true, true, false, false] rfl rfl rfl rfl (two_of HT_.out (by kernel_rfl)) (by decide) (by decide) (fun K hK => ?_) (fun K hK => ?_)
       ·skip
        refine Kd.R_lit_step (Kd.int .i32) _ 21 ?hg (N := 51) ?hd (xs := ([] : List Int)) (inner := []) (ok := fun _ => True) (okp := fun _ => True) ?hr ?hp (fun _ hk => hk) trivial (Below.refl _ _) (Nat.le_refl _) (by simp) ?_; (case hd => rfl); (case hg => rfl); (case hr => first | (go_simp; done) | (go_simp; rfl)); (case hp => exact (Reps.none _ _))
        intro v216 w117 ho118 hb hg_ hnew_
        clear hg_ hnew_
        (first | rw [← Ny215.out] at ho118 | (simp only [Int.reduceToNat] at ho118; rw [← Ny215.out] at ho118))
        have n0_ := Aside0.mk (Kd.R_lower ho118 (below_size bz))
        have n1_ := Aside0.mk (below_step bz hb)
        clear HB
        have HO217 := n0_
        have HB := n1_
        clear n0_ n1_
        clear hb ho118
        refine hK.out _ _ trivial (fun hHeld => ?_)
        clear hK K
        refine norm_ (a' := ?_) ?_ ?_
        rotate_left
        ·show Act.put _ (some 51) _ = _
         simp only [Act.put, List.setIfInBounds_toArray, List.set_cons_zero, List.set_cons_succ, i64_w, i32_w]
         rfl
        refine two_ (i := 4) (j := 6) (Ni := some 55) (Nj := some 57) #[true, true, true, true, true, true, false, false, true, true, true, false, false] #[true, true, true, true, false, true, true, false, true, true, true, false, false] rfl rfl rfl rfl (two_of HT_.out (by kernel_rfl)) (by decide) (by decide) (fun K hK => ?_) (fun K hK => ?_)
        ·skip
         refine Kd.R_append_rows_step (Kd.int .i32) (w0 := w) w.heap.size (by rfl) (.tmp 51) (.tmp 54) 27 21 (.int .i32 0) 4 rfl Try.underlying27 info21 rfl (by decide) (by omega) v216 y215 (l0.take (a1 : Int).toNat) _ _ _ (fun _ => True) (fun _ => False) rfl rfl ?aO ?aR (fun _ _ h => h) (fun _ h => h.elim) ?aF ?aB ?aS ?aL ?_
         (case aR => first | (have c_ := (Kd.C_below HR218.out HB.out); rw [tk_ (l := l0) (i := a1)] at c_; exact cz c_) | (exact cz (Kd.C_below HR218.out HB.out)))
         (case aB => exact bz)
         (case aF => exact (fun _ _ => trivial))
         (case aO => exact (rz HO217.out))
         (case aS => exact (below_size bz))
         (case aL => have := LMc22.out; have hlx_ := (tk_ (l := l0)); omega)
         intro v220 w119 ho hb hg hat
         rw [← Ny219.out] at ho
         have n0_ := Aside0.mk (hb)
         have n1_ := Aside0.mk (ho)
         clear HB
         clear HO217
         have HB := n0_
         have HO221 := n1_
         clear n0_ n1_
         clear ho hb hg hat
         refine hK.out _ _ trivial (fun hHeld => ?_)
         clear hK K
         refine norm_ (a' := ?_) ?_ ?_
         rotate_left
         ·show Act.put _ (some 55) _ = _
          simp only [Act.put, List.setIfInBounds_toArray, List.set_cons_zero, List.set_cons_succ, i64_w, i32_w]
          rfl
         refine one_ (i := 6) (N := some 57) #[true, true, true, true, true, true, true, false, true, true, true, false, false] rfl rfl (one_of HT_.out (by kernel_rfl)) (by decide) (fun K hK => ?_)
         refine Kd.R_lit_step (Kd.int .i32) _ 21 ?hg (N := 57) ?hd (xs := ([a2] : List Int)) (inner := [.int .i32 a2]) (ok := fun _ => True) (okp := fun _ => True) ?hr ?hp (fun _ hk => hk) trivial (Below.refl _ _) (Nat.le_refl _) (by simp) ?_; (case hd => rfl); (case hg => rfl); (case hr => first | (go_simp; done) | (go_simp; rfl)); (case hp => exact (Reps.one (show Kd.M (Kd.int .i32) _ _ _ a2 [.int .i32 a2] from rfl) (Reps.none _ _)))
         intro v223 w120 ho121 hb hg_ hnew_
         clear hg_ hnew_
         (first | rw [← Ny222.out] at ho121 | (simp only [Int.reduceToNat] at ho121; rw [← Ny222.out] at ho121))
         have n0_ := Aside0.mk (Kd.R_elder' (rz HO221.out) (Kd.R_base ho121) hb)
         have n1_ := Aside0.mk (Kd.R_lower (Kd.R_new' ho121 (Kd.R_lt (rz HO221.out))) (below_size bz))
         have n2_ := Aside0.mk (below_step bz hb)
         clear HO221
         clear HB
         have HO221 := n0_
         have HO224 := n1_
         have HB := n2_
         clear n0_ n1_ n2_
         clear hb ho121
         refine hK.out _ _ trivial (fun hHeld => ?_)
         clear hK K
         refine norm_ (a' := ?_) ?_ ?_
         rotate_left
         ·show Act.put _ (some 57) _ = _
          simp only [Act.put, List.setIfInBounds_toArray, List.set_cons_zero, List.set_cons_succ, i64_w, i32_w]
          rfl
         exact norm_ (by simp only [putAll, Act.put, List.setIfInBounds_toArray, List.set_cons_zero, List.set_cons_succ]) (hCont (v216, v220, v223) _ ⟨(by (with_reducible repeat (first | apply Kd.R_alloc | apply Kd.R_drewN | apply Kd.R_drew)); exact Kd.R_mono HO221.out (fun _ hk => hk.2)), (by (with_reducible repeat (first | apply Kd.R_alloc | apply Kd.R_drewN | apply Kd.R_drew)); exact Kd.R_mono HO224.out (fun _ hk => hk.2)), bz⟩)
        ·skip
         refine Kd.R_lit_step (Kd.int .i32) _ 21 ?hg (N := 57) ?hd (xs := ([a2] : List Int)) (inner := [.int .i32 a2]) (ok := fun _ => True) (okp := fun _ => True) ?hr ?hp (fun _ hk => hk) trivial (Below.refl _ _) (Nat.le_refl _) (by simp) ?_; (case hd => rfl); (case hg => rfl); (case hr => first | (go_simp; done) | (go_simp; rfl)); (case hp => exact (Reps.one (show Kd.M (Kd.int .i32) _ _ _ a2 [.int .i32 a2] from rfl) (Reps.none _ _)))
         intro v223 w119 ho120 hb hg_ hnew_
         clear hg_ hnew_
         (first | rw [← Ny222.out] at ho120 | (simp only [Int.reduceToNat] at ho120; rw [← Ny222.out] at ho120))
         have n0_ := Aside0.mk (Kd.R_elder' (rz HO217.out) (Kd.R_base ho120) hb)
         have n1_ := Aside0.mk (Kd.R_lower (Kd.R_new' ho120 (Kd.R_lt (rz HO217.out))) (below_size bz))
         have n2_ := Aside0.mk (below_step bz hb)
         clear HO217
         clear HB
         have HO217 := n0_
         have HO224 := n1_
         have HB := n2_
         clear n0_ n1_ n2_
         clear hb ho120
         refine hK.out _ _ trivial (fun hHeld => ?_)
         clear hK K
         refine norm_ (a' := ?_) ?_ ?_
         rotate_left
         ·show Act.put _ (some 57) _ = _
          simp only [Act.put, List.setIfInBounds_toArray, List.set_cons_zero, List.set_cons_succ, i64_w, i32_w]
          rfl
         refine one_ (i := 4) (N := some 55) #[true, true, true, true, true, true, true, false, true, true, true, false, false] rfl rfl (one_of HT_.out (by kernel_rfl)) (by decide) (fun K hK => ?_)
         refine Kd.R_append_rows_step (Kd.int .i32) (w0 := w) w.heap.size (by rfl) (.tmp 51) (.tmp 54) 27 21 (.int .i32 0) 4 rfl Try.underlying27 info21 rfl (by decide) (by omega) v216 y215 (l0.take (a1 : Int).toNat) _ _ _ (fun k_ => some k_ ≠ (v223 : Value).ownBlock) (fun _ => False) rfl rfl ?aO ?aR (fun _ _ h => h) (fun _ h => h.elim) ?aF ?aB ?aS ?aL ?_
         (case aR => first | (have c_ := (Kd.C_below HR218.out HB.out); rw [tk_ (l := l0) (i := a1)] at c_; exact cz c_) | (exact cz (Kd.C_below HR218.out HB.out)))
         (case aB => exact bz)
         (case aF => exact (fun k_ hk => Kd.fresh' (Kd.R_lt (rz HO224.out)) k_ hk))
         (case aO => exact (by (with_reducible repeat (first | apply Kd.R_alloc | apply Kd.R_drewN | apply Kd.R_drew)); exact Kd.R_mono HO217.out (fun _ hk => hk.2)))
         (case aS => exact (below_size bz))
         (case aL => have := LMc22.out; have hlx_ := (tk_ (l := l0)); omega)
         intro v220 w121 ho hb hg hat
         rw [← Ny219.out] at ho
         have n0_ := Aside0.mk (Kd.R_after (ok := (fun _ => True)) (rz HO224.out) hg hat)
         have n1_ := Aside0.mk (hb)
         have n2_ := Aside0.mk (ho)
         clear HO224
         clear HB
         clear HO217
         have HO224 := n0_
         have HB := n1_
         have HO221 := n2_
         clear n0_ n1_ n2_
         clear ho hb hg hat
         refine hK.out _ _ trivial (fun hHeld => ?_)
         clear hK K
         refine norm_ (a' := ?_) ?_ ?_
         rotate_left
         ·show Act.put _ (some 55) _ = _
          simp only [Act.put, List.setIfInBounds_toArray, List.set_cons_zero, List.set_cons_succ, i64_w, i32_w]
          rfl
         exact norm_ (by simp only [putAll, Act.put, List.setIfInBounds_toArray, List.set_cons_zero, List.set_cons_succ]) (hCont (v216, v220, v223) _ ⟨(rz HO221.out), (by (with_reducible repeat (first | apply Kd.R_alloc | apply Kd.R_drewN | apply Kd.R_drew)); exact Kd.R_mono HO224.out (fun _ hk => hk.2)), bz⟩)
       ·skip
        refine Kd.R_lit_step (Kd.int .i32) _ 21 ?hg (N := 57) ?hd (xs := ([a2] : List Int)) (inner := [.int .i32 a2]) (ok := fun _ => True) (okp := fun _ => True) ?hr ?hp (fun _ hk => hk) trivial (Below.refl _ _) (Nat.le_refl _) (by simp) ?_; (case hd => rfl); (case hg => rfl); (case hr => first | (go_simp; done) | (go_simp; rfl)); (case hp => exact (Reps.one (show Kd.M (Kd.int .i32) _ _ _ a2 [.int .i32 a2] from rfl) (Reps.none _ _)))
        intro v223 w117 ho118 hb hg_ hnew_
        clear hg_ hnew_
        (first | rw [← Ny222.out] at ho118 | (simp only [Int.reduceToNat] at ho118; rw [← Ny222.out] at ho118))
        have n0_ := Aside0.mk (Kd.R_lower ho118 (below_size bz))
        have n1_ := Aside0.mk (below_step bz hb)
        clear HB
        have HO224 := n0_
        have HB := n1_
        clear n0_ n1_
        clear hb ho118
        refine hK.out _ _ trivial (fun hHeld => ?_)
        clear hK K
        refine norm_ (a' := ?_) ?_ ?_
        rotate_left
        ·show Act.put _ (some 57) _ = _
         simp only [Act.put, List.setIfInBounds_toArray, List.set_cons_zero, List.set_cons_succ, i64_w, i32_w]
         rfl
        refine one_ (i := 0) (N := some 51) #[true, true, true, true, false, true, true, false, true, true, true, false, false] rfl rfl (one_of HT_.out (by kernel_rfl)) (by decide) (fun K hK => ?_)
        refine Kd.R_lit_step (Kd.int .i32) _ 21 ?hg (N := 51) ?hd (xs := ([] : List Int)) (inner := []) (ok := fun _ => True) (okp := fun _ => True) ?hr ?hp (fun _ hk => hk) trivial (Below.refl _ _) (Nat.le_refl _) (by simp) ?_; (case hd => rfl); (case hg => rfl); (case hr => first | (go_simp; done) | (go_simp; rfl)); (case hp => exact (Reps.none _ _))
        intro v216 w119 ho120 hb hg_ hnew_
        clear hg_ hnew_
        (first | rw [← Ny215.out] at ho120 | (simp only [Int.reduceToNat] at ho120; rw [← Ny215.out] at ho120))
        have n0_ := Aside0.mk (Kd.R_elder' (rz HO224.out) (Kd.R_base ho120) hb)
        have n1_ := Aside0.mk (Kd.R_lower (Kd.R_new' ho120 (Kd.R_lt (rz HO224.out))) (below_size bz))
        have n2_ := Aside0.mk (below_step bz hb)
        clear HO224
        clear HB
        have HO224 := n0_
        have HO217 := n1_
        have HB := n2_
        clear n0_ n1_ n2_
        clear hb ho120
        refine hK.out _ _ trivial (fun hHeld => ?_)
        clear hK K
        refine norm_ (a' := ?_) ?_ ?_
        rotate_left
        ·show Act.put _ (some 51) _ = _
         simp only [Act.put, List.setIfInBounds_toArray, List.set_cons_zero, List.set_cons_succ, i64_w, i32_w]
         rfl
        refine one_ (i := 4) (N := some 55) #[true, true, true, true, true, true, true, false, true, true, true, false, false] rfl rfl (one_of HT_.out (by kernel_rfl)) (by decide) (fun K hK => ?_)
        refine Kd.R_append_rows_step (Kd.int .i32) (w0 := w) w.heap.size (by rfl) (.tmp 51) (.tmp 54) 27 21 (.int .i32 0) 4 rfl Try.underlying27 info21 rfl (by decide) (by omega) v216 y215 (l0.take (a1 : Int).toNat) _ _ _ (fun k_ => some k_ ≠ (v223 : Value).ownBlock) (fun _ => False) rfl rfl ?aO ?aR (fun _ _ h => h) (fun _ h => h.elim) ?aF ?aB ?aS ?aL ?_
        (case aR => first | (have c_ := (Kd.C_below HR218.out HB.out); rw [tk_ (l := l0) (i := a1)] at c_; exact cz c_) | (exact cz (Kd.C_below HR218.out HB.out)))
        (case aB => exact bz)
        (case aF => exact (fun k_ hk => Kd.fresh' (Kd.R_lt (rz HO224.out)) k_ hk))
        (case aO => exact (by (with_reducible repeat (first | apply Kd.R_alloc | apply Kd.R_drewN | apply Kd.R_drew)); exact Kd.R_mono HO217.out (fun _ hk => hk.2)))
        (case aS => exact (below_size bz))
        (case aL => have := LMc22.out; have hlx_ := (tk_ (l := l0)); omega)
        intro v220 w121 ho hb hg hat
        rw [← Ny219.out] at ho
        have n0_ := Aside0.mk (Kd.R_after (ok := (fun _ => True)) (rz HO224.out) hg hat)
        have n1_ := Aside0.mk (hb)
        have n2_ := Aside0.mk (ho)
        clear HO224
        clear HB
        clear HO217
        have HO224 := n0_
        have HB := n1_
        have HO221 := n2_
        clear n0_ n1_ n2_
        clear ho hb hg hat
        refine hK.out _ _ trivial (fun hHeld => ?_)
        clear hK K
        refine norm_ (a' := ?_) ?_ ?_
        rotate_left
        ·show Act.put _ (some 55) _ = _
         simp only [Act.put, List.setIfInBounds_toArray, List.set_cons_zero, List.set_cons_succ, i64_w, i32_w]
         rfl
        exact norm_ (by simp only [putAll, Act.put, List.setIfInBounds_toArray, List.set_cons_zero, List.set_cons_succ]) (hCont (v216, v220, v223) _ ⟨(rz HO221.out), (by (with_reducible repeat (first | apply Kd.R_alloc | apply Kd.R_drewN | apply Kd.R_drew)); exact Kd.R_mono HO224.out (fun _ hk => hk.2)), bz⟩)
      rintro ⟨v216, v220, v223⟩ w122 ⟨h0_, h1_, h2_⟩
      have n0_ : Aside0 (Kd.R (Kd.int .i32) 21 w122 w.heap.size (fun k_ => some k_ ≠ (v223 : Value).ownBlock) v220 y219) := ⟨h0_⟩
      have n1_ : Aside0 (Kd.R (Kd.int .i32) 21 w122 w.heap.size (fun k_ => some k_ ≠ (v220 : Value).ownBlock) v223 y222) := ⟨h1_⟩
      have n2_ : Aside0 (Below w.heap.size w w122) := ⟨h2_⟩
      clear HB
      clear h0_ h1_ h2_
      have HO221 := n0_
      have HO224 := n1_
      have HB := n2_
      clear n0_ n1_ n2_
      have hHeld := trivial
      obtain ⟨Ao124, co124, eo124⟩ := Kd.R_slice HO224.out
      (first | subst eo124 | (injection eo124 with f1_ f2_ f3_; have f4_ := f1_.symm; have f5_ := f3_.symm; clear f1_ f2_ f3_; subst f4_; subst f5_))
      refine norm_ (a' := ?_) ?_ ?_
      rotate_left
      ·simp only [putAll, Act.put, List.setIfInBounds_toArray, List.set_cons_zero, List.set_cons_succ]
       rfl
      refine one_ (i := 7) (N := some 58) #[true, true, true, true, true, true, true, true, true, true, true, false, false] rfl rfl (one_of HT_.out (by kernel_rfl)) (by decide) (fun K hK => ?_)
      refine Kd.R_append_rows_step (Kd.int .i32) (w0 := w) w.heap.size (by rfl) (.tmp 55) (.tmp 57) 27 21 (.int .i32 0) 4 rfl Try.underlying27 info21 rfl (by decide) (by omega) v220 y219 y222 _ _ _ (fun k_ => some k_ ≠ (.slice Ao124 y222.length co124 : Value).ownBlock) (fun _ => False) rfl rfl ?aO ?aR (fun _ _ h => h) (fun _ h => h.elim) ?aF ?aB ?aS ?aL ?_
      (case aR => repeat (first | exact (Kd.R_reads' HO224.out).2.2 | (with_reducible refine Kd.C_alloc ?_ _) | (with_reducible refine Kd.C_drewN ?_ _) | (with_reducible refine Kd.C_drew ?_)))
      (case aB => exact bz)
      (case aF => exact (fun k_ hk => Kd.fresh' (Kd.R_lt (rz HO224.out)) k_ hk))
      (case aO => exact (rz HO221.out))
      (case aS => exact (below_size bz))
      (case aL => have := LMc23.out; omega)
      intro v226 w123 ho hb hg hat
      rw [← Ny225.out] at ho
      have n0_ := Aside0.mk (Kd.R_after (ok := (fun _ => True)) (by (with_reducible repeat (first | apply Kd.R_alloc | apply Kd.R_drewN | apply Kd.R_drew)); exact Kd.R_mono HO224.out (fun _ hk => ⟨trivial, hk⟩)) hg hat)
      have n1_ := Aside0.mk (hb)
      have n2_ := Aside0.mk (ho)
      clear HO224
      clear HB
      clear HO221
      have HO224 := n0_
      have HB := n1_
      have HO227 := n2_
      clear n0_ n1_ n2_
      clear ho hb hg hat
      refine hK.out _ _ trivial (fun hHeld => ?_)
      clear hK K
      refine norm_ (a' := ?_) ?_ ?_
      rotate_left
      ·show Act.put _ (some 58) _ = _
       simp only [Act.put, List.setIfInBounds_toArray, List.set_cons_zero, List.set_cons_succ, i64_w, i32_w]
       rfl
      refine one_ (i := 11) (N := some 62) #[true, true, true, true, true, true, true, true, true, true, true, true, false] rfl rfl (one_of HT_.out (by kernel_rfl)) (by decide) (fun K hK => ?_)
      refine Kd.R_append_rows_step (Kd.int .i32) (w0 := w) w.heap.size (by rfl) (.tmp 58) (.tmp 61) 27 21 (.int .i32 0) 4 rfl Try.underlying27 info21 rfl (by decide) (by omega) v226 y225 (l0.drop (a1 : Int).toNat) _ _ _ (fun k_ => some k_ ≠ (.slice Ao124 y222.length co124 : Value).ownBlock) (fun _ => False) rfl rfl ?aO ?aR (fun _ _ h => h) (fun _ h => h.elim) ?aF ?aB ?aS ?aL ?_
      (case aR => first | (rw [← show (l0.drop (a1 : Int).toNat).length = (l0.length - a1.toNat) from List.length_drop]; exact cz (Kd.C_below HR228.out HB.out)) | (exact cz (Kd.C_below HR228.out HB.out)))
      (case aB => exact bz)
      (case aF => exact (fun k_ hk => Kd.fresh' (Kd.R_lt (rz HO224.out)) k_ hk))
      (case aO => exact (rz HO227.out))
      (case aS => exact (below_size bz))
      (case aL => have := LMc26.out; have hlx_ := (show (l0.drop (a1 : Int).toNat).length = (l0.length - a1.toNat) from List.length_drop); omega)
      intro v230 w125 ho hb hg hat
      rw [← Ny229.out] at ho
      have n0_ := Aside0.mk (Kd.R_after (ok := (fun _ => True)) (rz HO224.out) hg hat)
      have n1_ := Aside0.mk (hb)
      have n2_ := Aside0.mk (ho)
      clear HO224
      clear HB
      clear HO227
      have HO224 := n0_
      have HB := n1_
      have HO231 := n2_
      clear n0_ n1_ n2_
      clear ho hb hg hat
      refine hK.out _ _ trivial (fun hHeld => ?_)
      clear hK K
      refine norm_ (a' := ?_) ?_ ?_
      rotate_left
      ·show Act.put _ (some 62) _ = _
       simp only [Act.put, List.setIfInBounds_toArray, List.set_cons_zero, List.set_cons_succ, i64_w, i32_w]
       rfl
      refine pure_ (i := 12) (N := some 10) (v := ?_) (a' := ?_) #[true, true, true, true, true, true, true, true, true, true, true, true, true] rfl rfl (any_of HT_.out (by kernel_rfl)) (fun _ _ _ h => h) (Or.inl ⟨by rfl, ?_⟩) ?_ ?_
      rotate_left
      ·intro w'
       go_simp
       with_reducible rfl
      rotate_left
      ·simp only [Act.put, List.setIfInBounds_toArray, List.set_cons_zero, List.set_cons_succ, i64_w, i32_w]
       rfl
      refine done_ (done_of HT_.out (by kernel_rfl)) ?_
      obtain ⟨Ao126, co126, eo126⟩ := Kd.R_slice HO231.out
      subst eo126
      try go_wp2_with (first | (go_at_call 18; (with_reducible refine (class_Turns.calls kj12 _ _ y229 t235 _ ?side1 ?side2 A113.out).mono ?_); (case side1 => repeat (first | exact (Kd.R_reads' HO231.out).2.2 | (with_reducible refine Kd.C_alloc ?_ _) | (with_reducible refine Kd.C_drewN ?_ _) | (with_reducible refine Kd.C_drew ?_))); (case side2 => exact (Kd.R_reads' HO231.out).2.1); rintro e w' ⟨rfl, ⟨nd, rfl⟩⟩))
      go_ret
      exact ⟨by first | rfl | (simp [errW_none, errW_some] <;> rfl) | (simp [*, errW_none, errW_some] <;> rfl), bz⟩
     rw [if_pos c27] at H
     have c27b0 : decide (8294 ≤ a2) = true := decide_eq_true c27
     clear c27
     by_cases c28 : a2 ≤ 8297
     ·rw [if_pos c28] at H
      have c28b0 : decide (a2 ≤ 8297) = true := decide_eq_true c28
      clear c28
      by_cases c29 : t211 = true
      rotate_left
      ·replace c29 := Bool.eq_false_iff.mpr c29
       subst c29
       have H1 : (some false) = some r := by rw [if_neg (show ¬ (false = true) by decide)] at H; exact H
       clear H
       have H := H1
       clear H1
       obtain rfl := Option.some.inj H
       try go_wp2
       have n0_ := Aside0.mk (below_drew1 HB.out)
       clear HB
       have HB := n0_
       clear n0_
       obtain ⟨i045, hi045, _, hsz45, _⟩ := info_parts info21
       obtain ⟨hcut45, hA45, hC45⟩ := print_take_of (P := Try.prog) (Value.int .i32) 0 27 21 .i64 Try.underlying27 hi045 hsz45 A0 c0 l0 a1 (of_decide_eq_true (by first | (with_reducible assumption) | assumption)) (of_decide_eq_true (by first | (with_reducible assumption) | assumption)) HC0.out
       have HR218 := Aside0.mk (Kd.C_of_reads (h1 := fun _ => rfl) (hA45 _ (Kd.reads_of_C HR0.out)))
       have HC218 := Aside0.mk hC45
       clear hA45 hC45 hi045 hsz45
       obtain ⟨i046, hi046, _, hsz46, _⟩ := info_parts info21
       obtain ⟨A46, hcut46, hA46, hC46⟩ := print_drop_of (P := Try.prog) (Value.int .i32) 0 27 21 .i64 Try.underlying27 hi046 hsz46 A0 c0 l0 a1 (of_decide_eq_true (by first | (with_reducible assumption) | assumption)) (of_decide_eq_true (by first | (with_reducible assumption) | assumption)) HC0.out
       have HR228 := Aside0.mk (Kd.C_of_reads (h1 := fun _ => rfl) (hA46 _ (Kd.reads_of_C HR0.out)))
       have HC228 := Aside0.mk hC46
       clear hA46 hC46 hi046 hsz46
       refine start_ (n := 13) (S := fun w' => True) (ds := []) #[false, false, false, false, false, false, false, false, false, false, false, false, false] (by kernel_rfl) rfl rfl trivial (fun hHeld => ?_); refine with_tabW exerguelaw02_ClassTurns.tab13 exerguelaw02_ClassTurns.bits13 (fun HT_ HW_ => ?_)
       generalize wc.drew = w44 at HB HR218 HR228 hHeld ⊢
       refine pure_ (i := 1) (N := some 52) (v := ?_) (a' := ?_) #[false, true, false, false, false, false, false, false, false, false, false, false, false] rfl rfl (any_of HT_.out (by kernel_rfl)) (fun _ _ _ h => h) (Or.inl ⟨by rfl, ?_⟩) ?_ ?_
       rotate_left
       ·intro w'
        go_simp
        with_reducible rfl
       rotate_left
       ·simp only [Act.put, List.setIfInBounds_toArray, List.set_cons_zero, List.set_cons_succ, i64_w, i32_w]
        rfl
       refine pure_ (i := 2) (N := some 53) (v := ?_) (a' := ?_) #[false, true, true, false, false, false, false, false, false, false, false, false, false] rfl rfl (any_of HT_.out (by kernel_rfl)) (fun _ _ _ h => h) (Or.inl ⟨by rfl, ?_⟩) ?_ ?_
       rotate_left
       ·intro w'
        go_simp
        with_reducible rfl
       rotate_left
       ·simp only [Act.put, List.setIfInBounds_toArray, List.set_cons_zero, List.set_cons_succ, i64_w, i32_w]
        rfl
       refine pure_ (i := 3) (N := some 54) (v := ?_) (a' := ?_) #[false, true, true, true, false, false, false, false, false, false, false, false, false] rfl rfl (any_of HT_.out (by kernel_rfl)) (fun _ _ _ h => h) (Or.inl ⟨by rfl, ?_⟩) ?_ ?_
       rotate_left
       ·intro w'
        go_simp
        with_reducible rfl
       rotate_left
       ·simp only [Act.put, List.setIfInBounds_toArray, List.set_cons_zero, List.set_cons_succ, i64_w, i32_w]
        rfl
       refine pure_ (i := 5) (N := some 56) (v := ?_) (a' := ?_) #[false, true, true, true, false, true, false, false, false, false, false, false, false] rfl rfl (any_of HT_.out (by kernel_rfl)) (fun _ _ _ h => h) (Or.inl ⟨by rfl, ?_⟩) ?_ ?_
       rotate_left
       ·intro w'
        go_simp
        with_reducible rfl
       rotate_left
       ·simp only [Act.put, List.setIfInBounds_toArray, List.set_cons_zero, List.set_cons_succ, i64_w, i32_w]
        rfl
       refine pure_ (i := 8) (N := some 59) (v := ?_) (a' := ?_) #[false, true, true, true, false, true, false, false, true, false, false, false, false] rfl rfl (any_of HT_.out (by kernel_rfl)) (fun _ _ _ h => h) (Or.inl ⟨by rfl, ?_⟩) ?_ ?_
       rotate_left
       ·intro w'
        go_simp
        with_reducible rfl
       rotate_left
       ·simp only [Act.put, List.setIfInBounds_toArray, List.set_cons_zero, List.set_cons_succ, i64_w, i32_w]
        rfl
       refine pure_ (i := 9) (N := some 60) (v := ?_) (a' := ?_) #[false, true, true, true, false, true, false, false, true, true, false, false, false] rfl rfl (any_of HT_.out (by kernel_rfl)) (fun _ _ _ h => h) (Or.inl ⟨by rfl, ?_⟩) ?_ ?_
       rotate_left
       ·intro w'
        go_simp
        with_reducible rfl
       rotate_left
       ·simp only [Act.put, List.setIfInBounds_toArray, List.set_cons_zero, List.set_cons_succ, i64_w, i32_w]
        rfl
       refine pure_ (i := 10) (N := some 61) (v := ?_) (a' := ?_) #[false, true, true, true, false, true, false, false, true, true, true, false, false] rfl rfl (any_of HT_.out (by kernel_rfl)) (fun _ _ _ h => h) (Or.inl ⟨by rfl, ?_⟩) ?_ ?_
       rotate_left
       ·intro w'
        go_simp
        with_reducible rfl
       rotate_left
       ·simp only [Act.put, List.setIfInBounds_toArray, List.set_cons_zero, List.set_cons_succ, i64_w, i32_w]
        rfl
       refine join_ (σ := Value × Value × Value) 3 #[true, true, true, true, true, true, true, false, true, true, true, false, false] (fun s_ => [(51, s_.1), (55, s_.2.1), (57, s_.2.2)]) (fun s_ w' => (Kd.R (Kd.int .i32) 21 w' w.heap.size (fun k_ => some k_ ≠ (s_.2.2 : Value).ownBlock) s_.2.1 y219) ∧ (Kd.R (Kd.int .i32) 21 w' w.heap.size (fun k_ => some k_ ≠ (s_.2.1 : Value).ownBlock) s_.2.2 y222) ∧ (Below w.heap.size w w')) ?_ ?_
       rotate_left
       ·intro hCont
        refine two_ (i := 0) (j := 6) (Ni := some 51) (Nj := some 57) #[true, true, true, true, false, true, false, false, true, true, true, false, false] #[false, true, true, true, false, true, true, false, true, true, true, false, false] rfl rfl rfl rfl (two_of HT_.out (by kernel_rfl)) (by decide) (by decide) (fun K hK => ?_) (fun K hK => ?_)
        ·skip
         refine Kd.R_lit_step (Kd.int .i32) _ 21 ?hg (N := 51) ?hd (xs := ([] : List Int)) (inner := []) (ok := fun _ => True) (okp := fun _ => True) ?hr ?hp (fun _ hk => hk) trivial (Below.refl _ _) (Nat.le_refl _) (by simp) ?_; (case hd => rfl); (case hg => rfl); (case hr => first | (go_simp; done) | (go_simp; rfl)); (case hp => exact (Reps.none _ _))
         intro v216 w47 ho48 hb hg_ hnew_
         clear hg_ hnew_
         (first | rw [← Ny215.out] at ho48 | (simp only [Int.reduceToNat] at ho48; rw [← Ny215.out] at ho48))
         have n0_ := Aside0.mk (Kd.R_lower ho48 (below_size bz))
         have n1_ := Aside0.mk (below_step bz hb)
         clear HB
         have HO217 := n0_
         have HB := n1_
         clear n0_ n1_
         clear hb ho48
         refine hK.out _ _ trivial (fun hHeld => ?_)
         clear hK K
         refine norm_ (a' := ?_) ?_ ?_
         rotate_left
         ·show Act.put _ (some 51) _ = _
          simp only [Act.put, List.setIfInBounds_toArray, List.set_cons_zero, List.set_cons_succ, i64_w, i32_w]
          rfl
         refine two_ (i := 4) (j := 6) (Ni := some 55) (Nj := some 57) #[true, true, true, true, true, true, false, false, true, true, true, false, false] #[true, true, true, true, false, true, true, false, true, true, true, false, false] rfl rfl rfl rfl (two_of HT_.out (by kernel_rfl)) (by decide) (by decide) (fun K hK => ?_) (fun K hK => ?_)
         ·skip
          refine Kd.R_append_rows_step (Kd.int .i32) (w0 := w) w.heap.size (by rfl) (.tmp 51) (.tmp 54) 27 21 (.int .i32 0) 4 rfl Try.underlying27 info21 rfl (by decide) (by omega) v216 y215 (l0.take (a1 : Int).toNat) _ _ _ (fun _ => True) (fun _ => False) rfl rfl ?aO ?aR (fun _ _ h => h) (fun _ h => h.elim) ?aF ?aB ?aS ?aL ?_
          (case aR => first | (have c_ := (Kd.C_below HR218.out HB.out); rw [tk_ (l := l0) (i := a1)] at c_; exact cz c_) | (exact cz (Kd.C_below HR218.out HB.out)))
          (case aB => exact bz)
          (case aF => exact (fun _ _ => trivial))
          (case aO => exact (rz HO217.out))
          (case aS => exact (below_size bz))
          (case aL => have := LMc22.out; have hlx_ := (tk_ (l := l0)); omega)
          intro v220 w49 ho hb hg hat
          rw [← Ny219.out] at ho
          have n0_ := Aside0.mk (hb)
          have n1_ := Aside0.mk (ho)
          clear HB
          clear HO217
          have HB := n0_
          have HO221 := n1_
          clear n0_ n1_
          clear ho hb hg hat
          refine hK.out _ _ trivial (fun hHeld => ?_)
          clear hK K
          refine norm_ (a' := ?_) ?_ ?_
          rotate_left
          ·show Act.put _ (some 55) _ = _
           simp only [Act.put, List.setIfInBounds_toArray, List.set_cons_zero, List.set_cons_succ, i64_w, i32_w]
           rfl
          refine one_ (i := 6) (N := some 57) #[true, true, true, true, true, true, true, false, true, true, true, false, false] rfl rfl (one_of HT_.out (by kernel_rfl)) (by decide) (fun K hK => ?_)
          refine Kd.R_lit_step (Kd.int .i32) _ 21 ?hg (N := 57) ?hd (xs := ([a2] : List Int)) (inner := [.int .i32 a2]) (ok := fun _ => True) (okp := fun _ => True) ?hr ?hp (fun _ hk => hk) trivial (Below.refl _ _) (Nat.le_refl _) (by simp) ?_; (case hd => rfl); (case hg => rfl); (case hr => first | (go_simp; done) | (go_simp; rfl)); (case hp => exact (Reps.one (show Kd.M (Kd.int .i32) _ _ _ a2 [.int .i32 a2] from rfl) (Reps.none _ _)))
          intro v223 w50 ho51 hb hg_ hnew_
          clear hg_ hnew_
          (first | rw [← Ny222.out] at ho51 | (simp only [Int.reduceToNat] at ho51; rw [← Ny222.out] at ho51))
          have n0_ := Aside0.mk (Kd.R_elder' (rz HO221.out) (Kd.R_base ho51) hb)
          have n1_ := Aside0.mk (Kd.R_lower (Kd.R_new' ho51 (Kd.R_lt (rz HO221.out))) (below_size bz))
          have n2_ := Aside0.mk (below_step bz hb)
          clear HO221
          clear HB
          have HO221 := n0_
          have HO224 := n1_
          have HB := n2_
          clear n0_ n1_ n2_
          clear hb ho51
          refine hK.out _ _ trivial (fun hHeld => ?_)
          clear hK K
          refine norm_ (a' := ?_) ?_ ?_
          rotate_left
          ·show Act.put _ (some 57) _ = _
           simp only [Act.put, List.setIfInBounds_toArray, List.set_cons_zero, List.set_cons_succ, i64_w, i32_w]
           rfl
          exact norm_ (by simp only [putAll, Act.put, List.setIfInBounds_toArray, List.set_cons_zero, List.set_cons_succ]) (hCont (v216, v220, v223) _ ⟨(by (with_reducible repeat (first | apply Kd.R_alloc | apply Kd.R_drewN | apply Kd.R_drew)); exact Kd.R_mono HO221.out (fun _ hk => hk.2)), (by (with_reducible repeat (first | apply Kd.R_alloc | apply Kd.R_drewN | apply Kd.R_drew)); exact Kd.R_mono HO224.out (fun _ hk => hk.2)), bz⟩)
         ·skip
          refine Kd.R_lit_step (Kd.int .i32) _ 21 ?hg (N := 57) ?hd (xs := ([a2] : List Int)) (inner := [.int .i32 a2]) (ok := fun _ => True) (okp := fun _ => True) ?hr ?hp (fun _ hk => hk) trivial (Below.refl _ _) (Nat.le_refl _) (by simp) ?_; (case hd => rfl); (case hg => rfl); (case hr => first | (go_simp; done) | (go_simp; rfl)); (case hp => exact (Reps.one (show Kd.M (Kd.int .i32) _ _ _ a2 [.int .i32 a2] from rfl) (Reps.none _ _)))
          intro v223 w49 ho50 hb hg_ hnew_
          clear hg_ hnew_
          (first | rw [← Ny222.out] at ho50 | (simp only [Int.reduceToNat] at ho50; rw [← Ny222.out] at ho50))
          have n0_ := Aside0.mk (Kd.R_elder' (rz HO217.out) (Kd.R_base ho50) hb)
          have n1_ := Aside0.mk (Kd.R_lower (Kd.R_new' ho50 (Kd.R_lt (rz HO217.out))) (below_size bz))
          have n2_ := Aside0.mk (below_step bz hb)
          clear HO217
          clear HB
          have HO217 := n0_
          have HO224 := n1_
          have HB := n2_
          clear n0_ n1_ n2_
          clear hb ho50
          refine hK.out _ _ trivial (fun hHeld => ?_)
          clear hK K
          refine norm_ (a' := ?_) ?_ ?_
          rotate_left
          ·show Act.put _ (some 57) _ = _
           simp only [Act.put, List.setIfInBounds_toArray, List.set_cons_zero, List.set_cons_succ, i64_w, i32_w]
           rfl
          refine one_ (i := 4) (N := some 55) #[true, true, true, true, true, true, true, false, true, true, true, false, false] rfl rfl (one_of HT_.out (by kernel_rfl)) (by decide) (fun K hK => ?_)
          refine Kd.R_append_rows_step (Kd.int .i32) (w0 := w) w.heap.size (by rfl) (.tmp 51) (.tmp 54) 27 21 (.int .i32 0) 4 rfl Try.underlying27 info21 rfl (by decide) (by omega) v216 y215 (l0.take (a1 : Int).toNat) _ _ _ (fun k_ => some k_ ≠ (v223 : Value).ownBlock) (fun _ => False) rfl rfl ?aO ?aR (fun _ _ h => h) (fun _ h => h.elim) ?aF ?aB ?aS ?aL ?_
          (case aR => first | (have c_ := (Kd.C_below HR218.out HB.out); rw [tk_ (l := l0) (i := a1)] at c_; exact cz c_) | (exact cz (Kd.C_below HR218.out HB.out)))
          (case aB => exact bz)
          (case aF => exact (fun k_ hk => Kd.fresh' (Kd.R_lt (rz HO224.out)) k_ hk))
          (case aO => exact (by (with_reducible repeat (first | apply Kd.R_alloc | apply Kd.R_drewN | apply Kd.R_drew)); exact Kd.R_mono HO217.out (fun _ hk => hk.2)))
          (case aS => exact (below_size bz))
          (case aL => have := LMc22.out; have hlx_ := (tk_ (l := l0)); omega)
          intro v220 w51 ho hb hg hat
          rw [← Ny219.out] at ho
          have n0_ := Aside0.mk (Kd.R_after (ok := (fun _ => True)) (rz HO224.out) hg hat)
          have n1_ := Aside0.mk (hb)
          have n2_ := Aside0.mk (ho)
          clear HO224
          clear HB
          clear HO217
          have HO224 := n0_
          have HB := n1_
          have HO221 := n2_
          clear n0_ n1_ n2_
          clear ho hb hg hat
          refine hK.out _ _ trivial (fun hHeld => ?_)
          clear hK K
          refine norm_ (a' := ?_) ?_ ?_
          rotate_left
          ·show Act.put _ (some 55) _ = _
           simp only [Act.put, List.setIfInBounds_toArray, List.set_cons_zero, List.set_cons_succ, i64_w, i32_w]
           rfl
          exact norm_ (by simp only [putAll, Act.put, List.setIfInBounds_toArray, List.set_cons_zero, List.set_cons_succ]) (hCont (v216, v220, v223) _ ⟨(rz HO221.out), (by (with_reducible repeat (first | apply Kd.R_alloc | apply Kd.R_drewN | apply Kd.R_drew)); exact Kd.R_mono HO224.out (fun _ hk => hk.2)), bz⟩)
        ·skip
         refine Kd.R_lit_step (Kd.int .i32) _ 21 ?hg (N := 57) ?hd (xs := ([a2] : List Int)) (inner := [.int .i32 a2]) (ok := fun _ => True) (okp := fun _ => True) ?hr ?hp (fun _ hk => hk) trivial (Below.refl _ _) (Nat.le_refl _) (by simp) ?_; (case hd => rfl); (case hg => rfl); (case hr => first | (go_simp; done) | (go_simp; rfl)); (case hp => exact (Reps.one (show Kd.M (Kd.int .i32) _ _ _ a2 [.int .i32 a2] from rfl) (Reps.none _ _)))
         intro v223 w47 ho48 hb hg_ hnew_
         clear hg_ hnew_
         (first | rw [← Ny222.out] at ho48 | (simp only [Int.reduceToNat] at ho48; rw [← Ny222.out] at ho48))
         have n0_ := Aside0.mk (Kd.R_lower ho48 (below_size bz))
         have n1_ := Aside0.mk (below_step bz hb)
         clear HB
         have HO224 := n0_
         have HB := n1_
         clear n0_ n1_
         clear hb ho48
         refine hK.out _ _ trivial (fun hHeld => ?_)
         clear hK K
         refine norm_ (a' := ?_) ?_ ?_
         rotate_left
         ·show Act.put _ (some 57) _ = _
          simp only [Act.put, List.setIfInBounds_toArray, List.set_cons_zero, List.set_cons_succ, i64_w, i32_w]
          rfl
         refine one_ (i := 0) (N := some 51) #[true, true, true, true, false, true, true, false, true, true, true, false, false] rfl rfl (one_of HT_.out (by kernel_rfl)) (by decide) (fun K hK => ?_)
         refine Kd.R_lit_step (Kd.int .i32) _ 21 ?hg (N := 51) ?hd (xs := ([] : List Int)) (inner := []) (ok := fun _ => True) (okp := fun _ => True) ?hr ?hp (fun _ hk => hk) trivial (Below.refl _ _) (Nat.le_refl _) (by simp) ?_; (case hd => rfl); (case hg => rfl); (case hr => first | (go_simp; done) | (go_simp; rfl)); (case hp => exact (Reps.none _ _))
         intro v216 w49 ho50 hb hg_ hnew_
         clear hg_ hnew_
         (first | rw [← Ny215.out] at ho50 | (simp only [Int.reduceToNat] at ho50; rw [← Ny215.out] at ho50))
         have n0_ := Aside0.mk (Kd.R_elder' (rz HO224.out) (Kd.R_base ho50) hb)
         have n1_ := Aside0.mk (Kd.R_lower (Kd.R_new' ho50 (Kd.R_lt (rz HO224.out))) (below_size bz))
         have n2_ := Aside0.mk (below_step bz hb)
         clear HO224
         clear HB
         have HO224 := n0_
         have HO217 := n1_
         have HB := n2_
         clear n0_ n1_ n2_
         clear hb ho50
         refine hK.out _ _ trivial (fun hHeld => ?_)
         clear hK K
         refine norm_ (a' := ?_) ?_ ?_
         rotate_left
         ·show Act.put _ (some 51) _ = _
          simp only [Act.put, List.setIfInBounds_toArray, List.set_cons_zero, List.set_cons_succ, i64_w, i32_w]
          rfl
         refine one_ (i := 4) (N := some 55) #[true, true, true, true, true, true, true, false, true, true, true, false, false] rfl rfl (one_of HT_.out (by kernel_rfl)) (by decide) (fun K hK => ?_)
         refine Kd.R_append_rows_step (Kd.int .i32) (w0 := w) w.heap.size (by rfl) (.tmp 51) (.tmp 54) 27 21 (.int .i32 0) 4 rfl Try.underlying27 info21 rfl (by decide) (by omega) v216 y215 (l0.take (a1 : Int).toNat) _ _ _ (fun k_ => some k_ ≠ (v223 : Value).ownBlock) (fun _ => False) rfl rfl ?aO ?aR (fun _ _ h => h) (fun _ h => h.elim) ?aF ?aB ?aS ?aL ?_
         (case aR => first | (have c_ := (Kd.C_below HR218.out HB.out); rw [tk_ (l := l0) (i := a1)] at c_; exact cz c_) | (exact cz (Kd.C_below HR218.out HB.out)))
         (case aB => exact bz)
         (case aF => exact (fun k_ hk => Kd.fresh' (Kd.R_lt (rz HO224.out)) k_ hk))
         (case aO => exact (by (with_reducible repeat (first | apply Kd.R_alloc | apply Kd.R_drewN | apply Kd.R_drew)); exact Kd.R_mono HO217.out (fun _ hk => hk.2)))
         (case aS => exact (below_size bz))
         (case aL => have := LMc22.out; have hlx_ := (tk_ (l := l0)); omega)
         intro v220 w51 ho hb hg hat
         rw [← Ny219.out] at ho
         have n0_ := Aside0.mk (Kd.R_after (ok := (fun _ => True)) (rz HO224.out) hg hat)
         have n1_ := Aside0.mk (hb)
         have n2_ := Aside0.mk (ho)
         clear HO224
         clear HB
         clear HO217
         have HO224 := n0_
         have HB := n1_
         have HO221 := n2_
         clear n0_ n1_ n2_
         clear ho hb hg hat
         refine hK.out _ _ trivial (fun hHeld => ?_)
         clear hK K
         refine norm_ (a' := ?_) ?_ ?_
         rotate_left
         ·show Act.put _ (some 55) _ = _
          simp only [Act.put, List.setIfInBounds_toArray, List.set_cons_zero, List.set_cons_succ, i64_w, i32_w]
          rfl
         exact norm_ (by simp only [putAll, Act.put, List.setIfInBounds_toArray, List.set_cons_zero, List.set_cons_succ]) (hCont (v216, v220, v223) _ ⟨(rz HO221.out), (by (with_reducible repeat (first | apply Kd.R_alloc | apply Kd.R_drewN | apply Kd.R_drew)); exact Kd.R_mono HO224.out (fun _ hk => hk.2)), bz⟩)
       rintro ⟨v216, v220, v223⟩ w52 ⟨h0_, h1_, h2_⟩
       have n0_ : Aside0 (Kd.R (Kd.int .i32) 21 w52 w.heap.size (fun k_ => some k_ ≠ (v223 : Value).ownBlock) v220 y219) := ⟨h0_⟩
       have n1_ : Aside0 (Kd.R (Kd.int .i32) 21 w52 w.heap.size (fun k_ => some k_ ≠ (v220 : Value).ownBlock) v223 y222) := ⟨h1_⟩
       have n2_ : Aside0 (Below w.heap.size w w52) := ⟨h2_⟩
       clear HB
       clear h0_ h1_ h2_
       have HO221 := n0_
       have HO224 := n1_
       have HB := n2_
       clear n0_ n1_ n2_
       have hHeld := trivial
       obtain ⟨Ao54, co54, eo54⟩ := Kd.R_slice HO224.out
       (first | subst eo54 | (injection eo54 with f1_ f2_ f3_; have f4_ := f1_.symm; have f5_ := f3_.symm; clear f1_ f2_ f3_; subst f4_; subst f5_))
       refine norm_ (a' := ?_) ?_ ?_
       rotate_left
       ·simp only [putAll, Act.put, List.setIfInBounds_toArray, List.set_cons_zero, List.set_cons_succ]
        rfl
       refine one_ (i := 7) (N := some 58) #[true, true, true, true, true, true, true, true, true, true, true, false, false] rfl rfl (one_of HT_.out (by kernel_rfl)) (by decide) (fun K hK => ?_)
       refine Kd.R_append_rows_step (Kd.int .i32) (w0 := w) w.heap.size (by rfl) (.tmp 55) (.tmp 57) 27 21 (.int .i32 0) 4 rfl Try.underlying27 info21 rfl (by decide) (by omega) v220 y219 y222 _ _ _ (fun k_ => some k_ ≠ (.slice Ao54 y222.length co54 : Value).ownBlock) (fun _ => False) rfl rfl ?aO ?aR (fun _ _ h => h) (fun _ h => h.elim) ?aF ?aB ?aS ?aL ?_
       (case aR => repeat (first | exact (Kd.R_reads' HO224.out).2.2 | (with_reducible refine Kd.C_alloc ?_ _) | (with_reducible refine Kd.C_drewN ?_ _) | (with_reducible refine Kd.C_drew ?_)))
       (case aB => exact bz)
       (case aF => exact (fun k_ hk => Kd.fresh' (Kd.R_lt (rz HO224.out)) k_ hk))
       (case aO => exact (rz HO221.out))
       (case aS => exact (below_size bz))
       (case aL => have := LMc23.out; omega)
       intro v226 w53 ho hb hg hat
       rw [← Ny225.out] at ho
       have n0_ := Aside0.mk (Kd.R_after (ok := (fun _ => True)) (by (with_reducible repeat (first | apply Kd.R_alloc | apply Kd.R_drewN | apply Kd.R_drew)); exact Kd.R_mono HO224.out (fun _ hk => ⟨trivial, hk⟩)) hg hat)
       have n1_ := Aside0.mk (hb)
       have n2_ := Aside0.mk (ho)
       clear HO224
       clear HB
       clear HO221
       have HO224 := n0_
       have HB := n1_
       have HO227 := n2_
       clear n0_ n1_ n2_
       clear ho hb hg hat
       refine hK.out _ _ trivial (fun hHeld => ?_)
       clear hK K
       refine norm_ (a' := ?_) ?_ ?_
       rotate_left
       ·show Act.put _ (some 58) _ = _
        simp only [Act.put, List.setIfInBounds_toArray, List.set_cons_zero, List.set_cons_succ, i64_w, i32_w]
        rfl
       refine one_ (i := 11) (N := some 62) #[true, true, true, true, true, true, true, true, true, true, true, true, false] rfl rfl (one_of HT_.out (by kernel_rfl)) (by decide) (fun K hK => ?_)
       refine Kd.R_append_rows_step (Kd.int .i32) (w0 := w) w.heap.size (by rfl) (.tmp 58) (.tmp 61) 27 21 (.int .i32 0) 4 rfl Try.underlying27 info21 rfl (by decide) (by omega) v226 y225 (l0.drop (a1 : Int).toNat) _ _ _ (fun k_ => some k_ ≠ (.slice Ao54 y222.length co54 : Value).ownBlock) (fun _ => False) rfl rfl ?aO ?aR (fun _ _ h => h) (fun _ h => h.elim) ?aF ?aB ?aS ?aL ?_
       (case aR => first | (rw [← show (l0.drop (a1 : Int).toNat).length = (l0.length - a1.toNat) from List.length_drop]; exact cz (Kd.C_below HR228.out HB.out)) | (exact cz (Kd.C_below HR228.out HB.out)))
       (case aB => exact bz)
       (case aF => exact (fun k_ hk => Kd.fresh' (Kd.R_lt (rz HO224.out)) k_ hk))
       (case aO => exact (rz HO227.out))
       (case aS => exact (below_size bz))
       (case aL => have := LMc26.out; have hlx_ := (show (l0.drop (a1 : Int).toNat).length = (l0.length - a1.toNat) from List.length_drop); omega)
       intro v230 w55 ho hb hg hat
       rw [← Ny229.out] at ho
       have n0_ := Aside0.mk (Kd.R_after (ok := (fun _ => True)) (rz HO224.out) hg hat)
       have n1_ := Aside0.mk (hb)
       have n2_ := Aside0.mk (ho)
       clear HO224
       clear HB
       clear HO227
       have HO224 := n0_
       have HB := n1_
       have HO231 := n2_
       clear n0_ n1_ n2_
       clear ho hb hg hat
       refine hK.out _ _ trivial (fun hHeld => ?_)
       clear hK K
       refine norm_ (a' := ?_) ?_ ?_
       rotate_left
       ·show Act.put _ (some 62) _ = _
        simp only [Act.put, List.setIfInBounds_toArray, List.set_cons_zero, List.set_cons_succ, i64_w, i32_w]
        rfl
       refine pure_ (i := 12) (N := some 10) (v := ?_) (a' := ?_) #[true, true, true, true, true, true, true, true, true, true, true, true, true] rfl rfl (any_of HT_.out (by kernel_rfl)) (fun _ _ _ h => h) (Or.inl ⟨by rfl, ?_⟩) ?_ ?_
       rotate_left
       ·intro w'
        go_simp
        with_reducible rfl
       rotate_left
       ·simp only [Act.put, List.setIfInBounds_toArray, List.set_cons_zero, List.set_cons_succ, i64_w, i32_w]
        rfl
       refine done_ (done_of HT_.out (by kernel_rfl)) ?_
       try go_wp2
       go_ret
       exact ⟨by first | rfl | (simp [errW_none, errW_some] <;> rfl) | (simp [*, errW_none, errW_some] <;> rfl), bz⟩
      subst c29
      have H1 : ((class_Turns.f kj12 y229).bind fun t232 => (some (t232 == (!true)))) = some r := by rw [if_pos rfl] at H; exact H
      clear H
      have H := H1
      clear H1
      replace H := Option.bind_eq_some_iff.mp H
      obtain ⟨t232, A300, H⟩ := H
      replace H : (some (t232 == (!true))) = some r := H
      have A30 := Aside0.mk A300
      clear A300
      obtain rfl := Option.some.inj H
      try go_wp2
      have n0_ := Aside0.mk (below_drew1 HB.out)
      clear HB
      have HB := n0_
      clear n0_
      obtain ⟨i032, hi032, _, hsz32, _⟩ := info_parts info21
      obtain ⟨hcut32, hA32, hC32⟩ := print_take_of (P := Try.prog) (Value.int .i32) 0 27 21 .i64 Try.underlying27 hi032 hsz32 A0 c0 l0 a1 (of_decide_eq_true (by first | (with_reducible assumption) | assumption)) (of_decide_eq_true (by first | (with_reducible assumption) | assumption)) HC0.out
      have HR218 := Aside0.mk (Kd.C_of_reads (h1 := fun _ => rfl) (hA32 _ (Kd.reads_of_C HR0.out)))
      have HC218 := Aside0.mk hC32
      clear hA32 hC32 hi032 hsz32
      obtain ⟨i033, hi033, _, hsz33, _⟩ := info_parts info21
      obtain ⟨A33, hcut33, hA33, hC33⟩ := print_drop_of (P := Try.prog) (Value.int .i32) 0 27 21 .i64 Try.underlying27 hi033 hsz33 A0 c0 l0 a1 (of_decide_eq_true (by first | (with_reducible assumption) | assumption)) (of_decide_eq_true (by first | (with_reducible assumption) | assumption)) HC0.out
      have HR228 := Aside0.mk (Kd.C_of_reads (h1 := fun _ => rfl) (hA33 _ (Kd.reads_of_C HR0.out)))
      have HC228 := Aside0.mk hC33
      clear hA33 hC33 hi033 hsz33
      refine start_ (n := 13) (S := fun w' => True) (ds := []) #[false, false, false, false, false, false, false, false, false, false, false, false, false] (by kernel_rfl) rfl rfl trivial (fun hHeld => ?_); refine with_tabW exerguelaw02_ClassTurns.tab13 exerguelaw02_ClassTurns.bits13 (fun HT_ HW_ => ?_)
      generalize wc.drew = w31 at HB HR218 HR228 hHeld ⊢
      refine pure_ (i := 1) (N := some 52) (v := ?_) (a' := ?_) #[false, true, false, false, false, false, false, false, false, false, false, false, false] rfl rfl (any_of HT_.out (by kernel_rfl)) (fun _ _ _ h => h) (Or.inl ⟨by rfl, ?_⟩) ?_ ?_
      rotate_left
      ·intro w'
       go_simp
       with_reducible rfl
      rotate_left
      ·simp only [Act.put, List.setIfInBounds_toArray, List.set_cons_zero, List.set_cons_succ, i64_w, i32_w]
       rfl
      refine pure_ (i := 2) (N := some 53) (v := ?_) (a' := ?_) #[false, true, true, false, false, false, false, false, false, false, false, false, false] rfl rfl (any_of HT_.out (by kernel_rfl)) (fun _ _ _ h => h) (Or.inl ⟨by rfl, ?_⟩) ?_ ?_
      rotate_left
      ·intro w'
       go_simp
       with_reducible rfl
      rotate_left
      ·simp only [Act.put, List.setIfInBounds_toArray, List.set_cons_zero, List.set_cons_succ, i64_w, i32_w]
       rfl
      refine pure_ (i := 3) (N := some 54) (v := ?_) (a' := ?_) #[false, true, true, true, false, false, false, false, false, false, false, false, false] rfl rfl (any_of HT_.out (by kernel_rfl)) (fun _ _ _ h => h) (Or.inl ⟨by rfl, ?_⟩) ?_ ?_
      rotate_left
      ·intro w'
       go_simp
       with_reducible rfl
      rotate_left
      ·simp only [Act.put, List.setIfInBounds_toArray, List.set_cons_zero, List.set_cons_succ, i64_w, i32_w]
       rfl
      refine pure_ (i := 5) (N := some 56) (v := ?_) (a' := ?_) #[false, true, true, true, false, true, false, false, false, false, false, false, false] rfl rfl (any_of HT_.out (by kernel_rfl)) (fun _ _ _ h => h) (Or.inl ⟨by rfl, ?_⟩) ?_ ?_
      rotate_left
      ·intro w'
       go_simp
       with_reducible rfl
      rotate_left
      ·simp only [Act.put, List.setIfInBounds_toArray, List.set_cons_zero, List.set_cons_succ, i64_w, i32_w]
       rfl
      refine pure_ (i := 8) (N := some 59) (v := ?_) (a' := ?_) #[false, true, true, true, false, true, false, false, true, false, false, false, false] rfl rfl (any_of HT_.out (by kernel_rfl)) (fun _ _ _ h => h) (Or.inl ⟨by rfl, ?_⟩) ?_ ?_
      rotate_left
      ·intro w'
       go_simp
       with_reducible rfl
      rotate_left
      ·simp only [Act.put, List.setIfInBounds_toArray, List.set_cons_zero, List.set_cons_succ, i64_w, i32_w]
       rfl
      refine pure_ (i := 9) (N := some 60) (v := ?_) (a' := ?_) #[false, true, true, true, false, true, false, false, true, true, false, false, false] rfl rfl (any_of HT_.out (by kernel_rfl)) (fun _ _ _ h => h) (Or.inl ⟨by rfl, ?_⟩) ?_ ?_
      rotate_left
      ·intro w'
       go_simp
       with_reducible rfl
      rotate_left
      ·simp only [Act.put, List.setIfInBounds_toArray, List.set_cons_zero, List.set_cons_succ, i64_w, i32_w]
       rfl
      refine pure_ (i := 10) (N := some 61) (v := ?_) (a' := ?_) #[false, true, true, true, false, true, false, false, true, true, true, false, false] rfl rfl (any_of HT_.out (by kernel_rfl)) (fun _ _ _ h => h) (Or.inl ⟨by rfl, ?_⟩) ?_ ?_
      rotate_left
      ·intro w'
       go_simp
       with_reducible rfl
      rotate_left
      ·simp only [Act.put, List.setIfInBounds_toArray, List.set_cons_zero, List.set_cons_succ, i64_w, i32_w]
       rfl
      refine join_ (σ := Value × Value × Value) 3 #[true, true, true, true, true, true, true, false, true, true, true, false, false] (fun s_ => [(51, s_.1), (55, s_.2.1), (57, s_.2.2)]) (fun s_ w' => (Kd.R (Kd.int .i32) 21 w' w.heap.size (fun k_ => some k_ ≠ (s_.2.2 : Value).ownBlock) s_.2.1 y219) ∧ (Kd.R (Kd.int .i32) 21 w' w.heap.size (fun k_ => some k_ ≠ (s_.2.1 : Value).ownBlock) s_.2.2 y222) ∧ (Below w.heap.size w w')) ?_ ?_
      rotate_left
      ·intro hCont
       refine two_ (i := 0) (j := 6) (Ni := some 51) (Nj := some 57) #[true, true, true, true, false, true, false, false, true, true, true, false, false] #[false, true, true, true, false, true, true, false, true, true, true, false, false] rfl rfl rfl rfl (two_of HT_.out (by kernel_rfl)) (by decide) (by decide) (fun K hK => ?_) (fun K hK => ?_)
       ·skip
        refine Kd.R_lit_step (Kd.int .i32) _ 21 ?hg (N := 51) ?hd (xs := ([] : List Int)) (inner := []) (ok := fun _ => True) (okp := fun _ => True) ?hr ?hp (fun _ hk => hk) trivial (Below.refl _ _) (Nat.le_refl _) (by simp) ?_; (case hd => rfl); (case hg => rfl); (case hr => first | (go_simp; done) | (go_simp; rfl)); (case hp => exact (Reps.none _ _))
        intro v216 w34 ho35 hb hg_ hnew_
        clear hg_ hnew_
        (first | rw [← Ny215.out] at ho35 | (simp only [Int.reduceToNat] at ho35; rw [← Ny215.out] at ho35))
        have n0_ := Aside0.mk (Kd.R_lower ho35 (below_size bz))
        have n1_ := Aside0.mk (below_step bz hb)
        clear HB
        have HO217 := n0_
        have HB := n1_
        clear n0_ n1_
        clear hb ho35
        refine hK.out _ _ trivial (fun hHeld => ?_)
        clear hK K
        refine norm_ (a' := ?_) ?_ ?_
        rotate_left
        ·show Act.put _ (some 51) _ = _
         simp only [Act.put, List.setIfInBounds_toArray, List.set_cons_zero, List.set_cons_succ, i64_w, i32_w]
         rfl
        refine two_ (i := 4) (j := 6) (Ni := some 55) (Nj := some 57) #[true, true, true, true, true, true, false, false, true, true, true, false, false] #[true, true, true, true, false, true, true, false, true, true, true, false, false] rfl rfl rfl rfl (two_of HT_.out (by kernel_rfl)) (by decide) (by decide) (fun K hK => ?_) (fun K hK => ?_)
        ·skip
         refine Kd.R_append_rows_step (Kd.int .i32) (w0 := w) w.heap.size (by rfl) (.tmp 51) (.tmp 54) 27 21 (.int .i32 0) 4 rfl Try.underlying27 info21 rfl (by decide) (by omega) v216 y215 (l0.take (a1 : Int).toNat) _ _ _ (fun _ => True) (fun _ => False) rfl rfl ?aO ?aR (fun _ _ h => h) (fun _ h => h.elim) ?aF ?aB ?aS ?aL ?_
         (case aR => first | (have c_ := (Kd.C_below HR218.out HB.out); rw [tk_ (l := l0) (i := a1)] at c_; exact cz c_) | (exact cz (Kd.C_below HR218.out HB.out)))
         (case aB => exact bz)
         (case aF => exact (fun _ _ => trivial))
         (case aO => exact (rz HO217.out))
         (case aS => exact (below_size bz))
         (case aL => have := LMc22.out; have hlx_ := (tk_ (l := l0)); omega)
         intro v220 w36 ho hb hg hat
         rw [← Ny219.out] at ho
         have n0_ := Aside0.mk (hb)
         have n1_ := Aside0.mk (ho)
         clear HB
         clear HO217
         have HB := n0_
         have HO221 := n1_
         clear n0_ n1_
         clear ho hb hg hat
         refine hK.out _ _ trivial (fun hHeld => ?_)
         clear hK K
         refine norm_ (a' := ?_) ?_ ?_
         rotate_left
         ·show Act.put _ (some 55) _ = _
          simp only [Act.put, List.setIfInBounds_toArray, List.set_cons_zero, List.set_cons_succ, i64_w, i32_w]
          rfl
         refine one_ (i := 6) (N := some 57) #[true, true, true, true, true, true, true, false, true, true, true, false, false] rfl rfl (one_of HT_.out (by kernel_rfl)) (by decide) (fun K hK => ?_)
         refine Kd.R_lit_step (Kd.int .i32) _ 21 ?hg (N := 57) ?hd (xs := ([a2] : List Int)) (inner := [.int .i32 a2]) (ok := fun _ => True) (okp := fun _ => True) ?hr ?hp (fun _ hk => hk) trivial (Below.refl _ _) (Nat.le_refl _) (by simp) ?_; (case hd => rfl); (case hg => rfl); (case hr => first | (go_simp; done) | (go_simp; rfl)); (case hp => exact (Reps.one (show Kd.M (Kd.int .i32) _ _ _ a2 [.int .i32 a2] from rfl) (Reps.none _ _)))
         intro v223 w37 ho38 hb hg_ hnew_
         clear hg_ hnew_
         (first | rw [← Ny222.out] at ho38 | (simp only [Int.reduceToNat] at ho38; rw [← Ny222.out] at ho38))
         have n0_ := Aside0.mk (Kd.R_elder' (rz HO221.out) (Kd.R_base ho38) hb)
         have n1_ := Aside0.mk (Kd.R_lower (Kd.R_new' ho38 (Kd.R_lt (rz HO221.out))) (below_size bz))
         have n2_ := Aside0.mk (below_step bz hb)
         clear HO221
         clear HB
         have HO221 := n0_
         have HO224 := n1_
         have HB := n2_
         clear n0_ n1_ n2_
         clear hb ho38
         refine hK.out _ _ trivial (fun hHeld => ?_)
         clear hK K
         refine norm_ (a' := ?_) ?_ ?_
         rotate_left
         ·show Act.put _ (some 57) _ = _
          simp only [Act.put, List.setIfInBounds_toArray, List.set_cons_zero, List.set_cons_succ, i64_w, i32_w]
          rfl
         exact norm_ (by simp only [putAll, Act.put, List.setIfInBounds_toArray, List.set_cons_zero, List.set_cons_succ]) (hCont (v216, v220, v223) _ ⟨(by (with_reducible repeat (first | apply Kd.R_alloc | apply Kd.R_drewN | apply Kd.R_drew)); exact Kd.R_mono HO221.out (fun _ hk => hk.2)), (by (with_reducible repeat (first | apply Kd.R_alloc | apply Kd.R_drewN | apply Kd.R_drew)); exact Kd.R_mono HO224.out (fun _ hk => hk.2)), bz⟩)
        ·skip
         refine Kd.R_lit_step (Kd.int .i32) _ 21 ?hg (N := 57) ?hd (xs := ([a2] : List Int)) (inner := [.int .i32 a2]) (ok := fun _ => True) (okp := fun _ => True) ?hr ?hp (fun _ hk => hk) trivial (Below.refl _ _) (Nat.le_refl _) (by simp) ?_; (case hd => rfl); (case hg => rfl); (case hr => first | (go_simp; done) | (go_simp; rfl)); (case hp => exact (Reps.one (show Kd.M (Kd.int .i32) _ _ _ a2 [.int .i32 a2] from rfl) (Reps.none _ _)))
         intro v223 w36 ho37 hb hg_ hnew_
         clear hg_ hnew_
         (first | rw [← Ny222.out] at ho37 | (simp only [Int.reduceToNat] at ho37; rw [← Ny222.out] at ho37))
         have n0_ := Aside0.mk (Kd.R_elder' (rz HO217.out) (Kd.R_base ho37) hb)
         have n1_ := Aside0.mk (Kd.R_lower (Kd.R_new' ho37 (Kd.R_lt (rz HO217.out))) (below_size bz))
         have n2_ := Aside0.mk (below_step bz hb)
         clear HO217
         clear HB
         have HO217 := n0_
         have HO224 := n1_
         have HB := n2_
         clear n0_ n1_ n2_
         clear hb ho37
         refine hK.out _ _ trivial (fun hHeld => ?_)
         clear hK K
         refine norm_ (a' := ?_) ?_ ?_
         rotate_left
         ·show Act.put _ (some 57) _ = _
          simp only [Act.put, List.setIfInBounds_toArray, List.set_cons_zero, List.set_cons_succ, i64_w, i32_w]
          rfl
         refine one_ (i := 4) (N := some 55) #[true, true, true, true, true, true, true, false, true, true, true, false, false] rfl rfl (one_of HT_.out (by kernel_rfl)) (by decide) (fun K hK => ?_)
         refine Kd.R_append_rows_step (Kd.int .i32) (w0 := w) w.heap.size (by rfl) (.tmp 51) (.tmp 54) 27 21 (.int .i32 0) 4 rfl Try.underlying27 info21 rfl (by decide) (by omega) v216 y215 (l0.take (a1 : Int).toNat) _ _ _ (fun k_ => some k_ ≠ (v223 : Value).ownBlock) (fun _ => False) rfl rfl ?aO ?aR (fun _ _ h => h) (fun _ h => h.elim) ?aF ?aB ?aS ?aL ?_
         (case aR => first | (have c_ := (Kd.C_below HR218.out HB.out); rw [tk_ (l := l0) (i := a1)] at c_; exact cz c_) | (exact cz (Kd.C_below HR218.out HB.out)))
         (case aB => exact bz)
         (case aF => exact (fun k_ hk => Kd.fresh' (Kd.R_lt (rz HO224.out)) k_ hk))
         (case aO => exact (by (with_reducible repeat (first | apply Kd.R_alloc | apply Kd.R_drewN | apply Kd.R_drew)); exact Kd.R_mono HO217.out (fun _ hk => hk.2)))
         (case aS => exact (below_size bz))
         (case aL => have := LMc22.out; have hlx_ := (tk_ (l := l0)); omega)
         intro v220 w38 ho hb hg hat
         rw [← Ny219.out] at ho
         have n0_ := Aside0.mk (Kd.R_after (ok := (fun _ => True)) (rz HO224.out) hg hat)
         have n1_ := Aside0.mk (hb)
         have n2_ := Aside0.mk (ho)
         clear HO224
         clear HB
         clear HO217
         have HO224 := n0_
         have HB := n1_
         have HO221 := n2_
         clear n0_ n1_ n2_
         clear ho hb hg hat
         refine hK.out _ _ trivial (fun hHeld => ?_)
         clear hK K
         refine norm_ (a' := ?_) ?_ ?_
         rotate_left
         ·show Act.put _ (some 55) _ = _
          simp only [Act.put, List.setIfInBounds_toArray, List.set_cons_zero, List.set_cons_succ, i64_w, i32_w]
          rfl
         exact norm_ (by simp only [putAll, Act.put, List.setIfInBounds_toArray, List.set_cons_zero, List.set_cons_succ]) (hCont (v216, v220, v223) _ ⟨(rz HO221.out), (by (with_reducible repeat (first | apply Kd.R_alloc | apply Kd.R_drewN | apply Kd.R_drew)); exact Kd.R_mono HO224.out (fun _ hk => hk.2)), bz⟩)
       ·skip
        refine Kd.R_lit_step (Kd.int .i32) _ 21 ?hg (N := 57) ?hd (xs := ([a2] : List Int)) (inner := [.int .i32 a2]) (ok := fun _ => True) (okp := fun _ => True) ?hr ?hp (fun _ hk => hk) trivial (Below.refl _ _) (Nat.le_refl _) (by simp) ?_; (case hd => rfl); (case hg => rfl); (case hr => first | (go_simp; done) | (go_simp; rfl)); (case hp => exact (Reps.one (show Kd.M (Kd.int .i32) _ _ _ a2 [.int .i32 a2] from rfl) (Reps.none _ _)))
        intro v223 w34 ho35 hb hg_ hnew_
        clear hg_ hnew_
        (first | rw [← Ny222.out] at ho35 | (simp only [Int.reduceToNat] at ho35; rw [← Ny222.out] at ho35))
        have n0_ := Aside0.mk (Kd.R_lower ho35 (below_size bz))
        have n1_ := Aside0.mk (below_step bz hb)
        clear HB
        have HO224 := n0_
        have HB := n1_
        clear n0_ n1_
        clear hb ho35
        refine hK.out _ _ trivial (fun hHeld => ?_)
        clear hK K
        refine norm_ (a' := ?_) ?_ ?_
        rotate_left
        ·show Act.put _ (some 57) _ = _
         simp only [Act.put, List.setIfInBounds_toArray, List.set_cons_zero, List.set_cons_succ, i64_w, i32_w]
         rfl
        refine one_ (i := 0) (N := some 51) #[true, true, true, true, false, true, true, false, true, true, true, false, false] rfl rfl (one_of HT_.out (by kernel_rfl)) (by decide) (fun K hK => ?_)
        refine Kd.R_lit_step (Kd.int .i32) _ 21 ?hg (N := 51) ?hd (xs := ([] : List Int)) (inner := []) (ok := fun _ => True) (okp := fun _ => True) ?hr ?hp (fun _ hk => hk) trivial (Below.refl _ _) (Nat.le_refl _) (by simp) ?_; (case hd => rfl); (case hg => rfl); (case hr => first | (go_simp; done) | (go_simp; rfl)); (case hp => exact (Reps.none _ _))
        intro v216 w36 ho37 hb hg_ hnew_
        clear hg_ hnew_
        (first | rw [← Ny215.out] at ho37 | (simp only [Int.reduceToNat] at ho37; rw [← Ny215.out] at ho37))
        have n0_ := Aside0.mk (Kd.R_elder' (rz HO224.out) (Kd.R_base ho37) hb)
        have n1_ := Aside0.mk (Kd.R_lower (Kd.R_new' ho37 (Kd.R_lt (rz HO224.out))) (below_size bz))
        have n2_ := Aside0.mk (below_step bz hb)
        clear HO224
        clear HB
        have HO224 := n0_
        have HO217 := n1_
        have HB := n2_
        clear n0_ n1_ n2_
        clear hb ho37
        refine hK.out _ _ trivial (fun hHeld => ?_)
        clear hK K
        refine norm_ (a' := ?_) ?_ ?_
        rotate_left
        ·show Act.put _ (some 51) _ = _
         simp only [Act.put, List.setIfInBounds_toArray, List.set_cons_zero, List.set_cons_succ, i64_w, i32_w]
         rfl
        refine one_ (i := 4) (N := some 55) #[true, true, true, true, true, true, true, false, true, true, true, false, false] rfl rfl (one_of HT_.out (by kernel_rfl)) (by decide) (fun K hK => ?_)
        refine Kd.R_append_rows_step (Kd.int .i32) (w0 := w) w.heap.size (by rfl) (.tmp 51) (.tmp 54) 27 21 (.int .i32 0) 4 rfl Try.underlying27 info21 rfl (by decide) (by omega) v216 y215 (l0.take (a1 : Int).toNat) _ _ _ (fun k_ => some k_ ≠ (v223 : Value).ownBlock) (fun _ => False) rfl rfl ?aO ?aR (fun _ _ h => h) (fun _ h => h.elim) ?aF ?aB ?aS ?aL ?_
        (case aR => first | (have c_ := (Kd.C_below HR218.out HB.out); rw [tk_ (l := l0) (i := a1)] at c_; exact cz c_) | (exact cz (Kd.C_below HR218.out HB.out)))
        (case aB => exact bz)
        (case aF => exact (fun k_ hk => Kd.fresh' (Kd.R_lt (rz HO224.out)) k_ hk))
        (case aO => exact (by (with_reducible repeat (first | apply Kd.R_alloc | apply Kd.R_drewN | apply Kd.R_drew)); exact Kd.R_mono HO217.out (fun _ hk => hk.2)))
        (case aS => exact (below_size bz))
        (case aL => have := LMc22.out; have hlx_ := (tk_ (l := l0)); omega)
        intro v220 w38 ho hb hg hat
        rw [← Ny219.out] at ho
        have n0_ := Aside0.mk (Kd.R_after (ok := (fun _ => True)) (rz HO224.out) hg hat)
        have n1_ := Aside0.mk (hb)
        have n2_ := Aside0.mk (ho)
        clear HO224
        clear HB
        clear HO217
        have HO224 := n0_
        have HB := n1_
        have HO221 := n2_
        clear n0_ n1_ n2_
        clear ho hb hg hat
        refine hK.out _ _ trivial (fun hHeld => ?_)
        clear hK K
        refine norm_ (a' := ?_) ?_ ?_
        rotate_left
        ·show Act.put _ (some 55) _ = _
         simp only [Act.put, List.setIfInBounds_toArray, List.set_cons_zero, List.set_cons_succ, i64_w, i32_w]
         rfl
        exact norm_ (by simp only [putAll, Act.put, List.setIfInBounds_toArray, List.set_cons_zero, List.set_cons_succ]) (hCont (v216, v220, v223) _ ⟨(rz HO221.out), (by (with_reducible repeat (first | apply Kd.R_alloc | apply Kd.R_drewN | apply Kd.R_drew)); exact Kd.R_mono HO224.out (fun _ hk => hk.2)), bz⟩)
      rintro ⟨v216, v220, v223⟩ w39 ⟨h0_, h1_, h2_⟩
      have n0_ : Aside0 (Kd.R (Kd.int .i32) 21 w39 w.heap.size (fun k_ => some k_ ≠ (v223 : Value).ownBlock) v220 y219) := ⟨h0_⟩
      have n1_ : Aside0 (Kd.R (Kd.int .i32) 21 w39 w.heap.size (fun k_ => some k_ ≠ (v220 : Value).ownBlock) v223 y222) := ⟨h1_⟩
      have n2_ : Aside0 (Below w.heap.size w w39) := ⟨h2_⟩
      clear HB
      clear h0_ h1_ h2_
      have HO221 := n0_
      have HO224 := n1_
      have HB := n2_
      clear n0_ n1_ n2_
      have hHeld := trivial
      obtain ⟨Ao41, co41, eo41⟩ := Kd.R_slice HO224.out
      (first | subst eo41 | (injection eo41 with f1_ f2_ f3_; have f4_ := f1_.symm; have f5_ := f3_.symm; clear f1_ f2_ f3_; subst f4_; subst f5_))
      refine norm_ (a' := ?_) ?_ ?_
      rotate_left
      ·simp only [putAll, Act.put, List.setIfInBounds_toArray, List.set_cons_zero, List.set_cons_succ]
       rfl
      refine one_ (i := 7) (N := some 58) #[true, true, true, true, true, true, true, true, true, true, true, false, false] rfl rfl (one_of HT_.out (by kernel_rfl)) (by decide) (fun K hK => ?_)
      refine Kd.R_append_rows_step (Kd.int .i32) (w0 := w) w.heap.size (by rfl) (.tmp 55) (.tmp 57) 27 21 (.int .i32 0) 4 rfl Try.underlying27 info21 rfl (by decide) (by omega) v220 y219 y222 _ _ _ (fun k_ => some k_ ≠ (.slice Ao41 y222.length co41 : Value).ownBlock) (fun _ => False) rfl rfl ?aO ?aR (fun _ _ h => h) (fun _ h => h.elim) ?aF ?aB ?aS ?aL ?_
      (case aR => repeat (first | exact (Kd.R_reads' HO224.out).2.2 | (with_reducible refine Kd.C_alloc ?_ _) | (with_reducible refine Kd.C_drewN ?_ _) | (with_reducible refine Kd.C_drew ?_)))
      (case aB => exact bz)
      (case aF => exact (fun k_ hk => Kd.fresh' (Kd.R_lt (rz HO224.out)) k_ hk))
      (case aO => exact (rz HO221.out))
      (case aS => exact (below_size bz))
      (case aL => have := LMc23.out; omega)
      intro v226 w40 ho hb hg hat
      rw [← Ny225.out] at ho
      have n0_ := Aside0.mk (Kd.R_after (ok := (fun _ => True)) (by (with_reducible repeat (first | apply Kd.R_alloc | apply Kd.R_drewN | apply Kd.R_drew)); exact Kd.R_mono HO224.out (fun _ hk => ⟨trivial, hk⟩)) hg hat)
      have n1_ := Aside0.mk (hb)
      have n2_ := Aside0.mk (ho)
      clear HO224
      clear HB
      clear HO221
      have HO224 := n0_
      have HB := n1_
      have HO227 := n2_
      clear n0_ n1_ n2_
      clear ho hb hg hat
      refine hK.out _ _ trivial (fun hHeld => ?_)
      clear hK K
      refine norm_ (a' := ?_) ?_ ?_
      rotate_left
      ·show Act.put _ (some 58) _ = _
       simp only [Act.put, List.setIfInBounds_toArray, List.set_cons_zero, List.set_cons_succ, i64_w, i32_w]
       rfl
      refine one_ (i := 11) (N := some 62) #[true, true, true, true, true, true, true, true, true, true, true, true, false] rfl rfl (one_of HT_.out (by kernel_rfl)) (by decide) (fun K hK => ?_)
      refine Kd.R_append_rows_step (Kd.int .i32) (w0 := w) w.heap.size (by rfl) (.tmp 58) (.tmp 61) 27 21 (.int .i32 0) 4 rfl Try.underlying27 info21 rfl (by decide) (by omega) v226 y225 (l0.drop (a1 : Int).toNat) _ _ _ (fun k_ => some k_ ≠ (.slice Ao41 y222.length co41 : Value).ownBlock) (fun _ => False) rfl rfl ?aO ?aR (fun _ _ h => h) (fun _ h => h.elim) ?aF ?aB ?aS ?aL ?_
      (case aR => first | (rw [← show (l0.drop (a1 : Int).toNat).length = (l0.length - a1.toNat) from List.length_drop]; exact cz (Kd.C_below HR228.out HB.out)) | (exact cz (Kd.C_below HR228.out HB.out)))
      (case aB => exact bz)
      (case aF => exact (fun k_ hk => Kd.fresh' (Kd.R_lt (rz HO224.out)) k_ hk))
      (case aO => exact (rz HO227.out))
      (case aS => exact (below_size bz))
      (case aL => have := LMc26.out; have hlx_ := (show (l0.drop (a1 : Int).toNat).length = (l0.length - a1.toNat) from List.length_drop); omega)
      intro v230 w42 ho hb hg hat
      rw [← Ny229.out] at ho
      have n0_ := Aside0.mk (Kd.R_after (ok := (fun _ => True)) (rz HO224.out) hg hat)
      have n1_ := Aside0.mk (hb)
      have n2_ := Aside0.mk (ho)
      clear HO224
      clear HB
      clear HO227
      have HO224 := n0_
      have HB := n1_
      have HO231 := n2_
      clear n0_ n1_ n2_
      clear ho hb hg hat
      refine hK.out _ _ trivial (fun hHeld => ?_)
      clear hK K
      refine norm_ (a' := ?_) ?_ ?_
      rotate_left
      ·show Act.put _ (some 62) _ = _
       simp only [Act.put, List.setIfInBounds_toArray, List.set_cons_zero, List.set_cons_succ, i64_w, i32_w]
       rfl
      refine pure_ (i := 12) (N := some 10) (v := ?_) (a' := ?_) #[true, true, true, true, true, true, true, true, true, true, true, true, true] rfl rfl (any_of HT_.out (by kernel_rfl)) (fun _ _ _ h => h) (Or.inl ⟨by rfl, ?_⟩) ?_ ?_
      rotate_left
      ·intro w'
       go_simp
       with_reducible rfl
      rotate_left
      ·simp only [Act.put, List.setIfInBounds_toArray, List.set_cons_zero, List.set_cons_succ, i64_w, i32_w]
       rfl
      refine done_ (done_of HT_.out (by kernel_rfl)) ?_
      obtain ⟨Ao43, co43, eo43⟩ := Kd.R_slice HO231.out
      subst eo43
      try go_wp2_with (first | (go_at_call 18; (with_reducible refine (class_Turns.calls kj12 _ _ y229 t232 _ ?side1 ?side2 A30.out).mono ?_); (case side1 => repeat (first | exact (Kd.R_reads' HO231.out).2.2 | (with_reducible refine Kd.C_alloc ?_ _) | (with_reducible refine Kd.C_drewN ?_ _) | (with_reducible refine Kd.C_drew ?_))); (case side2 => exact (Kd.R_reads' HO231.out).2.1); rintro e w' ⟨rfl, ⟨nd, rfl⟩⟩))
      go_ret
      exact ⟨by first | rfl | (simp [errW_none, errW_some] <;> rfl) | (simp [*, errW_none, errW_some] <;> rfl), bz⟩
     rw [if_neg c28] at H
     have c28b0 : decide (a2 ≤ 8297) = false := decide_eq_false c28
     clear c28
     by_cases c56 : a2 ≥ 8234
     ·rw [if_pos c56] at H
      have c56b0 : decide (8234 ≤ a2) = true := decide_eq_true c56
      clear c56
      by_cases c57 : t211 = true
      rotate_left
      ·replace c57 := Bool.eq_false_iff.mpr c57
       subst c57
       have H1 : (some false) = some r := by rw [if_neg (show ¬ (false = true) by decide)] at H; exact H
       clear H
       have H := H1
       clear H1
       obtain rfl := Option.some.inj H
       try go_wp2
       have n0_ := Aside0.mk (below_drew1 HB.out)
       clear HB
       have HB := n0_
       clear n0_
       obtain ⟨i073, hi073, _, hsz73, _⟩ := info_parts info21
       obtain ⟨hcut73, hA73, hC73⟩ := print_take_of (P := Try.prog) (Value.int .i32) 0 27 21 .i64 Try.underlying27 hi073 hsz73 A0 c0 l0 a1 (of_decide_eq_true (by first | (with_reducible assumption) | assumption)) (of_decide_eq_true (by first | (with_reducible assumption) | assumption)) HC0.out
       have HR218 := Aside0.mk (Kd.C_of_reads (h1 := fun _ => rfl) (hA73 _ (Kd.reads_of_C HR0.out)))
       have HC218 := Aside0.mk hC73
       clear hA73 hC73 hi073 hsz73
       obtain ⟨i074, hi074, _, hsz74, _⟩ := info_parts info21
       obtain ⟨A74, hcut74, hA74, hC74⟩ := print_drop_of (P := Try.prog) (Value.int .i32) 0 27 21 .i64 Try.underlying27 hi074 hsz74 A0 c0 l0 a1 (of_decide_eq_true (by first | (with_reducible assumption) | assumption)) (of_decide_eq_true (by first | (with_reducible assumption) | assumption)) HC0.out
       have HR228 := Aside0.mk (Kd.C_of_reads (h1 := fun _ => rfl) (hA74 _ (Kd.reads_of_C HR0.out)))
       have HC228 := Aside0.mk hC74
       clear hA74 hC74 hi074 hsz74
       refine start_ (n := 13) (S := fun w' => True) (ds := []) #[false, false, false, false, false, false, false, false, false, false, false, false, false] (by kernel_rfl) rfl rfl trivial (fun hHeld => ?_); refine with_tabW exerguelaw02_ClassTurns.tab13 exerguelaw02_ClassTurns.bits13 (fun HT_ HW_ => ?_)
       generalize wc.drew = w72 at HB HR218 HR228 hHeld ⊢
       refine pure_ (i := 1) (N := some 52) (v := ?_) (a' := ?_) #[false, true, false, false, false, false, false, false, false, false, false, false, false] rfl rfl (any_of HT_.out (by kernel_rfl)) (fun _ _ _ h => h) (Or.inl ⟨by rfl, ?_⟩) ?_ ?_
       rotate_left
       ·intro w'
        go_simp
        with_reducible rfl
       rotate_left
       ·simp only [Act.put, List.setIfInBounds_toArray, List.set_cons_zero, List.set_cons_succ, i64_w, i32_w]
        rfl
       refine pure_ (i := 2) (N := some 53) (v := ?_) (a' := ?_) #[false, true, true, false, false, false, false, false, false, false, false, false, false] rfl rfl (any_of HT_.out (by kernel_rfl)) (fun _ _ _ h => h) (Or.inl ⟨by rfl, ?_⟩) ?_ ?_
       rotate_left
       ·intro w'
        go_simp
        with_reducible rfl
       rotate_left
       ·simp only [Act.put, List.setIfInBounds_toArray, List.set_cons_zero, List.set_cons_succ, i64_w, i32_w]
        rfl
       refine pure_ (i := 3) (N := some 54) (v := ?_) (a' := ?_) #[false, true, true, true, false, false, false, false, false, false, false, false, false] rfl rfl (any_of HT_.out (by kernel_rfl)) (fun _ _ _ h => h) (Or.inl ⟨by rfl, ?_⟩) ?_ ?_
       rotate_left
       ·intro w'
        go_simp
        with_reducible rfl
       rotate_left
       ·simp only [Act.put, List.setIfInBounds_toArray, List.set_cons_zero, List.set_cons_succ, i64_w, i32_w]
        rfl
       refine pure_ (i := 5) (N := some 56) (v := ?_) (a' := ?_) #[false, true, true, true, false, true, false, false, false, false, false, false, false] rfl rfl (any_of HT_.out (by kernel_rfl)) (fun _ _ _ h => h) (Or.inl ⟨by rfl, ?_⟩) ?_ ?_
       rotate_left
       ·intro w'
        go_simp
        with_reducible rfl
       rotate_left
       ·simp only [Act.put, List.setIfInBounds_toArray, List.set_cons_zero, List.set_cons_succ, i64_w, i32_w]
        rfl
       refine pure_ (i := 8) (N := some 59) (v := ?_) (a' := ?_) #[false, true, true, true, false, true, false, false, true, false, false, false, false] rfl rfl (any_of HT_.out (by kernel_rfl)) (fun _ _ _ h => h) (Or.inl ⟨by rfl, ?_⟩) ?_ ?_
       rotate_left
       ·intro w'
        go_simp
        with_reducible rfl
       rotate_left
       ·simp only [Act.put, List.setIfInBounds_toArray, List.set_cons_zero, List.set_cons_succ, i64_w, i32_w]
        rfl
       refine pure_ (i := 9) (N := some 60) (v := ?_) (a' := ?_) #[false, true, true, true, false, true, false, false, true, true, false, false, false] rfl rfl (any_of HT_.out (by kernel_rfl)) (fun _ _ _ h => h) (Or.inl ⟨by rfl, ?_⟩) ?_ ?_
       rotate_left
       ·intro w'
        go_simp
        with_reducible rfl
       rotate_left
       ·simp only [Act.put, List.setIfInBounds_toArray, List.set_cons_zero, List.set_cons_succ, i64_w, i32_w]
        rfl
       refine pure_ (i := 10) (N := some 61) (v := ?_) (a' := ?_) #[false, true, true, true, false, true, false, false, true, true, true, false, false] rfl rfl (any_of HT_.out (by kernel_rfl)) (fun _ _ _ h => h) (Or.inl ⟨by rfl, ?_⟩) ?_ ?_
       rotate_left
       ·intro w'
        go_simp
        with_reducible rfl
       rotate_left
       ·simp only [Act.put, List.setIfInBounds_toArray, List.set_cons_zero, List.set_cons_succ, i64_w, i32_w]
        rfl
       refine join_ (σ := Value × Value × Value) 3 #[true, true, true, true, true, true, true, false, true, true, true, false, false] (fun s_ => [(51, s_.1), (55, s_.2.1), (57, s_.2.2)]) (fun s_ w' => (Kd.R (Kd.int .i32) 21 w' w.heap.size (fun k_ => some k_ ≠ (s_.2.2 : Value).ownBlock) s_.2.1 y219) ∧ (Kd.R (Kd.int .i32) 21 w' w.heap.size (fun k_ => some k_ ≠ (s_.2.1 : Value).ownBlock) s_.2.2 y222) ∧ (Below w.heap.size w w')) ?_ ?_
       rotate_left
       ·intro hCont
        refine two_ (i := 0) (j := 6) (Ni := some 51) (Nj := some 57) #[true, true, true, true, false, true, false, false, true, true, true, false, false] #[false, true, true, true, false, true, true, false, true, true, true, false, false] rfl rfl rfl rfl (two_of HT_.out (by kernel_rfl)) (by decide) (by decide) (fun K hK => ?_) (fun K hK => ?_)
        ·skip
         refine Kd.R_lit_step (Kd.int .i32) _ 21 ?hg (N := 51) ?hd (xs := ([] : List Int)) (inner := []) (ok := fun _ => True) (okp := fun _ => True) ?hr ?hp (fun _ hk => hk) trivial (Below.refl _ _) (Nat.le_refl _) (by simp) ?_; (case hd => rfl); (case hg => rfl); (case hr => first | (go_simp; done) | (go_simp; rfl)); (case hp => exact (Reps.none _ _))
         intro v216 w75 ho76 hb hg_ hnew_
         clear hg_ hnew_
         (first | rw [← Ny215.out] at ho76 | (simp only [Int.reduceToNat] at ho76; rw [← Ny215.out] at ho76))
         have n0_ := Aside0.mk (Kd.R_lower ho76 (below_size bz))
         have n1_ := Aside0.mk (below_step bz hb)
         clear HB
         have HO217 := n0_
         have HB := n1_
         clear n0_ n1_
         clear hb ho76
         refine hK.out _ _ trivial (fun hHeld => ?_)
         clear hK K
         refine norm_ (a' := ?_) ?_ ?_
         rotate_left
         ·show Act.put _ (some 51) _ = _
          simp only [Act.put, List.setIfInBounds_toArray, List.set_cons_zero, List.set_cons_succ, i64_w, i32_w]
          rfl
         refine two_ (i := 4) (j := 6) (Ni := some 55) (Nj := some 57) #[true, true, true, true, true, true, false, false, true, true, true, false, false] #[true, true, true, true, false, true, true, false, true, true, true, false, false] rfl rfl rfl rfl (two_of HT_.out (by kernel_rfl)) (by decide) (by decide) (fun K hK => ?_) (fun K hK => ?_)
         ·skip
          refine Kd.R_append_rows_step (Kd.int .i32) (w0 := w) w.heap.size (by rfl) (.tmp 51) (.tmp 54) 27 21 (.int .i32 0) 4 rfl Try.underlying27 info21 rfl (by decide) (by omega) v216 y215 (l0.take (a1 : Int).toNat) _ _ _ (fun _ => True) (fun _ => False) rfl rfl ?aO ?aR (fun _ _ h => h) (fun _ h => h.elim) ?aF ?aB ?aS ?aL ?_
          (case aR => first | (have c_ := (Kd.C_below HR218.out HB.out); rw [tk_ (l := l0) (i := a1)] at c_; exact cz c_) | (exact cz (Kd.C_below HR218.out HB.out)))
          (case aB => exact bz)
          (case aF => exact (fun _ _ => trivial))
          (case aO => exact (rz HO217.out))
          (case aS => exact (below_size bz))
          (case aL => have := LMc22.out; have hlx_ := (tk_ (l := l0)); omega)
          intro v220 w77 ho hb hg hat
          rw [← Ny219.out] at ho
          have n0_ := Aside0.mk (hb)
          have n1_ := Aside0.mk (ho)
          clear HB
          clear HO217
          have HB := n0_
          have HO221 := n1_
          clear n0_ n1_
          clear ho hb hg hat
          refine hK.out _ _ trivial (fun hHeld => ?_)
          clear hK K
          refine norm_ (a' := ?_) ?_ ?_
          rotate_left
          ·show Act.put _ (some 55) _ = _
           simp only [Act.put, List.setIfInBounds_toArray, List.set_cons_zero, List.set_cons_succ, i64_w, i32_w]
           rfl
          refine one_ (i := 6) (N := some 57) #[true, true, true, true, true, true, true, false, true, true, true, false, false] rfl rfl (one_of HT_.out (by kernel_rfl)) (by decide) (fun K hK => ?_)
          refine Kd.R_lit_step (Kd.int .i32) _ 21 ?hg (N := 57) ?hd (xs := ([a2] : List Int)) (inner := [.int .i32 a2]) (ok := fun _ => True) (okp := fun _ => True) ?hr ?hp (fun _ hk => hk) trivial (Below.refl _ _) (Nat.le_refl _) (by simp) ?_; (case hd => rfl); (case hg => rfl); (case hr => first | (go_simp; done) | (go_simp; rfl)); (case hp => exact (Reps.one (show Kd.M (Kd.int .i32) _ _ _ a2 [.int .i32 a2] from rfl) (Reps.none _ _)))
          intro v223 w78 ho79 hb hg_ hnew_
          clear hg_ hnew_
          (first | rw [← Ny222.out] at ho79 | (simp only [Int.reduceToNat] at ho79; rw [← Ny222.out] at ho79))
          have n0_ := Aside0.mk (Kd.R_elder' (rz HO221.out) (Kd.R_base ho79) hb)
          have n1_ := Aside0.mk (Kd.R_lower (Kd.R_new' ho79 (Kd.R_lt (rz HO221.out))) (below_size bz))
          have n2_ := Aside0.mk (below_step bz hb)
          clear HO221
          clear HB
          have HO221 := n0_
          have HO224 := n1_
          have HB := n2_
          clear n0_ n1_ n2_
          clear hb ho79
          refine hK.out _ _ trivial (fun hHeld => ?_)
          clear hK K
          refine norm_ (a' := ?_) ?_ ?_
          rotate_left
          ·show Act.put _ (some 57) _ = _
           simp only [Act.put, List.setIfInBounds_toArray, List.set_cons_zero, List.set_cons_succ, i64_w, i32_w]
           rfl
          exact norm_ (by simp only [putAll, Act.put, List.setIfInBounds_toArray, List.set_cons_zero, List.set_cons_succ]) (hCont (v216, v220, v223) _ ⟨(by (with_reducible repeat (first | apply Kd.R_alloc | apply Kd.R_drewN | apply Kd.R_drew)); exact Kd.R_mono HO221.out (fun _ hk => hk.2)), (by (with_reducible repeat (first | apply Kd.R_alloc | apply Kd.R_drewN | apply Kd.R_drew)); exact Kd.R_mono HO224.out (fun _ hk => hk.2)), bz⟩)
         ·skip
          refine Kd.R_lit_step (Kd.int .i32) _ 21 ?hg (N := 57) ?hd (xs := ([a2] : List Int)) (inner := [.int .i32 a2]) (ok := fun _ => True) (okp := fun _ => True) ?hr ?hp (fun _ hk => hk) trivial (Below.refl _ _) (Nat.le_refl _) (by simp) ?_; (case hd => rfl); (case hg => rfl); (case hr => first | (go_simp; done) | (go_simp; rfl)); (case hp => exact (Reps.one (show Kd.M (Kd.int .i32) _ _ _ a2 [.int .i32 a2] from rfl) (Reps.none _ _)))
          intro v223 w77 ho78 hb hg_ hnew_
          clear hg_ hnew_
          (first | rw [← Ny222.out] at ho78 | (simp only [Int.reduceToNat] at ho78; rw [← Ny222.out] at ho78))
          have n0_ := Aside0.mk (Kd.R_elder' (rz HO217.out) (Kd.R_base ho78) hb)
          have n1_ := Aside0.mk (Kd.R_lower (Kd.R_new' ho78 (Kd.R_lt (rz HO217.out))) (below_size bz))
          have n2_ := Aside0.mk (below_step bz hb)
          clear HO217
          clear HB
          have HO217 := n0_
          have HO224 := n1_
          have HB := n2_
          clear n0_ n1_ n2_
          clear hb ho78
          refine hK.out _ _ trivial (fun hHeld => ?_)
          clear hK K
          refine norm_ (a' := ?_) ?_ ?_
          rotate_left
          ·show Act.put _ (some 57) _ = _
           simp only [Act.put, List.setIfInBounds_toArray, List.set_cons_zero, List.set_cons_succ, i64_w, i32_w]
           rfl
          refine one_ (i := 4) (N := some 55) #[true, true, true, true, true, true, true, false, true, true, true, false, false] rfl rfl (one_of HT_.out (by kernel_rfl)) (by decide) (fun K hK => ?_)
          refine Kd.R_append_rows_step (Kd.int .i32) (w0 := w) w.heap.size (by rfl) (.tmp 51) (.tmp 54) 27 21 (.int .i32 0) 4 rfl Try.underlying27 info21 rfl (by decide) (by omega) v216 y215 (l0.take (a1 : Int).toNat) _ _ _ (fun k_ => some k_ ≠ (v223 : Value).ownBlock) (fun _ => False) rfl rfl ?aO ?aR (fun _ _ h => h) (fun _ h => h.elim) ?aF ?aB ?aS ?aL ?_
          (case aR => first | (have c_ := (Kd.C_below HR218.out HB.out); rw [tk_ (l := l0) (i := a1)] at c_; exact cz c_) | (exact cz (Kd.C_below HR218.out HB.out)))
          (case aB => exact bz)
          (case aF => exact (fun k_ hk => Kd.fresh' (Kd.R_lt (rz HO224.out)) k_ hk))
          (case aO => exact (by (with_reducible repeat (first | apply Kd.R_alloc | apply Kd.R_drewN | apply Kd.R_drew)); exact Kd.R_mono HO217.out (fun _ hk => hk.2)))
          (case aS => exact (below_size bz))
          (case aL => have := LMc22.out; have hlx_ := (tk_ (l := l0)); omega)
          intro v220 w79 ho hb hg hat
          rw [← Ny219.out] at ho
          have n0_ := Aside0.mk (Kd.R_after (ok := (fun _ => True)) (rz HO224.out) hg hat)
          have n1_ := Aside0.mk (hb)
          have n2_ := Aside0.mk (ho)
          clear HO224
          clear HB
          clear HO217
          have HO224 := n0_
          have HB := n1_
          have HO221 := n2_
          clear n0_ n1_ n2_
          clear ho hb hg hat
          refine hK.out _ _ trivial (fun hHeld => ?_)
          clear hK K
          refine norm_ (a' := ?_) ?_ ?_
          rotate_left
          ·show Act.put _ (some 55) _ = _
           simp only [Act.put, List.setIfInBounds_toArray, List.set_cons_zero, List.set_cons_succ, i64_w, i32_w]
           rfl
          exact norm_ (by simp only [putAll, Act.put, List.setIfInBounds_toArray, List.set_cons_zero, List.set_cons_succ]) (hCont (v216, v220, v223) _ ⟨(rz HO221.out), (by (with_reducible repeat (first | apply Kd.R_alloc | apply Kd.R_drewN | apply Kd.R_drew)); exact Kd.R_mono HO224.out (fun _ hk => hk.2)), bz⟩)
        ·skip
         refine Kd.R_lit_step (Kd.int .i32) _ 21 ?hg (N := 57) ?hd (xs := ([a2] : List Int)) (inner := [.int .i32 a2]) (ok := fun _ => True) (okp := fun _ => True) ?hr ?hp (fun _ hk => hk) trivial (Below.refl _ _) (Nat.le_refl _) (by simp) ?_; (case hd => rfl); (case hg => rfl); (case hr => first | (go_simp; done) | (go_simp; rfl)); (case hp => exact (Reps.one (show Kd.M (Kd.int .i32) _ _ _ a2 [.int .i32 a2] from rfl) (Reps.none _ _)))
         intro v223 w75 ho76 hb hg_ hnew_
         clear hg_ hnew_
         (first | rw [← Ny222.out] at ho76 | (simp only [Int.reduceToNat] at ho76; rw [← Ny222.out] at ho76))
         have n0_ := Aside0.mk (Kd.R_lower ho76 (below_size bz))
         have n1_ := Aside0.mk (below_step bz hb)
         clear HB
         have HO224 := n0_
         have HB := n1_
         clear n0_ n1_
         clear hb ho76
         refine hK.out _ _ trivial (fun hHeld => ?_)
         clear hK K
         refine norm_ (a' := ?_) ?_ ?_
         rotate_left
         ·show Act.put _ (some 57) _ = _
          simp only [Act.put, List.setIfInBounds_toArray, List.set_cons_zero, List.set_cons_succ, i64_w, i32_w]
          rfl
         refine one_ (i := 0) (N := some 51) #[true, true, true, true, false, true, true, false, true, true, true, false, false] rfl rfl (one_of HT_.out (by kernel_rfl)) (by decide) (fun K hK => ?_)
         refine Kd.R_lit_step (Kd.int .i32) _ 21 ?hg (N := 51) ?hd (xs := ([] : List Int)) (inner := []) (ok := fun _ => True) (okp := fun _ => True) ?hr ?hp (fun _ hk => hk) trivial (Below.refl _ _) (Nat.le_refl _) (by simp) ?_; (case hd => rfl); (case hg => rfl); (case hr => first | (go_simp; done) | (go_simp; rfl)); (case hp => exact (Reps.none _ _))
         intro v216 w77 ho78 hb hg_ hnew_
         clear hg_ hnew_
         (first | rw [← Ny215.out] at ho78 | (simp only [Int.reduceToNat] at ho78; rw [← Ny215.out] at ho78))
         have n0_ := Aside0.mk (Kd.R_elder' (rz HO224.out) (Kd.R_base ho78) hb)
         have n1_ := Aside0.mk (Kd.R_lower (Kd.R_new' ho78 (Kd.R_lt (rz HO224.out))) (below_size bz))
         have n2_ := Aside0.mk (below_step bz hb)
         clear HO224
         clear HB
         have HO224 := n0_
         have HO217 := n1_
         have HB := n2_
         clear n0_ n1_ n2_
         clear hb ho78
         refine hK.out _ _ trivial (fun hHeld => ?_)
         clear hK K
         refine norm_ (a' := ?_) ?_ ?_
         rotate_left
         ·show Act.put _ (some 51) _ = _
          simp only [Act.put, List.setIfInBounds_toArray, List.set_cons_zero, List.set_cons_succ, i64_w, i32_w]
          rfl
         refine one_ (i := 4) (N := some 55) #[true, true, true, true, true, true, true, false, true, true, true, false, false] rfl rfl (one_of HT_.out (by kernel_rfl)) (by decide) (fun K hK => ?_)
         refine Kd.R_append_rows_step (Kd.int .i32) (w0 := w) w.heap.size (by rfl) (.tmp 51) (.tmp 54) 27 21 (.int .i32 0) 4 rfl Try.underlying27 info21 rfl (by decide) (by omega) v216 y215 (l0.take (a1 : Int).toNat) _ _ _ (fun k_ => some k_ ≠ (v223 : Value).ownBlock) (fun _ => False) rfl rfl ?aO ?aR (fun _ _ h => h) (fun _ h => h.elim) ?aF ?aB ?aS ?aL ?_
         (case aR => first | (have c_ := (Kd.C_below HR218.out HB.out); rw [tk_ (l := l0) (i := a1)] at c_; exact cz c_) | (exact cz (Kd.C_below HR218.out HB.out)))
         (case aB => exact bz)
         (case aF => exact (fun k_ hk => Kd.fresh' (Kd.R_lt (rz HO224.out)) k_ hk))
         (case aO => exact (by (with_reducible repeat (first | apply Kd.R_alloc | apply Kd.R_drewN | apply Kd.R_drew)); exact Kd.R_mono HO217.out (fun _ hk => hk.2)))
         (case aS => exact (below_size bz))
         (case aL => have := LMc22.out; have hlx_ := (tk_ (l := l0)); omega)
         intro v220 w79 ho hb hg hat
         rw [← Ny219.out] at ho
         have n0_ := Aside0.mk (Kd.R_after (ok := (fun _ => True)) (rz HO224.out) hg hat)
         have n1_ := Aside0.mk (hb)
         have n2_ := Aside0.mk (ho)
         clear HO224
         clear HB
         clear HO217
         have HO224 := n0_
         have HB := n1_
         have HO221 := n2_
         clear n0_ n1_ n2_
         clear ho hb hg hat
         refine hK.out _ _ trivial (fun hHeld => ?_)
         clear hK K
         refine norm_ (a' := ?_) ?_ ?_
         rotate_left
         ·show Act.put _ (some 55) _ = _
          simp only [Act.put, List.setIfInBounds_toArray, List.set_cons_zero, List.set_cons_succ, i64_w, i32_w]
          rfl
         exact norm_ (by simp only [putAll, Act.put, List.setIfInBounds_toArray, List.set_cons_zero, List.set_cons_succ]) (hCont (v216, v220, v223) _ ⟨(rz HO221.out), (by (with_reducible repeat (first | apply Kd.R_alloc | apply Kd.R_drewN | apply Kd.R_drew)); exact Kd.R_mono HO224.out (fun _ hk => hk.2)), bz⟩)
       rintro ⟨v216, v220, v223⟩ w80 ⟨h0_, h1_, h2_⟩
       have n0_ : Aside0 (Kd.R (Kd.int .i32) 21 w80 w.heap.size (fun k_ => some k_ ≠ (v223 : Value).ownBlock) v220 y219) := ⟨h0_⟩
       have n1_ : Aside0 (Kd.R (Kd.int .i32) 21 w80 w.heap.size (fun k_ => some k_ ≠ (v220 : Value).ownBlock) v223 y222) := ⟨h1_⟩
       have n2_ : Aside0 (Below w.heap.size w w80) := ⟨h2_⟩
       clear HB
       clear h0_ h1_ h2_
       have HO221 := n0_
       have HO224 := n1_
       have HB := n2_
       clear n0_ n1_ n2_
       have hHeld := trivial
       obtain ⟨Ao82, co82, eo82⟩ := Kd.R_slice HO224.out
       (first | subst eo82 | (injection eo82 with f1_ f2_ f3_; have f4_ := f1_.symm; have f5_ := f3_.symm; clear f1_ f2_ f3_; subst f4_; subst f5_))
       refine norm_ (a' := ?_) ?_ ?_
       rotate_left
       ·simp only [putAll, Act.put, List.setIfInBounds_toArray, List.set_cons_zero, List.set_cons_succ]
        rfl
       refine one_ (i := 7) (N := some 58) #[true, true, true, true, true, true, true, true, true, true, true, false, false] rfl rfl (one_of HT_.out (by kernel_rfl)) (by decide) (fun K hK => ?_)
       refine Kd.R_append_rows_step (Kd.int .i32) (w0 := w) w.heap.size (by rfl) (.tmp 55) (.tmp 57) 27 21 (.int .i32 0) 4 rfl Try.underlying27 info21 rfl (by decide) (by omega) v220 y219 y222 _ _ _ (fun k_ => some k_ ≠ (.slice Ao82 y222.length co82 : Value).ownBlock) (fun _ => False) rfl rfl ?aO ?aR (fun _ _ h => h) (fun _ h => h.elim) ?aF ?aB ?aS ?aL ?_
       (case aR => repeat (first | exact (Kd.R_reads' HO224.out).2.2 | (with_reducible refine Kd.C_alloc ?_ _) | (with_reducible refine Kd.C_drewN ?_ _) | (with_reducible refine Kd.C_drew ?_)))
       (case aB => exact bz)
       (case aF => exact (fun k_ hk => Kd.fresh' (Kd.R_lt (rz HO224.out)) k_ hk))
       (case aO => exact (rz HO221.out))
       (case aS => exact (below_size bz))
       (case aL => have := LMc23.out; omega)
       intro v226 w81 ho hb hg hat
       rw [← Ny225.out] at ho
       have n0_ := Aside0.mk (Kd.R_after (ok := (fun _ => True)) (by (with_reducible repeat (first | apply Kd.R_alloc | apply Kd.R_drewN | apply Kd.R_drew)); exact Kd.R_mono HO224.out (fun _ hk => ⟨trivial, hk⟩)) hg hat)
       have n1_ := Aside0.mk (hb)
       have n2_ := Aside0.mk (ho)
       clear HO224
       clear HB
       clear HO221
       have HO224 := n0_
       have HB := n1_
       have HO227 := n2_
       clear n0_ n1_ n2_
       clear ho hb hg hat
       refine hK.out _ _ trivial (fun hHeld => ?_)
       clear hK K
       refine norm_ (a' := ?_) ?_ ?_
       rotate_left
       ·show Act.put _ (some 58) _ = _
        simp only [Act.put, List.setIfInBounds_toArray, List.set_cons_zero, List.set_cons_succ, i64_w, i32_w]
        rfl
       refine one_ (i := 11) (N := some 62) #[true, true, true, true, true, true, true, true, true, true, true, true, false] rfl rfl (one_of HT_.out (by kernel_rfl)) (by decide) (fun K hK => ?_)
       refine Kd.R_append_rows_step (Kd.int .i32) (w0 := w) w.heap.size (by rfl) (.tmp 58) (.tmp 61) 27 21 (.int .i32 0) 4 rfl Try.underlying27 info21 rfl (by decide) (by omega) v226 y225 (l0.drop (a1 : Int).toNat) _ _ _ (fun k_ => some k_ ≠ (.slice Ao82 y222.length co82 : Value).ownBlock) (fun _ => False) rfl rfl ?aO ?aR (fun _ _ h => h) (fun _ h => h.elim) ?aF ?aB ?aS ?aL ?_
       (case aR => first | (rw [← show (l0.drop (a1 : Int).toNat).length = (l0.length - a1.toNat) from List.length_drop]; exact cz (Kd.C_below HR228.out HB.out)) | (exact cz (Kd.C_below HR228.out HB.out)))
       (case aB => exact bz)
       (case aF => exact (fun k_ hk => Kd.fresh' (Kd.R_lt (rz HO224.out)) k_ hk))
       (case aO => exact (rz HO227.out))
       (case aS => exact (below_size bz))
       (case aL => have := LMc26.out; have hlx_ := (show (l0.drop (a1 : Int).toNat).length = (l0.length - a1.toNat) from List.length_drop); omega)
       intro v230 w83 ho hb hg hat
       rw [← Ny229.out] at ho
       have n0_ := Aside0.mk (Kd.R_after (ok := (fun _ => True)) (rz HO224.out) hg hat)
       have n1_ := Aside0.mk (hb)
       have n2_ := Aside0.mk (ho)
       clear HO224
       clear HB
       clear HO227
       have HO224 := n0_
       have HB := n1_
       have HO231 := n2_
       clear n0_ n1_ n2_
       clear ho hb hg hat
       refine hK.out _ _ trivial (fun hHeld => ?_)
       clear hK K
       refine norm_ (a' := ?_) ?_ ?_
       rotate_left
       ·show Act.put _ (some 62) _ = _
        simp only [Act.put, List.setIfInBounds_toArray, List.set_cons_zero, List.set_cons_succ, i64_w, i32_w]
        rfl
       refine pure_ (i := 12) (N := some 10) (v := ?_) (a' := ?_) #[true, true, true, true, true, true, true, true, true, true, true, true, true] rfl rfl (any_of HT_.out (by kernel_rfl)) (fun _ _ _ h => h) (Or.inl ⟨by rfl, ?_⟩) ?_ ?_
       rotate_left
       ·intro w'
        go_simp
        with_reducible rfl
       rotate_left
       ·simp only [Act.put, List.setIfInBounds_toArray, List.set_cons_zero, List.set_cons_succ, i64_w, i32_w]
        rfl
       refine done_ (done_of HT_.out (by kernel_rfl)) ?_
       try go_wp2
       go_ret
       exact ⟨by first | rfl | (simp [errW_none, errW_some] <;> rfl) | (simp [*, errW_none, errW_some] <;> rfl), bz⟩
      subst c57
      have H1 : ((class_Turns.f kj12 y229).bind fun t233 => (some (t233 == (!(decide (a2 ≤ 8238)))))) = some r := by rw [if_pos rfl] at H; exact H
      clear H
      have H := H1
      clear H1
      replace H := Option.bind_eq_some_iff.mp H
      obtain ⟨t233, A580, H⟩ := H
      replace H : (some (t233 == (!(decide (a2 ≤ 8238))))) = some r := H
      have A58 := Aside0.mk A580
      clear A580
      obtain rfl := Option.some.inj H
      try go_wp2
      have n0_ := Aside0.mk (below_drew1 HB.out)
      clear HB
      have HB := n0_
      clear n0_
      obtain ⟨i060, hi060, _, hsz60, _⟩ := info_parts info21
      obtain ⟨hcut60, hA60, hC60⟩ := print_take_of (P := Try.prog) (Value.int .i32) 0 27 21 .i64 Try.underlying27 hi060 hsz60 A0 c0 l0 a1 (of_decide_eq_true (by first | (with_reducible assumption) | assumption)) (of_decide_eq_true (by first | (with_reducible assumption) | assumption)) HC0.out
      have HR218 := Aside0.mk (Kd.C_of_reads (h1 := fun _ => rfl) (hA60 _ (Kd.reads_of_C HR0.out)))
      have HC218 := Aside0.mk hC60
      clear hA60 hC60 hi060 hsz60
      obtain ⟨i061, hi061, _, hsz61, _⟩ := info_parts info21
      obtain ⟨A61, hcut61, hA61, hC61⟩ := print_drop_of (P := Try.prog) (Value.int .i32) 0 27 21 .i64 Try.underlying27 hi061 hsz61 A0 c0 l0 a1 (of_decide_eq_true (by first | (with_reducible assumption) | assumption)) (of_decide_eq_true (by first | (with_reducible assumption) | assumption)) HC0.out
      have HR228 := Aside0.mk (Kd.C_of_reads (h1 := fun _ => rfl) (hA61 _ (Kd.reads_of_C HR0.out)))
      have HC228 := Aside0.mk hC61
      clear hA61 hC61 hi061 hsz61
      refine start_ (n := 13) (S := fun w' => True) (ds := []) #[false, false, false, false, false, false, false, false, false, false, false, false, false] (by kernel_rfl) rfl rfl trivial (fun hHeld => ?_); refine with_tabW exerguelaw02_ClassTurns.tab13 exerguelaw02_ClassTurns.bits13 (fun HT_ HW_ => ?_)
      generalize wc.drew = w59 at HB HR218 HR228 hHeld ⊢
      refine pure_ (i := 1) (N := some 52) (v := ?_) (a' := ?_) #[false, true, false, false, false, false, false, false, false, false, false, false, false] rfl rfl (any_of HT_.out (by kernel_rfl)) (fun _ _ _ h => h) (Or.inl ⟨by rfl, ?_⟩) ?_ ?_
      rotate_left
      ·intro w'
       go_simp
       with_reducible rfl
      rotate_left
      ·simp only [Act.put, List.setIfInBounds_toArray, List.set_cons_zero, List.set_cons_succ, i64_w, i32_w]
       rfl
      refine pure_ (i := 2) (N := some 53) (v := ?_) (a' := ?_) #[false, true, true, false, false, false, false, false, false, false, false, false, false] rfl rfl (any_of HT_.out (by kernel_rfl)) (fun _ _ _ h => h) (Or.inl ⟨by rfl, ?_⟩) ?_ ?_
      rotate_left
      ·intro w'
       go_simp
       with_reducible rfl
      rotate_left
      ·simp only [Act.put, List.setIfInBounds_toArray, List.set_cons_zero, List.set_cons_succ, i64_w, i32_w]
       rfl
      refine pure_ (i := 3) (N := some 54) (v := ?_) (a' := ?_) #[false, true, true, true, false, false, false, false, false, false, false, false, false] rfl rfl (any_of HT_.out (by kernel_rfl)) (fun _ _ _ h => h) (Or.inl ⟨by rfl, ?_⟩) ?_ ?_
      rotate_left
      ·intro w'
       go_simp
       with_reducible rfl
      rotate_left
      ·simp only [Act.put, List.setIfInBounds_toArray, List.set_cons_zero, List.set_cons_succ, i64_w, i32_w]
       rfl
      refine pure_ (i := 5) (N := some 56) (v := ?_) (a' := ?_) #[false, true, true, true, false, true, false, false, false, false, false, false, false] rfl rfl (any_of HT_.out (by kernel_rfl)) (fun _ _ _ h => h) (Or.inl ⟨by rfl, ?_⟩) ?_ ?_
      rotate_left
      ·intro w'
       go_simp
       with_reducible rfl
      rotate_left
      ·simp only [Act.put, List.setIfInBounds_toArray, List.set_cons_zero, List.set_cons_succ, i64_w, i32_w]
       rfl
      refine pure_ (i := 8) (N := some 59) (v := ?_) (a' := ?_) #[false, true, true, true, false, true, false, false, true, false, false, false, false] rfl rfl (any_of HT_.out (by kernel_rfl)) (fun _ _ _ h => h) (Or.inl ⟨by rfl, ?_⟩) ?_ ?_
      rotate_left
      ·intro w'
       go_simp
       with_reducible rfl
      rotate_left
      ·simp only [Act.put, List.setIfInBounds_toArray, List.set_cons_zero, List.set_cons_succ, i64_w, i32_w]
       rfl
      refine pure_ (i := 9) (N := some 60) (v := ?_) (a' := ?_) #[false, true, true, true, false, true, false, false, true, true, false, false, false] rfl rfl (any_of HT_.out (by kernel_rfl)) (fun _ _ _ h => h) (Or.inl ⟨by rfl, ?_⟩) ?_ ?_
      rotate_left
      ·intro w'
       go_simp
       with_reducible rfl
      rotate_left
      ·simp only [Act.put, List.setIfInBounds_toArray, List.set_cons_zero, List.set_cons_succ, i64_w, i32_w]
       rfl
      refine pure_ (i := 10) (N := some 61) (v := ?_) (a' := ?_) #[false, true, true, true, false, true, false, false, true, true, true, false, false] rfl rfl (any_of HT_.out (by kernel_rfl)) (fun _ _ _ h => h) (Or.inl ⟨by rfl, ?_⟩) ?_ ?_
      rotate_left
      ·intro w'
       go_simp
       with_reducible rfl
      rotate_left
      ·simp only [Act.put, List.setIfInBounds_toArray, List.set_cons_zero, List.set_cons_succ, i64_w, i32_w]
       rfl
      refine join_ (σ := Value × Value × Value) 3 #[true, true, true, true, true, true, true, false, true, true, true, false, false] (fun s_ => [(51, s_.1), (55, s_.2.1), (57, s_.2.2)]) (fun s_ w' => (Kd.R (Kd.int .i32) 21 w' w.heap.size (fun k_ => some k_ ≠ (s_.2.2 : Value).ownBlock) s_.2.1 y219) ∧ (Kd.R (Kd.int .i32) 21 w' w.heap.size (fun k_ => some k_ ≠ (s_.2.1 : Value).ownBlock) s_.2.2 y222) ∧ (Below w.heap.size w w')) ?_ ?_
      rotate_left
      ·intro hCont
       refine two_ (i := 0) (j := 6) (Ni := some 51) (Nj := some 57) #[true, true, true, true, false, true, false, false, true, true, true, false, false] #[false, true, true, true, false, true, true, false, true, true, true, false, false] rfl rfl rfl rfl (two_of HT_.out (by kernel_rfl)) (by decide) (by decide) (fun K hK => ?_) (fun K hK => ?_)
       ·skip
        refine Kd.R_lit_step (Kd.int .i32) _ 21 ?hg (N := 51) ?hd (xs := ([] : List Int)) (inner := []) (ok := fun _ => True) (okp := fun _ => True) ?hr ?hp (fun _ hk => hk) trivial (Below.refl _ _) (Nat.le_refl _) (by simp) ?_; (case hd => rfl); (case hg => rfl); (case hr => first | (go_simp; done) | (go_simp; rfl)); (case hp => exact (Reps.none _ _))
        intro v216 w62 ho63 hb hg_ hnew_
        clear hg_ hnew_
        (first | rw [← Ny215.out] at ho63 | (simp only [Int.reduceToNat] at ho63; rw [← Ny215.out] at ho63))
        have n0_ := Aside0.mk (Kd.R_lower ho63 (below_size bz))
        have n1_ := Aside0.mk (below_step bz hb)
        clear HB
        have HO217 := n0_
        have HB := n1_
        clear n0_ n1_
        clear hb ho63
        refine hK.out _ _ trivial (fun hHeld => ?_)
        clear hK K
        refine norm_ (a' := ?_) ?_ ?_
        rotate_left
        ·show Act.put _ (some 51) _ = _
         simp only [Act.put, List.setIfInBounds_toArray, List.set_cons_zero, List.set_cons_succ, i64_w, i32_w]
         rfl
        refine two_ (i := 4) (j := 6) (Ni := some 55) (Nj := some 57) #[true, true, true, true, true, true, false, false, true, true, true, false, false] #[true, true, true, true, false, true, true, false, true, true, true, false, false] rfl rfl rfl rfl (two_of HT_.out (by kernel_rfl)) (by decide) (by decide) (fun K hK => ?_) (fun K hK => ?_)
        ·skip
         refine Kd.R_append_rows_step (Kd.int .i32) (w0 := w) w.heap.size (by rfl) (.tmp 51) (.tmp 54) 27 21 (.int .i32 0) 4 rfl Try.underlying27 info21 rfl (by decide) (by omega) v216 y215 (l0.take (a1 : Int).toNat) _ _ _ (fun _ => True) (fun _ => False) rfl rfl ?aO ?aR (fun _ _ h => h) (fun _ h => h.elim) ?aF ?aB ?aS ?aL ?_
         (case aR => first | (have c_ := (Kd.C_below HR218.out HB.out); rw [tk_ (l := l0) (i := a1)] at c_; exact cz c_) | (exact cz (Kd.C_below HR218.out HB.out)))
         (case aB => exact bz)
         (case aF => exact (fun _ _ => trivial))
         (case aO => exact (rz HO217.out))
         (case aS => exact (below_size bz))
         (case aL => have := LMc22.out; have hlx_ := (tk_ (l := l0)); omega)
         intro v220 w64 ho hb hg hat
         rw [← Ny219.out] at ho
         have n0_ := Aside0.mk (hb)
         have n1_ := Aside0.mk (ho)
         clear HB
         clear HO217
         have HB := n0_
         have HO221 := n1_
         clear n0_ n1_
         clear ho hb hg hat
         refine hK.out _ _ trivial (fun hHeld => ?_)
         clear hK K
         refine norm_ (a' := ?_) ?_ ?_
         rotate_left
         ·show Act.put _ (some 55) _ = _
          simp only [Act.put, List.setIfInBounds_toArray, List.set_cons_zero, List.set_cons_succ, i64_w, i32_w]
          rfl
         refine one_ (i := 6) (N := some 57) #[true, true, true, true, true, true, true, false, true, true, true, false, false] rfl rfl (one_of HT_.out (by kernel_rfl)) (by decide) (fun K hK => ?_)
         refine Kd.R_lit_step (Kd.int .i32) _ 21 ?hg (N := 57) ?hd (xs := ([a2] : List Int)) (inner := [.int .i32 a2]) (ok := fun _ => True) (okp := fun _ => True) ?hr ?hp (fun _ hk => hk) trivial (Below.refl _ _) (Nat.le_refl _) (by simp) ?_; (case hd => rfl); (case hg => rfl); (case hr => first | (go_simp; done) | (go_simp; rfl)); (case hp => exact (Reps.one (show Kd.M (Kd.int .i32) _ _ _ a2 [.int .i32 a2] from rfl) (Reps.none _ _)))
         intro v223 w65 ho66 hb hg_ hnew_
         clear hg_ hnew_
         (first | rw [← Ny222.out] at ho66 | (simp only [Int.reduceToNat] at ho66; rw [← Ny222.out] at ho66))
         have n0_ := Aside0.mk (Kd.R_elder' (rz HO221.out) (Kd.R_base ho66) hb)
         have n1_ := Aside0.mk (Kd.R_lower (Kd.R_new' ho66 (Kd.R_lt (rz HO221.out))) (below_size bz))
         have n2_ := Aside0.mk (below_step bz hb)
         clear HO221
         clear HB
         have HO221 := n0_
         have HO224 := n1_
         have HB := n2_
         clear n0_ n1_ n2_
         clear hb ho66
         refine hK.out _ _ trivial (fun hHeld => ?_)
         clear hK K
         refine norm_ (a' := ?_) ?_ ?_
         rotate_left
         ·show Act.put _ (some 57) _ = _
          simp only [Act.put, List.setIfInBounds_toArray, List.set_cons_zero, List.set_cons_succ, i64_w, i32_w]
          rfl
         exact norm_ (by simp only [putAll, Act.put, List.setIfInBounds_toArray, List.set_cons_zero, List.set_cons_succ]) (hCont (v216, v220, v223) _ ⟨(by (with_reducible repeat (first | apply Kd.R_alloc | apply Kd.R_drewN | apply Kd.R_drew)); exact Kd.R_mono HO221.out (fun _ hk => hk.2)), (by (with_reducible repeat (first | apply Kd.R_alloc | apply Kd.R_drewN | apply Kd.R_drew)); exact Kd.R_mono HO224.out (fun _ hk => hk.2)), bz⟩)
        ·skip
         refine Kd.R_lit_step (Kd.int .i32) _ 21 ?hg (N := 57) ?hd (xs := ([a2] : List Int)) (inner := [.int .i32 a2]) (ok := fun _ => True) (okp := fun _ => True) ?hr ?hp (fun _ hk => hk) trivial (Below.refl _ _) (Nat.le_refl _) (by simp) ?_; (case hd => rfl); (case hg => rfl); (case hr => first | (go_simp; done) | (go_simp; rfl)); (case hp => exact (Reps.one (show Kd.M (Kd.int .i32) _ _ _ a2 [.int .i32 a2] from rfl) (Reps.none _ _)))
         intro v223 w64 ho65 hb hg_ hnew_
         clear hg_ hnew_
         (first | rw [← Ny222.out] at ho65 | (simp only [Int.reduceToNat] at ho65; rw [← Ny222.out] at ho65))
         have n0_ := Aside0.mk (Kd.R_elder' (rz HO217.out) (Kd.R_base ho65) hb)
         have n1_ := Aside0.mk (Kd.R_lower (Kd.R_new' ho65 (Kd.R_lt (rz HO217.out))) (below_size bz))
         have n2_ := Aside0.mk (below_step bz hb)
         clear HO217
         clear HB
         have HO217 := n0_
         have HO224 := n1_
         have HB := n2_
         clear n0_ n1_ n2_
         clear hb ho65
         refine hK.out _ _ trivial (fun hHeld => ?_)
         clear hK K
         refine norm_ (a' := ?_) ?_ ?_
         rotate_left
         ·show Act.put _ (some 57) _ = _
          simp only [Act.put, List.setIfInBounds_toArray, List.set_cons_zero, List.set_cons_succ, i64_w, i32_w]
          rfl
         refine one_ (i := 4) (N := some 55) #[true, true, true, true, true, true, true, false, true, true, true, false, false] rfl rfl (one_of HT_.out (by kernel_rfl)) (by decide) (fun K hK => ?_)
         refine Kd.R_append_rows_step (Kd.int .i32) (w0 := w) w.heap.size (by rfl) (.tmp 51) (.tmp 54) 27 21 (.int .i32 0) 4 rfl Try.underlying27 info21 rfl (by decide) (by omega) v216 y215 (l0.take (a1 : Int).toNat) _ _ _ (fun k_ => some k_ ≠ (v223 : Value).ownBlock) (fun _ => False) rfl rfl ?aO ?aR (fun _ _ h => h) (fun _ h => h.elim) ?aF ?aB ?aS ?aL ?_
         (case aR => first | (have c_ := (Kd.C_below HR218.out HB.out); rw [tk_ (l := l0) (i := a1)] at c_; exact cz c_) | (exact cz (Kd.C_below HR218.out HB.out)))
         (case aB => exact bz)
         (case aF => exact (fun k_ hk => Kd.fresh' (Kd.R_lt (rz HO224.out)) k_ hk))
         (case aO => exact (by (with_reducible repeat (first | apply Kd.R_alloc | apply Kd.R_drewN | apply Kd.R_drew)); exact Kd.R_mono HO217.out (fun _ hk => hk.2)))
         (case aS => exact (below_size bz))
         (case aL => have := LMc22.out; have hlx_ := (tk_ (l := l0)); omega)
         intro v220 w66 ho hb hg hat
         rw [← Ny219.out] at ho
         have n0_ := Aside0.mk (Kd.R_after (ok := (fun _ => True)) (rz HO224.out) hg hat)
         have n1_ := Aside0.mk (hb)
         have n2_ := Aside0.mk (ho)
         clear HO224
         clear HB
         clear HO217
         have HO224 := n0_
         have HB := n1_
         have HO221 := n2_
         clear n0_ n1_ n2_
         clear ho hb hg hat
         refine hK.out _ _ trivial (fun hHeld => ?_)
         clear hK K
         refine norm_ (a' := ?_) ?_ ?_
         rotate_left
         ·show Act.put _ (some 55) _ = _
          simp only [Act.put, List.setIfInBounds_toArray, List.set_cons_zero, List.set_cons_succ, i64_w, i32_w]
          rfl
         exact norm_ (by simp only [putAll, Act.put, List.setIfInBounds_toArray, List.set_cons_zero, List.set_cons_succ]) (hCont (v216, v220, v223) _ ⟨(rz HO221.out), (by (with_reducible repeat (first | apply Kd.R_alloc | apply Kd.R_drewN | apply Kd.R_drew)); exact Kd.R_mono HO224.out (fun _ hk => hk.2)), bz⟩)
       ·skip
        refine Kd.R_lit_step (Kd.int .i32) _ 21 ?hg (N := 57) ?hd (xs := ([a2] : List Int)) (inner := [.int .i32 a2]) (ok := fun _ => True) (okp := fun _ => True) ?hr ?hp (fun _ hk => hk) trivial (Below.refl _ _) (Nat.le_refl _) (by simp) ?_; (case hd => rfl); (case hg => rfl); (case hr => first | (go_simp; done) | (go_simp; rfl)); (case hp => exact (Reps.one (show Kd.M (Kd.int .i32) _ _ _ a2 [.int .i32 a2] from rfl) (Reps.none _ _)))
        intro v223 w62 ho63 hb hg_ hnew_
        clear hg_ hnew_
        (first | rw [← Ny222.out] at ho63 | (simp only [Int.reduceToNat] at ho63; rw [← Ny222.out] at ho63))
        have n0_ := Aside0.mk (Kd.R_lower ho63 (below_size bz))
        have n1_ := Aside0.mk (below_step bz hb)
        clear HB
        have HO224 := n0_
        have HB := n1_
        clear n0_ n1_
        clear hb ho63
        refine hK.out _ _ trivial (fun hHeld => ?_)
        clear hK K
        refine norm_ (a' := ?_) ?_ ?_
        rotate_left
        ·show Act.put _ (some 57) _ = _
         simp only [Act.put, List.setIfInBounds_toArray, List.set_cons_zero, List.set_cons_succ, i64_w, i32_w]
         rfl
        refine one_ (i := 0) (N := some 51) #[true, true, true, true, false, true, true, false, true, true, true, false, false] rfl rfl (one_of HT_.out (by kernel_rfl)) (by decide) (fun K hK => ?_)
        refine Kd.R_lit_step (Kd.int .i32) _ 21 ?hg (N := 51) ?hd (xs := ([] : List Int)) (inner := []) (ok := fun _ => True) (okp := fun _ => True) ?hr ?hp (fun _ hk => hk) trivial (Below.refl _ _) (Nat.le_refl _) (by simp) ?_; (case hd => rfl); (case hg => rfl); (case hr => first | (go_simp; done) | (go_simp; rfl)); (case hp => exact (Reps.none _ _))
        intro v216 w64 ho65 hb hg_ hnew_
        clear hg_ hnew_
        (first | rw [← Ny215.out] at ho65 | (simp only [Int.reduceToNat] at ho65; rw [← Ny215.out] at ho65))
        have n0_ := Aside0.mk (Kd.R_elder' (rz HO224.out) (Kd.R_base ho65) hb)
        have n1_ := Aside0.mk (Kd.R_lower (Kd.R_new' ho65 (Kd.R_lt (rz HO224.out))) (below_size bz))
        have n2_ := Aside0.mk (below_step bz hb)
        clear HO224
        clear HB
        have HO224 := n0_
        have HO217 := n1_
        have HB := n2_
        clear n0_ n1_ n2_
        clear hb ho65
        refine hK.out _ _ trivial (fun hHeld => ?_)
        clear hK K
        refine norm_ (a' := ?_) ?_ ?_
        rotate_left
        ·show Act.put _ (some 51) _ = _
         simp only [Act.put, List.setIfInBounds_toArray, List.set_cons_zero, List.set_cons_succ, i64_w, i32_w]
         rfl
        refine one_ (i := 4) (N := some 55) #[true, true, true, true, true, true, true, false, true, true, true, false, false] rfl rfl (one_of HT_.out (by kernel_rfl)) (by decide) (fun K hK => ?_)
        refine Kd.R_append_rows_step (Kd.int .i32) (w0 := w) w.heap.size (by rfl) (.tmp 51) (.tmp 54) 27 21 (.int .i32 0) 4 rfl Try.underlying27 info21 rfl (by decide) (by omega) v216 y215 (l0.take (a1 : Int).toNat) _ _ _ (fun k_ => some k_ ≠ (v223 : Value).ownBlock) (fun _ => False) rfl rfl ?aO ?aR (fun _ _ h => h) (fun _ h => h.elim) ?aF ?aB ?aS ?aL ?_
        (case aR => first | (have c_ := (Kd.C_below HR218.out HB.out); rw [tk_ (l := l0) (i := a1)] at c_; exact cz c_) | (exact cz (Kd.C_below HR218.out HB.out)))
        (case aB => exact bz)
        (case aF => exact (fun k_ hk => Kd.fresh' (Kd.R_lt (rz HO224.out)) k_ hk))
        (case aO => exact (by (with_reducible repeat (first | apply Kd.R_alloc | apply Kd.R_drewN | apply Kd.R_drew)); exact Kd.R_mono HO217.out (fun _ hk => hk.2)))
        (case aS => exact (below_size bz))
        (case aL => have := LMc22.out; have hlx_ := (tk_ (l := l0)); omega)
        intro v220 w66 ho hb hg hat
        rw [← Ny219.out] at ho
        have n0_ := Aside0.mk (Kd.R_after (ok := (fun _ => True)) (rz HO224.out) hg hat)
        have n1_ := Aside0.mk (hb)
        have n2_ := Aside0.mk (ho)
        clear HO224
        clear HB
        clear HO217
        have HO224 := n0_
        have HB := n1_
        have HO221 := n2_
        clear n0_ n1_ n2_
        clear ho hb hg hat
        refine hK.out _ _ trivial (fun hHeld => ?_)
        clear hK K
        refine norm_ (a' := ?_) ?_ ?_
        rotate_left
        ·show Act.put _ (some 55) _ = _
         simp only [Act.put, List.setIfInBounds_toArray, List.set_cons_zero, List.set_cons_succ, i64_w, i32_w]
         rfl
        exact norm_ (by simp only [putAll, Act.put, List.setIfInBounds_toArray, List.set_cons_zero, List.set_cons_succ]) (hCont (v216, v220, v223) _ ⟨(rz HO221.out), (by (with_reducible repeat (first | apply Kd.R_alloc | apply Kd.R_drewN | apply Kd.R_drew)); exact Kd.R_mono HO224.out (fun _ hk => hk.2)), bz⟩)
      rintro ⟨v216, v220, v223⟩ w67 ⟨h0_, h1_, h2_⟩
      have n0_ : Aside0 (Kd.R (Kd.int .i32) 21 w67 w.heap.size (fun k_ => some k_ ≠ (v223 : Value).ownBlock) v220 y219) := ⟨h0_⟩
      have n1_ : Aside0 (Kd.R (Kd.int .i32) 21 w67 w.heap.size (fun k_ => some k_ ≠ (v220 : Value).ownBlock) v223 y222) := ⟨h1_⟩
      have n2_ : Aside0 (Below w.heap.size w w67) := ⟨h2_⟩
      clear HB
      clear h0_ h1_ h2_
      have HO221 := n0_
      have HO224 := n1_
      have HB := n2_
      clear n0_ n1_ n2_
      have hHeld := trivial
      obtain ⟨Ao69, co69, eo69⟩ := Kd.R_slice HO224.out
      (first | subst eo69 | (injection eo69 with f1_ f2_ f3_; have f4_ := f1_.symm; have f5_ := f3_.symm; clear f1_ f2_ f3_; subst f4_; subst f5_))
      refine norm_ (a' := ?_) ?_ ?_
      rotate_left
      ·simp only [putAll, Act.put, List.setIfInBounds_toArray, List.set_cons_zero, List.set_cons_succ]
       rfl
      refine one_ (i := 7) (N := some 58) #[true, true, true, true, true, true, true, true, true, true, true, false, false] rfl rfl (one_of HT_.out (by kernel_rfl)) (by decide) (fun K hK => ?_)
      refine Kd.R_append_rows_step (Kd.int .i32) (w0 := w) w.heap.size (by rfl) (.tmp 55) (.tmp 57) 27 21 (.int .i32 0) 4 rfl Try.underlying27 info21 rfl (by decide) (by omega) v220 y219 y222 _ _ _ (fun k_ => some k_ ≠ (.slice Ao69 y222.length co69 : Value).ownBlock) (fun _ => False) rfl rfl ?aO ?aR (fun _ _ h => h) (fun _ h => h.elim) ?aF ?aB ?aS ?aL ?_
      (case aR => repeat (first | exact (Kd.R_reads' HO224.out).2.2 | (with_reducible refine Kd.C_alloc ?_ _) | (with_reducible refine Kd.C_drewN ?_ _) | (with_reducible refine Kd.C_drew ?_)))
      (case aB => exact bz)
      (case aF => exact (fun k_ hk => Kd.fresh' (Kd.R_lt (rz HO224.out)) k_ hk))
      (case aO => exact (rz HO221.out))
      (case aS => exact (below_size bz))
      (case aL => have := LMc23.out; omega)
      intro v226 w68 ho hb hg hat
      rw [← Ny225.out] at ho
      have n0_ := Aside0.mk (Kd.R_after (ok := (fun _ => True)) (by (with_reducible repeat (first | apply Kd.R_alloc | apply Kd.R_drewN | apply Kd.R_drew)); exact Kd.R_mono HO224.out (fun _ hk => ⟨trivial, hk⟩)) hg hat)
      have n1_ := Aside0.mk (hb)
      have n2_ := Aside0.mk (ho)
      clear HO224
      clear HB
      clear HO221
      have HO224 := n0_
      have HB := n1_
      have HO227 := n2_
      clear n0_ n1_ n2_
      clear ho hb hg hat
      refine hK.out _ _ trivial (fun hHeld => ?_)
      clear hK K
      refine norm_ (a' := ?_) ?_ ?_
      rotate_left
      ·show Act.put _ (some 58) _ = _
       simp only [Act.put, List.setIfInBounds_toArray, List.set_cons_zero, List.set_cons_succ, i64_w, i32_w]
       rfl
      refine one_ (i := 11) (N := some 62) #[true, true, true, true, true, true, true, true, true, true, true, true, false] rfl rfl (one_of HT_.out (by kernel_rfl)) (by decide) (fun K hK => ?_)
      refine Kd.R_append_rows_step (Kd.int .i32) (w0 := w) w.heap.size (by rfl) (.tmp 58) (.tmp 61) 27 21 (.int .i32 0) 4 rfl Try.underlying27 info21 rfl (by decide) (by omega) v226 y225 (l0.drop (a1 : Int).toNat) _ _ _ (fun k_ => some k_ ≠ (.slice Ao69 y222.length co69 : Value).ownBlock) (fun _ => False) rfl rfl ?aO ?aR (fun _ _ h => h) (fun _ h => h.elim) ?aF ?aB ?aS ?aL ?_
      (case aR => first | (rw [← show (l0.drop (a1 : Int).toNat).length = (l0.length - a1.toNat) from List.length_drop]; exact cz (Kd.C_below HR228.out HB.out)) | (exact cz (Kd.C_below HR228.out HB.out)))
      (case aB => exact bz)
      (case aF => exact (fun k_ hk => Kd.fresh' (Kd.R_lt (rz HO224.out)) k_ hk))
      (case aO => exact (rz HO227.out))
      (case aS => exact (below_size bz))
      (case aL => have := LMc26.out; have hlx_ := (show (l0.drop (a1 : Int).toNat).length = (l0.length - a1.toNat) from List.length_drop); omega)
      intro v230 w70 ho hb hg hat
      rw [← Ny229.out] at ho
      have n0_ := Aside0.mk (Kd.R_after (ok := (fun _ => True)) (rz HO224.out) hg hat)
      have n1_ := Aside0.mk (hb)
      have n2_ := Aside0.mk (ho)
      clear HO224
      clear HB
      clear HO227
      have HO224 := n0_
      have HB := n1_
      have HO231 := n2_
      clear n0_ n1_ n2_
      clear ho hb hg hat
      refine hK.out _ _ trivial (fun hHeld => ?_)
      clear hK K
      refine norm_ (a' := ?_) ?_ ?_
      rotate_left
      ·show Act.put _ (some 62) _ = _
       simp only [Act.put, List.setIfInBounds_toArray, List.set_cons_zero, List.set_cons_succ, i64_w, i32_w]
       rfl
      refine pure_ (i := 12) (N := some 10) (v := ?_) (a' := ?_) #[true, true, true, true, true, true, true, true, true, true, true, true, true] rfl rfl (any_of HT_.out (by kernel_rfl)) (fun _ _ _ h => h) (Or.inl ⟨by rfl, ?_⟩) ?_ ?_
      rotate_left
      ·intro w'
       go_simp
       with_reducible rfl
      rotate_left
      ·simp only [Act.put, List.setIfInBounds_toArray, List.set_cons_zero, List.set_cons_succ, i64_w, i32_w]
       rfl
      refine done_ (done_of HT_.out (by kernel_rfl)) ?_
      obtain ⟨Ao71, co71, eo71⟩ := Kd.R_slice HO231.out
      subst eo71
      try go_wp2_with (first | (go_at_call 18; (with_reducible refine (class_Turns.calls kj12 _ _ y229 t233 _ ?side1 ?side2 A58.out).mono ?_); (case side1 => repeat (first | exact (Kd.R_reads' HO231.out).2.2 | (with_reducible refine Kd.C_alloc ?_ _) | (with_reducible refine Kd.C_drewN ?_ _) | (with_reducible refine Kd.C_drew ?_))); (case side2 => exact (Kd.R_reads' HO231.out).2.1); rintro e w' ⟨rfl, ⟨nd, rfl⟩⟩))
      go_ret
      exact ⟨by first | rfl | (simp [errW_none, errW_some] <;> rfl) | (simp [*, errW_none, errW_some] <;> rfl), bz⟩
     rw [if_neg c56] at H
     have c56b0 : decide (8234 ≤ a2) = false := decide_eq_false c56
     clear c56
     by_cases c84 : t211 = true
     rotate_left
     ·replace c84 := Bool.eq_false_iff.mpr c84
      subst c84
      have H1 : (some false) = some r := by rw [if_neg (show ¬ (false = true) by decide)] at H; exact H
      clear H
      have H := H1
      clear H1
      obtain rfl := Option.some.inj H
      try go_wp2
      have n0_ := Aside0.mk (below_drew1 HB.out)
      clear HB
      have HB := n0_
      clear n0_
      obtain ⟨i0100, hi0100, _, hsz100, _⟩ := info_parts info21
      obtain ⟨hcut100, hA100, hC100⟩ := print_take_of (P := Try.prog) (Value.int .i32) 0 27 21 .i64 Try.underlying27 hi0100 hsz100 A0 c0 l0 a1 (of_decide_eq_true (by first | (with_reducible assumption) | assumption)) (of_decide_eq_true (by first | (with_reducible assumption) | assumption)) HC0.out
      have HR218 := Aside0.mk (Kd.C_of_reads (h1 := fun _ => rfl) (hA100 _ (Kd.reads_of_C HR0.out)))
      have HC218 := Aside0.mk hC100
      clear hA100 hC100 hi0100 hsz100
      obtain ⟨i0101, hi0101, _, hsz101, _⟩ := info_parts info21
      obtain ⟨A101, hcut101, hA101, hC101⟩ := print_drop_of (P := Try.prog) (Value.int .i32) 0 27 21 .i64 Try.underlying27 hi0101 hsz101 A0 c0 l0 a1 (of_decide_eq_true (by first | (with_reducible assumption) | assumption)) (of_decide_eq_true (by first | (with_reducible assumption) | assumption)) HC0.out
      have HR228 := Aside0.mk (Kd.C_of_reads (h1 := fun _ => rfl) (hA101 _ (Kd.reads_of_C HR0.out)))
      have HC228 := Aside0.mk hC101
      clear hA101 hC101 hi0101 hsz101
      refine start_ (n := 13) (S := fun w' => True) (ds := []) #[false, false, false, false, false, false, false, false, false, false, false, false, false] (by kernel_rfl) rfl rfl trivial (fun hHeld => ?_); refine with_tabW exerguelaw02_ClassTurns.tab13 exerguelaw02_ClassTurns.bits13 (fun HT_ HW_ => ?_)
      generalize wc.drew = w99 at HB HR218 HR228 hHeld ⊢
      refine pure_ (i := 1) (N := some 52) (v := ?_) (a' := ?_) #[false, true, false, false, false, false, false, false, false, false, false, false, false] rfl rfl (any_of HT_.out (by kernel_rfl)) (fun _ _ _ h => h) (Or.inl ⟨by rfl, ?_⟩) ?_ ?_
      rotate_left
      ·intro w'
       go_simp
       with_reducible rfl
      rotate_left
      ·simp only [Act.put, List.setIfInBounds_toArray, List.set_cons_zero, List.set_cons_succ, i64_w, i32_w]
       rfl
      refine pure_ (i := 2) (N := some 53) (v := ?_) (a' := ?_) #[false, true, true, false, false, false, false, false, false, false, false, false, false] rfl rfl (any_of HT_.out (by kernel_rfl)) (fun _ _ _ h => h) (Or.inl ⟨by rfl, ?_⟩) ?_ ?_
      rotate_left
      ·intro w'
       go_simp
       with_reducible rfl
      rotate_left
      ·simp only [Act.put, List.setIfInBounds_toArray, List.set_cons_zero, List.set_cons_succ, i64_w, i32_w]
       rfl
      refine pure_ (i := 3) (N := some 54) (v := ?_) (a' := ?_) #[false, true, true, true, false, false, false, false, false, false, false, false, false] rfl rfl (any_of HT_.out (by kernel_rfl)) (fun _ _ _ h => h) (Or.inl ⟨by rfl, ?_⟩) ?_ ?_
      rotate_left
      ·intro w'
       go_simp
       with_reducible rfl
      rotate_left
      ·simp only [Act.put, List.setIfInBounds_toArray, List.set_cons_zero, List.set_cons_succ, i64_w, i32_w]
       rfl
      refine pure_ (i := 5) (N := some 56) (v := ?_) (a' := ?_) #[false, true, true, true, false, true, false, false, false, false, false, false, false] rfl rfl (any_of HT_.out (by kernel_rfl)) (fun _ _ _ h => h) (Or.inl ⟨by rfl, ?_⟩) ?_ ?_
      rotate_left
      ·intro w'
       go_simp
       with_reducible rfl
      rotate_left
      ·simp only [Act.put, List.setIfInBounds_toArray, List.set_cons_zero, List.set_cons_succ, i64_w, i32_w]
       rfl
      refine pure_ (i := 8) (N := some 59) (v := ?_) (a' := ?_) #[false, true, true, true, false, true, false, false, true, false, false, false, false] rfl rfl (any_of HT_.out (by kernel_rfl)) (fun _ _ _ h => h) (Or.inl ⟨by rfl, ?_⟩) ?_ ?_
      rotate_left
      ·intro w'
       go_simp
       with_reducible rfl
      rotate_left
      ·simp only [Act.put, List.setIfInBounds_toArray, List.set_cons_zero, List.set_cons_succ, i64_w, i32_w]
       rfl
      refine pure_ (i := 9) (N := some 60) (v := ?_) (a' := ?_) #[false, true, true, true, false, true, false, false, true, true, false, false, false] rfl rfl (any_of HT_.out (by kernel_rfl)) (fun _ _ _ h => h) (Or.inl ⟨by rfl, ?_⟩) ?_ ?_
      rotate_left
      ·intro w'
       go_simp
       with_reducible rfl
      rotate_left
      ·simp only [Act.put, List.setIfInBounds_toArray, List.set_cons_zero, List.set_cons_succ, i64_w, i32_w]
       rfl
      refine pure_ (i := 10) (N := some 61) (v := ?_) (a' := ?_) #[false, true, true, true, false, true, false, false, true, true, true, false, false] rfl rfl (any_of HT_.out (by kernel_rfl)) (fun _ _ _ h => h) (Or.inl ⟨by rfl, ?_⟩) ?_ ?_
      rotate_left
      ·intro w'
       go_simp
       with_reducible rfl
      rotate_left
      ·simp only [Act.put, List.setIfInBounds_toArray, List.set_cons_zero, List.set_cons_succ, i64_w, i32_w]
       rfl
      refine join_ (σ := Value × Value × Value) 3 #[true, true, true, true, true, true, true, false, true, true, true, false, false] (fun s_ => [(51, s_.1), (55, s_.2.1), (57, s_.2.2)]) (fun s_ w' => (Kd.R (Kd.int .i32) 21 w' w.heap.size (fun k_ => some k_ ≠ (s_.2.2 : Value).ownBlock) s_.2.1 y219) ∧ (Kd.R (Kd.int .i32) 21 w' w.heap.size (fun k_ => some k_ ≠ (s_.2.1 : Value).ownBlock) s_.2.2 y222) ∧ (Below w.heap.size w w')) ?_ ?_
      rotate_left
      ·intro hCont
       refine two_ (i := 0) (j := 6) (Ni := some 51) (Nj := some 57) #[true, true, true, true, false, true, false, false, true, true, true, false, false] #[false, true, true, true, false, true, true, false, true, true, true, false, false] rfl rfl rfl rfl (two_of HT_.out (by kernel_rfl)) (by decide) (by decide) (fun K hK => ?_) (fun K hK => ?_)
       ·skip
        refine Kd.R_lit_step (Kd.int .i32) _ 21 ?hg (N := 51) ?hd (xs := ([] : List Int)) (inner := []) (ok := fun _ => True) (okp := fun _ => True) ?hr ?hp (fun _ hk => hk) trivial (Below.refl _ _) (Nat.le_refl _) (by simp) ?_; (case hd => rfl); (case hg => rfl); (case hr => first | (go_simp; done) | (go_simp; rfl)); (case hp => exact (Reps.none _ _))
        intro v216 w102 ho103 hb hg_ hnew_
        clear hg_ hnew_
        (first | rw [← Ny215.out] at ho103 | (simp only [Int.reduceToNat] at ho103; rw [← Ny215.out] at ho103))
        have n0_ := Aside0.mk (Kd.R_lower ho103 (below_size bz))
        have n1_ := Aside0.mk (below_step bz hb)
        clear HB
        have HO217 := n0_
        have HB := n1_
        clear n0_ n1_
        clear hb ho103
        refine hK.out _ _ trivial (fun hHeld => ?_)
        clear hK K
        refine norm_ (a' := ?_) ?_ ?_
        rotate_left
        ·show Act.put _ (some 51) _ = _
         simp only [Act.put, List.setIfInBounds_toArray, List.set_cons_zero, List.set_cons_succ, i64_w, i32_w]
         rfl
        refine two_ (i := 4) (j := 6) (Ni := some 55) (Nj := some 57) #[true, true, true, true, true, true, false, false, true, true, true, false, false] #[true, true, true, true, false, true, true, false, true, true, true, false, false] rfl rfl rfl rfl (two_of HT_.out (by kernel_rfl)) (by decide) (by decide) (fun K hK => ?_) (fun K hK => ?_)
        ·skip
         refine Kd.R_append_rows_step (Kd.int .i32) (w0 := w) w.heap.size (by rfl) (.tmp 51) (.tmp 54) 27 21 (.int .i32 0) 4 rfl Try.underlying27 info21 rfl (by decide) (by omega) v216 y215 (l0.take (a1 : Int).toNat) _ _ _ (fun _ => True) (fun _ => False) rfl rfl ?aO ?aR (fun _ _ h => h) (fun _ h => h.elim) ?aF ?aB ?aS ?aL ?_
         (case aR => first | (have c_ := (Kd.C_below HR218.out HB.out); rw [tk_ (l := l0) (i := a1)] at c_; exact cz c_) | (exact cz (Kd.C_below HR218.out HB.out)))
         (case aB => exact bz)
         (case aF => exact (fun _ _ => trivial))
         (case aO => exact (rz HO217.out))
         (case aS => exact (below_size bz))
         (case aL => have := LMc22.out; have hlx_ := (tk_ (l := l0)); omega)
         intro v220 w104 ho hb hg hat
         rw [← Ny219.out] at ho
         have n0_ := Aside0.mk (hb)
         have n1_ := Aside0.mk (ho)
         clear HB
         clear HO217
         have HB := n0_
         have HO221 := n1_
         clear n0_ n1_
         clear ho hb hg hat
         refine hK.out _ _ trivial (fun hHeld => ?_)
         clear hK K
         refine norm_ (a' := ?_) ?_ ?_
         rotate_left
         ·show Act.put _ (some 55) _ = _
          simp only [Act.put, List.setIfInBounds_toArray, List.set_cons_zero, List.set_cons_succ, i64_w, i32_w]
          rfl
         refine one_ (i := 6) (N := some 57) #[true, true, true, true, true, true, true, false, true, true, true, false, false] rfl rfl (one_of HT_.out (by kernel_rfl)) (by decide) (fun K hK => ?_)
         refine Kd.R_lit_step (Kd.int .i32) _ 21 ?hg (N := 57) ?hd (xs := ([a2] : List Int)) (inner := [.int .i32 a2]) (ok := fun _ => True) (okp := fun _ => True) ?hr ?hp (fun _ hk => hk) trivial (Below.refl _ _) (Nat.le_refl _) (by simp) ?_; (case hd => rfl); (case hg => rfl); (case hr => first | (go_simp; done) | (go_simp; rfl)); (case hp => exact (Reps.one (show Kd.M (Kd.int .i32) _ _ _ a2 [.int .i32 a2] from rfl) (Reps.none _ _)))
         intro v223 w105 ho106 hb hg_ hnew_
         clear hg_ hnew_
         (first | rw [← Ny222.out] at ho106 | (simp only [Int.reduceToNat] at ho106; rw [← Ny222.out] at ho106))
         have n0_ := Aside0.mk (Kd.R_elder' (rz HO221.out) (Kd.R_base ho106) hb)
         have n1_ := Aside0.mk (Kd.R_lower (Kd.R_new' ho106 (Kd.R_lt (rz HO221.out))) (below_size bz))
         have n2_ := Aside0.mk (below_step bz hb)
         clear HO221
         clear HB
         have HO221 := n0_
         have HO224 := n1_
         have HB := n2_
         clear n0_ n1_ n2_
         clear hb ho106
         refine hK.out _ _ trivial (fun hHeld => ?_)
         clear hK K
         refine norm_ (a' := ?_) ?_ ?_
         rotate_left
         ·show Act.put _ (some 57) _ = _
          simp only [Act.put, List.setIfInBounds_toArray, List.set_cons_zero, List.set_cons_succ, i64_w, i32_w]
          rfl
         exact norm_ (by simp only [putAll, Act.put, List.setIfInBounds_toArray, List.set_cons_zero, List.set_cons_succ]) (hCont (v216, v220, v223) _ ⟨(by (with_reducible repeat (first | apply Kd.R_alloc | apply Kd.R_drewN | apply Kd.R_drew)); exact Kd.R_mono HO221.out (fun _ hk => hk.2)), (by (with_reducible repeat (first | apply Kd.R_alloc | apply Kd.R_drewN | apply Kd.R_drew)); exact Kd.R_mono HO224.out (fun _ hk => hk.2)), bz⟩)
        ·skip
         refine Kd.R_lit_step (Kd.int .i32) _ 21 ?hg (N := 57) ?hd (xs := ([a2] : List Int)) (inner := [.int .i32 a2]) (ok := fun _ => True) (okp := fun _ => True) ?hr ?hp (fun _ hk => hk) trivial (Below.refl _ _) (Nat.le_refl _) (by simp) ?_; (case hd => rfl); (case hg => rfl); (case hr => first | (go_simp; done) | (go_simp; rfl)); (case hp => exact (Reps.one (show Kd.M (Kd.int .i32) _ _ _ a2 [.int .i32 a2] from rfl) (Reps.none _ _)))
         intro v223 w104 ho105 hb hg_ hnew_
         clear hg_ hnew_
         (first | rw [← Ny222.out] at ho105 | (simp only [Int.reduceToNat] at ho105; rw [← Ny222.out] at ho105))
         have n0_ := Aside0.mk (Kd.R_elder' (rz HO217.out) (Kd.R_base ho105) hb)
         have n1_ := Aside0.mk (Kd.R_lower (Kd.R_new' ho105 (Kd.R_lt (rz HO217.out))) (below_size bz))
         have n2_ := Aside0.mk (below_step bz hb)
         clear HO217
         clear HB
         have HO217 := n0_
         have HO224 := n1_
         have HB := n2_
         clear n0_ n1_ n2_
         clear hb ho105
         refine hK.out _ _ trivial (fun hHeld => ?_)
         clear hK K
         refine norm_ (a' := ?_) ?_ ?_
         rotate_left
         ·show Act.put _ (some 57) _ = _
          simp only [Act.put, List.setIfInBounds_toArray, List.set_cons_zero, List.set_cons_succ, i64_w, i32_w]
          rfl
         refine one_ (i := 4) (N := some 55) #[true, true, true, true, true, true, true, false, true, true, true, false, false] rfl rfl (one_of HT_.out (by kernel_rfl)) (by decide) (fun K hK => ?_)
         refine Kd.R_append_rows_step (Kd.int .i32) (w0 := w) w.heap.size (by rfl) (.tmp 51) (.tmp 54) 27 21 (.int .i32 0) 4 rfl Try.underlying27 info21 rfl (by decide) (by omega) v216 y215 (l0.take (a1 : Int).toNat) _ _ _ (fun k_ => some k_ ≠ (v223 : Value).ownBlock) (fun _ => False) rfl rfl ?aO ?aR (fun _ _ h => h) (fun _ h => h.elim) ?aF ?aB ?aS ?aL ?_
         (case aR => first | (have c_ := (Kd.C_below HR218.out HB.out); rw [tk_ (l := l0) (i := a1)] at c_; exact cz c_) | (exact cz (Kd.C_below HR218.out HB.out)))
         (case aB => exact bz)
         (case aF => exact (fun k_ hk => Kd.fresh' (Kd.R_lt (rz HO224.out)) k_ hk))
         (case aO => exact (by (with_reducible repeat (first | apply Kd.R_alloc | apply Kd.R_drewN | apply Kd.R_drew)); exact Kd.R_mono HO217.out (fun _ hk => hk.2)))
         (case aS => exact (below_size bz))
         (case aL => have := LMc22.out; have hlx_ := (tk_ (l := l0)); omega)
         intro v220 w106 ho hb hg hat
         rw [← Ny219.out] at ho
         have n0_ := Aside0.mk (Kd.R_after (ok := (fun _ => True)) (rz HO224.out) hg hat)
         have n1_ := Aside0.mk (hb)
         have n2_ := Aside0.mk (ho)
         clear HO224
         clear HB
         clear HO217
         have HO224 := n0_
         have HB := n1_
         have HO221 := n2_
         clear n0_ n1_ n2_
         clear ho hb hg hat
         refine hK.out _ _ trivial (fun hHeld => ?_)
         clear hK K
         refine norm_ (a' := ?_) ?_ ?_
         rotate_left
         ·show Act.put _ (some 55) _ = _
          simp only [Act.put, List.setIfInBounds_toArray, List.set_cons_zero, List.set_cons_succ, i64_w, i32_w]
          rfl
         exact norm_ (by simp only [putAll, Act.put, List.setIfInBounds_toArray, List.set_cons_zero, List.set_cons_succ]) (hCont (v216, v220, v223) _ ⟨(rz HO221.out), (by (with_reducible repeat (first | apply Kd.R_alloc | apply Kd.R_drewN | apply Kd.R_drew)); exact Kd.R_mono HO224.out (fun _ hk => hk.2)), bz⟩)
       ·skip
        refine Kd.R_lit_step (Kd.int .i32) _ 21 ?hg (N := 57) ?hd (xs := ([a2] : List Int)) (inner := [.int .i32 a2]) (ok := fun _ => True) (okp := fun _ => True) ?hr ?hp (fun _ hk => hk) trivial (Below.refl _ _) (Nat.le_refl _) (by simp) ?_; (case hd => rfl); (case hg => rfl); (case hr => first | (go_simp; done) | (go_simp; rfl)); (case hp => exact (Reps.one (show Kd.M (Kd.int .i32) _ _ _ a2 [.int .i32 a2] from rfl) (Reps.none _ _)))
        intro v223 w102 ho103 hb hg_ hnew_
        clear hg_ hnew_
        (first | rw [← Ny222.out] at ho103 | (simp only [Int.reduceToNat] at ho103; rw [← Ny222.out] at ho103))
        have n0_ := Aside0.mk (Kd.R_lower ho103 (below_size bz))
        have n1_ := Aside0.mk (below_step bz hb)
        clear HB
        have HO224 := n0_
        have HB := n1_
        clear n0_ n1_
        clear hb ho103
        refine hK.out _ _ trivial (fun hHeld => ?_)
        clear hK K
        refine norm_ (a' := ?_) ?_ ?_
        rotate_left
        ·show Act.put _ (some 57) _ = _
         simp only [Act.put, List.setIfInBounds_toArray, List.set_cons_zero, List.set_cons_succ, i64_w, i32_w]
         rfl
        refine one_ (i := 0) (N := some 51) #[true, true, true, true, false, true, true, false, true, true, true, false, false] rfl rfl (one_of HT_.out (by kernel_rfl)) (by decide) (fun K hK => ?_)
        refine Kd.R_lit_step (Kd.int .i32) _ 21 ?hg (N := 51) ?hd (xs := ([] : List Int)) (inner := []) (ok := fun _ => True) (okp := fun _ => True) ?hr ?hp (fun _ hk => hk) trivial (Below.refl _ _) (Nat.le_refl _) (by simp) ?_; (case hd => rfl); (case hg => rfl); (case hr => first | (go_simp; done) | (go_simp; rfl)); (case hp => exact (Reps.none _ _))
        intro v216 w104 ho105 hb hg_ hnew_
        clear hg_ hnew_
        (first | rw [← Ny215.out] at ho105 | (simp only [Int.reduceToNat] at ho105; rw [← Ny215.out] at ho105))
        have n0_ := Aside0.mk (Kd.R_elder' (rz HO224.out) (Kd.R_base ho105) hb)
        have n1_ := Aside0.mk (Kd.R_lower (Kd.R_new' ho105 (Kd.R_lt (rz HO224.out))) (below_size bz))
        have n2_ := Aside0.mk (below_step bz hb)
        clear HO224
        clear HB
        have HO224 := n0_
        have HO217 := n1_
        have HB := n2_
        clear n0_ n1_ n2_
        clear hb ho105
        refine hK.out _ _ trivial (fun hHeld => ?_)
        clear hK K
        refine norm_ (a' := ?_) ?_ ?_
        rotate_left
        ·show Act.put _ (some 51) _ = _
         simp only [Act.put, List.setIfInBounds_toArray, List.set_cons_zero, List.set_cons_succ, i64_w, i32_w]
         rfl
        refine one_ (i := 4) (N := some 55) #[true, true, true, true, true, true, true, false, true, true, true, false, false] rfl rfl (one_of HT_.out (by kernel_rfl)) (by decide) (fun K hK => ?_)
        refine Kd.R_append_rows_step (Kd.int .i32) (w0 := w) w.heap.size (by rfl) (.tmp 51) (.tmp 54) 27 21 (.int .i32 0) 4 rfl Try.underlying27 info21 rfl (by decide) (by omega) v216 y215 (l0.take (a1 : Int).toNat) _ _ _ (fun k_ => some k_ ≠ (v223 : Value).ownBlock) (fun _ => False) rfl rfl ?aO ?aR (fun _ _ h => h) (fun _ h => h.elim) ?aF ?aB ?aS ?aL ?_
        (case aR => first | (have c_ := (Kd.C_below HR218.out HB.out); rw [tk_ (l := l0) (i := a1)] at c_; exact cz c_) | (exact cz (Kd.C_below HR218.out HB.out)))
        (case aB => exact bz)
        (case aF => exact (fun k_ hk => Kd.fresh' (Kd.R_lt (rz HO224.out)) k_ hk))
        (case aO => exact (by (with_reducible repeat (first | apply Kd.R_alloc | apply Kd.R_drewN | apply Kd.R_drew)); exact Kd.R_mono HO217.out (fun _ hk => hk.2)))
        (case aS => exact (below_size bz))
        (case aL => have := LMc22.out; have hlx_ := (tk_ (l := l0)); omega)
        intro v220 w106 ho hb hg hat
        rw [← Ny219.out] at ho
        have n0_ := Aside0.mk (Kd.R_after (ok := (fun _ => True)) (rz HO224.out) hg hat)
        have n1_ := Aside0.mk (hb)
        have n2_ := Aside0.mk (ho)
        clear HO224
        clear HB
        clear HO217
        have HO224 := n0_
        have HB := n1_
        have HO221 := n2_
        clear n0_ n1_ n2_
        clear ho hb hg hat
        refine hK.out _ _ trivial (fun hHeld => ?_)
        clear hK K
        refine norm_ (a' := ?_) ?_ ?_
        rotate_left
        ·show Act.put _ (some 55) _ = _
         simp only [Act.put, List.setIfInBounds_toArray, List.set_cons_zero, List.set_cons_succ, i64_w, i32_w]
         rfl
        exact norm_ (by simp only [putAll, Act.put, List.setIfInBounds_toArray, List.set_cons_zero, List.set_cons_succ]) (hCont (v216, v220, v223) _ ⟨(rz HO221.out), (by (with_reducible repeat (first | apply Kd.R_alloc | apply Kd.R_drewN | apply Kd.R_drew)); exact Kd.R_mono HO224.out (fun _ hk => hk.2)), bz⟩)
      rintro ⟨v216, v220, v223⟩ w107 ⟨h0_, h1_, h2_⟩
      have n0_ : Aside0 (Kd.R (Kd.int .i32) 21 w107 w.heap.size (fun k_ => some k_ ≠ (v223 : Value).ownBlock) v220 y219) := ⟨h0_⟩
      have n1_ : Aside0 (Kd.R (Kd.int .i32) 21 w107 w.heap.size (fun k_ => some k_ ≠ (v220 : Value).ownBlock) v223 y222) := ⟨h1_⟩
      have n2_ : Aside0 (Below w.heap.size w w107) := ⟨h2_⟩
      clear HB
      clear h0_ h1_ h2_
      have HO221 := n0_
      have HO224 := n1_
      have HB := n2_
      clear n0_ n1_ n2_
      have hHeld := trivial
      obtain ⟨Ao109, co109, eo109⟩ := Kd.R_slice HO224.out
      (first | subst eo109 | (injection eo109 with f1_ f2_ f3_; have f4_ := f1_.symm; have f5_ := f3_.symm; clear f1_ f2_ f3_; subst f4_; subst f5_))
      refine norm_ (a' := ?_) ?_ ?_
      rotate_left
      ·simp only [putAll, Act.put, List.setIfInBounds_toArray, List.set_cons_zero, List.set_cons_succ]
       rfl
      refine one_ (i := 7) (N := some 58) #[true, true, true, true, true, true, true, true, true, true, true, false, false] rfl rfl (one_of HT_.out (by kernel_rfl)) (by decide) (fun K hK => ?_)
      refine Kd.R_append_rows_step (Kd.int .i32) (w0 := w) w.heap.size (by rfl) (.tmp 55) (.tmp 57) 27 21 (.int .i32 0) 4 rfl Try.underlying27 info21 rfl (by decide) (by omega) v220 y219 y222 _ _ _ (fun k_ => some k_ ≠ (.slice Ao109 y222.length co109 : Value).ownBlock) (fun _ => False) rfl rfl ?aO ?aR (fun _ _ h => h) (fun _ h => h.elim) ?aF ?aB ?aS ?aL ?_
      (case aR => repeat (first | exact (Kd.R_reads' HO224.out).2.2 | (with_reducible refine Kd.C_alloc ?_ _) | (with_reducible refine Kd.C_drewN ?_ _) | (with_reducible refine Kd.C_drew ?_)))
      (case aB => exact bz)
      (case aF => exact (fun k_ hk => Kd.fresh' (Kd.R_lt (rz HO224.out)) k_ hk))
      (case aO => exact (rz HO221.out))
      (case aS => exact (below_size bz))
      (case aL => have := LMc23.out; omega)
      intro v226 w108 ho hb hg hat
      rw [← Ny225.out] at ho
      have n0_ := Aside0.mk (Kd.R_after (ok := (fun _ => True)) (by (with_reducible repeat (first | apply Kd.R_alloc | apply Kd.R_drewN | apply Kd.R_drew)); exact Kd.R_mono HO224.out (fun _ hk => ⟨trivial, hk⟩)) hg hat)
      have n1_ := Aside0.mk (hb)
      have n2_ := Aside0.mk (ho)
      clear HO224
      clear HB
      clear HO221
      have HO224 := n0_
      have HB := n1_
      have HO227 := n2_
      clear n0_ n1_ n2_
      clear ho hb hg hat
      refine hK.out _ _ trivial (fun hHeld => ?_)
      clear hK K
      refine norm_ (a' := ?_) ?_ ?_
      rotate_left
      ·show Act.put _ (some 58) _ = _
       simp only [Act.put, List.setIfInBounds_toArray, List.set_cons_zero, List.set_cons_succ, i64_w, i32_w]
       rfl
      refine one_ (i := 11) (N := some 62) #[true, true, true, true, true, true, true, true, true, true, true, true, false] rfl rfl (one_of HT_.out (by kernel_rfl)) (by decide) (fun K hK => ?_)
      refine Kd.R_append_rows_step (Kd.int .i32) (w0 := w) w.heap.size (by rfl) (.tmp 58) (.tmp 61) 27 21 (.int .i32 0) 4 rfl Try.underlying27 info21 rfl (by decide) (by omega) v226 y225 (l0.drop (a1 : Int).toNat) _ _ _ (fun k_ => some k_ ≠ (.slice Ao109 y222.length co109 : Value).ownBlock) (fun _ => False) rfl rfl ?aO ?aR (fun _ _ h => h) (fun _ h => h.elim) ?aF ?aB ?aS ?aL ?_
      (case aR => first | (rw [← show (l0.drop (a1 : Int).toNat).length = (l0.length - a1.toNat) from List.length_drop]; exact cz (Kd.C_below HR228.out HB.out)) | (exact cz (Kd.C_below HR228.out HB.out)))
      (case aB => exact bz)
      (case aF => exact (fun k_ hk => Kd.fresh' (Kd.R_lt (rz HO224.out)) k_ hk))
      (case aO => exact (rz HO227.out))
      (case aS => exact (below_size bz))
      (case aL => have := LMc26.out; have hlx_ := (show (l0.drop (a1 : Int).toNat).length = (l0.length - a1.toNat) from List.length_drop); omega)
      intro v230 w110 ho hb hg hat
      rw [← Ny229.out] at ho
      have n0_ := Aside0.mk (Kd.R_after (ok := (fun _ => True)) (rz HO224.out) hg hat)
      have n1_ := Aside0.mk (hb)
      have n2_ := Aside0.mk (ho)
      clear HO224
      clear HB
      clear HO227
      have HO224 := n0_
      have HB := n1_
      have HO231 := n2_
      clear n0_ n1_ n2_
      clear ho hb hg hat
      refine hK.out _ _ trivial (fun hHeld => ?_)
      clear hK K
      refine norm_ (a' := ?_) ?_ ?_
      rotate_left
      ·show Act.put _ (some 62) _ = _
       simp only [Act.put, List.setIfInBounds_toArray, List.set_cons_zero, List.set_cons_succ, i64_w, i32_w]
       rfl
      refine pure_ (i := 12) (N := some 10) (v := ?_) (a' := ?_) #[true, true, true, true, true, true, true, true, true, true, true, true, true] rfl rfl (any_of HT_.out (by kernel_rfl)) (fun _ _ _ h => h) (Or.inl ⟨by rfl, ?_⟩) ?_ ?_
      rotate_left
      ·intro w'
       go_simp
       with_reducible rfl
      rotate_left
      ·simp only [Act.put, List.setIfInBounds_toArray, List.set_cons_zero, List.set_cons_succ, i64_w, i32_w]
       rfl
      refine done_ (done_of HT_.out (by kernel_rfl)) ?_
      try go_wp2
      go_ret
      exact ⟨by first | rfl | (simp [errW_none, errW_some] <;> rfl) | (simp [*, errW_none, errW_some] <;> rfl), bz⟩
     subst c84
     have H1 : ((class_Turns.f kj12 y229).bind fun t234 => (some (t234 == (!false)))) = some r := by rw [if_pos rfl] at H; exact H
     clear H
     have H := H1
     clear H1
     replace H := Option.bind_eq_some_iff.mp H
     obtain ⟨t234, A850, H⟩ := H
     replace H : (some (t234 == (!false))) = some r := H
     have A85 := Aside0.mk A850
     clear A850
     obtain rfl := Option.some.inj H
     try go_wp2
     have n0_ := Aside0.mk (below_drew1 HB.out)
     clear HB
     have HB := n0_
     clear n0_
     obtain ⟨i087, hi087, _, hsz87, _⟩ := info_parts info21
     obtain ⟨hcut87, hA87, hC87⟩ := print_take_of (P := Try.prog) (Value.int .i32) 0 27 21 .i64 Try.underlying27 hi087 hsz87 A0 c0 l0 a1 (of_decide_eq_true (by first | (with_reducible assumption) | assumption)) (of_decide_eq_true (by first | (with_reducible assumption) | assumption)) HC0.out
     have HR218 := Aside0.mk (Kd.C_of_reads (h1 := fun _ => rfl) (hA87 _ (Kd.reads_of_C HR0.out)))
     have HC218 := Aside0.mk hC87
     clear hA87 hC87 hi087 hsz87
     obtain ⟨i088, hi088, _, hsz88, _⟩ := info_parts info21
     obtain ⟨A88, hcut88, hA88, hC88⟩ := print_drop_of (P := Try.prog) (Value.int .i32) 0 27 21 .i64 Try.underlying27 hi088 hsz88 A0 c0 l0 a1 (of_decide_eq_true (by first | (with_reducible assumption) | assumption)) (of_decide_eq_true (by first | (with_reducible assumption) | assumption)) HC0.out
     have HR228 := Aside0.mk (Kd.C_of_reads (h1 := fun _ => rfl) (hA88 _ (Kd.reads_of_C HR0.out)))
     have HC228 := Aside0.mk hC88
     clear hA88 hC88 hi088 hsz88
     refine start_ (n := 13) (S := fun w' => True) (ds := []) #[false, false, false, false, false, false, false, false, false, false, false, false, false] (by kernel_rfl) rfl rfl trivial (fun hHeld => ?_); refine with_tabW exerguelaw02_ClassTurns.tab13 exerguelaw02_ClassTurns.bits13 (fun HT_ HW_ => ?_)
     generalize wc.drew = w86 at HB HR218 HR228 hHeld ⊢
     refine pure_ (i := 1) (N := some 52) (v := ?_) (a' := ?_) #[false, true, false, false, false, false, false, false, false, false, false, false, false] rfl rfl (any_of HT_.out (by kernel_rfl)) (fun _ _ _ h => h) (Or.inl ⟨by rfl, ?_⟩) ?_ ?_
     rotate_left
     ·intro w'
      go_simp
      with_reducible rfl
     rotate_left
     ·simp only [Act.put, List.setIfInBounds_toArray, List.set_cons_zero, List.set_cons_succ, i64_w, i32_w]
      rfl
     refine pure_ (i := 2) (N := some 53) (v := ?_) (a' := ?_) #[false, true, true, false, false, false, false, false, false, false, false, false, false] rfl rfl (any_of HT_.out (by kernel_rfl)) (fun _ _ _ h => h) (Or.inl ⟨by rfl, ?_⟩) ?_ ?_
     rotate_left
     ·intro w'
      go_simp
      with_reducible rfl
     rotate_left
     ·simp only [Act.put, List.setIfInBounds_toArray, List.set_cons_zero, List.set_cons_succ, i64_w, i32_w]
      rfl
     refine pure_ (i := 3) (N := some 54) (v := ?_) (a' := ?_) #[false, true, true, true, false, false, false, false, false, false, false, false, false] rfl rfl (any_of HT_.out (by kernel_rfl)) (fun _ _ _ h => h) (Or.inl ⟨by rfl, ?_⟩) ?_ ?_
     rotate_left
     ·intro w'
      go_simp
      with_reducible rfl
     rotate_left
     ·simp only [Act.put, List.setIfInBounds_toArray, List.set_cons_zero, List.set_cons_succ, i64_w, i32_w]
      rfl
     refine pure_ (i := 5) (N := some 56) (v := ?_) (a' := ?_) #[false, true, true, true, false, true, false, false, false, false, false, false, false] rfl rfl (any_of HT_.out (by kernel_rfl)) (fun _ _ _ h => h) (Or.inl ⟨by rfl, ?_⟩) ?_ ?_
     rotate_left
     ·intro w'
      go_simp
      with_reducible rfl
     rotate_left
     ·simp only [Act.put, List.setIfInBounds_toArray, List.set_cons_zero, List.set_cons_succ, i64_w, i32_w]
      rfl
     refine pure_ (i := 8) (N := some 59) (v := ?_) (a' := ?_) #[false, true, true, true, false, true, false, false, true, false, false, false, false] rfl rfl (any_of HT_.out (by kernel_rfl)) (fun _ _ _ h => h) (Or.inl ⟨by rfl, ?_⟩) ?_ ?_
     rotate_left
     ·intro w'
      go_simp
      with_reducible rfl
     rotate_left
     ·simp only [Act.put, List.setIfInBounds_toArray, List.set_cons_zero, List.set_cons_succ, i64_w, i32_w]
      rfl
     refine pure_ (i := 9) (N := some 60) (v := ?_) (a' := ?_) #[false, true, true, true, false, true, false, false, true, true, false, false, false] rfl rfl (any_of HT_.out (by kernel_rfl)) (fun _ _ _ h => h) (Or.inl ⟨by rfl, ?_⟩) ?_ ?_
     rotate_left
     ·intro w'
      go_simp
      with_reducible rfl
     rotate_left
     ·simp only [Act.put, List.setIfInBounds_toArray, List.set_cons_zero, List.set_cons_succ, i64_w, i32_w]
      rfl
     refine pure_ (i := 10) (N := some 61) (v := ?_) (a' := ?_) #[false, true, true, true, false, true, false, false, true, true, true, false, false] rfl rfl (any_of HT_.out (by kernel_rfl)) (fun _ _ _ h => h) (Or.inl ⟨by rfl, ?_⟩) ?_ ?_
     rotate_left
     ·intro w'
      go_simp
      with_reducible rfl
     rotate_left
     ·simp only [Act.put, List.setIfInBounds_toArray, List.set_cons_zero, List.set_cons_succ, i64_w, i32_w]
      rfl
     refine join_ (σ := Value × Value × Value) 3 #[true, true, true, true, true, true, true, false, true, true, true, false, false] (fun s_ => [(51, s_.1), (55, s_.2.1), (57, s_.2.2)]) (fun s_ w' => (Kd.R (Kd.int .i32) 21 w' w.heap.size (fun k_ => some k_ ≠ (s_.2.2 : Value).ownBlock) s_.2.1 y219) ∧ (Kd.R (Kd.int .i32) 21 w' w.heap.size (fun k_ => some k_ ≠ (s_.2.1 : Value).ownBlock) s_.2.2 y222) ∧ (Below w.heap.size w w')) ?_ ?_
     rotate_left
     ·intro hCont
      refine two_ (i := 0) (j := 6) (Ni := some 51) (Nj := some 57) #[true, true, true, true, false, true, false, false, true, true, true, false, false] #[false, true, true, true, false, true, true, false, true, true, true, false, false] rfl rfl rfl rfl (two_of HT_.out (by kernel_rfl)) (by decide) (by decide) (fun K hK => ?_) (fun K hK => ?_)
      ·skip
       refine Kd.R_lit_step (Kd.int .i32) _ 21 ?hg (N := 51) ?hd (xs := ([] : List Int)) (inner := []) (ok := fun _ => True) (okp := fun _ => True) ?hr ?hp (fun _ hk => hk) trivial (Below.refl _ _) (Nat.le_refl _) (by simp) ?_; (case hd => rfl); (case hg => rfl); (case hr => first | (go_simp; done) | (go_simp; rfl)); (case hp => exact (Reps.none _ _))
       intro v216 w89 ho90 hb hg_ hnew_
       clear hg_ hnew_
       (first | rw [← Ny215.out] at ho90 | (simp only [Int.reduceToNat] at ho90; rw [← Ny215.out] at ho90))
       have n0_ := Aside0.mk (Kd.R_lower ho90 (below_size bz))
       have n1_ := Aside0.mk (below_step bz hb)
       clear HB
       have HO217 := n0_
       have HB := n1_
       clear n0_ n1_
       clear hb ho90
       refine hK.out _ _ trivial (fun hHeld => ?_)
       clear hK K
       refine norm_ (a' := ?_) ?_ ?_
       rotate_left
       ·show Act.put _ (some 51) _ = _
        simp only [Act.put, List.setIfInBounds_toArray, List.set_cons_zero, List.set_cons_succ, i64_w, i32_w]
        rfl
       refine two_ (i := 4) (j := 6) (Ni := some 55) (Nj := some 57) #[true, true, true, true, true, true, false, false, true, true, true, false, false] #[true, true, true, true, false, true, true, false, true, true, true, false, false] rfl rfl rfl rfl (two_of HT_.out (by kernel_rfl)) (by decide) (by decide) (fun K hK => ?_) (fun K hK => ?_)
       ·skip
        refine Kd.R_append_rows_step (Kd.int .i32) (w0 := w) w.heap.size (by rfl) (.tmp 51) (.tmp 54) 27 21 (.int .i32 0) 4 rfl Try.underlying27 info21 rfl (by decide) (by omega) v216 y215 (l0.take (a1 : Int).toNat) _ _ _ (fun _ => True) (fun _ => False) rfl rfl ?aO ?aR (fun _ _ h => h) (fun _ h => h.elim) ?aF ?aB ?aS ?aL ?_
        (case aR => first | (have c_ := (Kd.C_below HR218.out HB.out); rw [tk_ (l := l0) (i := a1)] at c_; exact cz c_) | (exact cz (Kd.C_below HR218.out HB.out)))
        (case aB => exact bz)
        (case aF => exact (fun _ _ => trivial))
        (case aO => exact (rz HO217.out))
        (case aS => exact (below_size bz))
        (case aL => have := LMc22.out; have hlx_ := (tk_ (l := l0)); omega)
        intro v220 w91 ho hb hg hat
        rw [← Ny219.out] at ho
        have n0_ := Aside0.mk (hb)
        have n1_ := Aside0.mk (ho)
        clear HB
        clear HO217
        have HB := n0_
        have HO221 := n1_
        clear n0_ n1_
        clear ho hb hg hat
        refine hK.out _ _ trivial (fun hHeld => ?_)
        clear hK K
        refine norm_ (a' := ?_) ?_ ?_
        rotate_left
        ·show Act.put _ (some 55) _ = _
         simp only [Act.put, List.setIfInBounds_toArray, List.set_cons_zero, List.set_cons_succ, i64_w, i32_w]
         rfl
        refine one_ (i := 6) (N := some 57) #[true, true, true, true, true, true, true, false, true, true, true, false, false] rfl rfl (one_of HT_.out (by kernel_rfl)) (by decide) (fun K hK => ?_)
        refine Kd.R_lit_step (Kd.int .i32) _ 21 ?hg (N := 57) ?hd (xs := ([a2] : List Int)) (inner := [.int .i32 a2]) (ok := fun _ => True) (okp := fun _ => True) ?hr ?hp (fun _ hk => hk) trivial (Below.refl _ _) (Nat.le_refl _) (by simp) ?_; (case hd => rfl); (case hg => rfl); (case hr => first | (go_simp; done) | (go_simp; rfl)); (case hp => exact (Reps.one (show Kd.M (Kd.int .i32) _ _ _ a2 [.int .i32 a2] from rfl) (Reps.none _ _)))
        intro v223 w92 ho93 hb hg_ hnew_
        clear hg_ hnew_
        (first | rw [← Ny222.out] at ho93 | (simp only [Int.reduceToNat] at ho93; rw [← Ny222.out] at ho93))
        have n0_ := Aside0.mk (Kd.R_elder' (rz HO221.out) (Kd.R_base ho93) hb)
        have n1_ := Aside0.mk (Kd.R_lower (Kd.R_new' ho93 (Kd.R_lt (rz HO221.out))) (below_size bz))
        have n2_ := Aside0.mk (below_step bz hb)
        clear HO221
        clear HB
        have HO221 := n0_
        have HO224 := n1_
        have HB := n2_
        clear n0_ n1_ n2_
        clear hb ho93
        refine hK.out _ _ trivial (fun hHeld => ?_)
        clear hK K
        refine norm_ (a' := ?_) ?_ ?_
        rotate_left
        ·show Act.put _ (some 57) _ = _
         simp only [Act.put, List.setIfInBounds_toArray, List.set_cons_zero, List.set_cons_succ, i64_w, i32_w]
         rfl
        exact norm_ (by simp only [putAll, Act.put, List.setIfInBounds_toArray, List.set_cons_zero, List.set_cons_succ]) (hCont (v216, v220, v223) _ ⟨(by (with_reducible repeat (first | apply Kd.R_alloc | apply Kd.R_drewN | apply Kd.R_drew)); exact Kd.R_mono HO221.out (fun _ hk => hk.2)), (by (with_reducible repeat (first | apply Kd.R_alloc | apply Kd.R_drewN | apply Kd.R_drew)); exact Kd.R_mono HO224.out (fun _ hk => hk.2)), bz⟩)
       ·skip
        refine Kd.R_lit_step (Kd.int .i32) _ 21 ?hg (N := 57) ?hd (xs := ([a2] : List Int)) (inner := [.int .i32 a2]) (ok := fun _ => True) (okp := fun _ => True) ?hr ?hp (fun _ hk => hk) trivial (Below.refl _ _) (Nat.le_refl _) (by simp) ?_; (case hd => rfl); (case hg => rfl); (case hr => first | (go_simp; done) | (go_simp; rfl)); (case hp => exact (Reps.one (show Kd.M (Kd.int .i32) _ _ _ a2 [.int .i32 a2] from rfl) (Reps.none _ _)))
        intro v223 w91 ho92 hb hg_ hnew_
        clear hg_ hnew_
        (first | rw [← Ny222.out] at ho92 | (simp only [Int.reduceToNat] at ho92; rw [← Ny222.out] at ho92))
        have n0_ := Aside0.mk (Kd.R_elder' (rz HO217.out) (Kd.R_base ho92) hb)
        have n1_ := Aside0.mk (Kd.R_lower (Kd.R_new' ho92 (Kd.R_lt (rz HO217.out))) (below_size bz))
        have n2_ := Aside0.mk (below_step bz hb)
        clear HO217
        clear HB
        have HO217 := n0_
        have HO224 := n1_
        have HB := n2_
        clear n0_ n1_ n2_
        clear hb ho92
        refine hK.out _ _ trivial (fun hHeld => ?_)
        clear hK K
        refine norm_ (a' := ?_) ?_ ?_
        rotate_left
        ·show Act.put _ (some 57) _ = _
         simp only [Act.put, List.setIfInBounds_toArray, List.set_cons_zero, List.set_cons_succ, i64_w, i32_w]
         rfl
        refine one_ (i := 4) (N := some 55) #[true, true, true, true, true, true, true, false, true, true, true, false, false] rfl rfl (one_of HT_.out (by kernel_rfl)) (by decide) (fun K hK => ?_)
        refine Kd.R_append_rows_step (Kd.int .i32) (w0 := w) w.heap.size (by rfl) (.tmp 51) (.tmp 54) 27 21 (.int .i32 0) 4 rfl Try.underlying27 info21 rfl (by decide) (by omega) v216 y215 (l0.take (a1 : Int).toNat) _ _ _ (fun k_ => some k_ ≠ (v223 : Value).ownBlock) (fun _ => False) rfl rfl ?aO ?aR (fun _ _ h => h) (fun _ h => h.elim) ?aF ?aB ?aS ?aL ?_
        (case aR => first | (have c_ := (Kd.C_below HR218.out HB.out); rw [tk_ (l := l0) (i := a1)] at c_; exact cz c_) | (exact cz (Kd.C_below HR218.out HB.out)))
        (case aB => exact bz)
        (case aF => exact (fun k_ hk => Kd.fresh' (Kd.R_lt (rz HO224.out)) k_ hk))
        (case aO => exact (by (with_reducible repeat (first | apply Kd.R_alloc | apply Kd.R_drewN | apply Kd.R_drew)); exact Kd.R_mono HO217.out (fun _ hk => hk.2)))
        (case aS => exact (below_size bz))
        (case aL => have := LMc22.out; have hlx_ := (tk_ (l := l0)); omega)
        intro v220 w93 ho hb hg hat
        rw [← Ny219.out] at ho
        have n0_ := Aside0.mk (Kd.R_after (ok := (fun _ => True)) (rz HO224.out) hg hat)
        have n1_ := Aside0.mk (hb)
        have n2_ := Aside0.mk (ho)
        clear HO224
        clear HB
        clear HO217
        have HO224 := n0_
        have HB := n1_
        have HO221 := n2_
        clear n0_ n1_ n2_
        clear ho hb hg hat
        refine hK.out _ _ trivial (fun hHeld => ?_)
        clear hK K
        refine norm_ (a' := ?_) ?_ ?_
        rotate_left
        ·show Act.put _ (some 55) _ = _
         simp only [Act.put, List.setIfInBounds_toArray, List.set_cons_zero, List.set_cons_succ, i64_w, i32_w]
         rfl
        exact norm_ (by simp only [putAll, Act.put, List.setIfInBounds_toArray, List.set_cons_zero, List.set_cons_succ]) (hCont (v216, v220, v223) _ ⟨(rz HO221.out), (by (with_reducible repeat (first | apply Kd.R_alloc | apply Kd.R_drewN | apply Kd.R_drew)); exact Kd.R_mono HO224.out (fun _ hk => hk.2)), bz⟩)
      ·skip
       refine Kd.R_lit_step (Kd.int .i32) _ 21 ?hg (N := 57) ?hd (xs := ([a2] : List Int)) (inner := [.int .i32 a2]) (ok := fun _ => True) (okp := fun _ => True) ?hr ?hp (fun _ hk => hk) trivial (Below.refl _ _) (Nat.le_refl _) (by simp) ?_; (case hd => rfl); (case hg => rfl); (case hr => first | (go_simp; done) | (go_simp; rfl)); (case hp => exact (Reps.one (show Kd.M (Kd.int .i32) _ _ _ a2 [.int .i32 a2] from rfl) (Reps.none _ _)))
       intro v223 w89 ho90 hb hg_ hnew_
       clear hg_ hnew_
       (first | rw [← Ny222.out] at ho90 | (simp only [Int.reduceToNat] at ho90; rw [← Ny222.out] at ho90))
       have n0_ := Aside0.mk (Kd.R_lower ho90 (below_size bz))
       have n1_ := Aside0.mk (below_step bz hb)
       clear HB
       have HO224 := n0_
       have HB := n1_
       clear n0_ n1_
       clear hb ho90
       refine hK.out _ _ trivial (fun hHeld => ?_)
       clear hK K
       refine norm_ (a' := ?_) ?_ ?_
       rotate_left
       ·show Act.put _ (some 57) _ = _
        simp only [Act.put, List.setIfInBounds_toArray, List.set_cons_zero, List.set_cons_succ, i64_w, i32_w]
        rfl
       refine one_ (i := 0) (N := some 51) #[true, true, true, true, false, true, true, false, true, true, true, false, false] rfl rfl (one_of HT_.out (by kernel_rfl)) (by decide) (fun K hK => ?_)
       refine Kd.R_lit_step (Kd.int .i32) _ 21 ?hg (N := 51) ?hd (xs := ([] : List Int)) (inner := []) (ok := fun _ => True) (okp := fun _ => True) ?hr ?hp (fun _ hk => hk) trivial (Below.refl _ _) (Nat.le_refl _) (by simp) ?_; (case hd => rfl); (case hg => rfl); (case hr => first | (go_simp; done) | (go_simp; rfl)); (case hp => exact (Reps.none _ _))
       intro v216 w91 ho92 hb hg_ hnew_
       clear hg_ hnew_
       (first | rw [← Ny215.out] at ho92 | (simp only [Int.reduceToNat] at ho92; rw [← Ny215.out] at ho92))
       have n0_ := Aside0.mk (Kd.R_elder' (rz HO224.out) (Kd.R_base ho92) hb)
       have n1_ := Aside0.mk (Kd.R_lower (Kd.R_new' ho92 (Kd.R_lt (rz HO224.out))) (below_size bz))
       have n2_ := Aside0.mk (below_step bz hb)
       clear HO224
       clear HB
       have HO224 := n0_
       have HO217 := n1_
       have HB := n2_
       clear n0_ n1_ n2_
       clear hb ho92
       refine hK.out _ _ trivial (fun hHeld => ?_)
       clear hK K
       refine norm_ (a' := ?_) ?_ ?_
       rotate_left
       ·show Act.put _ (some 51) _ = _
        simp only [Act.put, List.setIfInBounds_toArray, List.set_cons_zero, List.set_cons_succ, i64_w, i32_w]
        rfl
       refine one_ (i := 4) (N := some 55) #[true, true, true, true, true, true, true, false, true, true, true, false, false] rfl rfl (one_of HT_.out (by kernel_rfl)) (by decide) (fun K hK => ?_)
       refine Kd.R_append_rows_step (Kd.int .i32) (w0 := w) w.heap.size (by rfl) (.tmp 51) (.tmp 54) 27 21 (.int .i32 0) 4 rfl Try.underlying27 info21 rfl (by decide) (by omega) v216 y215 (l0.take (a1 : Int).toNat) _ _ _ (fun k_ => some k_ ≠ (v223 : Value).ownBlock) (fun _ => False) rfl rfl ?aO ?aR (fun _ _ h => h) (fun _ h => h.elim) ?aF ?aB ?aS ?aL ?_
       (case aR => first | (have c_ := (Kd.C_below HR218.out HB.out); rw [tk_ (l := l0) (i := a1)] at c_; exact cz c_) | (exact cz (Kd.C_below HR218.out HB.out)))
       (case aB => exact bz)
       (case aF => exact (fun k_ hk => Kd.fresh' (Kd.R_lt (rz HO224.out)) k_ hk))
       (case aO => exact (by (with_reducible repeat (first | apply Kd.R_alloc | apply Kd.R_drewN | apply Kd.R_drew)); exact Kd.R_mono HO217.out (fun _ hk => hk.2)))
       (case aS => exact (below_size bz))
       (case aL => have := LMc22.out; have hlx_ := (tk_ (l := l0)); omega)
       intro v220 w93 ho hb hg hat
       rw [← Ny219.out] at ho
       have n0_ := Aside0.mk (Kd.R_after (ok := (fun _ => True)) (rz HO224.out) hg hat)
       have n1_ := Aside0.mk (hb)
       have n2_ := Aside0.mk (ho)
       clear HO224
       clear HB
       clear HO217
       have HO224 := n0_
       have HB := n1_
       have HO221 := n2_
       clear n0_ n1_ n2_
       clear ho hb hg hat
       refine hK.out _ _ trivial (fun hHeld => ?_)
       clear hK K
       refine norm_ (a' := ?_) ?_ ?_
       rotate_left
       ·show Act.put _ (some 55) _ = _
        simp only [Act.put, List.setIfInBounds_toArray, List.set_cons_zero, List.set_cons_succ, i64_w, i32_w]
        rfl
       exact norm_ (by simp only [putAll, Act.put, List.setIfInBounds_toArray, List.set_cons_zero, List.set_cons_succ]) (hCont (v216, v220, v223) _ ⟨(rz HO221.out), (by (with_reducible repeat (first | apply Kd.R_alloc | apply Kd.R_drewN | apply Kd.R_drew)); exact Kd.R_mono HO224.out (fun _ hk => hk.2)), bz⟩)
     rintro ⟨v216, v220, v223⟩ w94 ⟨h0_, h1_, h2_⟩
     have n0_ : Aside0 (Kd.R (Kd.int .i32) 21 w94 w.heap.size (fun k_ => some k_ ≠ (v223 : Value).ownBlock) v220 y219) := ⟨h0_⟩
     have n1_ : Aside0 (Kd.R (Kd.int .i32) 21 w94 w.heap.size (fun k_ => some k_ ≠ (v220 : Value).ownBlock) v223 y222) := ⟨h1_⟩
     have n2_ : Aside0 (Below w.heap.size w w94) := ⟨h2_⟩
     clear HB
     clear h0_ h1_ h2_
     have HO221 := n0_
     have HO224 := n1_
     have HB := n2_
     clear n0_ n1_ n2_
     have hHeld := trivial
     obtain ⟨Ao96, co96, eo96⟩ := Kd.R_slice HO224.out
     (first | subst eo96 | (injection eo96 with f1_ f2_ f3_; have f4_ := f1_.symm; have f5_ := f3_.symm; clear f1_ f2_ f3_; subst f4_; subst f5_))
     refine norm_ (a' := ?_) ?_ ?_
     rotate_left
     ·simp only [putAll, Act.put, List.setIfInBounds_toArray, List.set_cons_zero, List.set_cons_succ]
      rfl
     refine one_ (i := 7) (N := some 58) #[true, true, true, true, true, true, true, true, true, true, true, false, false] rfl rfl (one_of HT_.out (by kernel_rfl)) (by decide) (fun K hK => ?_)
     refine Kd.R_append_rows_step (Kd.int .i32) (w0 := w) w.heap.size (by rfl) (.tmp 55) (.tmp 57) 27 21 (.int .i32 0) 4 rfl Try.underlying27 info21 rfl (by decide) (by omega) v220 y219 y222 _ _ _ (fun k_ => some k_ ≠ (.slice Ao96 y222.length co96 : Value).ownBlock) (fun _ => False) rfl rfl ?aO ?aR (fun _ _ h => h) (fun _ h => h.elim) ?aF ?aB ?aS ?aL ?_
     (case aR => repeat (first | exact (Kd.R_reads' HO224.out).2.2 | (with_reducible refine Kd.C_alloc ?_ _) | (with_reducible refine Kd.C_drewN ?_ _) | (with_reducible refine Kd.C_drew ?_)))
     (case aB => exact bz)
     (case aF => exact (fun k_ hk => Kd.fresh' (Kd.R_lt (rz HO224.out)) k_ hk))
     (case aO => exact (rz HO221.out))
     (case aS => exact (below_size bz))
     (case aL => have := LMc23.out; omega)
     intro v226 w95 ho hb hg hat
     rw [← Ny225.out] at ho
     have n0_ := Aside0.mk (Kd.R_after (ok := (fun _ => True)) (by (with_reducible repeat (first | apply Kd.R_alloc | apply Kd.R_drewN | apply Kd.R_drew)); exact Kd.R_mono HO224.out (fun _ hk => ⟨trivial, hk⟩)) hg hat)
     have n1_ := Aside0.mk (hb)
     have n2_ := Aside0.mk (ho)
     clear HO224
     clear HB
     clear HO221
     have HO224 := n0_
     have HB := n1_
     have HO227 := n2_
     clear n0_ n1_ n2_
     clear ho hb hg hat
     refine hK.out _ _ trivial (fun hHeld => ?_)
     clear hK K
     refine norm_ (a' := ?_) ?_ ?_
     rotate_left
     ·show Act.put _ (some 58) _ = _
      simp only [Act.put, List.setIfInBounds_toArray, List.set_cons_zero, List.set_cons_succ, i64_w, i32_w]
      rfl
     refine one_ (i := 11) (N := some 62) #[true, true, true, true, true, true, true, true, true, true, true, true, false] rfl rfl (one_of HT_.out (by kernel_rfl)) (by decide) (fun K hK => ?_)
     refine Kd.R_append_rows_step (Kd.int .i32) (w0 := w) w.heap.size (by rfl) (.tmp 58) (.tmp 61) 27 21 (.int .i32 0) 4 rfl Try.underlying27 info21 rfl (by decide) (by omega) v226 y225 (l0.drop (a1 : Int).toNat) _ _ _ (fun k_ => some k_ ≠ (.slice Ao96 y222.length co96 : Value).ownBlock) (fun _ => False) rfl rfl ?aO ?aR (fun _ _ h => h) (fun _ h => h.elim) ?aF ?aB ?aS ?aL ?_
     (case aR => first | (rw [← show (l0.drop (a1 : Int).toNat).length = (l0.length - a1.toNat) from List.length_drop]; exact cz (Kd.C_below HR228.out HB.out)) | (exact cz (Kd.C_below HR228.out HB.out)))
     (case aB => exact bz)
     (case aF => exact (fun k_ hk => Kd.fresh' (Kd.R_lt (rz HO224.out)) k_ hk))
     (case aO => exact (rz HO227.out))
     (case aS => exact (below_size bz))
     (case aL => have := LMc26.out; have hlx_ := (show (l0.drop (a1 : Int).toNat).length = (l0.length - a1.toNat) from List.length_drop); omega)
     intro v230 w97 ho hb hg hat
     rw [← Ny229.out] at ho
     have n0_ := Aside0.mk (Kd.R_after (ok := (fun _ => True)) (rz HO224.out) hg hat)
     have n1_ := Aside0.mk (hb)
     have n2_ := Aside0.mk (ho)
     clear HO224
     clear HB
     clear HO227
     have HO224 := n0_
     have HB := n1_
     have HO231 := n2_
     clear n0_ n1_ n2_
     clear ho hb hg hat
     refine hK.out _ _ trivial (fun hHeld => ?_)
     clear hK K
     refine norm_ (a' := ?_) ?_ ?_
     rotate_left
     ·show Act.put _ (some 62) _ = _
      simp only [Act.put, List.setIfInBounds_toArray, List.set_cons_zero, List.set_cons_succ, i64_w, i32_w]
      rfl
     refine pure_ (i := 12) (N := some 10) (v := ?_) (a' := ?_) #[true, true, true, true, true, true, true, true, true, true, true, true, true] rfl rfl (any_of HT_.out (by kernel_rfl)) (fun _ _ _ h => h) (Or.inl ⟨by rfl, ?_⟩) ?_ ?_
     rotate_left
     ·intro w'
      go_simp
      with_reducible rfl
     rotate_left
     ·simp only [Act.put, List.setIfInBounds_toArray, List.set_cons_zero, List.set_cons_succ, i64_w, i32_w]
      rfl
     refine done_ (done_of HT_.out (by kernel_rfl)) ?_
     obtain ⟨Ao98, co98, eo98⟩ := Kd.R_slice HO231.out
     subst eo98
     try go_wp2_with (first | (go_at_call 18; (with_reducible refine (class_Turns.calls kj12 _ _ y229 t234 _ ?side1 ?side2 A85.out).mono ?_); (case side1 => repeat (first | exact (Kd.R_reads' HO231.out).2.2 | (with_reducible refine Kd.C_alloc ?_ _) | (with_reducible refine Kd.C_drewN ?_ _) | (with_reducible refine Kd.C_drew ?_))); (case side2 => exact (Kd.R_reads' HO231.out).2.1); rintro e w' ⟨rfl, ⟨nd, rfl⟩⟩))
     go_ret
     exact ⟨by first | rfl | (simp [errW_none, errW_some] <;> rfl) | (simp [*, errW_none, errW_some] <;> rfl), bz⟩

/-- THE ONE PURE STATEMENT of exerguelaw02_ClassTurns: yours. -/
def exerguelaw02_ClassTurns.Pure : Prop := ∀ (l0 : List Int) (a1 : Int) (a2 : Int), l0.length ≤ maxLen → l0.length * 4 ≤ 140737488351232 → (∀ x ∈ l0, (Lit.int .i32 x).wf = true) → (Lit.int .i64 a1).wf = true → (Lit.int .i32 a2).wf = true → ∃ k, exerguelaw02_ClassTurns.f k l0 a1 a2 = some true
theorem exerguelaw02_ClassTurns.walk (P : exerguelaw02_ClassTurns.Pure) (a0 : Option Addr) (len0 cap0 : Nat) (z0 : List Int) (a1 : Int) (a2 : Int) (w : World) (w0 : (a0 = none ∧ len0 = 0 ∧ cap0 = 0 ∧ z0 = []) ∨ ∃ x, a0 = some x ∧ len0 ≤ cap0 ∧ cap0 ≤ maxLen ∧ z0.length = cap0 ∧ (∀ i, i < z0.length → w.cell? (x.add i) = some (.int .i32 (z0.getD i 0))) ∧ ∀ n ∈ z0, (Lit.int .i32 n).wf = true) (y0 : len0 * 4 ≤ 140737488351232) (w1 : (Lit.int .i64 a1).wf = true) (w2 : (Lit.int .i32 a2).wf = true) :
  Calls Try.prog 8 #[.slice a0 len0 cap0, .int .i64 a1, .int .i32 a2] w fun e w' => e = .returned (.bool true) ∧ Below w.heap.size w w' := by
 obtain ⟨l0, rfl, hr0, hm0, hw0, hc0⟩ := ReadsInt.ofRowC w0
 obtain ⟨k, h⟩ := P l0 a1 a2 hm0 y0 hw0 w1 w2
 refine (exerguelaw02_ClassTurns.calls k _ _ l0 a1 a2 true w (Kd.C_of_reads (d := (0 : Int)) (h1 := fun _ => rfl) hr0) hc0 h).mono ?_
 rintro e w' ⟨rfl, hd⟩
 exact ⟨rfl, hd⟩

end Go.Proofs.Ytgdefjcjikcofaa.Q
