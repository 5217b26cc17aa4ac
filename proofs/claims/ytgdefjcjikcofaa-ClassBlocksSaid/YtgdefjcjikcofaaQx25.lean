/- Functions of the translation as plain Lean functions, each with a proof that the Go code comes to its answers, wherever the function has one; no other condition. Written by this session's own program (wip/myprint.py). -/
import Derived.Test.YtgdefjcjikcofaaQx0
import Derived.Test.YtgdefjcjikcofaaQx2
import Derived.Test.YtgdefjcjikcofaaQx5
import Derived.Test.YtgdefjcjikcofaaQx8
import Derived.Test.YtgdefjcjikcofaaQx13
namespace Go.Proofs.Ytgdefjcjikcofaa.Q
open Go.RowKit Go.Proofs.Ytgdefjcjikcofaa.Mine Go.Proofs.YtgdefjcjikcofaaW.PrintWords Go.Proofs.YtgdefjcjikcofaaW.PrintLast Go.Proofs.YtgdefjcjikcofaaW.PrintMore
attribute [local go_sem] max2_int min2_int max_two min_two max_three min_three max_four min_four   -- for this text's walks alone
set_option linter.unusedVariables false
set_option linter.unusedSimpArgs false

/-! ### exerguelaw02_ClassBlocks: function 5 -/
mutual
def exerguelaw02_ClassBlocks.j0 : Nat → Int → Bool → Int → Bool → Bool → Option (Bool)
  | 0, _, _, _, _, _ => none
  | k + 1, x0, x3, x4, x5, x46 => if x46 = true then (some false) else ((class_Zero.f k x0).bind fun t164 => (if t164 = true then (exerguelaw02_ClassBlocks.l0 k x0 x3 x4 0) else (if x3 = true then (if x5 = true then (some (decide (x4 > 0))) else (some true)) else (some false))))
def exerguelaw02_ClassBlocks.l0 : Nat → Int → Bool → Int → Int → Option (Bool)
  | 0, _, _, _, _ => none
  | k + 1, x0, x3, x4, x6 => if x6 < 10 then ((class_Value.f k (wrap32 (x0 + (wrap32 (x6))))).bind fun bt165 => (if bt165.2 = true then (if bt165.1 = x6 then (exerguelaw02_ClassBlocks.l0 k x0 x3 x4 (wrap64 (x6 + 1))) else (some false)) else (some false))) else (if x3 = true then (some (x4 == 0)) else (some false))
end
def exerguelaw02_ClassBlocks.f (k : Nat) (a0 : Int) : Option (Bool) := (exerguelaw02_shown.f k).bind fun t159 => ((class_Value.f k a0).bind fun bt160 => ((class_Of.f k a0).bind fun t162 => (if (bt160.2 != (t162 == 5)) = true then (exerguelaw02_ClassBlocks.j0 k a0 t159 bt160.1 bt160.2 true) else (if bt160.1 < 0 then (exerguelaw02_ClassBlocks.j0 k a0 t159 bt160.1 bt160.2 true) else (if bt160.1 > 9 then (exerguelaw02_ClassBlocks.j0 k a0 t159 bt160.1 bt160.2 true) else (if bt160.2 = true then ((class_Zero.f k (wrap32 (a0 - (wrap32 (bt160.1))))).bind fun t163 => (exerguelaw02_ClassBlocks.j0 k a0 t159 bt160.1 bt160.2 (!t163))) else (if bt160.1 = 0 then (exerguelaw02_ClassBlocks.j0 k a0 t159 bt160.1 bt160.2 false) else (exerguelaw02_ClassBlocks.j0 k a0 t159 bt160.1 bt160.2 true))))))))
theorem exerguelaw02_ClassBlocks.mono_l : ∀ k, (∀ y0 y1 y2 y3 y4, LeO (exerguelaw02_ClassBlocks.j0 k y0 y1 y2 y3 y4) (exerguelaw02_ClassBlocks.j0 (k + 1) y0 y1 y2 y3 y4)) ∧ (∀ y0 y1 y2 y3, LeO (exerguelaw02_ClassBlocks.l0 k y0 y1 y2 y3) (exerguelaw02_ClassBlocks.l0 (k + 1) y0 y1 y2 y3))
  | 0 => ⟨fun _ _ _ _ _ r h => by simp [exerguelaw02_ClassBlocks.j0] at h, fun _ _ _ _ r h => by simp [exerguelaw02_ClassBlocks.l0] at h⟩
  | k + 1 => by
    obtain ⟨ih0, ih1⟩ := exerguelaw02_ClassBlocks.mono_l k
    refine ⟨?_, ?_⟩
    · intro y0 y1 y2 y3 y4
      unfold exerguelaw02_ClassBlocks.j0
      repeat' first
      | (with_reducible exact ih0 _ _ _ _ _)
      | (with_reducible exact ih1 _ _ _ _)
      | (with_reducible exact class_Of.mono _ _)
      | (with_reducible exact class_Value.mono _ _)
      | (with_reducible exact class_Zero.mono _ _)
      | (with_reducible exact exerguelaw02_shown.mono _)
      | (with_reducible exact LeO.refl _)
      | (with_reducible exact LeO.none _)
      | (with_reducible refine LeO.ite ?_ ?_)
      | (with_reducible refine LeO.bind ?_ (fun _ => ?_))
      | exact ih0 _ _ _ _ _
      | exact ih1 _ _ _ _
      | exact class_Of.mono _ _
      | exact class_Value.mono _ _
      | exact class_Zero.mono _ _
      | exact exerguelaw02_shown.mono _
      | exact LeO.none _
      | refine LeO.ite ?_ ?_
      | refine LeO.bind ?_ (fun _ => ?_)
    · intro y0 y1 y2 y3
      unfold exerguelaw02_ClassBlocks.l0
      repeat' first
      | (with_reducible exact ih0 _ _ _ _ _)
      | (with_reducible exact ih1 _ _ _ _)
      | (with_reducible exact class_Of.mono _ _)
      | (with_reducible exact class_Value.mono _ _)
      | (with_reducible exact class_Zero.mono _ _)
      | (with_reducible exact exerguelaw02_shown.mono _)
      | (with_reducible exact LeO.refl _)
      | (with_reducible exact LeO.none _)
      | (with_reducible refine LeO.ite ?_ ?_)
      | (with_reducible refine LeO.bind ?_ (fun _ => ?_))
      | exact ih0 _ _ _ _ _
      | exact ih1 _ _ _ _
      | exact class_Of.mono _ _
      | exact class_Value.mono _ _
      | exact class_Zero.mono _ _
      | exact exerguelaw02_shown.mono _
      | exact LeO.none _
      | refine LeO.ite ?_ ?_
      | refine LeO.bind ?_ (fun _ => ?_)
theorem exerguelaw02_ClassBlocks.mono : ∀ a0 k, LeO (exerguelaw02_ClassBlocks.f k a0) (exerguelaw02_ClassBlocks.f (k + 1) a0) := by
  intro a0 k
  obtain ⟨ih0, ih1⟩ := exerguelaw02_ClassBlocks.mono_l k
  unfold exerguelaw02_ClassBlocks.f
  repeat' first
      | (with_reducible exact ih0 _ _ _ _ _)
      | (with_reducible exact ih1 _ _ _ _)
      | (with_reducible exact class_Of.mono _ _)
      | (with_reducible exact class_Value.mono _ _)
      | (with_reducible exact class_Zero.mono _ _)
      | (with_reducible exact exerguelaw02_shown.mono _)
      | (with_reducible exact LeO.refl _)
      | (with_reducible exact LeO.none _)
      | (with_reducible refine LeO.ite ?_ ?_)
      | (with_reducible refine LeO.bind ?_ (fun _ => ?_))
      | exact ih0 _ _ _ _ _
      | exact ih1 _ _ _ _
      | exact class_Of.mono _ _
      | exact class_Value.mono _ _
      | exact class_Zero.mono _ _
      | exact exerguelaw02_shown.mono _
      | exact LeO.none _
      | refine LeO.ite ?_ ?_
      | refine LeO.bind ?_ (fun _ => ?_)
set_option maxHeartbeats 8000000 in
set_option maxRecDepth 100000 in
theorem exerguelaw02_ClassBlocks.calls (k : Nat) (a0 : Int) (r : Bool) (w : World) (h : exerguelaw02_ClassBlocks.f k a0 = some r) :
    Calls Try.prog 5 #[.int .i32 a0] w fun e w' => e = .returned (.bool r) ∧ Below w.heap.size w w' := by
  have HB := Aside0.mk (Below.refl w.heap.size w)
  have H : ((exerguelaw02_shown.f k).bind fun t159 => ((class_Value.f k a0).bind fun bt160 => ((class_Of.f k a0).bind fun t162 => (if (bt160.2 != (t162 == 5)) = true then (exerguelaw02_ClassBlocks.j0 k a0 t159 bt160.1 bt160.2 true) else (if bt160.1 < 0 then (exerguelaw02_ClassBlocks.j0 k a0 t159 bt160.1 bt160.2 true) else (if bt160.1 > 9 then (exerguelaw02_ClassBlocks.j0 k a0 t159 bt160.1 bt160.2 true) else (if bt160.2 = true then ((class_Zero.f k (wrap32 (a0 - (wrap32 (bt160.1))))).bind fun t163 => (exerguelaw02_ClassBlocks.j0 k a0 t159 bt160.1 bt160.2 (!t163))) else (if bt160.1 = 0 then (exerguelaw02_ClassBlocks.j0 k a0 t159 bt160.1 bt160.2 false) else (exerguelaw02_ClassBlocks.j0 k a0 t159 bt160.1 bt160.2 true))))))))) = some r := h
  clear h
  replace H := Option.bind_eq_some_iff.mp H
  obtain ⟨t159, A20, H⟩ := H
  replace H : ((class_Value.f k a0).bind fun bt160 => ((class_Of.f k a0).bind fun t162 => (if (bt160.2 != (t162 == 5)) = true then (exerguelaw02_ClassBlocks.j0 k a0 t159 bt160.1 bt160.2 true) else (if bt160.1 < 0 then (exerguelaw02_ClassBlocks.j0 k a0 t159 bt160.1 bt160.2 true) else (if bt160.1 > 9 then (exerguelaw02_ClassBlocks.j0 k a0 t159 bt160.1 bt160.2 true) else (if bt160.2 = true then ((class_Zero.f k (wrap32 (a0 - (wrap32 (bt160.1))))).bind fun t163 => (exerguelaw02_ClassBlocks.j0 k a0 t159 bt160.1 bt160.2 (!t163))) else (if bt160.1 = 0 then (exerguelaw02_ClassBlocks.j0 k a0 t159 bt160.1 bt160.2 false) else (exerguelaw02_ClassBlocks.j0 k a0 t159 bt160.1 bt160.2 true)))))))) = some r := H
  have A2 := Aside0.mk A20
  clear A20
  replace H := Option.bind_eq_some_iff.mp H
  obtain ⟨⟨t160, t161⟩, A30, H⟩ := H
  replace H : ((class_Of.f k a0).bind fun t162 => (if (t161 != (t162 == 5)) = true then (exerguelaw02_ClassBlocks.j0 k a0 t159 t160 t161 true) else (if t160 < 0 then (exerguelaw02_ClassBlocks.j0 k a0 t159 t160 t161 true) else (if t160 > 9 then (exerguelaw02_ClassBlocks.j0 k a0 t159 t160 t161 true) else (if t161 = true then ((class_Zero.f k (wrap32 (a0 - (wrap32 (t160))))).bind fun t163 => (exerguelaw02_ClassBlocks.j0 k a0 t159 t160 t161 (!t163))) else (if t160 = 0 then (exerguelaw02_ClassBlocks.j0 k a0 t159 t160 t161 false) else (exerguelaw02_ClassBlocks.j0 k a0 t159 t160 t161 true))))))) = some r := H
  have A3 := Aside0.mk A30
  clear A30
  have HC4 := Aside0.mk H
  clear H
  go_enter Try.func5, Try.ntmps5
  go_upto_region 3 with (first | ((with_reducible refine gate_callee (f := 9) rfl ?_); refine goesL_ (some 9) rfl rfl Try.func9 (by kernel_rfl) rfl #[] rfl (by (try simp only [List.map_toArray, List.map_cons, List.map_nil]); first | done | rfl | (simp only [List.length_drop, List.length_take]; rfl)) ?_; (with_reducible refine (exerguelaw02_shown.calls k  t159 _ A2.out).mono ?_); rintro e w5 ⟨rfl, hb⟩; refine ⟨_, rfl, ?_⟩; have n0_ := Aside0.mk (below_step (by repeat (first | (with_reducible first | exact HB.out | apply below_alloc | apply pw_below_drewN | apply below_drew1) | exact HB.out)) hb); clear HB; have HB := n0_; clear n0_; (try clear hb); (try clear hb2); (try clear hk); (try clear hi)) | ((with_reducible refine gate_callee (f := 10) rfl ?_); refine goesL_ (some 12) rfl rfl Try.func10 (by kernel_rfl) rfl #[.int .i32 a0] rfl (by (try simp only [List.map_toArray, List.map_cons, List.map_nil]); first | done | rfl | (simp only [List.length_drop, List.length_take]; rfl)) ?_; (with_reducible refine (class_Value.calls k a0 t160 t161 _ A3.out).mono ?_); rintro e w6 ⟨rfl, hb⟩; refine ⟨_, rfl, ?_⟩; have n0_ := Aside0.mk (below_step (by repeat (first | (with_reducible first | exact HB.out | apply below_alloc | apply pw_below_drewN | apply below_drew1) | exact HB.out)) hb); clear HB; have HB := n0_; clear n0_; (try clear hb); (try clear hb2); (try clear hk); (try clear hi)))
  (try simp only [Act.put, List.setIfInBounds_toArray, List.set_cons_zero, List.set_cons_succ])
  go_cut [46] (fun v46 wc => ∃ (kq : Nat) (x46_3 : Bool), v46 = .bool x46_3 ∧ Aside0 (exerguelaw02_ClassBlocks.j0 kq a0 t159 t160 t161 x46_3 = some r) ∧ Aside0 (kq ≤ k) ∧ Aside0 (Below w.heap.size w wc))
  case first =>
    have H := HC4.out
    clear HC4
    replace H := Option.bind_eq_some_iff.mp H
    obtain ⟨t162, A70, H⟩ := H
    replace H : (if (t161 != (t162 == 5)) = true then (exerguelaw02_ClassBlocks.j0 k a0 t159 t160 t161 true) else (if t160 < 0 then (exerguelaw02_ClassBlocks.j0 k a0 t159 t160 t161 true) else (if t160 > 9 then (exerguelaw02_ClassBlocks.j0 k a0 t159 t160 t161 true) else (if t161 = true then ((class_Zero.f k (wrap32 (a0 - (wrap32 (t160))))).bind fun t163 => (exerguelaw02_ClassBlocks.j0 k a0 t159 t160 t161 (!t163))) else (if t160 = 0 then (exerguelaw02_ClassBlocks.j0 k a0 t159 t160 t161 false) else (exerguelaw02_ClassBlocks.j0 k a0 t159 t160 t161 true)))))) = some r := H
    have A7 := Aside0.mk A70
    clear A70
    by_cases c8 : (t161 != (t162 == 5)) = true
    · rw [if_pos c8] at H
      have c8b0 : (t161 != (t162 == 5)) = true := c8
      (try (have c8b1 : decide (t161 = (t162 == 5)) = false := by simpa using c8))
      (try (have c8b2 : (t161 == (t162 == 5)) = false := by simpa using c8))
      (try (have c8b3 : ¬ (t161 = (t162 == 5)) := by simpa using c8))
      clear c8
      (first | rw [c8b0] | (simp only [i64_w, i32_w]; rw [c8b0]) | skip)
      have H' := Aside0.mk H
      clear H
      go_wp2_with (first | ((with_reducible refine gate_callee (f := 12) rfl ?_); refine goesL_ (some 17) rfl rfl Try.func12 (by kernel_rfl) rfl #[.int .i32 a0] rfl (by (try simp only [List.map_toArray, List.map_cons, List.map_nil]); first | done | rfl | (simp only [List.length_drop, List.length_take]; rfl)) ?_; (with_reducible refine (class_Of.calls k a0 t162 _ A7.out).mono ?_); rintro e w9 ⟨rfl, hb⟩; refine ⟨_, rfl, ?_⟩; have n0_ := Aside0.mk (below_step (by repeat (first | (with_reducible first | exact HB.out | apply below_alloc | apply pw_below_drewN | apply below_drew1) | exact HB.out)) hb); clear HB; have HB := n0_; clear n0_; (try clear hb); (try clear hb2); (try clear hk); (try clear hi)))
      go_meet
      case rel => exact ⟨_, (true), (by first | rfl | (simp; done) | (simp [*]; done)), H', ⟨by first | omega | exact Nat.le_refl _⟩, ⟨by repeat (first | (with_reducible first | exact HB.out | apply below_alloc | apply pw_below_drewN | apply below_drew1) | exact HB.out)⟩⟩
    · rw [if_neg c8] at H
      have c8b0 : (t161 != (t162 == 5)) = false := by simpa using c8
      (try (have c8b1 : decide (t161 = (t162 == 5)) = true := by simpa using c8))
      (try (have c8b2 : (t161 == (t162 == 5)) = true := by simpa using c8))
      clear c8
      (first | rw [c8b0] | (simp only [i64_w, i32_w]; rw [c8b0]) | skip)
      by_cases c10 : t160 < 0
      · rw [if_pos c10] at H
        have c10b0 : decide (t160 < 0) = true := decide_eq_true c10
        clear c10
        have H' := Aside0.mk H
        clear H
        go_wp2_with (first | ((with_reducible refine gate_callee (f := 12) rfl ?_); refine goesL_ (some 17) rfl rfl Try.func12 (by kernel_rfl) rfl #[.int .i32 a0] rfl (by (try simp only [List.map_toArray, List.map_cons, List.map_nil]); first | done | rfl | (simp only [List.length_drop, List.length_take]; rfl)) ?_; (with_reducible refine (class_Of.calls k a0 t162 _ A7.out).mono ?_); rintro e w11 ⟨rfl, hb⟩; refine ⟨_, rfl, ?_⟩; have n0_ := Aside0.mk (below_step (by repeat (first | (with_reducible first | exact HB.out | apply below_alloc | apply pw_below_drewN | apply below_drew1) | exact HB.out)) hb); clear HB; have HB := n0_; clear n0_; (try clear hb); (try clear hb2); (try clear hk); (try clear hi)))
        go_meet
        case rel => exact ⟨_, (true), (by first | rfl | (simp; done) | (simp [*]; done)), H', ⟨by first | omega | exact Nat.le_refl _⟩, ⟨by repeat (first | (with_reducible first | exact HB.out | apply below_alloc | apply pw_below_drewN | apply below_drew1) | exact HB.out)⟩⟩
      · rw [if_neg c10] at H
        have c10b0 : decide (t160 < 0) = false := decide_eq_false c10
        clear c10
        by_cases c12 : t160 > 9
        · rw [if_pos c12] at H
          have c12b0 : decide (9 < t160) = true := decide_eq_true c12
          clear c12
          have H' := Aside0.mk H
          clear H
          go_wp2_with (first | ((with_reducible refine gate_callee (f := 12) rfl ?_); refine goesL_ (some 17) rfl rfl Try.func12 (by kernel_rfl) rfl #[.int .i32 a0] rfl (by (try simp only [List.map_toArray, List.map_cons, List.map_nil]); first | done | rfl | (simp only [List.length_drop, List.length_take]; rfl)) ?_; (with_reducible refine (class_Of.calls k a0 t162 _ A7.out).mono ?_); rintro e w13 ⟨rfl, hb⟩; refine ⟨_, rfl, ?_⟩; have n0_ := Aside0.mk (below_step (by repeat (first | (with_reducible first | exact HB.out | apply below_alloc | apply pw_below_drewN | apply below_drew1) | exact HB.out)) hb); clear HB; have HB := n0_; clear n0_; (try clear hb); (try clear hb2); (try clear hk); (try clear hi)))
          go_meet
          case rel => exact ⟨_, (true), (by first | rfl | (simp; done) | (simp [*]; done)), H', ⟨by first | omega | exact Nat.le_refl _⟩, ⟨by repeat (first | (with_reducible first | exact HB.out | apply below_alloc | apply pw_below_drewN | apply below_drew1) | exact HB.out)⟩⟩
        · rw [if_neg c12] at H
          have c12b0 : decide (9 < t160) = false := decide_eq_false c12
          clear c12
          by_cases c14 : t161 = true
          · subst c14
            have H1 : ((class_Zero.f k (wrap32 (a0 - (wrap32 (t160))))).bind fun t163 => (exerguelaw02_ClassBlocks.j0 k a0 t159 t160 true (!t163))) = some r := by rw [if_pos rfl] at H; exact H
            clear H
            have H := H1
            clear H1
            replace H := Option.bind_eq_some_iff.mp H
            obtain ⟨t163, A150, H⟩ := H
            replace H : (exerguelaw02_ClassBlocks.j0 k a0 t159 t160 true (!t163)) = some r := H
            have A15 := Aside0.mk A150
            clear A150
            have H' := Aside0.mk H
            clear H
            go_wp2_with (first | ((with_reducible refine gate_callee (f := 12) rfl ?_); refine goesL_ (some 17) rfl rfl Try.func12 (by kernel_rfl) rfl #[.int .i32 a0] rfl (by (try simp only [List.map_toArray, List.map_cons, List.map_nil]); first | done | rfl | (simp only [List.length_drop, List.length_take]; rfl)) ?_; (with_reducible refine (class_Of.calls k a0 t162 _ A7.out).mono ?_); rintro e w16 ⟨rfl, hb⟩; refine ⟨_, rfl, ?_⟩; have n0_ := Aside0.mk (below_step (by repeat (first | (with_reducible first | exact HB.out | apply below_alloc | apply pw_below_drewN | apply below_drew1) | exact HB.out)) hb); clear HB; have HB := n0_; clear n0_; (try clear hb); (try clear hb2); (try clear hk); (try clear hi)) | (go_at_call 14; (with_reducible refine (class_Zero.calls k (wrap32 (a0 - (wrap32 (t160)))) t163 _ A15.out).mono ?_); rintro e w17 ⟨rfl, hb⟩; have n0_ := Aside0.mk (below_step (by repeat (first | (with_reducible first | exact HB.out | apply below_alloc | apply pw_below_drewN | apply below_drew1) | exact HB.out)) hb); clear HB; have HB := n0_; clear n0_; (try clear hb); (try clear hb2); (try clear hk); (try clear hi)))
            go_meet
            case rel => exact ⟨_, (!t163), (by first | rfl | (simp; done) | (simp [*]; done)), H', ⟨by first | omega | exact Nat.le_refl _⟩, ⟨by repeat (first | (with_reducible first | exact HB.out | apply below_alloc | apply pw_below_drewN | apply below_drew1) | exact HB.out)⟩⟩
          · replace c14 := Bool.eq_false_iff.mpr c14
            subst c14
            have H1 : (if t160 = 0 then (exerguelaw02_ClassBlocks.j0 k a0 t159 t160 false false) else (exerguelaw02_ClassBlocks.j0 k a0 t159 t160 false true)) = some r := by rw [if_neg (show ¬ (false = true) by decide)] at H; exact H
            clear H
            have H := H1
            clear H1
            by_cases c18 : t160 = 0
            · rw [if_pos c18] at H
              have c18b0 : (t160 == 0) = true := beq_iff_eq.mpr c18
              have c18b1 : (t160 != 0) = false := bne_eq_false_iff_eq.mpr c18
              clear c18
              have H' := Aside0.mk H
              clear H
              go_wp2_with (first | ((with_reducible refine gate_callee (f := 12) rfl ?_); refine goesL_ (some 17) rfl rfl Try.func12 (by kernel_rfl) rfl #[.int .i32 a0] rfl (by (try simp only [List.map_toArray, List.map_cons, List.map_nil]); first | done | rfl | (simp only [List.length_drop, List.length_take]; rfl)) ?_; (with_reducible refine (class_Of.calls k a0 t162 _ A7.out).mono ?_); rintro e w19 ⟨rfl, hb⟩; refine ⟨_, rfl, ?_⟩; have n0_ := Aside0.mk (below_step (by repeat (first | (with_reducible first | exact HB.out | apply below_alloc | apply pw_below_drewN | apply below_drew1) | exact HB.out)) hb); clear HB; have HB := n0_; clear n0_; (try clear hb); (try clear hb2); (try clear hk); (try clear hi)))
              go_meet
              case rel => exact ⟨_, (false), (by first | rfl | (simp; done) | (simp [*]; done)), H', ⟨by first | omega | exact Nat.le_refl _⟩, ⟨by repeat (first | (with_reducible first | exact HB.out | apply below_alloc | apply pw_below_drewN | apply below_drew1) | exact HB.out)⟩⟩
            · rw [if_neg c18] at H
              have c18b0 : (t160 == 0) = false := beq_eq_false_iff_ne.mpr c18
              have c18b1 : (t160 != 0) = true := bne_iff_ne.mpr c18
              have H' := Aside0.mk H
              clear H
              go_wp2_with (first | ((with_reducible refine gate_callee (f := 12) rfl ?_); refine goesL_ (some 17) rfl rfl Try.func12 (by kernel_rfl) rfl #[.int .i32 a0] rfl (by (try simp only [List.map_toArray, List.map_cons, List.map_nil]); first | done | rfl | (simp only [List.length_drop, List.length_take]; rfl)) ?_; (with_reducible refine (class_Of.calls k a0 t162 _ A7.out).mono ?_); rintro e w20 ⟨rfl, hb⟩; refine ⟨_, rfl, ?_⟩; have n0_ := Aside0.mk (below_step (by repeat (first | (with_reducible first | exact HB.out | apply below_alloc | apply pw_below_drewN | apply below_drew1) | exact HB.out)) hb); clear HB; have HB := n0_; clear n0_; (try clear hb); (try clear hb2); (try clear hk); (try clear hi)))
              go_meet
              case rel => exact ⟨_, (true), (by first | rfl | (simp; done) | (simp [*]; done)), H', ⟨by first | omega | exact Nat.le_refl _⟩, ⟨by repeat (first | (with_reducible first | exact HB.out | apply below_alloc | apply pw_below_drewN | apply below_drew1) | exact HB.out)⟩⟩
  case rest =>
    clear HC4
    try clear c1
    try clear p2
    try clear p3
    try clear c5
    try clear c8
    try clear c8b0
    try clear c8b1
    try clear c8b2
    try clear c9
    try clear c10
    try clear c10b0
    try clear c12
    try clear c12b0
    try clear c14
    try clear c18
    try clear c18b0
    try clear c18b1
    obtain ⟨kq, x46_3, rfl, HA, HJ3, HB⟩ := hcut
    cases kq with
    | zero => exact absurd HA.out (by simp [exerguelaw02_ClassBlocks.j0])
    | succ kj3 =>
      have H := HA.out
      clear HA
      simp only [exerguelaw02_ClassBlocks.j0] at H
      by_cases c21 : x46_3 = true
      · subst c21
        have H1 : (some false) = some r := by rw [if_pos rfl] at H; exact H
        clear H
        have H := H1
        clear H1
        obtain rfl := Option.some.inj H
        go_wp2
        go_ret
        exact ⟨by first | rfl | (simp [errW_none, errW_some] <;> rfl) | (simp [*, errW_none, errW_some] <;> rfl), by repeat (first | (with_reducible first | exact HB.out | apply below_alloc | apply pw_below_drewN | apply below_drew1) | exact HB.out)⟩
      · replace c21 := Bool.eq_false_iff.mpr c21
        subst c21
        have H1 : ((class_Zero.f kj3 a0).bind fun t164 => (if t164 = true then (exerguelaw02_ClassBlocks.l0 kj3 a0 t159 t160 0) else (if t159 = true then (if t161 = true then (some (decide (t160 > 0))) else (some true)) else (some false)))) = some r := by rw [if_neg (show ¬ (false = true) by decide)] at H; exact H
        clear H
        have H := H1
        clear H1
        replace H := Option.bind_eq_some_iff.mp H
        obtain ⟨t164, A220, H⟩ := H
        replace H : (if t164 = true then (exerguelaw02_ClassBlocks.l0 kj3 a0 t159 t160 0) else (if t159 = true then (if t161 = true then (some (decide (t160 > 0))) else (some true)) else (some false))) = some r := H
        have A22 := Aside0.mk A220
        clear A220
        by_cases c23 : t164 = true
        · subst c23
          have H1 : (exerguelaw02_ClassBlocks.l0 kj3 a0 t159 t160 0) = some r := by rw [if_pos rfl] at H; exact H
          clear H
          have H := H1
          clear H1
          have H' := Aside0.mk H
          clear H
          go_wp2_with (first | ((with_reducible refine gate_callee (f := 14) rfl ?_); refine goesL_ (some 48) rfl rfl Try.func14 (by kernel_rfl) rfl #[.int .i32 a0] rfl (by (try simp only [List.map_toArray, List.map_cons, List.map_nil]); first | done | rfl | (simp only [List.length_drop, List.length_take]; rfl)) ?_; (with_reducible refine (class_Zero.calls kj3 a0 true _ A22.out).mono ?_); rintro e w24 ⟨rfl, hb⟩; refine ⟨_, rfl, ?_⟩; have n0_ := Aside0.mk (below_step (by repeat (first | (with_reducible first | exact HB.out | apply below_alloc | apply pw_below_drewN | apply below_drew1) | exact HB.out)) hb); clear HB; have HB := n0_; clear n0_; (try clear hb); (try clear hb2); (try clear hk); (try clear hi)))
          go_loopg [6] kj3 (fun kq v6 w' => ∃ (x6_2 : Int), v6 = .int .i64 x6_2 ∧ Aside0 (exerguelaw02_ClassBlocks.l0 kq a0 t159 t160 x6_2 = some r) ∧ Aside0 (kq ≤ kj3) ∧ Aside0 (Below w.heap.size w w'))
          case atStart => exact ⟨(0), (by first | rfl | (simp; done) | (simp [*]; done)), H', ⟨Nat.le_refl _⟩, ⟨by repeat (first | (with_reducible first | exact HB.out | apply below_alloc | apply pw_below_drewN | apply below_drew1) | exact HB.out)⟩⟩
          case round =>
            clear H'
            try clear c1
            try clear c2
            try clear p2
            try clear p3
            try clear c5
            try clear c8
            try clear c8b0
            try clear c8b1
            try clear c8b2
            try clear c9
            try clear c10
            try clear c10b0
            try clear c12
            try clear c12b0
            try clear c14
            try clear c18
            try clear c18b0
            try clear c18b1
            try clear c21
            try clear c23
            try clear p2
            try clear p3
            obtain ⟨x6_2, rfl, HA, HK2, HB⟩ := hrel
            cases gk with
            | zero => exact absurd HA.out (by simp [exerguelaw02_ClassBlocks.l0])
            | succ k2 =>
              have H := HA.out
              clear HA
              simp only [exerguelaw02_ClassBlocks.l0] at H
              by_cases c25 : x6_2 < 10
              · rw [if_pos c25] at H
                have c25b0 : decide (x6_2 < 10) = true := decide_eq_true c25
                clear c25
                replace H := Option.bind_eq_some_iff.mp H
                obtain ⟨⟨t165, t166⟩, A260, H⟩ := H
                replace H : (if t166 = true then (if t165 = x6_2 then (exerguelaw02_ClassBlocks.l0 k2 a0 t159 t160 (wrap64 (x6_2 + 1))) else (some false)) else (some false)) = some r := H
                have A26 := Aside0.mk A260
                clear A260
                by_cases c27 : t166 = true
                · subst c27
                  have H1 : (if t165 = x6_2 then (exerguelaw02_ClassBlocks.l0 k2 a0 t159 t160 (wrap64 (x6_2 + 1))) else (some false)) = some r := by rw [if_pos rfl] at H; exact H
                  clear H
                  have H := H1
                  clear H1
                  by_cases c28 : t165 = x6_2
                  · rw [if_pos c28] at H
                    have c28b0 : (t165 == x6_2) = true := beq_iff_eq.mpr c28
                    have c28b1 : (t165 != x6_2) = false := bne_eq_false_iff_eq.mpr c28
                    clear c28
                    have H' := Aside0.mk H
                    clear H
                    go_wp2_with (first | ((with_reducible refine gate_callee (f := 10) rfl ?_); refine goesL_ (some 68) rfl rfl Try.func10 (by kernel_rfl) rfl #[.int .i32 (wrap32 (a0 + (wrap32 (x6_2))))] rfl (by (try simp only [List.map_toArray, List.map_cons, List.map_nil]); first | done | rfl | (simp only [List.length_drop, List.length_take]; rfl)) ?_; (with_reducible refine (class_Value.calls k2 (wrap32 (a0 + (wrap32 (x6_2)))) t165 true _ A26.out).mono ?_); rintro e w29 ⟨rfl, hb⟩; refine ⟨_, rfl, ?_⟩; have n0_ := Aside0.mk (below_step (by repeat (first | (with_reducible first | exact HB.out | apply below_alloc | apply pw_below_drewN | apply below_drew1) | exact HB.out)) hb); clear HB; have HB := n0_; clear n0_; (try clear hb); (try clear hb2); (try clear hk); (try clear hi)))
                    go_roundg k2
                    case measure => have := HJ3.out; have := HK2.out; omega
                    case rel => exact ⟨(wrap64 (x6_2 + 1)), (by first | rfl | (simp; done) | (simp [*]; done)), H', ⟨by have := HJ3.out; have := HK2.out; omega⟩, ⟨by repeat (first | (with_reducible first | exact HB.out | apply below_alloc | apply pw_below_drewN | apply below_drew1) | exact HB.out)⟩⟩
                  · rw [if_neg c28] at H
                    have c28b0 : (t165 == x6_2) = false := beq_eq_false_iff_ne.mpr c28
                    have c28b1 : (t165 != x6_2) = true := bne_iff_ne.mpr c28
                    obtain rfl := Option.some.inj H
                    go_wp2_with (first | ((with_reducible refine gate_callee (f := 10) rfl ?_); refine goesL_ (some 68) rfl rfl Try.func10 (by kernel_rfl) rfl #[.int .i32 (wrap32 (a0 + (wrap32 (x6_2))))] rfl (by (try simp only [List.map_toArray, List.map_cons, List.map_nil]); first | done | rfl | (simp only [List.length_drop, List.length_take]; rfl)) ?_; (with_reducible refine (class_Value.calls k2 (wrap32 (a0 + (wrap32 (x6_2)))) t165 true _ A26.out).mono ?_); rintro e w30 ⟨rfl, hb⟩; refine ⟨_, rfl, ?_⟩; have n0_ := Aside0.mk (below_step (by repeat (first | (with_reducible first | exact HB.out | apply below_alloc | apply pw_below_drewN | apply below_drew1) | exact HB.out)) hb); clear HB; have HB := n0_; clear n0_; (try clear hb); (try clear hb2); (try clear hk); (try clear hi)))
                    go_ret
                    exact ⟨by first | rfl | (simp [errW_none, errW_some] <;> rfl) | (simp [*, errW_none, errW_some] <;> rfl), by repeat (first | (with_reducible first | exact HB.out | apply below_alloc | apply pw_below_drewN | apply below_drew1) | exact HB.out)⟩
                · replace c27 := Bool.eq_false_iff.mpr c27
                  subst c27
                  have H1 : (some false) = some r := by rw [if_neg (show ¬ (false = true) by decide)] at H; exact H
                  clear H
                  have H := H1
                  clear H1
                  obtain rfl := Option.some.inj H
                  go_wp2_with (first | ((with_reducible refine gate_callee (f := 10) rfl ?_); refine goesL_ (some 68) rfl rfl Try.func10 (by kernel_rfl) rfl #[.int .i32 (wrap32 (a0 + (wrap32 (x6_2))))] rfl (by (try simp only [List.map_toArray, List.map_cons, List.map_nil]); first | done | rfl | (simp only [List.length_drop, List.length_take]; rfl)) ?_; (with_reducible refine (class_Value.calls k2 (wrap32 (a0 + (wrap32 (x6_2)))) t165 false _ A26.out).mono ?_); rintro e w31 ⟨rfl, hb⟩; refine ⟨_, rfl, ?_⟩; have n0_ := Aside0.mk (below_step (by repeat (first | (with_reducible first | exact HB.out | apply below_alloc | apply pw_below_drewN | apply below_drew1) | exact HB.out)) hb); clear HB; have HB := n0_; clear n0_; (try clear hb); (try clear hb2); (try clear hk); (try clear hi)))
                  go_ret
                  exact ⟨by first | rfl | (simp [errW_none, errW_some] <;> rfl) | (simp [*, errW_none, errW_some] <;> rfl), by repeat (first | (with_reducible first | exact HB.out | apply below_alloc | apply pw_below_drewN | apply below_drew1) | exact HB.out)⟩
              · rw [if_neg c25] at H
                have c25b0 : decide (x6_2 < 10) = false := decide_eq_false c25
                clear c25
                by_cases c32 : t159 = true
                · subst c32
                  have H1 : (some (t160 == 0)) = some r := by rw [if_pos rfl] at H; exact H
                  clear H
                  have H := H1
                  clear H1
                  obtain rfl := Option.some.inj H
                  go_wp2
                  go_ret
                  exact ⟨by first | rfl | (simp [errW_none, errW_some] <;> rfl) | (simp [*, errW_none, errW_some] <;> rfl), by repeat (first | (with_reducible first | exact HB.out | apply below_alloc | apply pw_below_drewN | apply below_drew1) | exact HB.out)⟩
                · replace c32 := Bool.eq_false_iff.mpr c32
                  subst c32
                  have H1 : (some false) = some r := by rw [if_neg (show ¬ (false = true) by decide)] at H; exact H
                  clear H
                  have H := H1
                  clear H1
                  obtain rfl := Option.some.inj H
                  go_wp2
                  go_ret
                  exact ⟨by first | rfl | (simp [errW_none, errW_some] <;> rfl) | (simp [*, errW_none, errW_some] <;> rfl), by repeat (first | (with_reducible first | exact HB.out | apply below_alloc | apply pw_below_drewN | apply below_drew1) | exact HB.out)⟩
        · replace c23 := Bool.eq_false_iff.mpr c23
          subst c23
          have H1 : (if t159 = true then (if t161 = true then (some (decide (t160 > 0))) else (some true)) else (some false)) = some r := by rw [if_neg (show ¬ (false = true) by decide)] at H; exact H
          clear H
          have H := H1
          clear H1
          by_cases c33 : t159 = true
          · subst c33
            have H1 : (if t161 = true then (some (decide (t160 > 0))) else (some true)) = some r := by rw [if_pos rfl] at H; exact H
            clear H
            have H := H1
            clear H1
            by_cases c34 : t161 = true
            · subst c34
              have H1 : (some (decide (t160 > 0))) = some r := by rw [if_pos rfl] at H; exact H
              clear H
              have H := H1
              clear H1
              obtain rfl := Option.some.inj H
              go_wp2_with (first | ((with_reducible refine gate_callee (f := 14) rfl ?_); refine goesL_ (some 48) rfl rfl Try.func14 (by kernel_rfl) rfl #[.int .i32 a0] rfl (by (try simp only [List.map_toArray, List.map_cons, List.map_nil]); first | done | rfl | (simp only [List.length_drop, List.length_take]; rfl)) ?_; (with_reducible refine (class_Zero.calls kj3 a0 false _ A22.out).mono ?_); rintro e w35 ⟨rfl, hb⟩; refine ⟨_, rfl, ?_⟩; have n0_ := Aside0.mk (below_step (by repeat (first | (with_reducible first | exact HB.out | apply below_alloc | apply pw_below_drewN | apply below_drew1) | exact HB.out)) hb); clear HB; have HB := n0_; clear n0_; (try clear hb); (try clear hb2); (try clear hk); (try clear hi)))
              go_ret
              exact ⟨by first | rfl | (simp [errW_none, errW_some] <;> rfl) | (simp [*, errW_none, errW_some] <;> rfl), by repeat (first | (with_reducible first | exact HB.out | apply below_alloc | apply pw_below_drewN | apply below_drew1) | exact HB.out)⟩
            · replace c34 := Bool.eq_false_iff.mpr c34
              subst c34
              have H1 : (some true) = some r := by rw [if_neg (show ¬ (false = true) by decide)] at H; exact H
              clear H
              have H := H1
              clear H1
              obtain rfl := Option.some.inj H
              go_wp2_with (first | ((with_reducible refine gate_callee (f := 14) rfl ?_); refine goesL_ (some 48) rfl rfl Try.func14 (by kernel_rfl) rfl #[.int .i32 a0] rfl (by (try simp only [List.map_toArray, List.map_cons, List.map_nil]); first | done | rfl | (simp only [List.length_drop, List.length_take]; rfl)) ?_; (with_reducible refine (class_Zero.calls kj3 a0 false _ A22.out).mono ?_); rintro e w36 ⟨rfl, hb⟩; refine ⟨_, rfl, ?_⟩; have n0_ := Aside0.mk (below_step (by repeat (first | (with_reducible first | exact HB.out | apply below_alloc | apply pw_below_drewN | apply below_drew1) | exact HB.out)) hb); clear HB; have HB := n0_; clear n0_; (try clear hb); (try clear hb2); (try clear hk); (try clear hi)))
              go_ret
              exact ⟨by first | rfl | (simp [errW_none, errW_some] <;> rfl) | (simp [*, errW_none, errW_some] <;> rfl), by repeat (first | (with_reducible first | exact HB.out | apply below_alloc | apply pw_below_drewN | apply below_drew1) | exact HB.out)⟩
          · replace c33 := Bool.eq_false_iff.mpr c33
            subst c33
            have H1 : (some false) = some r := by rw [if_neg (show ¬ (false = true) by decide)] at H; exact H
            clear H
            have H := H1
            clear H1
            obtain rfl := Option.some.inj H
            go_wp2_with (first | ((with_reducible refine gate_callee (f := 14) rfl ?_); refine goesL_ (some 48) rfl rfl Try.func14 (by kernel_rfl) rfl #[.int .i32 a0] rfl (by (try simp only [List.map_toArray, List.map_cons, List.map_nil]); first | done | rfl | (simp only [List.length_drop, List.length_take]; rfl)) ?_; (with_reducible refine (class_Zero.calls kj3 a0 false _ A22.out).mono ?_); rintro e w37 ⟨rfl, hb⟩; refine ⟨_, rfl, ?_⟩; have n0_ := Aside0.mk (below_step (by repeat (first | (with_reducible first | exact HB.out | apply below_alloc | apply pw_below_drewN | apply below_drew1) | exact HB.out)) hb); clear HB; have HB := n0_; clear n0_; (try clear hb); (try clear hb2); (try clear hk); (try clear hi)))
            go_ret
            exact ⟨by first | rfl | (simp [errW_none, errW_some] <;> rfl) | (simp [*, errW_none, errW_some] <;> rfl), by repeat (first | (with_reducible first | exact HB.out | apply below_alloc | apply pw_below_drewN | apply below_drew1) | exact HB.out)⟩

/-- THE ONE PURE STATEMENT of exerguelaw02_ClassBlocks: yours. -/
def exerguelaw02_ClassBlocks.Pure : Prop := ∀ (a0 : Int), (Lit.int .i32 a0).wf = true → ∃ k, exerguelaw02_ClassBlocks.f k a0 = some true
theorem exerguelaw02_ClassBlocks.walk (P : exerguelaw02_ClassBlocks.Pure) (a0 : Int) (w : World) (w0 : (Lit.int .i32 a0).wf = true) :
    Calls Try.prog 5 #[.int .i32 a0] w fun e w' => e = .returned (.bool true) ∧ Below w.heap.size w w' := by
  obtain ⟨k, h⟩ := P a0 w0
  refine (exerguelaw02_ClassBlocks.calls k a0 true w h).mono ?_
  rintro e w' ⟨rfl, hd⟩
  exact ⟨rfl, hd⟩

end Go.Proofs.Ytgdefjcjikcofaa.Q
