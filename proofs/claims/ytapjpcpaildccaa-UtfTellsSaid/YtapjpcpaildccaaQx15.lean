/- Functions of the translation as plain Lean functions, each with a proof that the Go code comes to its answers, wherever the function has one; no other condition. Written by this session's own program (wip/myprint.py). -/
import Derived.Test.YtapjpcpaildccaaQx0
import Derived.Test.YtapjpcpaildccaaQx1
import Derived.Test.YtapjpcpaildccaaQx2
import Derived.Test.YtapjpcpaildccaaQx4
import Derived.Test.YtapjpcpaildccaaQx11
import Derived.Test.YtapjpcpaildccaaQx12
import Derived.Test.YtapjpcpaildccaaQx13
import Derived.Test.YtapjpcpaildccaaQx14
namespace Go.Proofs.Ytapjpcpaildccaa.Q
open Go.RowKit Go.Proofs.YtapjpcpaildccaaW.PrintWords Go.Proofs.YtapjpcpaildccaaW.PrintLast Go.Proofs.YtapjpcpaildccaaW.PrintMore
attribute [local go_sem] max2_int min2_int max_two min_two max_three min_three max_four min_four   -- for this text's walks alone
set_option linter.unusedVariables false
set_option linter.unusedSimpArgs false

/-! ### exerguelaw01_UtfTells: function 3 -/
def exerguelaw01_UtfTells.f (k : Nat) (a0 : Int) (l1 : List Int) (l2 : List Int) : Option (Bool) := (exerguelaw01_shown.f k).bind fun t159 => (if (wrap64 ((l1.length : Int) + (l2.length : Int))) > 1000 then (some t159) else (if t159 = true then ((utf_Is.f a0).bind fun t160 => ((exergueref01_Is.f a0).bind fun t161 => (if (t160 == t161) = true then ((utf_Size.f a0).bind fun t162 => ((exergueref01_Size.f a0).bind fun t163 => (if t162 = t163 then ((utf_Same.f k l1 l2).bind fun t164 => ((exergueref01_Same.f k l1 l2).bind fun t165 => (some (t164 == t165)))) else (some false)))) else (some false)))) else (some false)))
theorem exerguelaw01_UtfTells.mono : ∀ a0 a1 a2 k, LeO (exerguelaw01_UtfTells.f k a0 a1 a2) (exerguelaw01_UtfTells.f (k + 1) a0 a1 a2) := by
  intro a0 a1 a2 k
  unfold exerguelaw01_UtfTells.f
  repeat' first
      | (with_reducible exact exerguelaw01_shown.mono _)
      | (with_reducible exact exergueref01_Same.mono _ _ _)
      | (with_reducible exact utf_Same.mono _ _ _)
      | (with_reducible exact LeO.refl _)
      | (with_reducible exact LeO.none _)
      | (with_reducible refine LeO.ite ?_ ?_)
      | (with_reducible refine LeO.bind ?_ (fun _ => ?_))
      | exact exerguelaw01_shown.mono _
      | exact exergueref01_Same.mono _ _ _
      | exact utf_Same.mono _ _ _
      | exact LeO.none _
      | refine LeO.ite ?_ ?_
      | refine LeO.bind ?_ (fun _ => ?_)
set_option maxHeartbeats 8000000 in
set_option maxRecDepth 100000 in
theorem exerguelaw01_UtfTells.calls (k : Nat) (a0 : Int) (A1 : Option Addr) (c1 : Nat) (l1 : List Int) (A2 : Option Addr) (c2 : Nat) (l2 : List Int) (r : Bool) (w : World) (hr1 : Kd.C (Kd.int .i32) w A1 l1.length l1) (hc1 : l1.length ≤ c1) (hr2 : Kd.C (Kd.int .i32) w A2 l2.length l2) (hc2 : l2.length ≤ c2) (h : exerguelaw01_UtfTells.f k a0 l1 l2 = some r) :
    Calls Try.prog 3 #[.int .i32 a0, .slice A1 l1.length c1, .slice A2 l2.length c2] w fun e w' => e = .returned (.bool r) ∧ Below w.heap.size w w' := by
  have HR1 := Aside0.mk hr1
  have HC1 := Aside0.mk hc1
  clear hr1 hc1
  have HR2 := Aside0.mk hr2
  have HC2 := Aside0.mk hc2
  clear hr2 hc2
  have HB := Aside0.mk (Below.refl w.heap.size w)
  have H : ((exerguelaw01_shown.f k).bind fun t159 => (if (wrap64 ((l1.length : Int) + (l2.length : Int))) > 1000 then (some t159) else (if t159 = true then ((utf_Is.f a0).bind fun t160 => ((exergueref01_Is.f a0).bind fun t161 => (if (t160 == t161) = true then ((utf_Size.f a0).bind fun t162 => ((exergueref01_Size.f a0).bind fun t163 => (if t162 = t163 then ((utf_Same.f k l1 l2).bind fun t164 => ((exergueref01_Same.f k l1 l2).bind fun t165 => (some (t164 == t165)))) else (some false)))) else (some false)))) else (some false)))) = some r := h
  clear h
  replace H := Option.bind_eq_some_iff.mp H
  obtain ⟨t159, A40, H⟩ := H
  replace H : (if (wrap64 ((l1.length : Int) + (l2.length : Int))) > 1000 then (some t159) else (if t159 = true then ((utf_Is.f a0).bind fun t160 => ((exergueref01_Is.f a0).bind fun t161 => (if (t160 == t161) = true then ((utf_Size.f a0).bind fun t162 => ((exergueref01_Size.f a0).bind fun t163 => (if t162 = t163 then ((utf_Same.f k l1 l2).bind fun t164 => ((exergueref01_Same.f k l1 l2).bind fun t165 => (some (t164 == t165)))) else (some false)))) else (some false)))) else (some false))) = some r := H
  have A4 := Aside0.mk A40
  clear A40
  by_cases c5 : (wrap64 ((l1.length : Int) + (l2.length : Int))) > 1000
  · rw [if_pos c5] at H
    have c5b0 : decide (1000 < (wrap64 ((l1.length : Int) + (l2.length : Int)))) = true := decide_eq_true c5
    clear c5
    obtain rfl := Option.some.inj H
    go_enter Try.func3, Try.ntmps3
    go_wp2_with (first | ((with_reducible refine gate_callee (f := 10) rfl ?_); refine goesL_ (some 8) rfl rfl Try.func10 (by kernel_rfl) rfl #[] rfl (by (try simp only [List.map_toArray, List.map_cons, List.map_nil]); first | done | rfl | (simp only [List.length_drop, List.length_take]; rfl)) ?_; (with_reducible refine (exerguelaw01_shown.calls k  t159 _ A4.out).mono ?_); rintro e w6 ⟨rfl, hb⟩; refine ⟨_, rfl, ?_⟩; have n0_ := Aside0.mk (below_step (by repeat (first | (with_reducible first | exact HB.out | apply below_alloc | apply pw_below_drewN | apply below_drew1) | exact HB.out)) hb); clear HB; have HB := n0_; clear n0_; (try clear hb); (try clear hb2); (try clear hk); (try clear hi)))
    go_ret
    exact ⟨by first | rfl | (simp [errW_none, errW_some] <;> rfl) | (simp [*, errW_none, errW_some] <;> rfl), by repeat (first | (with_reducible first | exact HB.out | apply below_alloc | apply pw_below_drewN | apply below_drew1) | exact HB.out)⟩
  · rw [if_neg c5] at H
    have c5b0 : decide (1000 < (wrap64 ((l1.length : Int) + (l2.length : Int)))) = false := decide_eq_false c5
    clear c5
    by_cases c7 : t159 = true
    · subst c7
      have H1 : ((utf_Is.f a0).bind fun t160 => ((exergueref01_Is.f a0).bind fun t161 => (if (t160 == t161) = true then ((utf_Size.f a0).bind fun t162 => ((exergueref01_Size.f a0).bind fun t163 => (if t162 = t163 then ((utf_Same.f k l1 l2).bind fun t164 => ((exergueref01_Same.f k l1 l2).bind fun t165 => (some (t164 == t165)))) else (some false)))) else (some false)))) = some r := by rw [if_pos rfl] at H; exact H
      clear H
      have H := H1
      clear H1
      replace H := Option.bind_eq_some_iff.mp H
      obtain ⟨t160, A80, H⟩ := H
      replace H : ((exergueref01_Is.f a0).bind fun t161 => (if (t160 == t161) = true then ((utf_Size.f a0).bind fun t162 => ((exergueref01_Size.f a0).bind fun t163 => (if t162 = t163 then ((utf_Same.f k l1 l2).bind fun t164 => ((exergueref01_Same.f k l1 l2).bind fun t165 => (some (t164 == t165)))) else (some false)))) else (some false))) = some r := H
      have A8 := Aside0.mk A80
      clear A80
      replace H := Option.bind_eq_some_iff.mp H
      obtain ⟨t161, A90, H⟩ := H
      replace H : (if (t160 == t161) = true then ((utf_Size.f a0).bind fun t162 => ((exergueref01_Size.f a0).bind fun t163 => (if t162 = t163 then ((utf_Same.f k l1 l2).bind fun t164 => ((exergueref01_Same.f k l1 l2).bind fun t165 => (some (t164 == t165)))) else (some false)))) else (some false)) = some r := H
      have A9 := Aside0.mk A90
      clear A90
      by_cases c10 : (t160 == t161) = true
      · rw [if_pos c10] at H
        have c10b0 : (t160 == t161) = true := c10
        (try (have c10b1 : decide (t160 = t161) = true := by simpa using c10))
        (try (have c10b2 : (t160 == t161) = true := by simpa using c10))
        clear c10
        replace H := Option.bind_eq_some_iff.mp H
        obtain ⟨t162, A110, H⟩ := H
        replace H : ((exergueref01_Size.f a0).bind fun t163 => (if t162 = t163 then ((utf_Same.f k l1 l2).bind fun t164 => ((exergueref01_Same.f k l1 l2).bind fun t165 => (some (t164 == t165)))) else (some false))) = some r := H
        have A11 := Aside0.mk A110
        clear A110
        replace H := Option.bind_eq_some_iff.mp H
        obtain ⟨t163, A120, H⟩ := H
        replace H : (if t162 = t163 then ((utf_Same.f k l1 l2).bind fun t164 => ((exergueref01_Same.f k l1 l2).bind fun t165 => (some (t164 == t165)))) else (some false)) = some r := H
        have A12 := Aside0.mk A120
        clear A120
        by_cases c13 : t162 = t163
        · rw [if_pos c13] at H
          have c13b0 : (t162 == t163) = true := beq_iff_eq.mpr c13
          have c13b1 : (t162 != t163) = false := bne_eq_false_iff_eq.mpr c13
          clear c13
          replace H := Option.bind_eq_some_iff.mp H
          obtain ⟨t164, A140, H⟩ := H
          replace H : ((exergueref01_Same.f k l1 l2).bind fun t165 => (some (t164 == t165))) = some r := H
          have A14 := Aside0.mk A140
          clear A140
          replace H := Option.bind_eq_some_iff.mp H
          obtain ⟨t165, A150, H⟩ := H
          replace H : (some (t164 == t165)) = some r := H
          have A15 := Aside0.mk A150
          clear A150
          obtain rfl := Option.some.inj H
          go_enter Try.func3, Try.ntmps3
          go_wp2_with (first | ((with_reducible refine gate_callee (f := 10) rfl ?_); refine goesL_ (some 8) rfl rfl Try.func10 (by kernel_rfl) rfl #[] rfl (by (try simp only [List.map_toArray, List.map_cons, List.map_nil]); first | done | rfl | (simp only [List.length_drop, List.length_take]; rfl)) ?_; (with_reducible refine (exerguelaw01_shown.calls k  true _ A4.out).mono ?_); rintro e w16 ⟨rfl, hb⟩; refine ⟨_, rfl, ?_⟩; have n0_ := Aside0.mk (below_step (by repeat (first | (with_reducible first | exact HB.out | apply below_alloc | apply pw_below_drewN | apply below_drew1) | exact HB.out)) hb); clear HB; have HB := n0_; clear n0_; (try clear hb); (try clear hb2); (try clear hk); (try clear hi)) | (go_at_call 11; (with_reducible refine (utf_Is.calls a0 t160 _ A8.out).mono ?_); rintro e w' ⟨rfl, ⟨nd, rfl⟩⟩) | (go_at_call 12; (with_reducible refine (exergueref01_Is.calls a0 t161 _ A9.out).mono ?_); rintro e w' ⟨rfl, ⟨nd, rfl⟩⟩) | (go_at_call 13; (with_reducible refine (utf_Size.calls a0 t162 _ A11.out).mono ?_); rintro e w' ⟨rfl, ⟨nd, rfl⟩⟩) | (go_at_call 14; (with_reducible refine (exergueref01_Size.calls a0 t163 _ A12.out).mono ?_); rintro e w' ⟨rfl, ⟨nd, rfl⟩⟩) | (go_at_call 15; (with_reducible refine (utf_Same.calls k _ _ l1 _ _ l2 t164 _ ?side1 ?side2 ?side3 ?side4 A14.out).mono ?_); (case side1 => repeat (first | exact (Kd.C_below HR1.out (by repeat (first | (with_reducible first | exact HB.out | apply below_alloc | apply pw_below_drewN | apply below_drew1) | exact HB.out))) | (with_reducible refine Kd.C_alloc ?_ _) | (with_reducible refine Kd.C_drewN ?_ _) | (with_reducible refine Kd.C_drew ?_))); (case side2 => exact HC1.out); (case side3 => repeat (first | exact (Kd.C_below HR2.out (by repeat (first | (with_reducible first | exact HB.out | apply below_alloc | apply pw_below_drewN | apply below_drew1) | exact HB.out))) | (with_reducible refine Kd.C_alloc ?_ _) | (with_reducible refine Kd.C_drewN ?_ _) | (with_reducible refine Kd.C_drew ?_))); (case side4 => exact HC2.out); rintro e w' ⟨rfl, ⟨nd, rfl⟩⟩) | (go_at_call 16; (with_reducible refine (exergueref01_Same.calls k _ _ l1 _ _ l2 t165 _ ?side1 ?side2 ?side3 ?side4 A15.out).mono ?_); (case side1 => repeat (first | exact (Kd.C_below HR1.out (by repeat (first | (with_reducible first | exact HB.out | apply below_alloc | apply pw_below_drewN | apply below_drew1) | exact HB.out))) | (with_reducible refine Kd.C_alloc ?_ _) | (with_reducible refine Kd.C_drewN ?_ _) | (with_reducible refine Kd.C_drew ?_))); (case side2 => exact HC1.out); (case side3 => repeat (first | exact (Kd.C_below HR2.out (by repeat (first | (with_reducible first | exact HB.out | apply below_alloc | apply pw_below_drewN | apply below_drew1) | exact HB.out))) | (with_reducible refine Kd.C_alloc ?_ _) | (with_reducible refine Kd.C_drewN ?_ _) | (with_reducible refine Kd.C_drew ?_))); (case side4 => exact HC2.out); rintro e w' ⟨rfl, ⟨nd, rfl⟩⟩))
          go_ret
          exact ⟨by first | rfl | (simp [errW_none, errW_some] <;> rfl) | (simp [*, errW_none, errW_some] <;> rfl), by repeat (first | (with_reducible first | exact HB.out | apply below_alloc | apply pw_below_drewN | apply below_drew1) | exact HB.out)⟩
        · rw [if_neg c13] at H
          have c13b0 : (t162 == t163) = false := beq_eq_false_iff_ne.mpr c13
          have c13b1 : (t162 != t163) = true := bne_iff_ne.mpr c13
          obtain rfl := Option.some.inj H
          go_enter Try.func3, Try.ntmps3
          go_wp2_with (first | ((with_reducible refine gate_callee (f := 10) rfl ?_); refine goesL_ (some 8) rfl rfl Try.func10 (by kernel_rfl) rfl #[] rfl (by (try simp only [List.map_toArray, List.map_cons, List.map_nil]); first | done | rfl | (simp only [List.length_drop, List.length_take]; rfl)) ?_; (with_reducible refine (exerguelaw01_shown.calls k  true _ A4.out).mono ?_); rintro e w17 ⟨rfl, hb⟩; refine ⟨_, rfl, ?_⟩; have n0_ := Aside0.mk (below_step (by repeat (first | (with_reducible first | exact HB.out | apply below_alloc | apply pw_below_drewN | apply below_drew1) | exact HB.out)) hb); clear HB; have HB := n0_; clear n0_; (try clear hb); (try clear hb2); (try clear hk); (try clear hi)) | (go_at_call 11; (with_reducible refine (utf_Is.calls a0 t160 _ A8.out).mono ?_); rintro e w' ⟨rfl, ⟨nd, rfl⟩⟩) | (go_at_call 12; (with_reducible refine (exergueref01_Is.calls a0 t161 _ A9.out).mono ?_); rintro e w' ⟨rfl, ⟨nd, rfl⟩⟩) | (go_at_call 13; (with_reducible refine (utf_Size.calls a0 t162 _ A11.out).mono ?_); rintro e w' ⟨rfl, ⟨nd, rfl⟩⟩) | (go_at_call 14; (with_reducible refine (exergueref01_Size.calls a0 t163 _ A12.out).mono ?_); rintro e w' ⟨rfl, ⟨nd, rfl⟩⟩))
          go_ret
          exact ⟨by first | rfl | (simp [errW_none, errW_some] <;> rfl) | (simp [*, errW_none, errW_some] <;> rfl), by repeat (first | (with_reducible first | exact HB.out | apply below_alloc | apply pw_below_drewN | apply below_drew1) | exact HB.out)⟩
      · rw [if_neg c10] at H
        have c10b0 : (t160 == t161) = false := by simpa using c10
        (try (have c10b1 : decide (t160 = t161) = false := by simpa using c10))
        (try (have c10b2 : (t160 == t161) = false := by simpa using c10))
        (try (have c10b3 : ¬ (t160 = t161) := by simpa using c10))
        clear c10
        obtain rfl := Option.some.inj H
        go_enter Try.func3, Try.ntmps3
        go_wp2_with (first | ((with_reducible refine gate_callee (f := 10) rfl ?_); refine goesL_ (some 8) rfl rfl Try.func10 (by kernel_rfl) rfl #[] rfl (by (try simp only [List.map_toArray, List.map_cons, List.map_nil]); first | done | rfl | (simp only [List.length_drop, List.length_take]; rfl)) ?_; (with_reducible refine (exerguelaw01_shown.calls k  true _ A4.out).mono ?_); rintro e w18 ⟨rfl, hb⟩; refine ⟨_, rfl, ?_⟩; have n0_ := Aside0.mk (below_step (by repeat (first | (with_reducible first | exact HB.out | apply below_alloc | apply pw_below_drewN | apply below_drew1) | exact HB.out)) hb); clear HB; have HB := n0_; clear n0_; (try clear hb); (try clear hb2); (try clear hk); (try clear hi)) | (go_at_call 11; (with_reducible refine (utf_Is.calls a0 t160 _ A8.out).mono ?_); rintro e w' ⟨rfl, ⟨nd, rfl⟩⟩) | (go_at_call 12; (with_reducible refine (exergueref01_Is.calls a0 t161 _ A9.out).mono ?_); rintro e w' ⟨rfl, ⟨nd, rfl⟩⟩))
        go_ret
        exact ⟨by first | rfl | (simp [errW_none, errW_some] <;> rfl) | (simp [*, errW_none, errW_some] <;> rfl), by repeat (first | (with_reducible first | exact HB.out | apply below_alloc | apply pw_below_drewN | apply below_drew1) | exact HB.out)⟩
    · replace c7 := Bool.eq_false_iff.mpr c7
      subst c7
      have H1 : (some false) = some r := by rw [if_neg (show ¬ (false = true) by decide)] at H; exact H
      clear H
      have H := H1
      clear H1
      obtain rfl := Option.some.inj H
      go_enter Try.func3, Try.ntmps3
      go_wp2_with (first | ((with_reducible refine gate_callee (f := 10) rfl ?_); refine goesL_ (some 8) rfl rfl Try.func10 (by kernel_rfl) rfl #[] rfl (by (try simp only [List.map_toArray, List.map_cons, List.map_nil]); first | done | rfl | (simp only [List.length_drop, List.length_take]; rfl)) ?_; (with_reducible refine (exerguelaw01_shown.calls k  false _ A4.out).mono ?_); rintro e w19 ⟨rfl, hb⟩; refine ⟨_, rfl, ?_⟩; have n0_ := Aside0.mk (below_step (by repeat (first | (with_reducible first | exact HB.out | apply below_alloc | apply pw_below_drewN | apply below_drew1) | exact HB.out)) hb); clear HB; have HB := n0_; clear n0_; (try clear hb); (try clear hb2); (try clear hk); (try clear hi)))
      go_ret
      exact ⟨by first | rfl | (simp [errW_none, errW_some] <;> rfl) | (simp [*, errW_none, errW_some] <;> rfl), by repeat (first | (with_reducible first | exact HB.out | apply below_alloc | apply pw_below_drewN | apply below_drew1) | exact HB.out)⟩

/-- THE ONE PURE STATEMENT of exerguelaw01_UtfTells: yours. -/
def exerguelaw01_UtfTells.Pure : Prop := ∀ (a0 : Int) (l1 : List Int) (l2 : List Int), (Lit.int .i32 a0).wf = true → l1.length ≤ maxLen → l1.length * 4 ≤ 140737488351232 → (∀ x ∈ l1, (Lit.int .i32 x).wf = true) → l2.length ≤ maxLen → l2.length * 4 ≤ 140737488351232 → (∀ x ∈ l2, (Lit.int .i32 x).wf = true) → ∃ k, exerguelaw01_UtfTells.f k a0 l1 l2 = some true
theorem exerguelaw01_UtfTells.walk (P : exerguelaw01_UtfTells.Pure) (a0 : Int) (a1 : Option Addr) (len1 cap1 : Nat) (z1 : List Int) (a2 : Option Addr) (len2 cap2 : Nat) (z2 : List Int) (w : World) (w0 : (Lit.int .i32 a0).wf = true) (w1 : (a1 = none ∧ len1 = 0 ∧ cap1 = 0 ∧ z1 = []) ∨ ∃ x, a1 = some x ∧ len1 ≤ cap1 ∧ cap1 ≤ maxLen ∧ z1.length = cap1 ∧ (∀ i, i < z1.length → w.cell? (x.add i) = some (.int .i32 (z1.getD i 0))) ∧ ∀ n ∈ z1, (Lit.int .i32 n).wf = true) (y1 : len1 * 4 ≤ 140737488351232) (w2 : (a2 = none ∧ len2 = 0 ∧ cap2 = 0 ∧ z2 = []) ∨ ∃ x, a2 = some x ∧ len2 ≤ cap2 ∧ cap2 ≤ maxLen ∧ z2.length = cap2 ∧ (∀ i, i < z2.length → w.cell? (x.add i) = some (.int .i32 (z2.getD i 0))) ∧ ∀ n ∈ z2, (Lit.int .i32 n).wf = true) (y2 : len2 * 4 ≤ 140737488351232) :
    Calls Try.prog 3 #[.int .i32 a0, .slice a1 len1 cap1, .slice a2 len2 cap2] w fun e w' => e = .returned (.bool true) ∧ Below w.heap.size w w' := by
  obtain ⟨l1, rfl, hr1, hm1, hw1, hc1⟩ := ReadsInt.ofRowC w1
  obtain ⟨l2, rfl, hr2, hm2, hw2, hc2⟩ := ReadsInt.ofRowC w2
  obtain ⟨k, h⟩ := P a0 l1 l2 w0 hm1 y1 hw1 hm2 y2 hw2
  refine (exerguelaw01_UtfTells.calls k a0 _ _ l1 _ _ l2 true w (Kd.C_of_reads (d := (0 : Int)) (h1 := fun _ => rfl) hr1) hc1 (Kd.C_of_reads (d := (0 : Int)) (h1 := fun _ => rfl) hr2) hc2 h).mono ?_
  rintro e w' ⟨rfl, hd⟩
  exact ⟨rfl, hd⟩

end Go.Proofs.Ytapjpcpaildccaa.Q
