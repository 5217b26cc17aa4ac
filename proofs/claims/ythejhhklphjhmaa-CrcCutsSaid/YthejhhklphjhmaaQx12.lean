/- Functions of the translation as plain Lean functions, each with a proof that the Go code comes to its answers, wherever the function has one; no other condition. Written by this session's own program (wip/myprint.py). -/
import Derived.Test.YthejhhklphjhmaaQx0
import Derived.Test.YthejhhklphjhmaaQx11
namespace Go.Proofs.Ythejhhklphjhmaa.Q
open Go.RowKit Go.Proofs.Ythejhhklphjhmaa.Mine Go.Proofs.YthejhhklphjhmaaW.PrintWords Go.Proofs.YthejhhklphjhmaaW.PrintLast Go.Proofs.YthejhhklphjhmaaW.PrintMore
attribute [local go_sem] max2_int min2_int max_two min_two max_three min_three max_four min_four   -- for this text's walks alone
set_option linter.unusedVariables false
set_option linter.unusedSimpArgs false

/-! ### exergueref08_Cut: function 12 -/
def exergueref08_Cut.f (k : Nat) (l0 : List Int) : Option (List Int × Int) := if (wrap64 ((l0.length : Int) - 4)) < 0 then (some (([] : List Int), 2)) else (if 0 ≤ (wrap64 ((l0.length : Int) - 4)) then (if (wrap64 ((l0.length : Int) - 4)) < (l0.length : Int) then (if 0 ≤ (wrap64 ((wrap64 ((l0.length : Int) - 4)) + 1)) then (if (wrap64 ((wrap64 ((l0.length : Int) - 4)) + 1)) < (l0.length : Int) then (if 0 ≤ (wrap64 ((wrap64 ((l0.length : Int) - 4)) + 2)) then (if (wrap64 ((wrap64 ((l0.length : Int) - 4)) + 2)) < (l0.length : Int) then (if 0 ≤ (wrap64 ((wrap64 ((l0.length : Int) - 4)) + 3)) then (if (wrap64 ((wrap64 ((l0.length : Int) - 4)) + 3)) < (l0.length : Int) then (if (wrap64 ((l0.length : Int) - 4)) ≤ (l0.length : Int) then ((exergueref08_Of.f k (l0.take ((wrap64 ((l0.length : Int) - 4)) : Int).toNat)).bind fun t114 => (if ((((((((rd l0 (wrap64 ((l0.length : Int) - 4))) % 4294967296) + ((((rd l0 (wrap64 ((wrap64 ((l0.length : Int) - 4)) + 1))) % 4294967296) * 256) % 4294967296)) % 4294967296) + ((((rd l0 (wrap64 ((wrap64 ((l0.length : Int) - 4)) + 2))) % 4294967296) * 65536) % 4294967296)) % 4294967296) + ((((rd l0 (wrap64 ((wrap64 ((l0.length : Int) - 4)) + 3))) % 4294967296) * 16777216) % 4294967296)) % 4294967296) = t114 then (some ((l0.take ((wrap64 ((l0.length : Int) - 4)) : Int).toNat), 0)) else (some (([] : List Int), 6)))) else (none)) else (none)) else (none)) else (none)) else (none)) else (none)) else (none)) else (none)) else (none))
theorem exergueref08_Cut.mono : ∀ a0 k, LeO (exergueref08_Cut.f k a0) (exergueref08_Cut.f (k + 1) a0) := by
  intro a0 k
  unfold exergueref08_Cut.f
  repeat' first
      | (with_reducible exact exergueref08_Of.mono _ _)
      | (with_reducible exact LeO.refl _)
      | (with_reducible exact LeO.none _)
      | (with_reducible refine LeO.ite ?_ ?_)
      | (with_reducible refine LeO.bind ?_ (fun _ => ?_))
      | exact exergueref08_Of.mono _ _
      | exact LeO.none _
      | refine LeO.ite ?_ ?_
      | refine LeO.bind ?_ (fun _ => ?_)
set_option maxHeartbeats 8000000 in
set_option maxRecDepth 100000 in
theorem exergueref08_Cut.calls (k : Nat) (P0_ : Nat → Prop) (A0 : Option Addr) (c0 : Nat) (l0 : List Int) (r1 : List Int) (r2 : Int) (w : World) (hs0 : Kd.V (Kd.int .u8) 5 w w.heap.size (fun k_ => P0_ k_) (.slice A0 l0.length c0) l0) (h : exergueref08_Cut.f k l0 = some (r1, r2)) :
    Calls Try.prog 12 #[.slice A0 l0.length c0] w fun e w' => ∃ v0_ : Value, e = .returned (.tuple #[v0_, .int .i64 r2]) ∧ Kd.V (Kd.int .u8) 5 w' w.heap.size (fun k_ => (P0_ k_ ∨ w.heap.size ≤ k_)) v0_ r1 ∧ Below w.heap.size w w' := by
  have HO0 := Aside0.mk (show Kd.V (Kd.int .u8) 5 w w.heap.size (fun k_ => (P0_ k_ ∨ w.heap.size ≤ k_)) (.slice A0 l0.length c0) l0 from Kd.V_mono hs0 (fun k_ hk => .inl hk))
  have HB := Aside0.mk (Below.refl w.heap.size w)
  have H : (if (wrap64 ((l0.length : Int) - 4)) < 0 then (some (([] : List Int), 2)) else (if 0 ≤ (wrap64 ((l0.length : Int) - 4)) then (if (wrap64 ((l0.length : Int) - 4)) < (l0.length : Int) then (if 0 ≤ (wrap64 ((wrap64 ((l0.length : Int) - 4)) + 1)) then (if (wrap64 ((wrap64 ((l0.length : Int) - 4)) + 1)) < (l0.length : Int) then (if 0 ≤ (wrap64 ((wrap64 ((l0.length : Int) - 4)) + 2)) then (if (wrap64 ((wrap64 ((l0.length : Int) - 4)) + 2)) < (l0.length : Int) then (if 0 ≤ (wrap64 ((wrap64 ((l0.length : Int) - 4)) + 3)) then (if (wrap64 ((wrap64 ((l0.length : Int) - 4)) + 3)) < (l0.length : Int) then (if (wrap64 ((l0.length : Int) - 4)) ≤ (l0.length : Int) then ((exergueref08_Of.f k (l0.take ((wrap64 ((l0.length : Int) - 4)) : Int).toNat)).bind fun t114 => (if ((((((((rd l0 (wrap64 ((l0.length : Int) - 4))) % 4294967296) + ((((rd l0 (wrap64 ((wrap64 ((l0.length : Int) - 4)) + 1))) % 4294967296) * 256) % 4294967296)) % 4294967296) + ((((rd l0 (wrap64 ((wrap64 ((l0.length : Int) - 4)) + 2))) % 4294967296) * 65536) % 4294967296)) % 4294967296) + ((((rd l0 (wrap64 ((wrap64 ((l0.length : Int) - 4)) + 3))) % 4294967296) * 16777216) % 4294967296)) % 4294967296) = t114 then (some ((l0.take ((wrap64 ((l0.length : Int) - 4)) : Int).toNat), 0)) else (some (([] : List Int), 6)))) else (none)) else (none)) else (none)) else (none)) else (none)) else (none)) else (none)) else (none)) else (none))) = some (r1, r2) := h
  clear h
  by_cases c2 : (wrap64 ((l0.length : Int) - 4)) < 0
  · rw [if_pos c2] at H
    have c2b0 : decide ((wrap64 ((l0.length : Int) - 4)) < 0) = true := decide_eq_true c2
    clear c2
    simp only [Option.some.injEq, Prod.mk.injEq] at H
    obtain ⟨rfl, rfl⟩ := H
    go_enter Try.func12, Try.ntmps12
    go_wp2
    repeat (go_quiet (fail); try go_wp2)
    go_ret2
    exact ⟨_, by first | rfl | (simp [errW_none, errW_some] <;> rfl) | (simp [*, errW_none, errW_some] <;> rfl), Kd.V_mono (Kd.R_V (base := 0) (ok := fun k_ => w.heap.size ≤ k_) (by first | exact Kd.R_nil _ _ _ _ _ | exact Kd.N_nil _ _ _ _ _ | exact Kd.V_nil _ _ _ _ _ | exact Kd.Q_nil _ _ _ _ _ | exact Kd.S_nil _ _ _ _ _)) (fun k_ hk => by first | exact ⟨(.inr (hk.1)), hk.2⟩ | exact (.inr (hk))), by repeat (first | (with_reducible first | exact HB.out | apply below_alloc | apply pw_below_drewN | apply below_drew1) | exact HB.out)⟩
  · rw [if_neg c2] at H
    have c2b0 : decide ((wrap64 ((l0.length : Int) - 4)) < 0) = false := decide_eq_false c2
    clear c2
    obtain ⟨ji3, hji3⟩ : ∃ j_ : Int, (wrap64 ((l0.length : Int) - 4)) = j_ := ⟨_, rfl⟩
    replace H : (if 0 ≤ (ji3) then (if (ji3) < (l0.length : Int) then (if 0 ≤ (wrap64 ((ji3) + 1)) then (if (wrap64 ((ji3) + 1)) < (l0.length : Int) then (if 0 ≤ (wrap64 ((ji3) + 2)) then (if (wrap64 ((ji3) + 2)) < (l0.length : Int) then (if 0 ≤ (wrap64 ((ji3) + 3)) then (if (wrap64 ((ji3) + 3)) < (l0.length : Int) then (if (ji3) ≤ (l0.length : Int) then ((exergueref08_Of.f k (l0.take ((ji3) : Int).toNat)).bind fun t114 => (if ((((((((rd l0 (ji3)) % 4294967296) + ((((rd l0 (wrap64 ((ji3) + 1))) % 4294967296) * 256) % 4294967296)) % 4294967296) + ((((rd l0 (wrap64 ((ji3) + 2))) % 4294967296) * 65536) % 4294967296)) % 4294967296) + ((((rd l0 (wrap64 ((ji3) + 3))) % 4294967296) * 16777216) % 4294967296)) % 4294967296) = t114 then (some ((l0.take ((ji3) : Int).toNat), 0)) else (some (([] : List Int), 6)))) else (none)) else (none)) else (none)) else (none)) else (none)) else (none)) else (none)) else (none)) else (none)) = some (r1, r2) := by first | (rw [hji3] at H; exact H) | (simp only [hji3] at H ⊢; exact H)
    (try rw [hji3] at c2b0)
    have hji3w : (IntKind.i64.wrap ((l0.length : Int) - 4)) = ji3 := (i64_w _).trans hji3
    by_cases c4 : 0 ≤ (ji3)
    · rw [if_pos c4] at H
      have c4b0 : decide (0 ≤ (ji3)) = true := decide_eq_true c4
      clear c4
      by_cases c5 : (ji3) < (l0.length : Int)
      · rw [if_pos c5] at H
        have c5b0 : decide ((ji3) < (l0.length : Int)) = true := decide_eq_true c5
        clear c5
        obtain ⟨ji6, hji6⟩ : ∃ j_ : Int, (wrap64 ((ji3) + 1)) = j_ := ⟨_, rfl⟩
        replace H : (if 0 ≤ (ji6) then (if (ji6) < (l0.length : Int) then (if 0 ≤ (wrap64 ((ji3) + 2)) then (if (wrap64 ((ji3) + 2)) < (l0.length : Int) then (if 0 ≤ (wrap64 ((ji3) + 3)) then (if (wrap64 ((ji3) + 3)) < (l0.length : Int) then (if (ji3) ≤ (l0.length : Int) then ((exergueref08_Of.f k (l0.take ((ji3) : Int).toNat)).bind fun t114 => (if ((((((((rd l0 (ji3)) % 4294967296) + ((((rd l0 (ji6)) % 4294967296) * 256) % 4294967296)) % 4294967296) + ((((rd l0 (wrap64 ((ji3) + 2))) % 4294967296) * 65536) % 4294967296)) % 4294967296) + ((((rd l0 (wrap64 ((ji3) + 3))) % 4294967296) * 16777216) % 4294967296)) % 4294967296) = t114 then (some ((l0.take ((ji3) : Int).toNat), 0)) else (some (([] : List Int), 6)))) else (none)) else (none)) else (none)) else (none)) else (none)) else (none)) else (none)) = some (r1, r2) := by first | (rw [hji6] at H; exact H) | (simp only [hji6] at H ⊢; exact H)
        have hji6w : (IntKind.i64.wrap ((ji3) + 1)) = ji6 := (i64_w _).trans hji6
        by_cases c7 : 0 ≤ (ji6)
        · rw [if_pos c7] at H
          have c7b0 : decide (0 ≤ (ji6)) = true := decide_eq_true c7
          clear c7
          by_cases c8 : (ji6) < (l0.length : Int)
          · rw [if_pos c8] at H
            have c8b0 : decide ((ji6) < (l0.length : Int)) = true := decide_eq_true c8
            clear c8
            obtain ⟨ji9, hji9⟩ : ∃ j_ : Int, (wrap64 ((ji3) + 2)) = j_ := ⟨_, rfl⟩
            replace H : (if 0 ≤ (ji9) then (if (ji9) < (l0.length : Int) then (if 0 ≤ (wrap64 ((ji3) + 3)) then (if (wrap64 ((ji3) + 3)) < (l0.length : Int) then (if (ji3) ≤ (l0.length : Int) then ((exergueref08_Of.f k (l0.take ((ji3) : Int).toNat)).bind fun t114 => (if ((((((((rd l0 (ji3)) % 4294967296) + ((((rd l0 (ji6)) % 4294967296) * 256) % 4294967296)) % 4294967296) + ((((rd l0 (ji9)) % 4294967296) * 65536) % 4294967296)) % 4294967296) + ((((rd l0 (wrap64 ((ji3) + 3))) % 4294967296) * 16777216) % 4294967296)) % 4294967296) = t114 then (some ((l0.take ((ji3) : Int).toNat), 0)) else (some (([] : List Int), 6)))) else (none)) else (none)) else (none)) else (none)) else (none)) = some (r1, r2) := by first | (rw [hji9] at H; exact H) | (simp only [hji9] at H ⊢; exact H)
            have hji9w : (IntKind.i64.wrap ((ji3) + 2)) = ji9 := (i64_w _).trans hji9
            by_cases c10 : 0 ≤ (ji9)
            · rw [if_pos c10] at H
              have c10b0 : decide (0 ≤ (ji9)) = true := decide_eq_true c10
              clear c10
              by_cases c11 : (ji9) < (l0.length : Int)
              · rw [if_pos c11] at H
                have c11b0 : decide ((ji9) < (l0.length : Int)) = true := decide_eq_true c11
                clear c11
                obtain ⟨ji12, hji12⟩ : ∃ j_ : Int, (wrap64 ((ji3) + 3)) = j_ := ⟨_, rfl⟩
                replace H : (if 0 ≤ (ji12) then (if (ji12) < (l0.length : Int) then (if (ji3) ≤ (l0.length : Int) then ((exergueref08_Of.f k (l0.take ((ji3) : Int).toNat)).bind fun t114 => (if ((((((((rd l0 (ji3)) % 4294967296) + ((((rd l0 (ji6)) % 4294967296) * 256) % 4294967296)) % 4294967296) + ((((rd l0 (ji9)) % 4294967296) * 65536) % 4294967296)) % 4294967296) + ((((rd l0 (ji12)) % 4294967296) * 16777216) % 4294967296)) % 4294967296) = t114 then (some ((l0.take ((ji3) : Int).toNat), 0)) else (some (([] : List Int), 6)))) else (none)) else (none)) else (none)) = some (r1, r2) := by first | (rw [hji12] at H; exact H) | (simp only [hji12] at H ⊢; exact H)
                have hji12w : (IntKind.i64.wrap ((ji3) + 3)) = ji12 := (i64_w _).trans hji12
                by_cases c13 : 0 ≤ (ji12)
                · rw [if_pos c13] at H
                  have c13b0 : decide (0 ≤ (ji12)) = true := decide_eq_true c13
                  clear c13
                  by_cases c14 : (ji12) < (l0.length : Int)
                  · rw [if_pos c14] at H
                    have c14b0 : decide ((ji12) < (l0.length : Int)) = true := decide_eq_true c14
                    clear c14
                    have c15b0 := eq_true (of_decide_eq_true (by first | (with_reducible assumption) | assumption) : 0 ≤ (ji3))
                    by_cases c16 : (ji3) ≤ (l0.length : Int)
                    · rw [if_pos c16] at H
                      have c16b0 := eq_true c16
                      have c16b1 : decide ((ji3) ≤ (l0.length : Int)) = true := decide_eq_true c16
                      clear c16
                      obtain ⟨y109, hy109⟩ : ∃ y_ : List Int, y_ = (l0.take ((ji3) : Int).toNat) := ⟨_, rfl⟩
                      replace H : ((exergueref08_Of.f k y109).bind fun t114 => (if ((((((((rd l0 (ji3)) % 4294967296) + ((((rd l0 (ji6)) % 4294967296) * 256) % 4294967296)) % 4294967296) + ((((rd l0 (ji9)) % 4294967296) * 65536) % 4294967296)) % 4294967296) + ((((rd l0 (ji12)) % 4294967296) * 16777216) % 4294967296)) % 4294967296) = t114 then (some ((l0.take ((ji3) : Int).toNat), 0)) else (some (([] : List Int), 6)))) = some (r1, r2) := by first | (rw [hy109]; with_reducible exact H) | (have H2_ := (Option.bind_some _ _).symm.trans H; rw [hy109]; with_reducible exact H2_) | (have H2_ := (Option.bind_some _ _).symm.trans H; with_reducible exact H2_) | with_reducible exact H | (rw [hy109]; exact H) | exact H
                      have Ny109 := Aside0.mk hy109
                      clear hy109
                      replace H := Option.bind_eq_some_iff.mp H
                      obtain ⟨t114, A170, H⟩ := H
                      replace H : (if ((((((((rd l0 (ji3)) % 4294967296) + ((((rd l0 (ji6)) % 4294967296) * 256) % 4294967296)) % 4294967296) + ((((rd l0 (ji9)) % 4294967296) * 65536) % 4294967296)) % 4294967296) + ((((rd l0 (ji12)) % 4294967296) * 16777216) % 4294967296)) % 4294967296) = t114 then (some ((l0.take ((ji3) : Int).toNat), 0)) else (some (([] : List Int), 6))) = some (r1, r2) := H
                      have A17 := Aside0.mk A170
                      clear A170
                      by_cases c18 : ((((((((rd l0 (ji3)) % 4294967296) + ((((rd l0 (ji6)) % 4294967296) * 256) % 4294967296)) % 4294967296) + ((((rd l0 (ji9)) % 4294967296) * 65536) % 4294967296)) % 4294967296) + ((((rd l0 (ji12)) % 4294967296) * 16777216) % 4294967296)) % 4294967296) = t114
                      · rw [if_pos c18] at H
                        have c18b0 : (((((((((rd l0 (ji3)) % 4294967296) + ((((rd l0 (ji6)) % 4294967296) * 256) % 4294967296)) % 4294967296) + ((((rd l0 (ji9)) % 4294967296) * 65536) % 4294967296)) % 4294967296) + ((((rd l0 (ji12)) % 4294967296) * 16777216) % 4294967296)) % 4294967296) == t114) = true := beq_iff_eq.mpr c18
                        have c18b1 : (((((((((rd l0 (ji3)) % 4294967296) + ((((rd l0 (ji6)) % 4294967296) * 256) % 4294967296)) % 4294967296) + ((((rd l0 (ji9)) % 4294967296) * 65536) % 4294967296)) % 4294967296) + ((((rd l0 (ji12)) % 4294967296) * 16777216) % 4294967296)) % 4294967296) != t114) = false := bne_eq_false_iff_eq.mpr c18
                        clear c18
                        have c19b0 := eq_true (of_decide_eq_true (by first | (with_reducible assumption) | assumption) : 0 ≤ (ji3))
                        have c20b0 := eq_true (of_decide_eq_true (by first | (with_reducible assumption) | assumption) : (ji3) ≤ (l0.length : Int))
                        obtain ⟨y115, hy115⟩ : ∃ y_ : List Int, y_ = (l0.take ((ji3) : Int).toNat) := ⟨_, rfl⟩
                        replace H : (some (y115, 0)) = some (r1, r2) := by first | (rw [hy115]; with_reducible exact H) | (have H2_ := (Option.bind_some _ _).symm.trans H; rw [hy115]; with_reducible exact H2_) | (have H2_ := (Option.bind_some _ _).symm.trans H; with_reducible exact H2_) | with_reducible exact H | (rw [hy115]; exact H) | exact H
                        have Ny115 := Aside0.mk hy115
                        clear hy115
                        simp only [Option.some.injEq, Prod.mk.injEq] at H
                        obtain ⟨rfl, rfl⟩ := H
                        have p105 : 0 ≤ ((ji3) : Int) := of_decide_eq_true (by first | (with_reducible assumption) | assumption)
                        have q105 : (ji3) < (l0.length : Int) := of_decide_eq_true (by first | (with_reducible assumption) | assumption)
                        obtain ⟨ad105, e105, hx105_0⟩ := Kd.at_int (Kd.V_reads' HO0.out).2.2 (ji3) p105 q105
                        cases e105
                        replace p105 := eq_true p105
                        replace q105 := eq_true q105
                        have p106 : 0 ≤ ((ji6) : Int) := of_decide_eq_true (by first | (with_reducible assumption) | assumption)
                        have q106 : (ji6) < (l0.length : Int) := of_decide_eq_true (by first | (with_reducible assumption) | assumption)
                        obtain ⟨ad106, e106, hx106_0⟩ := Kd.at_int (Kd.V_reads' HO0.out).2.2 (ji6) p106 q106
                        obtain rfl : ad105 = ad106 := (by injection e106)
                        replace p106 := eq_true p106
                        replace q106 := eq_true q106
                        have p107 : 0 ≤ ((ji9) : Int) := of_decide_eq_true (by first | (with_reducible assumption) | assumption)
                        have q107 : (ji9) < (l0.length : Int) := of_decide_eq_true (by first | (with_reducible assumption) | assumption)
                        obtain ⟨ad107, e107, hx107_0⟩ := Kd.at_int (Kd.V_reads' HO0.out).2.2 (ji9) p107 q107
                        obtain rfl : ad105 = ad107 := (by injection e107)
                        replace p107 := eq_true p107
                        replace q107 := eq_true q107
                        have p108 : 0 ≤ ((ji12) : Int) := of_decide_eq_true (by first | (with_reducible assumption) | assumption)
                        have q108 : (ji12) < (l0.length : Int) := of_decide_eq_true (by first | (with_reducible assumption) | assumption)
                        obtain ⟨ad108, e108, hx108_0⟩ := Kd.at_int (Kd.V_reads' HO0.out).2.2 (ji12) p108 q108
                        obtain rfl : ad105 = ad108 := (by injection e108)
                        replace p108 := eq_true p108
                        replace q108 := eq_true q108
                        have q21 : ((ji3) : Int) ≤ ((l0.length : Int) : Int) := of_decide_eq_true (by first | (with_reducible assumption) | assumption)
                        obtain ⟨i021, hi021, _, hsz21, _⟩ := info_parts info5
                        have hroom21 : l0.length ≤ c0 := (Kd.V_reads' HO0.out).2.1
                        have hC21 : Kd.F (Kd.int .u8) _ _ (some ad105) l0.length l0 := (Kd.V_at (base := w.heap.size) HO0.out).2.2
                        have hcut21 := cut_to (P := Try.prog) 23 5 .i64 Try.underlying23 hi021 (some ad105) l0.length c0 (ji3) (of_decide_eq_true (by first | (with_reducible assumption) | assumption)) q21 hroom21
                        have hr21 := Kd.F_take (m := ((ji3) : Int).toNat) hC21 (by omega)
                        have hy21 : y109.length = ((ji3) : Int).toNat := (by rw [Ny109.out, List.length_take]; omega)
                        rw [← Ny109.out] at hr21
                        rw [← hy21] at hcut21
                        have HO113 := Aside0.mk (show Kd.V (Kd.int .u8) 5 _ w.heap.size _ (.slice (some ad105) y109.length c0) y109 from Kd.V_mk (by omega) hr21)
                        have HC113 := Aside0.mk (show y109.length ≤ c0 from by omega)
                        clear hr21 hC21 hroom21 hi021 hsz21
                        have KY21 := Aside0.mk hy21
                        clear hy21
                        replace q21 := eq_true q21
                        go_enter Try.func12, Try.ntmps12
                        go_wp2_with (first | (go_at_call 18; (with_reducible refine (exergueref08_Of.calls k _ _ y109 t114 _ ?side1 ?side2 A17.out).mono ?_); (case side1 => repeat (first | exact (Kd.V_reads' HO113.out).2.2 | (with_reducible refine Kd.C_alloc ?_ _) | (with_reducible refine Kd.C_drewN ?_ _) | (with_reducible refine Kd.C_drew ?_))); (case side2 => exact (Kd.V_reads' HO113.out).2.1); rintro e w' ⟨rfl, ⟨nd, rfl⟩⟩; (try first | exact ⟨rfl, _, World.drewN_drewN _ _ _⟩ | exact ⟨rfl, _, Eq.trans (World.drewN_drewN _ _ _) (congrArg (World.drewN _) (Nat.add_assoc _ _ _))⟩); have q22 : ((ji3) : Int) ≤ ((l0.length : Int) : Int) := of_decide_eq_true (by first | (with_reducible assumption) | assumption); obtain ⟨i022, hi022, _, hsz22, _⟩ := info_parts info5; have hroom22 : l0.length ≤ c0 := (Kd.V_reads' HO0.out).2.1; have hC22 : Kd.F (Kd.int .u8) _ _ (some ad105) l0.length l0 := (Kd.V_at (base := w.heap.size) HO0.out).2.2; have hcut22 := cut_to (P := Try.prog) 23 5 .i64 Try.underlying23 hi022 (some ad105) l0.length c0 (ji3) (of_decide_eq_true (by first | (with_reducible assumption) | assumption)) q22 hroom22; have hr22 := Kd.F_take (m := ((ji3) : Int).toNat) hC22 (by omega); have hy22 : y115.length = ((ji3) : Int).toNat := (by rw [Ny115.out, List.length_take]; omega); rw [← Ny115.out] at hr22; rw [← hy22] at hcut22; have HO119 := Aside0.mk (show Kd.V (Kd.int .u8) 5 _ w.heap.size _ (.slice (some ad105) y115.length c0) y115 from Kd.V_mk (by omega) hr22); have HC119 := Aside0.mk (show y115.length ≤ c0 from by omega); clear hr22 hC22 hroom22 hi022 hsz22; have KY22 := Aside0.mk hy22; clear hy22; replace q22 := eq_true q22))
                        repeat (go_quiet (first | (go_at_call 18; (with_reducible refine (exergueref08_Of.calls k _ _ y109 t114 _ ?side1 ?side2 A17.out).mono ?_); (case side1 => repeat (first | exact (Kd.V_reads' HO113.out).2.2 | (with_reducible refine Kd.C_alloc ?_ _) | (with_reducible refine Kd.C_drewN ?_ _) | (with_reducible refine Kd.C_drew ?_))); (case side2 => exact (Kd.V_reads' HO113.out).2.1); rintro e w' ⟨rfl, ⟨nd, rfl⟩⟩; (try first | exact ⟨rfl, _, World.drewN_drewN _ _ _⟩ | exact ⟨rfl, _, Eq.trans (World.drewN_drewN _ _ _) (congrArg (World.drewN _) (Nat.add_assoc _ _ _))⟩); have q22 : ((ji3) : Int) ≤ ((l0.length : Int) : Int) := of_decide_eq_true (by first | (with_reducible assumption) | assumption); obtain ⟨i022, hi022, _, hsz22, _⟩ := info_parts info5; have hroom22 : l0.length ≤ c0 := (Kd.V_reads' HO0.out).2.1; have hC22 : Kd.F (Kd.int .u8) _ _ (some ad105) l0.length l0 := (Kd.V_at (base := w.heap.size) HO0.out).2.2; have hcut22 := cut_to (P := Try.prog) 23 5 .i64 Try.underlying23 hi022 (some ad105) l0.length c0 (ji3) (of_decide_eq_true (by first | (with_reducible assumption) | assumption)) q22 hroom22; have hr22 := Kd.F_take (m := ((ji3) : Int).toNat) hC22 (by omega); have hy22 : y115.length = ((ji3) : Int).toNat := (by rw [Ny115.out, List.length_take]; omega); rw [← Ny115.out] at hr22; rw [← hy22] at hcut22; have HO119 := Aside0.mk (show Kd.V (Kd.int .u8) 5 _ w.heap.size _ (.slice (some ad105) y115.length c0) y115 from Kd.V_mk (by omega) hr22); have HC119 := Aside0.mk (show y115.length ≤ c0 from by omega); clear hr22 hC22 hroom22 hi022 hsz22; have KY22 := Aside0.mk hy22; clear hy22; replace q22 := eq_true q22)); try go_wp2_with (first | (go_at_call 18; (with_reducible refine (exergueref08_Of.calls k _ _ y109 t114 _ ?side1 ?side2 A17.out).mono ?_); (case side1 => repeat (first | exact (Kd.V_reads' HO113.out).2.2 | (with_reducible refine Kd.C_alloc ?_ _) | (with_reducible refine Kd.C_drewN ?_ _) | (with_reducible refine Kd.C_drew ?_))); (case side2 => exact (Kd.V_reads' HO113.out).2.1); rintro e w' ⟨rfl, ⟨nd, rfl⟩⟩; (try first | exact ⟨rfl, _, World.drewN_drewN _ _ _⟩ | exact ⟨rfl, _, Eq.trans (World.drewN_drewN _ _ _) (congrArg (World.drewN _) (Nat.add_assoc _ _ _))⟩); have q22 : ((ji3) : Int) ≤ ((l0.length : Int) : Int) := of_decide_eq_true (by first | (with_reducible assumption) | assumption); obtain ⟨i022, hi022, _, hsz22, _⟩ := info_parts info5; have hroom22 : l0.length ≤ c0 := (Kd.V_reads' HO0.out).2.1; have hC22 : Kd.F (Kd.int .u8) _ _ (some ad105) l0.length l0 := (Kd.V_at (base := w.heap.size) HO0.out).2.2; have hcut22 := cut_to (P := Try.prog) 23 5 .i64 Try.underlying23 hi022 (some ad105) l0.length c0 (ji3) (of_decide_eq_true (by first | (with_reducible assumption) | assumption)) q22 hroom22; have hr22 := Kd.F_take (m := ((ji3) : Int).toNat) hC22 (by omega); have hy22 : y115.length = ((ji3) : Int).toNat := (by rw [Ny115.out, List.length_take]; omega); rw [← Ny115.out] at hr22; rw [← hy22] at hcut22; have HO119 := Aside0.mk (show Kd.V (Kd.int .u8) 5 _ w.heap.size _ (.slice (some ad105) y115.length c0) y115 from Kd.V_mk (by omega) hr22); have HC119 := Aside0.mk (show y115.length ≤ c0 from by omega); clear hr22 hC22 hroom22 hi022 hsz22; have KY22 := Aside0.mk hy22; clear hy22; replace q22 := eq_true q22)))
                        go_ret2
                        exact ⟨_, by first | rfl | (simp [errW_none, errW_some] <;> rfl) | (simp only [← hji3, ← hji6, ← hji9, ← hji12]; first | rfl | (simp [errW_none, errW_some] <;> rfl)) | (simp [*, errW_none, errW_some] <;> rfl), by (with_reducible repeat (first | apply Kd.V_alloc | apply Kd.V_drewN | apply Kd.V_drew)); first | exact HO119.out | (rw [show y115 = y109 from by rw [Ny115.out, Ny109.out]]; exact HO113.out), by repeat (first | (with_reducible first | exact HB.out | apply below_alloc | apply pw_below_drewN | apply below_drew1) | exact HB.out)⟩
                      · rw [if_neg c18] at H
                        have c18b0 : (((((((((rd l0 (ji3)) % 4294967296) + ((((rd l0 (ji6)) % 4294967296) * 256) % 4294967296)) % 4294967296) + ((((rd l0 (ji9)) % 4294967296) * 65536) % 4294967296)) % 4294967296) + ((((rd l0 (ji12)) % 4294967296) * 16777216) % 4294967296)) % 4294967296) == t114) = false := beq_eq_false_iff_ne.mpr c18
                        have c18b1 : (((((((((rd l0 (ji3)) % 4294967296) + ((((rd l0 (ji6)) % 4294967296) * 256) % 4294967296)) % 4294967296) + ((((rd l0 (ji9)) % 4294967296) * 65536) % 4294967296)) % 4294967296) + ((((rd l0 (ji12)) % 4294967296) * 16777216) % 4294967296)) % 4294967296) != t114) = true := bne_iff_ne.mpr c18
                        simp only [Option.some.injEq, Prod.mk.injEq] at H
                        obtain ⟨rfl, rfl⟩ := H
                        have p105 : 0 ≤ ((ji3) : Int) := of_decide_eq_true (by first | (with_reducible assumption) | assumption)
                        have q105 : (ji3) < (l0.length : Int) := of_decide_eq_true (by first | (with_reducible assumption) | assumption)
                        obtain ⟨ad105, e105, hx105_0⟩ := Kd.at_int (Kd.V_reads' HO0.out).2.2 (ji3) p105 q105
                        cases e105
                        replace p105 := eq_true p105
                        replace q105 := eq_true q105
                        have p106 : 0 ≤ ((ji6) : Int) := of_decide_eq_true (by first | (with_reducible assumption) | assumption)
                        have q106 : (ji6) < (l0.length : Int) := of_decide_eq_true (by first | (with_reducible assumption) | assumption)
                        obtain ⟨ad106, e106, hx106_0⟩ := Kd.at_int (Kd.V_reads' HO0.out).2.2 (ji6) p106 q106
                        obtain rfl : ad105 = ad106 := (by injection e106)
                        replace p106 := eq_true p106
                        replace q106 := eq_true q106
                        have p107 : 0 ≤ ((ji9) : Int) := of_decide_eq_true (by first | (with_reducible assumption) | assumption)
                        have q107 : (ji9) < (l0.length : Int) := of_decide_eq_true (by first | (with_reducible assumption) | assumption)
                        obtain ⟨ad107, e107, hx107_0⟩ := Kd.at_int (Kd.V_reads' HO0.out).2.2 (ji9) p107 q107
                        obtain rfl : ad105 = ad107 := (by injection e107)
                        replace p107 := eq_true p107
                        replace q107 := eq_true q107
                        have p108 : 0 ≤ ((ji12) : Int) := of_decide_eq_true (by first | (with_reducible assumption) | assumption)
                        have q108 : (ji12) < (l0.length : Int) := of_decide_eq_true (by first | (with_reducible assumption) | assumption)
                        obtain ⟨ad108, e108, hx108_0⟩ := Kd.at_int (Kd.V_reads' HO0.out).2.2 (ji12) p108 q108
                        obtain rfl : ad105 = ad108 := (by injection e108)
                        replace p108 := eq_true p108
                        replace q108 := eq_true q108
                        have q23 : ((ji3) : Int) ≤ ((l0.length : Int) : Int) := of_decide_eq_true (by first | (with_reducible assumption) | assumption)
                        obtain ⟨i023, hi023, _, hsz23, _⟩ := info_parts info5
                        have hroom23 : l0.length ≤ c0 := (Kd.V_reads' HO0.out).2.1
                        have hC23 : Kd.F (Kd.int .u8) _ _ (some ad105) l0.length l0 := (Kd.V_at (base := w.heap.size) HO0.out).2.2
                        have hcut23 := cut_to (P := Try.prog) 23 5 .i64 Try.underlying23 hi023 (some ad105) l0.length c0 (ji3) (of_decide_eq_true (by first | (with_reducible assumption) | assumption)) q23 hroom23
                        have hr23 := Kd.F_take (m := ((ji3) : Int).toNat) hC23 (by omega)
                        have hy23 : y109.length = ((ji3) : Int).toNat := (by rw [Ny109.out, List.length_take]; omega)
                        rw [← Ny109.out] at hr23
                        rw [← hy23] at hcut23
                        have HO113 := Aside0.mk (show Kd.V (Kd.int .u8) 5 _ w.heap.size _ (.slice (some ad105) y109.length c0) y109 from Kd.V_mk (by omega) hr23)
                        have HC113 := Aside0.mk (show y109.length ≤ c0 from by omega)
                        clear hr23 hC23 hroom23 hi023 hsz23
                        have KY23 := Aside0.mk hy23
                        clear hy23
                        replace q23 := eq_true q23
                        go_enter Try.func12, Try.ntmps12
                        go_wp2_with (first | (go_at_call 18; (with_reducible refine (exergueref08_Of.calls k _ _ y109 t114 _ ?side1 ?side2 A17.out).mono ?_); (case side1 => repeat (first | exact (Kd.V_reads' HO113.out).2.2 | (with_reducible refine Kd.C_alloc ?_ _) | (with_reducible refine Kd.C_drewN ?_ _) | (with_reducible refine Kd.C_drew ?_))); (case side2 => exact (Kd.V_reads' HO113.out).2.1); rintro e w' ⟨rfl, ⟨nd, rfl⟩⟩; (try first | exact ⟨rfl, _, World.drewN_drewN _ _ _⟩ | exact ⟨rfl, _, Eq.trans (World.drewN_drewN _ _ _) (congrArg (World.drewN _) (Nat.add_assoc _ _ _))⟩)))
                        repeat (go_quiet (first | (go_at_call 18; (with_reducible refine (exergueref08_Of.calls k _ _ y109 t114 _ ?side1 ?side2 A17.out).mono ?_); (case side1 => repeat (first | exact (Kd.V_reads' HO113.out).2.2 | (with_reducible refine Kd.C_alloc ?_ _) | (with_reducible refine Kd.C_drewN ?_ _) | (with_reducible refine Kd.C_drew ?_))); (case side2 => exact (Kd.V_reads' HO113.out).2.1); rintro e w' ⟨rfl, ⟨nd, rfl⟩⟩; (try first | exact ⟨rfl, _, World.drewN_drewN _ _ _⟩ | exact ⟨rfl, _, Eq.trans (World.drewN_drewN _ _ _) (congrArg (World.drewN _) (Nat.add_assoc _ _ _))⟩))); try go_wp2_with (first | (go_at_call 18; (with_reducible refine (exergueref08_Of.calls k _ _ y109 t114 _ ?side1 ?side2 A17.out).mono ?_); (case side1 => repeat (first | exact (Kd.V_reads' HO113.out).2.2 | (with_reducible refine Kd.C_alloc ?_ _) | (with_reducible refine Kd.C_drewN ?_ _) | (with_reducible refine Kd.C_drew ?_))); (case side2 => exact (Kd.V_reads' HO113.out).2.1); rintro e w' ⟨rfl, ⟨nd, rfl⟩⟩; (try first | exact ⟨rfl, _, World.drewN_drewN _ _ _⟩ | exact ⟨rfl, _, Eq.trans (World.drewN_drewN _ _ _) (congrArg (World.drewN _) (Nat.add_assoc _ _ _))⟩))))
                        go_ret2
                        exact ⟨_, by first | rfl | (simp [errW_none, errW_some] <;> rfl) | (simp only [← hji3, ← hji6, ← hji9, ← hji12]; first | rfl | (simp [errW_none, errW_some] <;> rfl)) | (simp [*, errW_none, errW_some] <;> rfl), Kd.V_mono (Kd.R_V (base := 0) (ok := fun k_ => w.heap.size ≤ k_) (by first | exact Kd.R_nil _ _ _ _ _ | exact Kd.N_nil _ _ _ _ _ | exact Kd.V_nil _ _ _ _ _ | exact Kd.Q_nil _ _ _ _ _ | exact Kd.S_nil _ _ _ _ _)) (fun k_ hk => by first | exact ⟨(.inr (hk.1)), hk.2⟩ | exact (.inr (hk))), by repeat (first | (with_reducible first | exact HB.out | apply below_alloc | apply pw_below_drewN | apply below_drew1) | exact HB.out)⟩
                    · rw [if_neg c16] at H
                      exact absurd H (by simp)
                  · rw [if_neg c14] at H
                    exact absurd H (by simp)
                · rw [if_neg c13] at H
                  exact absurd H (by simp)
              · rw [if_neg c11] at H
                exact absurd H (by simp)
            · rw [if_neg c10] at H
              exact absurd H (by simp)
          · rw [if_neg c8] at H
            exact absurd H (by simp)
        · rw [if_neg c7] at H
          exact absurd H (by simp)
      · rw [if_neg c5] at H
        exact absurd H (by simp)
    · rw [if_neg c4] at H
      exact absurd H (by simp)

end Go.Proofs.Ythejhhklphjhmaa.Q
